/- Walks of functions, printed by auto.py. -/
import Derived.Test.YtddphjmcoolinaaVd
set_option linter.unusedVariables false
set_option linter.unusedSimpArgs false
set_option maxRecDepth 100000
namespace Go.Proofs.Ytddphjmcoolinaa
open Go.Proofs Go.RowKit
noncomputable def F_casematelaw14_Sha512Steps_l1 (zs27 : List Nat) : (List Nat × Nat) → Option ((List Nat × Nat) ⊕ ((List Nat) ⊕ Bool)) := fun (zs4430, x4433) => gd ((((x4433 + 128) : Nat) : Int) ≤ 9223372036854775807) (if (((x4433 + 128) : Nat) : Int) ≤ ((zs27.length : Nat) : Int) then (gd (x4433 ≤ (x4433 + 128)) (gd ((x4433 + 128) ≤ zs27.length) (bnd (F_sha512_Block zs4430 ((zs27.drop x4433).take ((x4433 + 128) - x4433))) fun (zs4578, x4579) => if ((x4579 : Nat) : Int) = 0 then (some (.inl (zs4578, (x4433 + 128)))) else (some (.inr (.inr false)))))) else (some (.inr (.inl zs4430))))
noncomputable def F_casematelaw14_Sha512Steps_l2 (zs4889 : List Nat) (zs4270 : List Nat) : Nat → Option (Nat ⊕ (Unit ⊕ Bool)) := fun (x5221 : Nat) => if ((x5221 : Nat) : Int) < 64 then (gd (((x5221 : Nat) : Int) ≤ 9223372036854775807) (gd ((((x5221 / 8) : Nat) : Int) < 8) (gd ((((8 * (x5221 % 8)) : Nat) : Int) ≤ 9223372036854775807) (gd (-9223372036854775808 ≤ ((56 : Int) - (((8 * (x5221 % 8)) : Nat) : Int))) (gd (((56 : Int) - (((8 * (x5221 % 8)) : Nat) : Int)) ≤ 9223372036854775807) (if (((zs4889.getD x5221 0) : Nat) : Int) = (((((zs4270.getD (x5221 / 8) 0) / 2 ^ ((((56 : Int) - (((8 * (x5221 % 8)) : Nat) : Int)) % 18446744073709551616).toNat)) % 256) : Nat) : Int) then (gd ((((x5221 + 1) : Nat) : Int) ≤ 9223372036854775807) (some (.inl (x5221 + 1)))) else (some (.inr (.inr false))))))))) else (some (.inr (.inl ())))
noncomputable def F_casematelaw14_Sha512Steps (xs0 : List Nat) : Option Bool := if 1000 < ((xs0.length : Nat) : Int) then (some true) else (bnd (F_sha512_Pad xs0) fun (zs27 : List Nat) => if (((zs27.length % 128) : Nat) : Int) = 0 then (gd ((((xs0.length + 17) : Nat) : Int) ≤ 9223372036854775807) (if ((zs27.length : Nat) : Int) < (((xs0.length + 17) : Nat) : Int) then (some false) else (gd ((((xs0.length + 144) : Nat) : Int) ≤ 9223372036854775807) (if (((xs0.length + 144) : Nat) : Int) < ((zs27.length : Nat) : Int) then (some false) else (gd (xs0.length ≤ zs27.length) (if (zs27.take xs0.length) = xs0 then (bnd (F_sha512_Start) fun (zs3919 : List Nat) => bnd (run (F_casematelaw14_Sha512Steps_l1 zs27) (zs3919, 0) : Option ((List Nat) ⊕ Bool)) (sel (fun (zs4270 : List Nat) => bnd (F_sha512_Sum [xs0]) fun (zs4889 : List Nat) => bnd (run (F_casematelaw14_Sha512Steps_l2 zs4889 zs4270) 0 : Option (Unit ⊕ Bool)) (sel (fun (_ : Unit) => bnd (F_casematelaw14_awake) fun (b5609 : Bool) => some (b5609)))))) else (some false))))))) else (some false))
set_option maxHeartbeats 4000000 in
theorem W_casematelaw14_Sha512Steps (pA0 : Option Addr) (pc0 : Nat) (xs0 : List Nat) (w : World) (pR0 : Rd w pA0 (vs .u8 xs0)) (pc_0 : xs0.length ≤ pc0) (pb0 : LB 256 xs0) (h : F_casematelaw14_Sha512Steps xs0 = some true) :
    Calls Try.prog 7 [.slice pA0 xs0.length pc0].toArray w (Ret fun v w' => v = .bool true ∧ Heap w [] w' []) := by
  obtain ⟨r, hr0⟩ : ∃ r, r = true := ⟨_, rfl⟩; rw [← hr0] at h
  unfold F_casematelaw14_Sha512Steps at h
  refine enter Try.func7 rfl (n := 89) Try.ntmps7 (by simp) ?_
  intro a hF
  have hS := Heap.init w
  refine wp_seq_k (fun K1 hK2 => ?_)
  refine wp_region_lit ?_
  refine pu_end hT 1 _ hF [0] (G := [(0, .slice pA0 xs0.length pc0)]) (cs := []) (by kernel_rfl) rfl trivial ?_; clear hF a; intro a3 hF4
  refine hK2 _ _ ?_
  refine wp_seq_k (fun K11 hK12 => ?_)
  refine wp_seq_k (fun K13 hK14 => ?_)
  refine wp_region_lit ?_
  refine pu_end hT 3 _ hF4 [0, 12] (G := [(0, .slice pA0 xs0.length pc0), (12, .bool ((decide (1000 < ((xs0.length : Nat) : Int)))))]) (cs := []) (by kernel_rfl) rfl trivial ?_; clear hF4 a3; intro a15 hF16
  refine hK14 _ _ ?_
  rcases (ite_some h : ((1000 < ((xs0.length : Nat) : Int)) ∧ _) ∨ (¬ (1000 < ((xs0.length : Nat) : Int)) ∧ _)) with ⟨hc17, h18⟩ | ⟨hc17, h18⟩
  · clear h
    have hF19 : Fr 89 a15 [(0, .slice pA0 xs0.length pc0), (12, .bool true)] := hF16.pick [0, 12] (by rw [decide_eq_true hc17]; kernel_rfl); clear hF16
    refine condT hF19 (by kernel_rfl) ?_
    refine wp_seq_k (fun K20 hK21 => ?_)
    refine wp_region_lit ?_
    refine pu_end hT 1 _ hF19 [2] (G := [(2, .bool true)]) (cs := []) (by kernel_rfl) rfl trivial ?_; clear hF19 a15; intro a22 hF23
    refine hK21 _ _ ?_
    refine wp_ret ?_
    obtain rfl := Option.some.inj h18
    refine ret1 hF23 rfl (v := .bool true) (by kernel_rfl) ?_
    exact ⟨by rw [show (true) = true from hr0], hS.pick [] (by decide) rfl⟩
  · clear h
    have hF24 : Fr 89 a15 [(0, .slice pA0 xs0.length pc0), (12, .bool false)] := hF16.pick [0, 12] (by rw [decide_eq_false hc17]; kernel_rfl); clear hF16
    refine condF hF24 (by kernel_rfl) ?_
    refine wp_skip ?_
    refine hK12 _ _ ?_
    refine wp_seq_k (fun K25 hK26 => ?_)
    obtain ⟨zs27, hr29, h28⟩ := bnd_some h18; clear h18; replace hr29 : F_sha512_Pad xs0 = some (zs27) := hr29
    refine wp_region_lit ?_
    refine pu hT 1 _ hF24 [0, 13] (G := [(0, .slice pA0 xs0.length pc0), (13, .slice pA0 xs0.length pc0)]) (cs := []) (by kernel_rfl) trivial ?_; clear hF24 a15; intro a34 hF35
    refine wl (s_call (d := 14) (f := 21) (l := [.slice pA0 xs0.length pc0]) (by kernel_rfl) hF35 cl21 (W_sha512_Pad pA0 pc0 xs0 _ (hS.rd0 pR0) (by have := pc_0; have := (Eq.refl xs0.length); skip; have := (Eq.refl xs0.length); first | omega | (simp only [zA, zS, zT, zD, zR, zC, zN, zV, zI] <;> omega) | (simp only [zA, zS, zT, zD, zR, zC, zN, zV, zI] at * <;> omega)) pb0 zs27 hr29) ?_)
    rintro a36 w37 v38 ⟨A30, c31, rfl, hh32, hC39⟩ ha40 hF41; clear ha40 hF35 a34
    have hS42 : Heap w [] w37 [.row 5 1 A30 zs27.length c31 (vs .u8 zs27)] := Heap.call hS hC39; clear hS
    have hF43 := hF41.pick [0, 14] (G := [(0, .slice pA0 xs0.length pc0), (14, .slice A30 zs27.length c31)]) (by kernel_rfl); clear hF41
    refine pu_end hT 1 _ hF43 [0, 3] (G := [(0, .slice pA0 xs0.length pc0), (3, .slice A30 zs27.length c31)]) (cs := []) (by kernel_rfl) rfl trivial ?_; clear hF43 a36; intro a44 hF45
    refine hK26 _ _ ?_
    refine wp_seq_k (fun K70 hK71 => ?_)
    refine wp_seq_k (fun K72 hK73 => ?_)
    rcases (ite_some h28 : (((((zs27.length % 128) : Nat) : Int) = 0) ∧ _) ∨ (¬ ((((zs27.length % 128) : Nat) : Int) = 0) ∧ _)) with ⟨hc74, h75⟩ | ⟨hc74, h75⟩
    · clear h28
      obtain ⟨g1168, h1167⟩ : ((((xs0.length + 17) : Nat) : Int) ≤ 9223372036854775807) ∧ _ := gd_some h75; clear h75
      rcases (ite_some h1167 : ((((zs27.length : Nat) : Int) < (((xs0.length + 17) : Nat) : Int)) ∧ _) ∨ (¬ (((zs27.length : Nat) : Int) < (((xs0.length + 17) : Nat) : Int)) ∧ _)) with ⟨hc1169, h1170⟩ | ⟨hc1169, h1170⟩
      · clear h1167
        obtain rfl := Option.some.inj h1170
        exact absurd hr0 (by decide)
      · clear h1167
        obtain ⟨g2259, h2258⟩ : ((((xs0.length + 144) : Nat) : Int) ≤ 9223372036854775807) ∧ _ := gd_some h1170; clear h1170
        rcases (ite_some h2258 : (((((xs0.length + 144) : Nat) : Int) < ((zs27.length : Nat) : Int)) ∧ _) ∨ (¬ ((((xs0.length + 144) : Nat) : Int) < ((zs27.length : Nat) : Int)) ∧ _)) with ⟨hc2260, h2261⟩ | ⟨hc2260, h2261⟩
        · clear h2258
          obtain rfl := Option.some.inj h2261
          exact absurd hr0 (by decide)
        · clear h2258
          obtain ⟨g3344, h3343⟩ : (xs0.length ≤ zs27.length) ∧ _ := gd_some h2261; clear h2261
          have hlt3345 := hS42.ids
          have hsz3347 := hS42.size
          let SL3346 : List SP := [SP.val (.slice A30 zs27.length c31), SP.val (.int .i64 ((zs27.length : Nat) : Int)), SP.val (.int .i64 (((zs27.length % 128) : Nat) : Int)), SP.val (.bool (!(decide ((((zs27.length % 128) : Nat) : Int) = 0)))), SP.val (.bool false), SP.val (.slice A30 zs27.length c31), SP.val (.int .i64 ((zs27.length : Nat) : Int)), SP.val (.slice pA0 xs0.length pc0), SP.val (.int .i64 ((xs0.length : Nat) : Int)), SP.val (.int .i64 (((xs0.length + 17) : Nat) : Int)), SP.val (.bool ((decide (((zs27.length : Nat) : Int) < (((xs0.length + 17) : Nat) : Int))))), SP.val (.bool ((decide (((zs27.length : Nat) : Int) < (((xs0.length + 17) : Nat) : Int))))), SP.val (.bool false), SP.val (.slice A30 zs27.length c31), SP.val (.int .i64 ((zs27.length : Nat) : Int)), SP.val (.slice pA0 xs0.length pc0), SP.val (.int .i64 ((xs0.length : Nat) : Int)), SP.val (.int .i64 (((xs0.length + 144) : Nat) : Int)), SP.val (.bool ((decide ((((xs0.length + 144) : Nat) : Int) < ((zs27.length : Nat) : Int))))), SP.val (.bool ((decide ((((xs0.length + 144) : Nat) : Int) < ((zs27.length : Nat) : Int))))), SP.val (.bool false), SP.val (.slice A30 zs27.length c31), SP.val (.slice pA0 xs0.length pc0), SP.val (.int .i64 ((xs0.length : Nat) : Int)), SP.val (.slice A30 xs0.length c31), SP.val (.string (str (zs27.take xs0.length))), SP.val (.slice pA0 xs0.length pc0), SP.val (.string (str xs0)), SP.val (.bool (!(decide ((zs27.take xs0.length) = xs0)))), SP.val (.bool (!(decide ((zs27.take xs0.length) = xs0))))]
          refine region_rel (SL := SL3346) (J := (fun (B : Bool) (W : World) => w37.heap.size ≤ W.heap.size ∧ Heap w [] W [.row 5 1 A30 zs27.length c31 (vs .u8 zs27)])) (m := 30) wide (by kernel_rfl) (by kernel_rfl) hF45 rfl ?_ ⟨Nat.le_refl _, hS42⟩ ⟨?_, ?_, ?_, ?_, ?_, ?_, ?_, ?_, ?_, ?_, ?_, ?_, ?_, ?_, ?_, ?_, ?_, ?_, ?_, ?_, ?_, ?_, ?_, ?_, ?_, ?_, ?_, ?_, ?_, ?_, trivial⟩ [(44, some 29), (0, none), (3, none)] (by kernel_rfl) ?_
          · intro b W W' hj g; exact ⟨Nat.le_trans hj.1 g.size, hj.2.growN g⟩
          · -- operation 0
            rintro a3349 w3348 b3352 KK3358 hs3354 hd3355 hJ3356 hb3357 hr3359 hK3353
            have hr3359x : RD SL3346 b3352 a3349 a44 w3348 [(3, none)] := hr3359 _ (by kernel_rfl)
            obtain ⟨q3360, -⟩ := hr3359x
            obtain ⟨hX3361, hS3351⟩ := hJ3356
            have hF3350 : Fr 89 a3349 [(3, .slice A30 zs27.length c31)] := Fr.of hs3354 hd3355 ⟨(Fr.init hF45 q3360 (by kernel_rfl)), trivial⟩
            refine s_pure hT (d := 15) (v := .slice A30 zs27.length c31) (cs := []) (by kernel_rfl) (by kernel_rfl) trivial hF3350 ?_
            rintro a2 ha2 hF2; rw [ha2]
            exact hK3353 _ _ rfl (grown_refl _ _)
          · -- operation 1
            rintro a3363 w3362 b3366 KK3372 hs3368 hd3369 hJ3370 hb3371 hr3373 hK3367
            have hr3373x : RD SL3346 b3366 a3363 a44 w3362 [(15, some 0)] := hr3373 _ (by kernel_rfl)
            obtain ⟨⟨v3375, q3374, s3376⟩, -⟩ := hr3373x
            obtain rfl : v3375 = .slice A30 zs27.length c31 := s3376
            obtain ⟨hX3377, hS3365⟩ := hJ3370
            have hF3364 : Fr 89 a3363 [(15, .slice A30 zs27.length c31)] := Fr.of hs3368 hd3369 ⟨q3374, trivial⟩
            refine s_pure hT (d := 16) (v := .int .i64 ((zs27.length : Nat) : Int)) (cs := []) (by kernel_rfl) (by kernel_rfl) trivial hF3364 ?_
            rintro a2 ha2 hF2; rw [ha2]
            exact hK3367 _ _ rfl (grown_refl _ _)
          · -- operation 2
            rintro a3379 w3378 b3382 KK3388 hs3384 hd3385 hJ3386 hb3387 hr3389 hK3383
            have hr3389x : RD SL3346 b3382 a3379 a44 w3378 [(16, some 1)] := hr3389 _ (by kernel_rfl)
            obtain ⟨⟨v3391, q3390, s3392⟩, -⟩ := hr3389x
            obtain rfl : v3391 = .int .i64 ((zs27.length : Nat) : Int) := s3392
            obtain ⟨hX3393, hS3381⟩ := hJ3386
            have hF3380 : Fr 89 a3379 [(16, .int .i64 ((zs27.length : Nat) : Int))] := Fr.of hs3384 hd3385 ⟨q3390, trivial⟩
            refine s_pure hT (d := 17) (v := .int .i64 (((zs27.length % 128) : Nat) : Int)) (cs := [0 ≤ ((zs27.length : Nat) : Int), 0 < (128 : Int)]) (by kernel_rfl) (by kernel_rfl) (And.intro (by omega) (And.intro (by decide) trivial)) hF3380 ?_
            rintro a2 ha2 hF2; rw [ha2]
            exact hK3383 _ _ rfl (grown_refl _ _)
          · -- operation 3
            rintro a3395 w3394 b3398 KK3404 hs3400 hd3401 hJ3402 hb3403 hr3405 hK3399
            have hr3405x : RD SL3346 b3398 a3395 a44 w3394 [(17, some 2)] := hr3405 _ (by kernel_rfl)
            obtain ⟨⟨v3407, q3406, s3408⟩, -⟩ := hr3405x
            obtain rfl : v3407 = .int .i64 (((zs27.length % 128) : Nat) : Int) := s3408
            obtain ⟨hX3409, hS3397⟩ := hJ3402
            have hF3396 : Fr 89 a3395 [(17, .int .i64 (((zs27.length % 128) : Nat) : Int))] := Fr.of hs3400 hd3401 ⟨q3406, trivial⟩
            refine s_pure hT (d := 18) (v := .bool (!(decide ((((zs27.length % 128) : Nat) : Int) = 0)))) (cs := []) (by kernel_rfl) (by kernel_rfl) trivial hF3396 ?_
            rintro a2 ha2 hF2; rw [ha2]
            exact hK3399 _ _ rfl (grown_refl _ _)
          · -- operation 4
            rintro a3411 w3410 b3414 KK3420 hs3416 hd3417 hJ3418 hb3419 hr3421 hK3415
            have hr3421x : RD SL3346 b3414 a3411 a44 w3410 [(18, some 3)] := hr3421 _ (by kernel_rfl)
            obtain ⟨⟨v3423, q3422, s3424⟩, -⟩ := hr3421x
            obtain rfl : v3423 = .bool (!(decide ((((zs27.length % 128) : Nat) : Int) = 0))) := s3424
            obtain ⟨hX3425, hS3413⟩ := hJ3418
            have hF3412 : Fr 89 a3411 [(18, .bool (!(decide ((((zs27.length % 128) : Nat) : Int) = 0))))] := Fr.of hs3416 hd3417 ⟨q3422, trivial⟩
            refine s_pure hT (d := 19) (v := .bool (!(decide ((((zs27.length % 128) : Nat) : Int) = 0)))) (cs := []) (by kernel_rfl) (by kernel_rfl) trivial hF3412 ?_
            rintro a2 ha2 hF2; rw [ha2]
            exact hK3415 _ _ (show (.bool (!(decide ((((zs27.length % 128) : Nat) : Int) = 0))) : Value) = .bool false by (rw [decide_eq_true hc74] <;> rfl <;> rfl)) (grown_refl _ _)
          · -- operation 5
            rintro a3427 w3426 b3430 KK3436 hs3432 hd3433 hJ3434 hb3435 hr3437 hK3431
            have hr3437x : RD SL3346 b3430 a3427 a44 w3426 [(3, none), (19, some 4)] := hr3437 _ (by kernel_rfl)
            obtain ⟨q3438, ⟨v3440, q3439, s3441⟩, -⟩ := hr3437x
            obtain rfl : v3440 = .bool false := s3441
            obtain ⟨hX3442, hS3429⟩ := hJ3434
            have hF3428 : Fr 89 a3427 [(3, .slice A30 zs27.length c31), (19, .bool false)] := Fr.of hs3432 hd3433 ⟨(Fr.init hF45 q3438 (by kernel_rfl)), q3439, trivial⟩
            refine One.bare hF3428 (by kernel_rfl) (s_pure hT (d := 20) (v := .slice A30 zs27.length c31) (cs := []) (by kernel_rfl) (by kernel_rfl) trivial hF3428 ?_)
            rintro a2 ha2 hF2; rw [ha2]
            exact hK3431 _ _ rfl (grown_refl _ _)
          · -- operation 6
            rintro a3444 w3443 b3447 KK3453 hs3449 hd3450 hJ3451 hb3452 hr3454 hK3448
            have hr3454x : RD SL3346 b3447 a3444 a44 w3443 [(20, some 5), (19, some 4)] := hr3454 _ (by kernel_rfl)
            obtain ⟨⟨v3456, q3455, s3457⟩, ⟨v3459, q3458, s3460⟩, -⟩ := hr3454x
            obtain rfl : v3456 = .slice A30 zs27.length c31 := s3457
            obtain rfl : v3459 = .bool false := s3460
            obtain ⟨hX3461, hS3446⟩ := hJ3451
            have hF3445 : Fr 89 a3444 [(20, .slice A30 zs27.length c31), (19, .bool false)] := Fr.of hs3449 hd3450 ⟨q3455, q3458, trivial⟩
            refine One.bare hF3445 (by kernel_rfl) (s_pure hT (d := 21) (v := .int .i64 ((zs27.length : Nat) : Int)) (cs := []) (by kernel_rfl) (by kernel_rfl) trivial hF3445 ?_)
            rintro a2 ha2 hF2; rw [ha2]
            exact hK3448 _ _ rfl (grown_refl _ _)
          · -- operation 7
            rintro a3463 w3462 b3466 KK3472 hs3468 hd3469 hJ3470 hb3471 hr3473 hK3467
            have hr3473x : RD SL3346 b3466 a3463 a44 w3462 [(0, none), (19, some 4)] := hr3473 _ (by kernel_rfl)
            obtain ⟨q3474, ⟨v3476, q3475, s3477⟩, -⟩ := hr3473x
            obtain rfl : v3476 = .bool false := s3477
            obtain ⟨hX3478, hS3465⟩ := hJ3470
            have hF3464 : Fr 89 a3463 [(0, .slice pA0 xs0.length pc0), (19, .bool false)] := Fr.of hs3468 hd3469 ⟨(Fr.init hF45 q3474 (by kernel_rfl)), q3475, trivial⟩
            refine One.bare hF3464 (by kernel_rfl) (s_pure hT (d := 22) (v := .slice pA0 xs0.length pc0) (cs := []) (by kernel_rfl) (by kernel_rfl) trivial hF3464 ?_)
            rintro a2 ha2 hF2; rw [ha2]
            exact hK3467 _ _ rfl (grown_refl _ _)
          · -- operation 8
            rintro a3480 w3479 b3483 KK3489 hs3485 hd3486 hJ3487 hb3488 hr3490 hK3484
            have hr3490x : RD SL3346 b3483 a3480 a44 w3479 [(22, some 7), (19, some 4)] := hr3490 _ (by kernel_rfl)
            obtain ⟨⟨v3492, q3491, s3493⟩, ⟨v3495, q3494, s3496⟩, -⟩ := hr3490x
            obtain rfl : v3492 = .slice pA0 xs0.length pc0 := s3493
            obtain rfl : v3495 = .bool false := s3496
            obtain ⟨hX3497, hS3482⟩ := hJ3487
            have hF3481 : Fr 89 a3480 [(22, .slice pA0 xs0.length pc0), (19, .bool false)] := Fr.of hs3485 hd3486 ⟨q3491, q3494, trivial⟩
            refine One.bare hF3481 (by kernel_rfl) (s_pure hT (d := 23) (v := .int .i64 ((xs0.length : Nat) : Int)) (cs := []) (by kernel_rfl) (by kernel_rfl) trivial hF3481 ?_)
            rintro a2 ha2 hF2; rw [ha2]
            exact hK3484 _ _ rfl (grown_refl _ _)
          · -- operation 9
            rintro a3499 w3498 b3502 KK3508 hs3504 hd3505 hJ3506 hb3507 hr3509 hK3503
            have hr3509x : RD SL3346 b3502 a3499 a44 w3498 [(23, some 8), (19, some 4)] := hr3509 _ (by kernel_rfl)
            obtain ⟨⟨v3511, q3510, s3512⟩, ⟨v3514, q3513, s3515⟩, -⟩ := hr3509x
            obtain rfl : v3511 = .int .i64 ((xs0.length : Nat) : Int) := s3512
            obtain rfl : v3514 = .bool false := s3515
            obtain ⟨hX3516, hS3501⟩ := hJ3506
            have hF3500 : Fr 89 a3499 [(23, .int .i64 ((xs0.length : Nat) : Int)), (19, .bool false)] := Fr.of hs3504 hd3505 ⟨q3510, q3513, trivial⟩
            refine One.bare hF3500 (by kernel_rfl) (s_pure hT (d := 24) (v := .int .i64 (((xs0.length + 17) : Nat) : Int)) (cs := [-9223372036854775808 ≤ (((xs0.length + 17) : Nat) : Int), (((xs0.length + 17) : Nat) : Int) ≤ 9223372036854775807]) (by kernel_rfl) (by kernel_rfl) (And.intro (by omega) (And.intro g1168 trivial)) hF3500 ?_)
            rintro a2 ha2 hF2; rw [ha2]
            exact hK3503 _ _ rfl (grown_refl _ _)
          · -- operation 10
            rintro a3518 w3517 b3521 KK3527 hs3523 hd3524 hJ3525 hb3526 hr3528 hK3522
            have hr3528x : RD SL3346 b3521 a3518 a44 w3517 [(21, some 6), (24, some 9), (19, some 4)] := hr3528 _ (by kernel_rfl)
            obtain ⟨⟨v3530, q3529, s3531⟩, ⟨v3533, q3532, s3534⟩, ⟨v3536, q3535, s3537⟩, -⟩ := hr3528x
            obtain rfl : v3530 = .int .i64 ((zs27.length : Nat) : Int) := s3531
            obtain rfl : v3533 = .int .i64 (((xs0.length + 17) : Nat) : Int) := s3534
            obtain rfl : v3536 = .bool false := s3537
            obtain ⟨hX3538, hS3520⟩ := hJ3525
            have hF3519 : Fr 89 a3518 [(21, .int .i64 ((zs27.length : Nat) : Int)), (24, .int .i64 (((xs0.length + 17) : Nat) : Int)), (19, .bool false)] := Fr.of hs3523 hd3524 ⟨q3529, q3532, q3535, trivial⟩
            refine One.bare hF3519 (by kernel_rfl) (s_pure hT (d := 25) (v := .bool ((decide (((zs27.length : Nat) : Int) < (((xs0.length + 17) : Nat) : Int))))) (cs := []) (by kernel_rfl) (by kernel_rfl) trivial hF3519 ?_)
            rintro a2 ha2 hF2; rw [ha2]
            exact hK3522 _ _ rfl (grown_refl _ _)
          · -- operation 11
            rintro a3540 w3539 b3543 KK3549 hs3545 hd3546 hJ3547 hb3548 hr3550 hK3544
            have hr3550x : RD SL3346 b3543 a3540 a44 w3539 [(19, some 4), (25, some 10)] := hr3550 _ (by kernel_rfl)
            obtain ⟨⟨v3552, q3551, s3553⟩, ⟨v3555, q3554, s3556⟩, -⟩ := hr3550x
            obtain rfl : v3552 = .bool false := s3553
            obtain rfl : v3555 = .bool ((decide (((zs27.length : Nat) : Int) < (((xs0.length + 17) : Nat) : Int)))) := s3556
            obtain ⟨hX3557, hS3542⟩ := hJ3547
            have hF3541 : Fr 89 a3540 [(19, .bool false), (25, .bool ((decide (((zs27.length : Nat) : Int) < (((xs0.length + 17) : Nat) : Int)))))] := Fr.of hs3545 hd3546 ⟨q3551, q3554, trivial⟩
            refine s_pure hT (d := 26) (v := .bool ((decide (((zs27.length : Nat) : Int) < (((xs0.length + 17) : Nat) : Int))))) (cs := []) (by kernel_rfl) (by kernel_rfl) trivial hF3541 ?_
            rintro a2 ha2 hF2; rw [ha2]
            exact hK3544 _ _ rfl (grown_refl _ _)
          · -- operation 12
            rintro a3559 w3558 b3562 KK3568 hs3564 hd3565 hJ3566 hb3567 hr3569 hK3563
            have hr3569x : RD SL3346 b3562 a3559 a44 w3558 [(26, some 11)] := hr3569 _ (by kernel_rfl)
            obtain ⟨⟨v3571, q3570, s3572⟩, -⟩ := hr3569x
            obtain rfl : v3571 = .bool ((decide (((zs27.length : Nat) : Int) < (((xs0.length + 17) : Nat) : Int)))) := s3572
            obtain ⟨hX3573, hS3561⟩ := hJ3566
            have hF3560 : Fr 89 a3559 [(26, .bool ((decide (((zs27.length : Nat) : Int) < (((xs0.length + 17) : Nat) : Int)))))] := Fr.of hs3564 hd3565 ⟨q3570, trivial⟩
            refine s_pure hT (d := 27) (v := .bool ((decide (((zs27.length : Nat) : Int) < (((xs0.length + 17) : Nat) : Int))))) (cs := []) (by kernel_rfl) (by kernel_rfl) trivial hF3560 ?_
            rintro a2 ha2 hF2; rw [ha2]
            exact hK3563 _ _ (show (.bool ((decide (((zs27.length : Nat) : Int) < (((xs0.length + 17) : Nat) : Int)))) : Value) = .bool false by (rw [decide_eq_false hc1169] <;> rfl)) (grown_refl _ _)
          · -- operation 13
            rintro a3575 w3574 b3578 KK3584 hs3580 hd3581 hJ3582 hb3583 hr3585 hK3579
            have hr3585x : RD SL3346 b3578 a3575 a44 w3574 [(3, none), (27, some 12)] := hr3585 _ (by kernel_rfl)
            obtain ⟨q3586, ⟨v3588, q3587, s3589⟩, -⟩ := hr3585x
            obtain rfl : v3588 = .bool false := s3589
            obtain ⟨hX3590, hS3577⟩ := hJ3582
            have hF3576 : Fr 89 a3575 [(3, .slice A30 zs27.length c31), (27, .bool false)] := Fr.of hs3580 hd3581 ⟨(Fr.init hF45 q3586 (by kernel_rfl)), q3587, trivial⟩
            refine One.bare hF3576 (by kernel_rfl) (s_pure hT (d := 28) (v := .slice A30 zs27.length c31) (cs := []) (by kernel_rfl) (by kernel_rfl) trivial hF3576 ?_)
            rintro a2 ha2 hF2; rw [ha2]
            exact hK3579 _ _ rfl (grown_refl _ _)
          · -- operation 14
            rintro a3592 w3591 b3595 KK3601 hs3597 hd3598 hJ3599 hb3600 hr3602 hK3596
            have hr3602x : RD SL3346 b3595 a3592 a44 w3591 [(28, some 13), (27, some 12)] := hr3602 _ (by kernel_rfl)
            obtain ⟨⟨v3604, q3603, s3605⟩, ⟨v3607, q3606, s3608⟩, -⟩ := hr3602x
            obtain rfl : v3604 = .slice A30 zs27.length c31 := s3605
            obtain rfl : v3607 = .bool false := s3608
            obtain ⟨hX3609, hS3594⟩ := hJ3599
            have hF3593 : Fr 89 a3592 [(28, .slice A30 zs27.length c31), (27, .bool false)] := Fr.of hs3597 hd3598 ⟨q3603, q3606, trivial⟩
            refine One.bare hF3593 (by kernel_rfl) (s_pure hT (d := 29) (v := .int .i64 ((zs27.length : Nat) : Int)) (cs := []) (by kernel_rfl) (by kernel_rfl) trivial hF3593 ?_)
            rintro a2 ha2 hF2; rw [ha2]
            exact hK3596 _ _ rfl (grown_refl _ _)
          · -- operation 15
            rintro a3611 w3610 b3614 KK3620 hs3616 hd3617 hJ3618 hb3619 hr3621 hK3615
            have hr3621x : RD SL3346 b3614 a3611 a44 w3610 [(0, none), (27, some 12)] := hr3621 _ (by kernel_rfl)
            obtain ⟨q3622, ⟨v3624, q3623, s3625⟩, -⟩ := hr3621x
            obtain rfl : v3624 = .bool false := s3625
            obtain ⟨hX3626, hS3613⟩ := hJ3618
            have hF3612 : Fr 89 a3611 [(0, .slice pA0 xs0.length pc0), (27, .bool false)] := Fr.of hs3616 hd3617 ⟨(Fr.init hF45 q3622 (by kernel_rfl)), q3623, trivial⟩
            refine One.bare hF3612 (by kernel_rfl) (s_pure hT (d := 30) (v := .slice pA0 xs0.length pc0) (cs := []) (by kernel_rfl) (by kernel_rfl) trivial hF3612 ?_)
            rintro a2 ha2 hF2; rw [ha2]
            exact hK3615 _ _ rfl (grown_refl _ _)
          · -- operation 16
            rintro a3628 w3627 b3631 KK3637 hs3633 hd3634 hJ3635 hb3636 hr3638 hK3632
            have hr3638x : RD SL3346 b3631 a3628 a44 w3627 [(30, some 15), (27, some 12)] := hr3638 _ (by kernel_rfl)
            obtain ⟨⟨v3640, q3639, s3641⟩, ⟨v3643, q3642, s3644⟩, -⟩ := hr3638x
            obtain rfl : v3640 = .slice pA0 xs0.length pc0 := s3641
            obtain rfl : v3643 = .bool false := s3644
            obtain ⟨hX3645, hS3630⟩ := hJ3635
            have hF3629 : Fr 89 a3628 [(30, .slice pA0 xs0.length pc0), (27, .bool false)] := Fr.of hs3633 hd3634 ⟨q3639, q3642, trivial⟩
            refine One.bare hF3629 (by kernel_rfl) (s_pure hT (d := 31) (v := .int .i64 ((xs0.length : Nat) : Int)) (cs := []) (by kernel_rfl) (by kernel_rfl) trivial hF3629 ?_)
            rintro a2 ha2 hF2; rw [ha2]
            exact hK3632 _ _ rfl (grown_refl _ _)
          · -- operation 17
            rintro a3647 w3646 b3650 KK3656 hs3652 hd3653 hJ3654 hb3655 hr3657 hK3651
            have hr3657x : RD SL3346 b3650 a3647 a44 w3646 [(31, some 16), (27, some 12)] := hr3657 _ (by kernel_rfl)
            obtain ⟨⟨v3659, q3658, s3660⟩, ⟨v3662, q3661, s3663⟩, -⟩ := hr3657x
            obtain rfl : v3659 = .int .i64 ((xs0.length : Nat) : Int) := s3660
            obtain rfl : v3662 = .bool false := s3663
            obtain ⟨hX3664, hS3649⟩ := hJ3654
            have hF3648 : Fr 89 a3647 [(31, .int .i64 ((xs0.length : Nat) : Int)), (27, .bool false)] := Fr.of hs3652 hd3653 ⟨q3658, q3661, trivial⟩
            refine One.bare hF3648 (by kernel_rfl) (s_pure hT (d := 32) (v := .int .i64 (((xs0.length + 144) : Nat) : Int)) (cs := [-9223372036854775808 ≤ (((xs0.length + 144) : Nat) : Int), (((xs0.length + 144) : Nat) : Int) ≤ 9223372036854775807]) (by kernel_rfl) (by kernel_rfl) (And.intro (by omega) (And.intro g2259 trivial)) hF3648 ?_)
            rintro a2 ha2 hF2; rw [ha2]
            exact hK3651 _ _ rfl (grown_refl _ _)
          · -- operation 18
            rintro a3666 w3665 b3669 KK3675 hs3671 hd3672 hJ3673 hb3674 hr3676 hK3670
            have hr3676x : RD SL3346 b3669 a3666 a44 w3665 [(29, some 14), (32, some 17), (27, some 12)] := hr3676 _ (by kernel_rfl)
            obtain ⟨⟨v3678, q3677, s3679⟩, ⟨v3681, q3680, s3682⟩, ⟨v3684, q3683, s3685⟩, -⟩ := hr3676x
            obtain rfl : v3678 = .int .i64 ((zs27.length : Nat) : Int) := s3679
            obtain rfl : v3681 = .int .i64 (((xs0.length + 144) : Nat) : Int) := s3682
            obtain rfl : v3684 = .bool false := s3685
            obtain ⟨hX3686, hS3668⟩ := hJ3673
            have hF3667 : Fr 89 a3666 [(29, .int .i64 ((zs27.length : Nat) : Int)), (32, .int .i64 (((xs0.length + 144) : Nat) : Int)), (27, .bool false)] := Fr.of hs3671 hd3672 ⟨q3677, q3680, q3683, trivial⟩
            refine One.bare hF3667 (by kernel_rfl) (s_pure hT (d := 33) (v := .bool ((decide ((((xs0.length + 144) : Nat) : Int) < ((zs27.length : Nat) : Int))))) (cs := []) (by kernel_rfl) (by kernel_rfl) trivial hF3667 ?_)
            rintro a2 ha2 hF2; rw [ha2]
            exact hK3670 _ _ rfl (grown_refl _ _)
          · -- operation 19
            rintro a3688 w3687 b3691 KK3697 hs3693 hd3694 hJ3695 hb3696 hr3698 hK3692
            have hr3698x : RD SL3346 b3691 a3688 a44 w3687 [(27, some 12), (33, some 18)] := hr3698 _ (by kernel_rfl)
            obtain ⟨⟨v3700, q3699, s3701⟩, ⟨v3703, q3702, s3704⟩, -⟩ := hr3698x
            obtain rfl : v3700 = .bool false := s3701
            obtain rfl : v3703 = .bool ((decide ((((xs0.length + 144) : Nat) : Int) < ((zs27.length : Nat) : Int)))) := s3704
            obtain ⟨hX3705, hS3690⟩ := hJ3695
            have hF3689 : Fr 89 a3688 [(27, .bool false), (33, .bool ((decide ((((xs0.length + 144) : Nat) : Int) < ((zs27.length : Nat) : Int)))))] := Fr.of hs3693 hd3694 ⟨q3699, q3702, trivial⟩
            refine s_pure hT (d := 34) (v := .bool ((decide ((((xs0.length + 144) : Nat) : Int) < ((zs27.length : Nat) : Int))))) (cs := []) (by kernel_rfl) (by kernel_rfl) trivial hF3689 ?_
            rintro a2 ha2 hF2; rw [ha2]
            exact hK3692 _ _ rfl (grown_refl _ _)
          · -- operation 20
            rintro a3707 w3706 b3710 KK3716 hs3712 hd3713 hJ3714 hb3715 hr3717 hK3711
            have hr3717x : RD SL3346 b3710 a3707 a44 w3706 [(34, some 19)] := hr3717 _ (by kernel_rfl)
            obtain ⟨⟨v3719, q3718, s3720⟩, -⟩ := hr3717x
            obtain rfl : v3719 = .bool ((decide ((((xs0.length + 144) : Nat) : Int) < ((zs27.length : Nat) : Int)))) := s3720
            obtain ⟨hX3721, hS3709⟩ := hJ3714
            have hF3708 : Fr 89 a3707 [(34, .bool ((decide ((((xs0.length + 144) : Nat) : Int) < ((zs27.length : Nat) : Int)))))] := Fr.of hs3712 hd3713 ⟨q3718, trivial⟩
            refine s_pure hT (d := 35) (v := .bool ((decide ((((xs0.length + 144) : Nat) : Int) < ((zs27.length : Nat) : Int))))) (cs := []) (by kernel_rfl) (by kernel_rfl) trivial hF3708 ?_
            rintro a2 ha2 hF2; rw [ha2]
            exact hK3711 _ _ (show (.bool ((decide ((((xs0.length + 144) : Nat) : Int) < ((zs27.length : Nat) : Int)))) : Value) = .bool false by (rw [decide_eq_false hc2260] <;> rfl)) (grown_refl _ _)
          · -- operation 21
            rintro a3723 w3722 b3726 KK3732 hs3728 hd3729 hJ3730 hb3731 hr3733 hK3727
            have hr3733x : RD SL3346 b3726 a3723 a44 w3722 [(3, none), (35, some 20)] := hr3733 _ (by kernel_rfl)
            obtain ⟨q3734, ⟨v3736, q3735, s3737⟩, -⟩ := hr3733x
            obtain rfl : v3736 = .bool false := s3737
            obtain ⟨hX3738, hS3725⟩ := hJ3730
            have hF3724 : Fr 89 a3723 [(3, .slice A30 zs27.length c31), (35, .bool false)] := Fr.of hs3728 hd3729 ⟨(Fr.init hF45 q3734 (by kernel_rfl)), q3735, trivial⟩
            refine One.bare hF3724 (by kernel_rfl) (s_pure hT (d := 36) (v := .slice A30 zs27.length c31) (cs := []) (by kernel_rfl) (by kernel_rfl) trivial hF3724 ?_)
            rintro a2 ha2 hF2; rw [ha2]
            exact hK3727 _ _ rfl (grown_refl _ _)
          · -- operation 22
            rintro a3740 w3739 b3743 KK3749 hs3745 hd3746 hJ3747 hb3748 hr3750 hK3744
            have hr3750x : RD SL3346 b3743 a3740 a44 w3739 [(0, none), (35, some 20)] := hr3750 _ (by kernel_rfl)
            obtain ⟨q3751, ⟨v3753, q3752, s3754⟩, -⟩ := hr3750x
            obtain rfl : v3753 = .bool false := s3754
            obtain ⟨hX3755, hS3742⟩ := hJ3747
            have hF3741 : Fr 89 a3740 [(0, .slice pA0 xs0.length pc0), (35, .bool false)] := Fr.of hs3745 hd3746 ⟨(Fr.init hF45 q3751 (by kernel_rfl)), q3752, trivial⟩
            refine One.bare hF3741 (by kernel_rfl) (s_pure hT (d := 37) (v := .slice pA0 xs0.length pc0) (cs := []) (by kernel_rfl) (by kernel_rfl) trivial hF3741 ?_)
            rintro a2 ha2 hF2; rw [ha2]
            exact hK3744 _ _ rfl (grown_refl _ _)
          · -- operation 23
            rintro a3757 w3756 b3760 KK3766 hs3762 hd3763 hJ3764 hb3765 hr3767 hK3761
            have hr3767x : RD SL3346 b3760 a3757 a44 w3756 [(37, some 22), (35, some 20)] := hr3767 _ (by kernel_rfl)
            obtain ⟨⟨v3769, q3768, s3770⟩, ⟨v3772, q3771, s3773⟩, -⟩ := hr3767x
            obtain rfl : v3769 = .slice pA0 xs0.length pc0 := s3770
            obtain rfl : v3772 = .bool false := s3773
            obtain ⟨hX3774, hS3759⟩ := hJ3764
            have hF3758 : Fr 89 a3757 [(37, .slice pA0 xs0.length pc0), (35, .bool false)] := Fr.of hs3762 hd3763 ⟨q3768, q3771, trivial⟩
            refine One.bare hF3758 (by kernel_rfl) (s_pure hT (d := 38) (v := .int .i64 ((xs0.length : Nat) : Int)) (cs := []) (by kernel_rfl) (by kernel_rfl) trivial hF3758 ?_)
            rintro a2 ha2 hF2; rw [ha2]
            exact hK3761 _ _ rfl (grown_refl _ _)
          · -- operation 24
            rintro a3776 w3775 b3779 KK3785 hs3781 hd3782 hJ3783 hb3784 hr3786 hK3780
            have hr3786x : RD SL3346 b3779 a3776 a44 w3775 [(36, some 21), (38, some 23), (35, some 20)] := hr3786 _ (by kernel_rfl)
            obtain ⟨⟨v3788, q3787, s3789⟩, ⟨v3791, q3790, s3792⟩, ⟨v3794, q3793, s3795⟩, -⟩ := hr3786x
            obtain rfl : v3788 = .slice A30 zs27.length c31 := s3789
            obtain rfl : v3791 = .int .i64 ((xs0.length : Nat) : Int) := s3792
            obtain rfl : v3794 = .bool false := s3795
            obtain ⟨hX3796, hS3778⟩ := hJ3783
            have hF3777 : Fr 89 a3776 [(36, .slice A30 zs27.length c31), (38, .int .i64 ((xs0.length : Nat) : Int)), (35, .bool false)] := Fr.of hs3781 hd3782 ⟨q3787, q3790, q3793, trivial⟩
            refine One.bare hF3777 (by kernel_rfl) (s_sliceLow hT (d := 39) (A := A30) (m := zs27.length) (c := c31) (sz := 1) (hi := xs0.length) (by kernel_rfl) hF3777 (by have := (hS3778.own 0 rfl).cap; have := (Eq.refl zs27.length); first | omega | (simp [*]; done)) (by have := (hS3778.own 0 rfl).cap; have := (Eq.refl zs27.length); first | omega | (simp [*]; done)) ?_)
            rintro a3797 ha3799 hF3798
            rw [ha3799]
            exact hK3780 _ _ rfl (grown_refl _ _)
          · -- operation 25
            rintro a3801 w3800 b3804 KK3810 hs3806 hd3807 hJ3808 hb3809 hr3811 hK3805
            have hr3811x : RD SL3346 b3804 a3801 a44 w3800 [(39, some 24), (35, some 20)] := hr3811 _ (by kernel_rfl)
            obtain ⟨⟨v3813, q3812, s3814⟩, ⟨v3816, q3815, s3817⟩, -⟩ := hr3811x
            obtain rfl : v3813 = .slice A30 xs0.length c31 := s3814
            obtain rfl : v3816 = .bool false := s3817
            obtain ⟨hX3818, hS3803⟩ := hJ3808
            have hF3802 : Fr 89 a3801 [(39, .slice A30 xs0.length c31), (35, .bool false)] := Fr.of hs3806 hd3807 ⟨q3812, q3815, trivial⟩
            refine One.bare hF3802 (by kernel_rfl) (s_str hT (d := 40) (A := A30) (m := xs0.length) (xs := (zs27.take xs0.length)) (by kernel_rfl) hF3802 (Rd.vtake (hS3803.own 0 rfl).rd xs0.length) (by have := (by have := (Eq.refl zs27.length); simp only [zA, zS, zT, zD, zR, zC, zN, zV, zI]; omega : (zs27.take xs0.length).length = xs0.length); first | exact this | omega | (simp [*]; done)) ?_)
            rintro a3819 ha3821 hF3820
            rw [ha3821]
            exact hK3805 _ _ rfl (grown_refl _ _)
          · -- operation 26
            rintro a3823 w3822 b3826 KK3832 hs3828 hd3829 hJ3830 hb3831 hr3833 hK3827
            have hr3833x : RD SL3346 b3826 a3823 a44 w3822 [(0, none), (35, some 20)] := hr3833 _ (by kernel_rfl)
            obtain ⟨q3834, ⟨v3836, q3835, s3837⟩, -⟩ := hr3833x
            obtain rfl : v3836 = .bool false := s3837
            obtain ⟨hX3838, hS3825⟩ := hJ3830
            have hF3824 : Fr 89 a3823 [(0, .slice pA0 xs0.length pc0), (35, .bool false)] := Fr.of hs3828 hd3829 ⟨(Fr.init hF45 q3834 (by kernel_rfl)), q3835, trivial⟩
            refine One.bare hF3824 (by kernel_rfl) (s_pure hT (d := 41) (v := .slice pA0 xs0.length pc0) (cs := []) (by kernel_rfl) (by kernel_rfl) trivial hF3824 ?_)
            rintro a2 ha2 hF2; rw [ha2]
            exact hK3827 _ _ rfl (grown_refl _ _)
          · -- operation 27
            rintro a3840 w3839 b3843 KK3849 hs3845 hd3846 hJ3847 hb3848 hr3850 hK3844
            have hr3850x : RD SL3346 b3843 a3840 a44 w3839 [(41, some 26), (35, some 20)] := hr3850 _ (by kernel_rfl)
            obtain ⟨⟨v3852, q3851, s3853⟩, ⟨v3855, q3854, s3856⟩, -⟩ := hr3850x
            obtain rfl : v3852 = .slice pA0 xs0.length pc0 := s3853
            obtain rfl : v3855 = .bool false := s3856
            obtain ⟨hX3857, hS3842⟩ := hJ3847
            have hF3841 : Fr 89 a3840 [(41, .slice pA0 xs0.length pc0), (35, .bool false)] := Fr.of hs3845 hd3846 ⟨q3851, q3854, trivial⟩
            refine One.bare hF3841 (by kernel_rfl) (s_str hT (d := 42) (A := pA0) (m := xs0.length) (xs := xs0) (by kernel_rfl) hF3841 (hS3842.rd0 pR0) (by have := (Eq.refl xs0.length); first | exact this | omega | (simp [*]; done)) ?_)
            rintro a3858 ha3860 hF3859
            rw [ha3860]
            exact hK3844 _ _ rfl (grown_refl _ _)
          · -- operation 28
            rintro a3862 w3861 b3865 KK3871 hs3867 hd3868 hJ3869 hb3870 hr3872 hK3866
            have hr3872x : RD SL3346 b3865 a3862 a44 w3861 [(40, some 25), (42, some 27), (35, some 20)] := hr3872 _ (by kernel_rfl)
            obtain ⟨⟨v3874, q3873, s3875⟩, ⟨v3877, q3876, s3878⟩, ⟨v3880, q3879, s3881⟩, -⟩ := hr3872x
            obtain rfl : v3874 = .string (str (zs27.take xs0.length)) := s3875
            obtain rfl : v3877 = .string (str xs0) := s3878
            obtain rfl : v3880 = .bool false := s3881
            obtain ⟨hX3882, hS3864⟩ := hJ3869
            have hF3863 : Fr 89 a3862 [(40, .string (str (zs27.take xs0.length))), (42, .string (str xs0)), (35, .bool false)] := Fr.of hs3867 hd3868 ⟨q3873, q3876, q3879, trivial⟩
            refine One.bare hF3863 (by kernel_rfl) (s_pure hT (d := 43) (v := .bool (!((str (zs27.take xs0.length)).toList == (str xs0).toList))) (cs := []) (by kernel_rfl) (by kernel_rfl) trivial hF3863 ?_)
            rintro a2 ha2 hF2; rw [ha2]
            exact hK3866 _ _ (show (.bool (!((str (zs27.take xs0.length)).toList == (str xs0).toList)) : Value) = .bool (!(decide ((zs27.take xs0.length) = xs0))) by (rw [str_beq (hh32.take xs0.length) pb0] <;> rfl)) (grown_refl _ _)
          · -- operation 29
            rintro a3884 w3883 b3887 KK3893 hs3889 hd3890 hJ3891 hb3892 hr3894 hK3888
            have hr3894x : RD SL3346 b3887 a3884 a44 w3883 [(35, some 20), (43, some 28)] := hr3894 _ (by kernel_rfl)
            obtain ⟨⟨v3896, q3895, s3897⟩, ⟨v3899, q3898, s3900⟩, -⟩ := hr3894x
            obtain rfl : v3896 = .bool false := s3897
            obtain rfl : v3899 = .bool (!(decide ((zs27.take xs0.length) = xs0))) := s3900
            obtain ⟨hX3901, hS3886⟩ := hJ3891
            have hF3885 : Fr 89 a3884 [(35, .bool false), (43, .bool (!(decide ((zs27.take xs0.length) = xs0))))] := Fr.of hs3889 hd3890 ⟨q3895, q3898, trivial⟩
            refine s_pure hT (d := 44) (v := .bool (!(decide ((zs27.take xs0.length) = xs0)))) (cs := []) (by kernel_rfl) (by kernel_rfl) trivial hF3885 ?_
            rintro a2 ha2 hF2; rw [ha2]
            exact hK3888 _ _ rfl (grown_refl _ _)
          · -- behind the region
            rintro a3902 w3903 hs3904 hd3905 ⟨⟨v3908, q3909, s3910⟩, q3911, q3912, -⟩ ⟨hX3907, hS3906⟩
            obtain rfl : v3908 = .bool (!(decide ((zs27.take xs0.length) = xs0))) := s3910
            have hF3913 : Fr 89 a3902 [(44, .bool (!(decide ((zs27.take xs0.length) = xs0)))), (0, .slice pA0 xs0.length pc0), (3, .slice A30 zs27.length c31)] := Fr.of hs3904 hd3905 ⟨q3909, (Fr.init hF45 q3911 (by kernel_rfl)), (Fr.init hF45 q3912 (by kernel_rfl)), trivial⟩
            clear hF45 hS42 hs3904 hd3905 q3909 q3911 q3912
            refine hK73 _ _ ?_
            rcases (ite_some h3343 : (((zs27.take xs0.length) = xs0) ∧ _) ∨ (¬ ((zs27.take xs0.length) = xs0) ∧ _)) with ⟨hc3914, h3915⟩ | ⟨hc3914, h3915⟩
            · clear h3343
              have hF3916 : Fr 89 a3902 [(44, .bool false), (0, .slice pA0 xs0.length pc0), (3, .slice A30 zs27.length c31)] := hF3913.pick [44, 0, 3] (by rw [decide_eq_true hc3914]; kernel_rfl); clear hF3913
              refine condF hF3916 (by kernel_rfl) ?_
              refine wp_skip ?_
              refine hK71 _ _ ?_
              refine wp_seq_k (fun K3917 hK3918 => ?_)
              obtain ⟨zs3919, hr3921, h3920⟩ := bnd_some h3915; clear h3915; replace hr3921 : F_sha512_Start = some (zs3919) := hr3921
              refine wp_region_lit ?_
              refine wl (s_call (d := 45) (f := 18) (l := []) (by kernel_rfl) hF3916 cl18 (W_sha512_Start _ zs3919 hr3921) ?_)
              rintro a3926 w3927 v3928 ⟨rfl, hh3922, hh3923, hC3929⟩ ha3930 hF3931; clear ha3930 hF3916 a3902
              have hS3932 : Heap w [] w3927 [.row 5 1 A30 zs27.length c31 (vs .u8 zs27)] := Heap.call hS3906 hC3929; clear hS3906
              have hF3933 := hF3931.pick [0, 3, 45] (G := [(0, .slice pA0 xs0.length pc0), (3, .slice A30 zs27.length c31), (45, .agg (vs .u64 zs3919).toArray)]) (by kernel_rfl); clear hF3931
              refine wl (h_alloc hT (d := 4) (T := 26) (l := vs .u64 (List.replicate 8 0)) (by kernel_rfl) hF3933 hS3932 ?_)
              rintro a3934 w3935 b3924 hS3936 g3937 ha3938 hF3939; clear ha3938 hF3933 a3926 hS3932
              have hS3940 : Heap w [] w3935 [.blk b3924 26 (vs .u64 (List.replicate 8 0)), .row 5 1 A30 zs27.length c31 (vs .u8 zs27)] := hS3936; clear hS3936
              have hF3941 := hF3939.pick [0, 3, 45, 4] (G := [(0, .slice pA0 xs0.length pc0), (3, .slice A30 zs27.length c31), (45, .agg (vs .u64 zs3919).toArray), (4, .pointer (some ⟨b3924, 0, none⟩))]) (by kernel_rfl); clear hF3939
              refine wl (h_storeV hT (b := b3924) (l2 := vs .u64 zs3919) (sz := 8) (by kernel_rfl) hF3941 hS3940 0 rfl (by simp only [List.length_append, vs_length, vi_length, List.length_cons, List.length_nil, (hh3922 : zs3919.length = 8)]) (by simp only [List.length_append, vs_length, vi_length, List.length_cons, List.length_nil, (hh3922 : zs3919.length = 8), ((len_rep (α := Nat) 8 0) : (List.replicate 8 0).length = 8)]) (vs_one) ?_)
              rintro a3942 w3943 ha3946 hF3947 hS3944 g3945; clear ha3946 hF3941 a3934 hS3940
              have hS3948 : Heap w [] w3943 [.blk b3924 26 (vs .u64 zs3919), .row 5 1 A30 zs27.length c31 (vs .u8 zs27)] := hS3944; clear hS3944
              have hF3949 := hF3947.pick [0, 3, 4] (G := [(0, .slice pA0 xs0.length pc0), (3, .slice A30 zs27.length c31), (4, .pointer (some ⟨b3924, 0, none⟩))]) (by kernel_rfl); clear hF3947
              refine wpList_nil ?_
              refine hK3918 _ _ ?_
              obtain ⟨xj4273, hx4274, h4275⟩ := bnd_some h3920; clear h3920
              refine seqJ (fun a W => ∃ (zs4270 : List Nat), (.inl zs4270) = xj4273 ∧ (Fr 89 a [(0, .slice pA0 xs0.length pc0), (4, .pointer (some ⟨b3924, 0, none⟩))]) ∧ (Heap w [] W [.blk b3924 26 (vs .u64 zs4270)]) ∧ (zs4270.length = 8) ∧ (LB 18446744073709551616 zs4270)) ?_ ?_
              · skip
                refine wp_seq_k (fun K4276 hK4277 => ?_)
                refine wp_region_lit ?_
                refine pu_end hT 1 _ hF3949 [0, 3, 4, 5] (G := [(0, .slice pA0 xs0.length pc0), (3, .slice A30 zs27.length c31), (4, .pointer (some ⟨b3924, 0, none⟩)), (5, .int .i64 0)]) (cs := []) (by kernel_rfl) rfl trivial ?_; clear hF3949 a3942; intro a4278 hF4279
                refine hK4277 _ _ ?_
                refine wp_block ?_
                refine loopR (F_casematelaw14_Sha512Steps_l1 zs27) xj4273 (zs3919, 0) hx4274 (fun s a W => ∃ (zs4430 : List Nat), ∃ (x4433 : Nat), (zs4430, x4433) = s ∧ (Fr 89 a [(0, .slice pA0 xs0.length pc0), (3, .slice A30 zs27.length c31), (4, .pointer (some ⟨b3924, 0, none⟩)), (5, .int .i64 ((x4433 : Nat) : Int))]) ∧ (Heap w [] W [.row 5 1 A30 zs27.length c31 (vs .u8 zs27), .blk b3924 26 (vs .u64 zs4430)]) ∧ (zs4430.length = 8) ∧ (LB 18446744073709551616 zs4430)) ⟨zs3919, 0, rfl, hF4279.pick [0, 3, 4, 5] (by kernel_rfl), hS3948.pick [1, 0] (by decide) rfl, hh3922, hh3923⟩ ?_
                clear hF4279 hS3948 hx4274
                rintro k4520 _ a4515 w4516 ⟨zs4430, x4433, rfl, hF4517, hS4518, hh4431, hh4432⟩ hit4514 K4513 hK4512
                obtain ⟨y4510, h4519, hy4511⟩ := iter_succ hit4514; clear hit4514
                unfold F_casematelaw14_Sha512Steps_l1 at h4519; try dsimp only at h4519
                refine wp_seq_k (fun K4527 hK4528 => ?_)
                refine wp_seq_k (fun K4529 hK4530 => ?_)
                obtain ⟨g4532, h4531⟩ : ((((x4433 + 128) : Nat) : Int) ≤ 9223372036854775807) ∧ _ := gd_some h4519; clear h4519
                refine wp_region_lit ?_
                refine pu_end hT 5 _ hF4517 [0, 3, 4, 5, 50] (G := [(0, .slice pA0 xs0.length pc0), (3, .slice A30 zs27.length c31), (4, .pointer (some ⟨b3924, 0, none⟩)), (5, .int .i64 ((x4433 : Nat) : Int)), (50, .bool ((decide ((((x4433 + 128) : Nat) : Int) ≤ ((zs27.length : Nat) : Int)))))]) (cs := [-9223372036854775808 ≤ (((x4433 + 128) : Nat) : Int), (((x4433 + 128) : Nat) : Int) ≤ 9223372036854775807]) (by kernel_rfl) rfl (And.intro (by omega) (And.intro g4532 trivial)) ?_; clear hF4517 a4515; intro a4533 hF4534
                refine hK4530 _ _ ?_
                rcases (ite_some h4531 : (((((x4433 + 128) : Nat) : Int) ≤ ((zs27.length : Nat) : Int)) ∧ _) ∨ (¬ ((((x4433 + 128) : Nat) : Int) ≤ ((zs27.length : Nat) : Int)) ∧ _)) with ⟨hc4535, h4536⟩ | ⟨hc4535, h4536⟩
                · clear h4531
                  have hF4537 : Fr 89 a4533 [(0, .slice pA0 xs0.length pc0), (3, .slice A30 zs27.length c31), (4, .pointer (some ⟨b3924, 0, none⟩)), (5, .int .i64 ((x4433 : Nat) : Int)), (50, .bool true)] := hF4534.pick [0, 3, 4, 5, 50] (by rw [decide_eq_true hc4535]; kernel_rfl); clear hF4534
                  refine condT hF4537 (by kernel_rfl) ?_
                  refine wp_skip ?_
                  refine hK4528 _ _ ?_
                  refine wp_seq_k (fun K4568 hK4569 => ?_)
                  refine wp_block ?_
                  refine wp_seq_k (fun K4570 hK4571 => ?_)
                  obtain ⟨g4573, h4572⟩ : (x4433 ≤ (x4433 + 128)) ∧ _ := gd_some h4536; clear h4536
                  obtain ⟨g4575, h4574⟩ : ((x4433 + 128) ≤ zs27.length) ∧ _ := gd_some h4572; clear h4572
                  obtain ⟨⟨zs4578, x4579⟩, hr4581, h4580⟩ := bnd_some h4574; clear h4574; replace hr4581 : F_sha512_Block zs4430 ((zs27.drop x4433).take ((x4433 + 128) - x4433)) = some (zs4578, x4579) := hr4581
                  have hlt4588 := hS4518.ids
                  have hsz4590 := hS4518.size
                  let SL4589 : List SP := [SP.val (.agg (vs .u64 zs4430).toArray), SP.val (.slice A30 zs27.length c31), SP.val (.int .i64 ((x4433 : Nat) : Int)), SP.val (.int .i64 ((x4433 : Nat) : Int)), SP.val (.int .i64 (((x4433 + 128) : Nat) : Int)), SP.mk' (fun B v W => ∃ (A4576 : Option Addr), v = .slice A4576 ((x4433 + 128) - x4433) (c31 - x4433) ∧ (View A30 c31 1 A4576 x4433)) (fun B v W W2 hh gg => by obtain ⟨A4576, e, hv4577⟩ := hh; exact ⟨A4576, e, hv4577⟩), SP.mk' (fun B v W => v = .tuple #[.agg (vs .u64 zs4578).toArray, .int .i64 ((x4579 : Nat) : Int)] ∧ (zs4578.length = 8) ∧ (LB 18446744073709551616 zs4578)) (fun B v W W2 hh gg => by obtain ⟨e, hh4582, hh4583⟩ := hh; exact ⟨e, hh4582, hh4583⟩), SP.mk' (fun B v W => v = .tuple #[.agg (vs .u64 zs4578).toArray, .int .i64 ((x4579 : Nat) : Int)] ∧ (zs4578.length = 8) ∧ (LB 18446744073709551616 zs4578)) (fun B v W W2 hh gg => by obtain ⟨e, hh4582, hh4583⟩ := hh; exact ⟨e, hh4582, hh4583⟩), SP.mk' (fun B v W => v = .agg (vs .u64 zs4578).toArray ∧ (zs4578.length = 8) ∧ (LB 18446744073709551616 zs4578)) (fun B v W W2 hh gg => by obtain ⟨e, hh4582, hh4583⟩ := hh; exact ⟨e, hh4582, hh4583⟩), SP.val (.int .i64 ((x4579 : Nat) : Int)), SP.mk' (fun B v W => ∃ (b4584 : Nat), v = .pointer (some ⟨b4584, 0, none⟩) ∧ (w4516.heap.size ≤ b4584) ∧ (B = false → Blk W b4584 26 (vs .u64 (List.replicate 8 0))) ∧ (B = true → Blk W b4584 26 (vs .u64 zs4578))) (fun B v W W2 hh gg => by obtain ⟨b4584, e, hq4587, hl4586, hl4586t⟩ := hh; exact ⟨b4584, e, hq4587, fun q => Blk.growN (hl4586 q) gg, fun q => Blk.growN (hl4586t q) gg⟩), SP.any, SP.val (.int .i64 ((x4579 : Nat) : Int))]
                  refine region_rel (SL := SL4589) (J := (fun (B : Bool) (W : World) => match B with | true => w4516.heap.size ≤ W.heap.size ∧ Heap w [] W [.row 5 1 A30 zs27.length c31 (vs .u8 zs27), .blk b3924 26 (vs .u64 zs4430)] ∧ (zs4578.length = 8) ∧ (LB 18446744073709551616 zs4578) | false => w4516.heap.size ≤ W.heap.size ∧ Heap w [] W [.row 5 1 A30 zs27.length c31 (vs .u8 zs27), .blk b3924 26 (vs .u64 zs4430)])) (m := 11) wide (by kernel_rfl) (by kernel_rfl) hF4537 rfl ?_ ⟨Nat.le_refl _, hS4518⟩ ⟨?_, ?_, ?_, ?_, ?_, ?_, ?_, ?_, ?_, ?_, ?_, ?_, ?_, trivial⟩ [(6, some 10), (7, some 12), (0, none), (3, none), (4, none), (5, none)] (by kernel_rfl) ?_
                  · intro b W W' hj g; cases b; exact ⟨Nat.le_trans hj.1 g.size, hj.2.growN g⟩; exact ⟨Nat.le_trans hj.1 g.size, hj.2.1.growN g, hj.2.2⟩
                  · -- operation 0
                    rintro a4592 w4591 b4595 KK4601 hs4597 hd4598 hJ4599 hb4600 hr4602 hK4596
                    have hr4602x : RD SL4589 b4595 a4592 a4533 w4591 [(4, none)] := hr4602 _ (by kernel_rfl)
                    obtain ⟨q4603, -⟩ := hr4602x
                    obtain rfl : b4595 = false := by cases b4595; rfl; exact absurd ((hb4600 rfl).2 _ rfl) (by decide)
                    obtain ⟨hX4604, hS4594⟩ := hJ4599
                    have hF4593 : Fr 89 a4592 [(4, .pointer (some ⟨b3924, 0, none⟩))] := Fr.of hs4597 hd4598 ⟨(Fr.init hF4537 q4603 (by kernel_rfl)), trivial⟩
                    refine s_loadA hT (d := 54) (b := b3924) (off := 0) (sz := 8) (l := vs .u64 zs4430) (by kernel_rfl) hF4593 (hS4594.blk 1 rfl).cells (by simp only [List.length_append, vs_length, vi_length, List.length_cons, List.length_nil, (hh4431 : zs4430.length = 8)]) ?_
                    rintro a4605 ha4607 hF4606
                    rw [ha4607]
                    exact hK4596 _ _ rfl (grown_refl _ _)
                  · -- operation 1
                    rintro a4609 w4608 b4612 KK4618 hs4614 hd4615 hJ4616 hb4617 hr4619 hK4613
                    have hr4619x : RD SL4589 b4612 a4609 a4533 w4608 [(3, none)] := hr4619 _ (by kernel_rfl)
                    obtain ⟨q4620, -⟩ := hr4619x
                    obtain rfl : b4612 = false := by cases b4612; rfl; exact absurd ((hb4617 rfl).2 _ rfl) (by decide)
                    obtain ⟨hX4621, hS4611⟩ := hJ4616
                    have hF4610 : Fr 89 a4609 [(3, .slice A30 zs27.length c31)] := Fr.of hs4614 hd4615 ⟨(Fr.init hF4537 q4620 (by kernel_rfl)), trivial⟩
                    refine s_pure hT (d := 55) (v := .slice A30 zs27.length c31) (cs := []) (by kernel_rfl) (by kernel_rfl) trivial hF4610 ?_
                    rintro a2 ha2 hF2; rw [ha2]
                    exact hK4613 _ _ rfl (grown_refl _ _)
                  · -- operation 2
                    rintro a4623 w4622 b4626 KK4632 hs4628 hd4629 hJ4630 hb4631 hr4633 hK4627
                    have hr4633x : RD SL4589 b4626 a4623 a4533 w4622 [(5, none)] := hr4633 _ (by kernel_rfl)
                    obtain ⟨q4634, -⟩ := hr4633x
                    obtain rfl : b4626 = false := by cases b4626; rfl; exact absurd ((hb4631 rfl).2 _ rfl) (by decide)
                    obtain ⟨hX4635, hS4625⟩ := hJ4630
                    have hF4624 : Fr 89 a4623 [(5, .int .i64 ((x4433 : Nat) : Int))] := Fr.of hs4628 hd4629 ⟨(Fr.init hF4537 q4634 (by kernel_rfl)), trivial⟩
                    refine s_pure hT (d := 56) (v := .int .i64 ((x4433 : Nat) : Int)) (cs := []) (by kernel_rfl) (by kernel_rfl) trivial hF4624 ?_
                    rintro a2 ha2 hF2; rw [ha2]
                    exact hK4627 _ _ rfl (grown_refl _ _)
                  · -- operation 3
                    rintro a4637 w4636 b4640 KK4646 hs4642 hd4643 hJ4644 hb4645 hr4647 hK4641
                    have hr4647x : RD SL4589 b4640 a4637 a4533 w4636 [(5, none)] := hr4647 _ (by kernel_rfl)
                    obtain ⟨q4648, -⟩ := hr4647x
                    obtain rfl : b4640 = false := by cases b4640; rfl; exact absurd ((hb4645 rfl).2 _ rfl) (by decide)
                    obtain ⟨hX4649, hS4639⟩ := hJ4644
                    have hF4638 : Fr 89 a4637 [(5, .int .i64 ((x4433 : Nat) : Int))] := Fr.of hs4642 hd4643 ⟨(Fr.init hF4537 q4648 (by kernel_rfl)), trivial⟩
                    refine s_pure hT (d := 57) (v := .int .i64 ((x4433 : Nat) : Int)) (cs := []) (by kernel_rfl) (by kernel_rfl) trivial hF4638 ?_
                    rintro a2 ha2 hF2; rw [ha2]
                    exact hK4641 _ _ rfl (grown_refl _ _)
                  · -- operation 4
                    rintro a4651 w4650 b4654 KK4660 hs4656 hd4657 hJ4658 hb4659 hr4661 hK4655
                    have hr4661x : RD SL4589 b4654 a4651 a4533 w4650 [(57, some 3)] := hr4661 _ (by kernel_rfl)
                    obtain ⟨⟨v4663, q4662, s4664⟩, -⟩ := hr4661x
                    obtain rfl : v4663 = .int .i64 ((x4433 : Nat) : Int) := s4664
                    obtain rfl : b4654 = false := by cases b4654; rfl; exact absurd ((hb4659 rfl).2 _ rfl) (by decide)
                    obtain ⟨hX4665, hS4653⟩ := hJ4658
                    have hF4652 : Fr 89 a4651 [(57, .int .i64 ((x4433 : Nat) : Int))] := Fr.of hs4656 hd4657 ⟨q4662, trivial⟩
                    refine s_pure hT (d := 58) (v := .int .i64 (((x4433 + 128) : Nat) : Int)) (cs := [-9223372036854775808 ≤ (((x4433 + 128) : Nat) : Int), (((x4433 + 128) : Nat) : Int) ≤ 9223372036854775807]) (by kernel_rfl) (by kernel_rfl) (And.intro (by omega) (And.intro g4532 trivial)) hF4652 ?_
                    rintro a2 ha2 hF2; rw [ha2]
                    exact hK4655 _ _ rfl (grown_refl _ _)
                  · -- operation 5
                    rintro a4667 w4666 b4670 KK4676 hs4672 hd4673 hJ4674 hb4675 hr4677 hK4671
                    have hr4677x : RD SL4589 b4670 a4667 a4533 w4666 [(55, some 1), (56, some 2), (58, some 4)] := hr4677 _ (by kernel_rfl)
                    obtain ⟨⟨v4679, q4678, s4680⟩, ⟨v4682, q4681, s4683⟩, ⟨v4685, q4684, s4686⟩, -⟩ := hr4677x
                    obtain rfl : v4679 = .slice A30 zs27.length c31 := s4680
                    obtain rfl : v4682 = .int .i64 ((x4433 : Nat) : Int) := s4683
                    obtain rfl : v4685 = .int .i64 (((x4433 + 128) : Nat) : Int) := s4686
                    obtain rfl : b4670 = false := by cases b4670; rfl; exact absurd ((hb4675 rfl).2 _ rfl) (by decide)
                    obtain ⟨hX4687, hS4669⟩ := hJ4674
                    have hF4668 : Fr 89 a4667 [(55, .slice A30 zs27.length c31), (56, .int .i64 ((x4433 : Nat) : Int)), (58, .int .i64 (((x4433 + 128) : Nat) : Int))] := Fr.of hs4672 hd4673 ⟨q4678, q4681, q4684, trivial⟩
                    refine h_slice hT (d := 59) (A := A30) (m := zs27.length) (c := c31) (sz := 1) (lo := x4433) (hi := (x4433 + 128)) (by kernel_rfl) hF4668 (by have := (hS4669.own 0 rfl).cap; have := (Eq.refl zs27.length); omega) (by have := (hS4669.own 0 rfl).cap; have := (Eq.refl zs27.length); omega) (by have := (hS4669.own 0 rfl).cap; have := (Eq.refl zs27.length); first | omega | (simp [*]; done)) ?_
                    rintro a4688 A4576 hv4577 ha4690 hF4689
                    rw [ha4690]
                    exact hK4671 _ _ ⟨A4576, rfl, hv4577⟩ (grown_refl _ _)
                  · -- operation 6
                    rintro a4692 w4691 b4695 KK4701 hs4697 hd4698 hJ4699 hb4700 hr4702 hK4696
                    have hr4702x : RD SL4589 b4695 a4692 a4533 w4691 [(54, some 0), (59, some 5)] := hr4702 _ (by kernel_rfl)
                    obtain ⟨⟨v4704, q4703, s4705⟩, ⟨v4707, q4706, s4708⟩, -⟩ := hr4702x
                    obtain rfl : v4704 = .agg (vs .u64 zs4430).toArray := s4705
                    obtain ⟨A4576, rfl, hv4577⟩ := s4708
                    obtain rfl : b4695 = false := by cases b4695; rfl; exact absurd ((hb4700 rfl).2 _ rfl) (by decide)
                    obtain ⟨hX4709, hS4694⟩ := hJ4699
                    have hF4693 : Fr 89 a4692 [(54, .agg (vs .u64 zs4430).toArray), (59, .slice A4576 ((x4433 + 128) - x4433) (c31 - x4433))] := Fr.of hs4697 hd4698 ⟨q4703, q4706, trivial⟩
                    have hF4710 : Fr 89 a4692 [(54, .agg (vs .u64 zs4430).toArray), (59, .slice A4576 (((zs27.drop x4433).take ((x4433 + 128) - x4433)).length) (c31 - x4433))] := (hF4693.pick [54, 59] (G := [(54, .agg (vs .u64 zs4430).toArray), (59, .slice A4576 ((x4433 + 128) - x4433) (c31 - x4433))]) (by kernel_rfl)).to (by simp only [((by have := (Eq.refl zs27.length); simp only [zA, zS, zT, zD, zR, zC, zN, zV, zI]; omega : ((zs27.drop x4433).take ((x4433 + 128) - x4433)).length = ((x4433 + 128) - x4433)) : ((zs27.drop x4433).take ((x4433 + 128) - x4433)).length = ((x4433 + 128) - x4433))])
                    refine s_call (d := 60) (f := 24) (l := [.agg (vs .u64 zs4430).toArray, .slice A4576 (((zs27.drop x4433).take ((x4433 + 128) - x4433)).length) (c31 - x4433)]) (by kernel_rfl) hF4710 cl24 (W_sha512_Block zs4430 A4576 (c31 - x4433) ((zs27.drop x4433).take ((x4433 + 128) - x4433)) _ hh4431 hh4432 (hv4577.vst (hS4694.own 0 rfl).rd (by have := (hS4694.own 0 rfl).cap; have := (Eq.refl zs27.length); omega) ((x4433 + 128) - x4433)) (by have := (hS4694.own 0 rfl).cap; have := (Eq.refl zs27.length); skip; have := (by have := (Eq.refl zs27.length); simp only [zA, zS, zT, zD, zR, zC, zN, zV, zI]; omega : ((zs27.drop x4433).take ((x4433 + 128) - x4433)).length = ((x4433 + 128) - x4433)); first | omega | (simp only [zA, zS, zT, zD, zR, zC, zN, zV, zI] <;> omega) | (simp only [zA, zS, zT, zD, zR, zC, zN, zV, zI] at * <;> omega)) ((hh32.drop x4433).take ((x4433 + 128) - x4433)) zs4578 x4579 hr4581) ?_
                    rintro a4711 w4712 v4713 ⟨rfl, hh4582, hh4583, hC4714⟩ ha4715 hF4716
                    have hS4717 : Heap w [] w4712 [.row 5 1 A30 zs27.length c31 (vs .u8 zs27), .blk b3924 26 (vs .u64 zs4430)] := Heap.call hS4694 hC4714
                    rw [ha4715]
                    exact hK4696 _ _ ⟨rfl, hh4582, hh4583⟩ (hC4714.grown)
                  · -- operation 7
                    rintro a4719 w4718 b4722 KK4728 hs4724 hd4725 hJ4726 hb4727 hr4729 hK4723
                    have hr4729x : RD SL4589 b4722 a4719 a4533 w4718 [(60, some 6)] := hr4729 _ (by kernel_rfl)
                    obtain ⟨⟨v4731, q4730, s4732⟩, -⟩ := hr4729x
                    obtain ⟨rfl, hh4582, hh4583⟩ := s4732
                    obtain rfl : b4722 = false := by cases b4722; rfl; exact absurd ((hb4727 rfl).2 _ rfl) (by decide)
                    obtain ⟨hX4733, hS4721⟩ := hJ4726
                    have hF4720 : Fr 89 a4719 [(60, .tuple #[.agg (vs .u64 zs4578).toArray, .int .i64 ((x4579 : Nat) : Int)])] := Fr.of hs4724 hd4725 ⟨q4730, trivial⟩
                    refine s_pure hT (d := 53) (v := .tuple #[.agg (vs .u64 zs4578).toArray, .int .i64 ((x4579 : Nat) : Int)]) (cs := []) (by kernel_rfl) (by kernel_rfl) trivial hF4720 ?_
                    rintro a2 ha2 hF2; rw [ha2]
                    exact hK4723 _ _ ⟨rfl, hh4582, hh4583⟩ (grown_refl _ _)
                  · -- operation 8
                    rintro a4735 w4734 b4738 KK4744 hs4740 hd4741 hJ4742 hb4743 hr4745 hK4739
                    have hr4745x : RD SL4589 b4738 a4735 a4533 w4734 [(53, some 7)] := hr4745 _ (by kernel_rfl)
                    obtain ⟨⟨v4747, q4746, s4748⟩, -⟩ := hr4745x
                    obtain ⟨rfl, hh4582, hh4583⟩ := s4748
                    obtain rfl : b4738 = false := by cases b4738; rfl; exact absurd ((hb4743 rfl).2 _ rfl) (by decide)
                    obtain ⟨hX4749, hS4737⟩ := hJ4742
                    have hF4736 : Fr 89 a4735 [(53, .tuple #[.agg (vs .u64 zs4578).toArray, .int .i64 ((x4579 : Nat) : Int)])] := Fr.of hs4740 hd4741 ⟨q4746, trivial⟩
                    refine s_pure hT (d := 61) (v := .agg (vs .u64 zs4578).toArray) (cs := []) (by kernel_rfl) (by kernel_rfl) trivial hF4736 ?_
                    rintro a2 ha2 hF2; rw [ha2]
                    exact hK4739 _ _ ⟨rfl, hh4582, hh4583⟩ (grown_refl _ _)
                  · -- operation 9
                    rintro a4751 w4750 b4754 KK4760 hs4756 hd4757 hJ4758 hb4759 hr4761 hK4755
                    have hr4761x : RD SL4589 b4754 a4751 a4533 w4750 [(53, some 7)] := hr4761 _ (by kernel_rfl)
                    obtain ⟨⟨v4763, q4762, s4764⟩, -⟩ := hr4761x
                    obtain ⟨rfl, hh4582, hh4583⟩ := s4764
                    have hF4752 : Fr 89 a4751 [(53, .tuple #[.agg (vs .u64 zs4578).toArray, .int .i64 ((x4579 : Nat) : Int)])] := Fr.of hs4756 hd4757 ⟨q4762, trivial⟩
                    refine s_pure hT (d := 62) (v := .int .i64 ((x4579 : Nat) : Int)) (cs := []) (by kernel_rfl) (by kernel_rfl) trivial hF4752 ?_
                    rintro a2 ha2 hF2; rw [ha2]
                    exact hK4755 _ _ rfl (grown_refl _ _)
                  · -- operation 10
                    rintro a4767 w4766 b4770 KK4776 hs4772 hd4773 hJ4774 hb4775 hr4777 hK4771
                    have hr4777x : RD SL4589 b4770 a4767 a4533 w4766 [] := hr4777 _ (by kernel_rfl)
                    obtain rfl : b4770 = false := by cases b4770; rfl; exact absurd ((hb4775 rfl).2 _ rfl) (by decide)
                    obtain ⟨hX4778, hS4769⟩ := hJ4774
                    have hF4768 : Fr 89 a4767 [] := Fr.of hs4772 hd4773 trivial
                    refine h_alloc hT (d := 6) (T := 26) (l := vs .u64 (List.replicate 8 0)) (by kernel_rfl) hF4768 (Heap.init w4766) ?_
                    rintro a4779 w4780 b4584 hS4781 g4782 ha4783 hF4784
                    have hS4785 : Heap w [] w4780 [.blk b4584 26 (vs .u64 (List.replicate 8 0)), .row 5 1 A30 zs27.length c31 (vs .u8 zs27), .blk b3924 26 (vs .u64 zs4430)] := Heap.call hS4769 hS4781
                    rw [ha4783]
                    exact hK4771 _ _ ⟨b4584, rfl, (Nat.le_trans hX4778 (Heap.newge hS4781 0 rfl rfl)), (fun _ => hS4785.blk 0 rfl), (fun q => absurd q (by decide))⟩ (g4782)
                  · -- operation 11
                    rintro a4787 w4786 b4790 KK4796 hs4792 hd4793 hJ4794 hb4795 hr4797 hK4791
                    have hr4797x : RD SL4589 b4790 a4787 a4533 w4786 [(6, some 10), (61, some 8)] := hr4797 _ (by kernel_rfl)
                    obtain ⟨⟨v4799, q4798, s4800⟩, ⟨v4802, q4801, s4803⟩, -⟩ := hr4797x
                    obtain ⟨b4584, rfl, hq4587, hl4586, hl4586t⟩ := s4800
                    obtain ⟨rfl, hh4582, hh4583⟩ := s4803
                    obtain rfl : b4790 = false := by cases b4790; rfl; exact absurd rfl (hb4795 rfl).1
                    have hl4586 := hl4586 rfl
                    obtain ⟨hX4804, hS4789⟩ := hJ4794
                    have hF4788 : Fr 89 a4787 [(6, .pointer (some ⟨b4584, 0, none⟩)), (61, .agg (vs .u64 zs4578).toArray)] := Fr.of hs4792 hd4793 ⟨q4798, q4801, trivial⟩
                    refine s_storeV hT (b := b4584) (l2 := vs .u64 zs4578) (sz := 8) (by kernel_rfl) hF4788 hl4586 (by simp only [List.length_append, vs_length, vi_length, List.length_cons, List.length_nil, (hh4582 : zs4578.length = 8)]) (by simp only [List.length_append, vs_length, vi_length, List.length_cons, List.length_nil, (hh4582 : zs4578.length = 8), ((len_rep (α := Nat) 8 0) : (List.replicate 8 0).length = 8)]) (vs_one) ?_
                    rintro a4805 w4806 ha4809 hF4810 hB4807 g4808
                    rw [ha4809]; exact hK4791 undef _ trivial ⟨⟨.inl rfl, .inl rfl, .inl rfl, .inl rfl, .inl rfl, .inr (fun d v hd hv q => q), .inr (fun d v hd hv q => q), .inr (fun d v hd hv q => q), .inr (fun d v hd hv q => q), .inl rfl, .inr (fun d v hd hv q => by cases hd; rw [q4798] at hv; cases hv; exact ⟨_, rfl, hq4587, fun h => absurd h (by decide), fun _ => hB4807⟩), .inl rfl, .inl rfl, trivial⟩, Nat.le_trans hX4804 g4808.size, Heap.growB hS4789 hlt4588 g4808 hq4587 hsz4590, hh4582, hh4583⟩
                  · -- operation 12
                    rintro a4812 w4811 b4815 KK4821 hs4817 hd4818 hJ4819 hb4820 hr4822 hK4816
                    have hr4822x : RD SL4589 b4815 a4812 a4533 w4811 [(62, some 9)] := hr4822 _ (by kernel_rfl)
                    obtain ⟨⟨v4824, q4823, s4825⟩, -⟩ := hr4822x
                    obtain rfl : v4824 = .int .i64 ((x4579 : Nat) : Int) := s4825
                    have hF4813 : Fr 89 a4812 [(62, .int .i64 ((x4579 : Nat) : Int))] := Fr.of hs4817 hd4818 ⟨q4823, trivial⟩
                    refine s_pure hT (d := 7) (v := .int .i64 ((x4579 : Nat) : Int)) (cs := []) (by kernel_rfl) (by kernel_rfl) trivial hF4813 ?_
                    rintro a2 ha2 hF2; rw [ha2]
                    exact hK4816 _ _ rfl (grown_refl _ _)
                  · -- behind the region
                    rintro a4827 w4828 hs4829 hd4830 ⟨⟨v4833, q4834, s4835⟩, ⟨v4836, q4837, s4838⟩, q4839, q4840, q4841, q4842, -⟩ ⟨hX4832, hS4831, hh4582, hh4583⟩
                    obtain ⟨b4584, rfl, hq4587, hl4586, hl4586t⟩ := s4835
                    obtain rfl : v4836 = .int .i64 ((x4579 : Nat) : Int) := s4838
                    have hF4843 : Fr 89 a4827 [(6, .pointer (some ⟨b4584, 0, none⟩)), (7, .int .i64 ((x4579 : Nat) : Int)), (0, .slice pA0 xs0.length pc0), (3, .slice A30 zs27.length c31), (4, .pointer (some ⟨b3924, 0, none⟩)), (5, .int .i64 ((x4433 : Nat) : Int))] := Fr.of hs4829 hd4830 ⟨q4834, q4837, (Fr.init hF4537 q4839 (by kernel_rfl)), (Fr.init hF4537 q4840 (by kernel_rfl)), (Fr.init hF4537 q4841 (by kernel_rfl)), (Fr.init hF4537 q4842 (by kernel_rfl)), trivial⟩
                    clear hF4537 hS4518 hs4829 hd4830 q4834 q4837 q4839 q4840 q4841 q4842
                    have hS4844 : Heap w [] w4828 [.blk b4584 26 (vs .u64 zs4578), .row 5 1 A30 zs27.length c31 (vs .u8 zs27), .blk b3924 26 (vs .u64 zs4430)] := Heap.consX hS4831 (ids_of hlt4588 rfl) (hl4586t rfl) (fun k hk => by cases hk; exact hq4587) hsz4590
                    refine hK4571 _ _ ?_
                    refine wp_seq_k (fun K4851 hK4852 => ?_)
                    refine wp_seq_k (fun K4853 hK4854 => ?_)
                    refine wp_region_lit ?_
                    refine pu_end hT 2 _ hF4843 [6, 0, 3, 4, 5, 64] (G := [(6, .pointer (some ⟨b4584, 0, none⟩)), (0, .slice pA0 xs0.length pc0), (3, .slice A30 zs27.length c31), (4, .pointer (some ⟨b3924, 0, none⟩)), (5, .int .i64 ((x4433 : Nat) : Int)), (64, .bool (!(decide (((x4579 : Nat) : Int) = 0))))]) (cs := []) (by kernel_rfl) rfl trivial ?_; clear hF4843 a4827; intro a4855 hF4856
                    refine hK4854 _ _ ?_
                    rcases (ite_some h4580 : ((((x4579 : Nat) : Int) = 0) ∧ _) ∨ (¬ (((x4579 : Nat) : Int) = 0) ∧ _)) with ⟨hc4857, h4858⟩ | ⟨hc4857, h4858⟩
                    · clear h4580
                      have hF4859 : Fr 89 a4855 [(6, .pointer (some ⟨b4584, 0, none⟩)), (0, .slice pA0 xs0.length pc0), (3, .slice A30 zs27.length c31), (4, .pointer (some ⟨b3924, 0, none⟩)), (5, .int .i64 ((x4433 : Nat) : Int)), (64, .bool false)] := hF4856.pick [6, 0, 3, 4, 5, 64] (by rw [decide_eq_true hc4857]; kernel_rfl); clear hF4856
                      refine condF hF4859 (by kernel_rfl) ?_
                      refine wp_skip ?_
                      refine hK4852 _ _ ?_
                      refine wp_region_lit ?_
                      refine wl (s_loadA hT (d := 65) (b := b4584) (off := 0) (sz := 8) (l := vs .u64 zs4578) (by kernel_rfl) hF4859 (hS4844.blk 0 rfl).cells (by simp only [List.length_append, vs_length, vi_length, List.length_cons, List.length_nil, (hh4582 : zs4578.length = 8)]) ?_)
                      rintro a4860 ha4862 hF4861; clear ha4862 hF4859 a4855
                      have hF4863 := hF4861.pick [6, 0, 3, 4, 5, 65] (G := [(6, .pointer (some ⟨b4584, 0, none⟩)), (0, .slice pA0 xs0.length pc0), (3, .slice A30 zs27.length c31), (4, .pointer (some ⟨b3924, 0, none⟩)), (5, .int .i64 ((x4433 : Nat) : Int)), (65, .agg (vs .u64 zs4578).toArray)]) (by kernel_rfl); clear hF4861
                      refine wl (h_storeV hT (b := b3924) (l2 := vs .u64 zs4578) (sz := 8) (by kernel_rfl) hF4863 hS4844 2 rfl (by simp only [List.length_append, vs_length, vi_length, List.length_cons, List.length_nil, (hh4582 : zs4578.length = 8)]) (by simp only [List.length_append, vs_length, vi_length, List.length_cons, List.length_nil, (hh4582 : zs4578.length = 8), (hh4431 : zs4430.length = 8)]) (vs_one) ?_)
                      rintro a4864 w4865 ha4868 hF4869 hS4866 g4867; clear ha4868 hF4863 a4860 hS4844
                      have hS4870 : Heap w [] w4865 [.blk b4584 26 (vs .u64 zs4578), .row 5 1 A30 zs27.length c31 (vs .u8 zs27), .blk b3924 26 (vs .u64 zs4578)] := hS4866; clear hS4866
                      have hF4871 := hF4869.pick [6, 0, 3, 4, 5] (G := [(6, .pointer (some ⟨b4584, 0, none⟩)), (0, .slice pA0 xs0.length pc0), (3, .slice A30 zs27.length c31), (4, .pointer (some ⟨b3924, 0, none⟩)), (5, .int .i64 ((x4433 : Nat) : Int))]) (by kernel_rfl); clear hF4869
                      refine wpList_nil ?_
                      refine hK4569 _ _ ?_
                      refine wp_region_lit ?_
                      refine pu_end hT 3 _ hF4871 [6, 0, 3, 4, 5] (G := [(6, .pointer (some ⟨b4584, 0, none⟩)), (0, .slice pA0 xs0.length pc0), (3, .slice A30 zs27.length c31), (4, .pointer (some ⟨b3924, 0, none⟩)), (5, .int .i64 (((x4433 + 128) : Nat) : Int))]) (cs := [-9223372036854775808 ≤ (((x4433 + 128) : Nat) : Int), (((x4433 + 128) : Nat) : Int) ≤ 9223372036854775807]) (by kernel_rfl) rfl (And.intro (by omega) (And.intro g4532 trivial)) ?_; clear hF4871 a4864; intro a4872 hF4873
                      obtain rfl := Option.some.inj h4858
                      exact hK4512 _ _ _ hy4511 ⟨zs4578, (x4433 + 128), rfl, hF4873.pick [0, 3, 4, 5] (by kernel_rfl), hS4870.pick [1, 2] (by decide) rfl, hh4582, hh4583⟩
                    · clear h4580
                      have hF4874 : Fr 89 a4855 [(6, .pointer (some ⟨b4584, 0, none⟩)), (0, .slice pA0 xs0.length pc0), (3, .slice A30 zs27.length c31), (4, .pointer (some ⟨b3924, 0, none⟩)), (5, .int .i64 ((x4433 : Nat) : Int)), (64, .bool true)] := hF4856.pick [6, 0, 3, 4, 5, 64] (by rw [decide_eq_false hc4857]; kernel_rfl); clear hF4856
                      refine condT hF4874 (by kernel_rfl) ?_
                      refine wp_seq_k (fun K4875 hK4876 => ?_)
                      refine wp_region_lit ?_
                      refine pu_end hT 1 _ hF4874 [2] (G := [(2, .bool false)]) (cs := []) (by kernel_rfl) rfl trivial ?_; clear hF4874 a4855; intro a4877 hF4878
                      refine hK4876 _ _ ?_
                      refine wp_ret ?_
                      obtain rfl := Option.some.inj h4858
                      obtain rfl : _ = xj4273 := hy4511
                      obtain rfl := Option.some.inj (show some _ = some _ from h4275)
                      exact absurd hr0 (by decide)
                · clear h4531
                  have hF4879 : Fr 89 a4533 [(0, .slice pA0 xs0.length pc0), (3, .slice A30 zs27.length c31), (4, .pointer (some ⟨b3924, 0, none⟩)), (5, .int .i64 ((x4433 : Nat) : Int)), (50, .bool false)] := hF4534.pick [0, 3, 4, 5, 50] (by rw [decide_eq_false hc4535]; kernel_rfl); clear hF4534
                  refine condF hF4879 (by kernel_rfl) ?_
                  refine wp_exit ?_
                  obtain rfl := Option.some.inj h4536
                  obtain rfl : _ = xj4273 := hy4511
                  exact ⟨zs4430, rfl, hF4879.pick [0, 4] (by kernel_rfl), hS4518.pick [1] (by decide) rfl, hh4431, hh4432⟩
              · skip
                clear hx4274 hF3949 hS3948 
                rintro a4880 w4881 ⟨zs4270, rfl, hF4882, hS4883, hh4271, hh4272⟩
                refine wp_seq_k (fun K4885 hK4886 => ?_)
                obtain ⟨zs4889, hr4891, h4890⟩ := bnd_some h4275; clear h4275; replace hr4891 : F_sha512_Sum [xs0] = some (zs4889) := hr4891
                refine wp_region_lit ?_
                refine pu hT 1 _ hF4882 [4, 66] (G := [(4, .pointer (some ⟨b3924, 0, none⟩)), (66, .slice pA0 xs0.length pc0)]) (cs := []) (by kernel_rfl) trivial ?_; clear hF4882 a4880; intro a4896 hF4897
                refine wl (h_lit hT (d := 67) (T := 29) (l := [.slice pA0 xs0.length pc0]) (by kernel_rfl) hF4897 hS4883 (by simp [maxLen]) ?_)
                rintro a4898 w4899 A4887 hS4900 g4901 ha4902 hF4903; clear ha4902 hF4897 a4896 hS4883
                have hS4904 : Heap w [] w4899 [.row 29 1 A4887 1 1 ([.slice pA0 xs0.length pc0]), .blk b3924 26 (vs .u64 zs4270)] := hS4900; clear hS4900
                have hF4905 := hF4903.pick [4, 67] (G := [(4, .pointer (some ⟨b3924, 0, none⟩)), (67, .slice A4887 1 1)]) (by kernel_rfl); clear hF4903
                refine wl (s_call (d := 68) (f := 20) (l := [.slice A4887 1 1]) (by kernel_rfl) hF4905 cl20 (W_sha512_Sum A4887 1 [(pA0, pc0)] [xs0] _ (hS4904.own 0 rfl).rd (by simp) ⟨⟨(hS4904.rd0 pR0), pb0, (by have := pc_0; have := (Eq.refl xs0.length); skip; have := (Eq.refl xs0.length); omega)⟩, trivial⟩ zs4889 hr4891) ?_)
                rintro a4906 w4907 v4908 ⟨rfl, hh4892, hh4893, hC4909⟩ ha4910 hF4911; clear ha4910 hF4905 a4898
                have hS4912 : Heap w [] w4907 [.row 29 1 A4887 1 1 ([.slice pA0 xs0.length pc0]), .blk b3924 26 (vs .u64 zs4270)] := Heap.call hS4904 hC4909; clear hS4904
                have hF4913 := hF4911.pick [4, 68] (G := [(4, .pointer (some ⟨b3924, 0, none⟩)), (68, .agg (vs .u8 zs4889).toArray)]) (by kernel_rfl); clear hF4911
                refine wl (h_alloc hT (d := 8) (T := 30) (l := vs .u8 (List.replicate 64 0)) (by kernel_rfl) hF4913 hS4912 ?_)
                rintro a4914 w4915 b4894 hS4916 g4917 ha4918 hF4919; clear ha4918 hF4913 a4906 hS4912
                have hS4920 : Heap w [] w4915 [.blk b4894 30 (vs .u8 (List.replicate 64 0)), .row 29 1 A4887 1 1 ([.slice pA0 xs0.length pc0]), .blk b3924 26 (vs .u64 zs4270)] := hS4916; clear hS4916
                have hF4921 := hF4919.pick [4, 68, 8] (G := [(4, .pointer (some ⟨b3924, 0, none⟩)), (68, .agg (vs .u8 zs4889).toArray), (8, .pointer (some ⟨b4894, 0, none⟩))]) (by kernel_rfl); clear hF4919
                refine wl (h_storeV hT (b := b4894) (l2 := vs .u8 zs4889) (sz := 64) (by kernel_rfl) hF4921 hS4920 0 rfl (by simp only [List.length_append, vs_length, vi_length, List.length_cons, List.length_nil, (hh4892 : zs4889.length = 64)]) (by simp only [List.length_append, vs_length, vi_length, List.length_cons, List.length_nil, (hh4892 : zs4889.length = 64), ((len_rep (α := Nat) 64 0) : (List.replicate 64 0).length = 64)]) (vs_one) ?_)
                rintro a4922 w4923 ha4926 hF4927 hS4924 g4925; clear ha4926 hF4921 a4914 hS4920
                have hS4928 : Heap w [] w4923 [.blk b4894 30 (vs .u8 zs4889), .row 29 1 A4887 1 1 ([.slice pA0 xs0.length pc0]), .blk b3924 26 (vs .u64 zs4270)] := hS4924; clear hS4924
                have hF4929 := hF4927.pick [4, 8] (G := [(4, .pointer (some ⟨b3924, 0, none⟩)), (8, .pointer (some ⟨b4894, 0, none⟩))]) (by kernel_rfl); clear hF4927
                refine wpList_nil ?_
                refine hK4886 _ _ ?_
                obtain ⟨xj5125, hx5126, h5127⟩ := bnd_some h4890; clear h4890
                refine seqJ (fun a W => (.inl ()) = xj5125 ∧ (Fr 89 a []) ∧ (Heap w [] W [])) ?_ ?_
                · skip
                  refine wp_seq_k (fun K5128 hK5129 => ?_)
                  refine wp_region_lit ?_
                  refine pu_end hT 1 _ hF4929 [4, 8, 9] (G := [(4, .pointer (some ⟨b3924, 0, none⟩)), (8, .pointer (some ⟨b4894, 0, none⟩)), (9, .int .i64 0)]) (cs := []) (by kernel_rfl) rfl trivial ?_; clear hF4929 a4922; intro a5130 hF5131
                  refine hK5129 _ _ ?_
                  refine wp_block ?_
                  refine loopR (F_casematelaw14_Sha512Steps_l2 zs4889 zs4270) xj5125 0 hx5126 (fun s a W => ∃ (x5221 : Nat), x5221 = s ∧ (Fr 89 a [(4, .pointer (some ⟨b3924, 0, none⟩)), (8, .pointer (some ⟨b4894, 0, none⟩)), (9, .int .i64 ((x5221 : Nat) : Int))]) ∧ (Heap w [] W [.blk b3924 26 (vs .u64 zs4270), .blk b4894 30 (vs .u8 zs4889)])) ⟨0, rfl, hF5131.pick [4, 8, 9] (by kernel_rfl), hS4928.pick [2, 0] (by decide) rfl⟩ ?_
                  clear hF5131 hS4928 hx5126
                  rintro k5278 _ a5273 w5274 ⟨x5221, rfl, hF5275, hS5276⟩ hit5272 K5271 hK5270
                  obtain ⟨y5268, h5277, hy5269⟩ := iter_succ hit5272; clear hit5272
                  unfold F_casematelaw14_Sha512Steps_l2 at h5277; try dsimp only at h5277
                  refine wp_seq_k (fun K5283 hK5284 => ?_)
                  refine wp_seq_k (fun K5285 hK5286 => ?_)
                  refine wp_region_lit ?_
                  refine pu_end hT 2 _ hF5275 [4, 8, 9, 70] (G := [(4, .pointer (some ⟨b3924, 0, none⟩)), (8, .pointer (some ⟨b4894, 0, none⟩)), (9, .int .i64 ((x5221 : Nat) : Int)), (70, .bool ((decide (((x5221 : Nat) : Int) < 64))))]) (cs := []) (by kernel_rfl) rfl trivial ?_; clear hF5275 a5273; intro a5287 hF5288
                  refine hK5286 _ _ ?_
                  rcases (ite_some h5277 : ((((x5221 : Nat) : Int) < 64) ∧ _) ∨ (¬ (((x5221 : Nat) : Int) < 64) ∧ _)) with ⟨hc5289, h5290⟩ | ⟨hc5289, h5290⟩
                  · clear h5277
                    have hF5291 : Fr 89 a5287 [(4, .pointer (some ⟨b3924, 0, none⟩)), (8, .pointer (some ⟨b4894, 0, none⟩)), (9, .int .i64 ((x5221 : Nat) : Int)), (70, .bool true)] := hF5288.pick [4, 8, 9, 70] (by rw [decide_eq_true hc5289]; kernel_rfl); clear hF5288
                    refine condT hF5291 (by kernel_rfl) ?_
                    refine wp_skip ?_
                    refine hK5284 _ _ ?_
                    refine wp_seq_k (fun K5308 hK5309 => ?_)
                    refine wp_block ?_
                    refine wp_seq_k (fun K5310 hK5311 => ?_)
                    obtain ⟨g5313, h5312⟩ : (((x5221 : Nat) : Int) ≤ 9223372036854775807) ∧ _ := gd_some h5290; clear h5290
                    obtain ⟨g5315, h5314⟩ : ((((x5221 / 8) : Nat) : Int) < 8) ∧ _ := gd_some h5312; clear h5312
                    obtain ⟨g5317, h5316⟩ : ((((8 * (x5221 % 8)) : Nat) : Int) ≤ 9223372036854775807) ∧ _ := gd_some h5314; clear h5314
                    obtain ⟨g5319, h5318⟩ : (-9223372036854775808 ≤ ((56 : Int) - (((8 * (x5221 % 8)) : Nat) : Int))) ∧ _ := gd_some h5316; clear h5316
                    obtain ⟨g5321, h5320⟩ : (((56 : Int) - (((8 * (x5221 % 8)) : Nat) : Int)) ≤ 9223372036854775807) ∧ _ := gd_some h5318; clear h5318
                    have hlt5322 := hS5276.ids
                    have hsz5324 := hS5276.size
                    let SL5323 : List SP := [SP.val (.int .i64 ((x5221 : Nat) : Int)), SP.val (.pointer (some ⟨b4894, (0 + x5221), none⟩)), SP.val (.int .u8 (((zs4889.getD x5221 0) : Nat) : Int)), SP.val (.int .i64 ((x5221 : Nat) : Int)), SP.val (.int .i64 (((x5221 / 8) : Nat) : Int)), SP.val (.pointer (some ⟨b3924, (0 + (x5221 / 8)), none⟩)), SP.val (.int .u64 (((zs4270.getD (x5221 / 8) 0) : Nat) : Int)), SP.val (.int .i64 ((x5221 : Nat) : Int)), SP.val (.int .i64 (((x5221 % 8) : Nat) : Int)), SP.val (.int .i64 (((8 * (x5221 % 8)) : Nat) : Int)), SP.val (.int .i64 ((56 : Int) - (((8 * (x5221 % 8)) : Nat) : Int))), SP.val (.int .u64 (((((56 : Int) - (((8 * (x5221 % 8)) : Nat) : Int)) % 18446744073709551616).toNat : Nat) : Int)), SP.val (.int .u64 ((((zs4270.getD (x5221 / 8) 0) / 2 ^ ((((56 : Int) - (((8 * (x5221 % 8)) : Nat) : Int)) % 18446744073709551616).toNat)) : Nat) : Int)), SP.val (.int .u8 (((((zs4270.getD (x5221 / 8) 0) / 2 ^ ((((56 : Int) - (((8 * (x5221 % 8)) : Nat) : Int)) % 18446744073709551616).toNat)) % 256) : Nat) : Int)), SP.val (.bool (!(decide ((((zs4889.getD x5221 0) : Nat) : Int) = (((((zs4270.getD (x5221 / 8) 0) / 2 ^ ((((56 : Int) - (((8 * (x5221 % 8)) : Nat) : Int)) % 18446744073709551616).toNat)) % 256) : Nat) : Int)))))]
                    refine region_rel (SL := SL5323) (J := (fun (B : Bool) (W : World) => w5274.heap.size ≤ W.heap.size ∧ Heap w [] W [.blk b3924 26 (vs .u64 zs4270), .blk b4894 30 (vs .u8 zs4889)])) (m := 15) wide (by kernel_rfl) (by kernel_rfl) hF5291 rfl ?_ ⟨Nat.le_refl _, hS5276⟩ ⟨?_, ?_, ?_, ?_, ?_, ?_, ?_, ?_, ?_, ?_, ?_, ?_, ?_, ?_, ?_, trivial⟩ [(87, some 14), (4, none), (8, none), (9, none)] (by kernel_rfl) ?_
                    · intro b W W' hj g; exact ⟨Nat.le_trans hj.1 g.size, hj.2.growN g⟩
                    · -- operation 0
                      rintro a5326 w5325 b5329 KK5335 hs5331 hd5332 hJ5333 hb5334 hr5336 hK5330
                      have hr5336x : RD SL5323 b5329 a5326 a5287 w5325 [(9, none)] := hr5336 _ (by kernel_rfl)
                      obtain ⟨q5337, -⟩ := hr5336x
                      obtain ⟨hX5338, hS5328⟩ := hJ5333
                      have hF5327 : Fr 89 a5326 [(9, .int .i64 ((x5221 : Nat) : Int))] := Fr.of hs5331 hd5332 ⟨(Fr.init hF5291 q5337 (by kernel_rfl)), trivial⟩
                      refine s_pure hT (d := 73) (v := .int .i64 ((x5221 : Nat) : Int)) (cs := []) (by kernel_rfl) (by kernel_rfl) trivial hF5327 ?_
                      rintro a2 ha2 hF2; rw [ha2]
                      exact hK5330 _ _ rfl (grown_refl _ _)
                    · -- operation 1
                      rintro a5340 w5339 b5343 KK5349 hs5345 hd5346 hJ5347 hb5348 hr5350 hK5344
                      have hr5350x : RD SL5323 b5343 a5340 a5287 w5339 [(8, none), (73, some 0)] := hr5350 _ (by kernel_rfl)
                      obtain ⟨q5351, ⟨v5353, q5352, s5354⟩, -⟩ := hr5350x
                      obtain rfl : v5353 = .int .i64 ((x5221 : Nat) : Int) := s5354
                      obtain ⟨hX5355, hS5342⟩ := hJ5347
                      have hF5341 : Fr 89 a5340 [(8, .pointer (some ⟨b4894, 0, none⟩)), (73, .int .i64 ((x5221 : Nat) : Int))] := Fr.of hs5345 hd5346 ⟨(Fr.init hF5291 q5351 (by kernel_rfl)), q5352, trivial⟩
                      refine s_pure hT (d := 74) (v := .pointer (some ⟨b4894, (0 + x5221), none⟩)) (cs := [0 ≤ ((x5221 : Nat) : Int), ((x5221 : Nat) : Int) < 64]) (by kernel_rfl) (by kernel_rfl) (And.intro (by omega) (And.intro hc5289 trivial)) hF5341 ?_
                      rintro a2 ha2 hF2; rw [ha2]
                      exact hK5344 _ _ rfl (grown_refl _ _)
                    · -- operation 2
                      rintro a5357 w5356 b5360 KK5366 hs5362 hd5363 hJ5364 hb5365 hr5367 hK5361
                      have hr5367x : RD SL5323 b5360 a5357 a5287 w5356 [(74, some 1)] := hr5367 _ (by kernel_rfl)
                      obtain ⟨⟨v5369, q5368, s5370⟩, -⟩ := hr5367x
                      obtain rfl : v5369 = .pointer (some ⟨b4894, (0 + x5221), none⟩) := s5370
                      obtain ⟨hX5371, hS5359⟩ := hJ5364
                      have hF5358 : Fr 89 a5357 [(74, .pointer (some ⟨b4894, (0 + x5221), none⟩))] := Fr.of hs5362 hd5363 ⟨q5368, trivial⟩
                      refine s_load hT (d := 75) (A := ⟨b4894, (0 + x5221), none⟩) (v := .int .u8 (((zs4889.getD x5221 0) : Nat) : Int)) (by kernel_rfl) hF5358 (Cells.at (hS5359.blk 1 rfl).cells (vs_get .u8 zs4889 (i := x5221) (by have := hh4892; omega)) (by first | rfl | omega)) ?_
                      rintro a5372 ha5374 hF5373
                      rw [ha5374]
                      exact hK5361 _ _ rfl (grown_refl _ _)
                    · -- operation 3
                      rintro a5376 w5375 b5379 KK5385 hs5381 hd5382 hJ5383 hb5384 hr5386 hK5380
                      have hr5386x : RD SL5323 b5379 a5376 a5287 w5375 [(9, none)] := hr5386 _ (by kernel_rfl)
                      obtain ⟨q5387, -⟩ := hr5386x
                      obtain ⟨hX5388, hS5378⟩ := hJ5383
                      have hF5377 : Fr 89 a5376 [(9, .int .i64 ((x5221 : Nat) : Int))] := Fr.of hs5381 hd5382 ⟨(Fr.init hF5291 q5387 (by kernel_rfl)), trivial⟩
                      refine s_pure hT (d := 76) (v := .int .i64 ((x5221 : Nat) : Int)) (cs := []) (by kernel_rfl) (by kernel_rfl) trivial hF5377 ?_
                      rintro a2 ha2 hF2; rw [ha2]
                      exact hK5380 _ _ rfl (grown_refl _ _)
                    · -- operation 4
                      rintro a5390 w5389 b5393 KK5399 hs5395 hd5396 hJ5397 hb5398 hr5400 hK5394
                      have hr5400x : RD SL5323 b5393 a5390 a5287 w5389 [(76, some 3)] := hr5400 _ (by kernel_rfl)
                      obtain ⟨⟨v5402, q5401, s5403⟩, -⟩ := hr5400x
                      obtain rfl : v5402 = .int .i64 ((x5221 : Nat) : Int) := s5403
                      obtain ⟨hX5404, hS5392⟩ := hJ5397
                      have hF5391 : Fr 89 a5390 [(76, .int .i64 ((x5221 : Nat) : Int))] := Fr.of hs5395 hd5396 ⟨q5401, trivial⟩
                      refine s_pure hT (d := 77) (v := .int .i64 (((x5221 / 8) : Nat) : Int)) (cs := [0 ≤ ((x5221 : Nat) : Int), ((x5221 : Nat) : Int) ≤ 9223372036854775807, 0 < (8 : Int)]) (by kernel_rfl) (by kernel_rfl) (And.intro (by omega) (And.intro g5313 (And.intro (by decide) trivial))) hF5391 ?_
                      rintro a2 ha2 hF2; rw [ha2]
                      exact hK5394 _ _ rfl (grown_refl _ _)
                    · -- operation 5
                      rintro a5406 w5405 b5409 KK5415 hs5411 hd5412 hJ5413 hb5414 hr5416 hK5410
                      have hr5416x : RD SL5323 b5409 a5406 a5287 w5405 [(4, none), (77, some 4)] := hr5416 _ (by kernel_rfl)
                      obtain ⟨q5417, ⟨v5419, q5418, s5420⟩, -⟩ := hr5416x
                      obtain rfl : v5419 = .int .i64 (((x5221 / 8) : Nat) : Int) := s5420
                      obtain ⟨hX5421, hS5408⟩ := hJ5413
                      have hF5407 : Fr 89 a5406 [(4, .pointer (some ⟨b3924, 0, none⟩)), (77, .int .i64 (((x5221 / 8) : Nat) : Int))] := Fr.of hs5411 hd5412 ⟨(Fr.init hF5291 q5417 (by kernel_rfl)), q5418, trivial⟩
                      refine s_pure hT (d := 78) (v := .pointer (some ⟨b3924, (0 + (x5221 / 8)), none⟩)) (cs := [0 ≤ (((x5221 / 8) : Nat) : Int), (((x5221 / 8) : Nat) : Int) < 8]) (by kernel_rfl) (by kernel_rfl) (And.intro (by omega) (And.intro g5315 trivial)) hF5407 ?_
                      rintro a2 ha2 hF2; rw [ha2]
                      exact hK5410 _ _ rfl (grown_refl _ _)
                    · -- operation 6
                      rintro a5423 w5422 b5426 KK5432 hs5428 hd5429 hJ5430 hb5431 hr5433 hK5427
                      have hr5433x : RD SL5323 b5426 a5423 a5287 w5422 [(78, some 5)] := hr5433 _ (by kernel_rfl)
                      obtain ⟨⟨v5435, q5434, s5436⟩, -⟩ := hr5433x
                      obtain rfl : v5435 = .pointer (some ⟨b3924, (0 + (x5221 / 8)), none⟩) := s5436
                      obtain ⟨hX5437, hS5425⟩ := hJ5430
                      have hF5424 : Fr 89 a5423 [(78, .pointer (some ⟨b3924, (0 + (x5221 / 8)), none⟩))] := Fr.of hs5428 hd5429 ⟨q5434, trivial⟩
                      refine s_load hT (d := 79) (A := ⟨b3924, (0 + (x5221 / 8)), none⟩) (v := .int .u64 (((zs4270.getD (x5221 / 8) 0) : Nat) : Int)) (by kernel_rfl) hF5424 (Cells.at (hS5425.blk 0 rfl).cells (vs_get .u64 zs4270 (i := (x5221 / 8)) (by have := hh4271; omega)) (by first | rfl | omega)) ?_
                      rintro a5438 ha5440 hF5439
                      rw [ha5440]
                      exact hK5427 _ _ rfl (grown_refl _ _)
                    · -- operation 7
                      rintro a5442 w5441 b5445 KK5451 hs5447 hd5448 hJ5449 hb5450 hr5452 hK5446
                      have hr5452x : RD SL5323 b5445 a5442 a5287 w5441 [(9, none)] := hr5452 _ (by kernel_rfl)
                      obtain ⟨q5453, -⟩ := hr5452x
                      obtain ⟨hX5454, hS5444⟩ := hJ5449
                      have hF5443 : Fr 89 a5442 [(9, .int .i64 ((x5221 : Nat) : Int))] := Fr.of hs5447 hd5448 ⟨(Fr.init hF5291 q5453 (by kernel_rfl)), trivial⟩
                      refine s_pure hT (d := 80) (v := .int .i64 ((x5221 : Nat) : Int)) (cs := []) (by kernel_rfl) (by kernel_rfl) trivial hF5443 ?_
                      rintro a2 ha2 hF2; rw [ha2]
                      exact hK5446 _ _ rfl (grown_refl _ _)
                    · -- operation 8
                      rintro a5456 w5455 b5459 KK5465 hs5461 hd5462 hJ5463 hb5464 hr5466 hK5460
                      have hr5466x : RD SL5323 b5459 a5456 a5287 w5455 [(80, some 7)] := hr5466 _ (by kernel_rfl)
                      obtain ⟨⟨v5468, q5467, s5469⟩, -⟩ := hr5466x
                      obtain rfl : v5468 = .int .i64 ((x5221 : Nat) : Int) := s5469
                      obtain ⟨hX5470, hS5458⟩ := hJ5463
                      have hF5457 : Fr 89 a5456 [(80, .int .i64 ((x5221 : Nat) : Int))] := Fr.of hs5461 hd5462 ⟨q5467, trivial⟩
                      refine s_pure hT (d := 81) (v := .int .i64 (((x5221 % 8) : Nat) : Int)) (cs := [0 ≤ ((x5221 : Nat) : Int), 0 < (8 : Int)]) (by kernel_rfl) (by kernel_rfl) (And.intro (by omega) (And.intro (by decide) trivial)) hF5457 ?_
                      rintro a2 ha2 hF2; rw [ha2]
                      exact hK5460 _ _ rfl (grown_refl _ _)
                    · -- operation 9
                      rintro a5472 w5471 b5475 KK5481 hs5477 hd5478 hJ5479 hb5480 hr5482 hK5476
                      have hr5482x : RD SL5323 b5475 a5472 a5287 w5471 [(81, some 8)] := hr5482 _ (by kernel_rfl)
                      obtain ⟨⟨v5484, q5483, s5485⟩, -⟩ := hr5482x
                      obtain rfl : v5484 = .int .i64 (((x5221 % 8) : Nat) : Int) := s5485
                      obtain ⟨hX5486, hS5474⟩ := hJ5479
                      have hF5473 : Fr 89 a5472 [(81, .int .i64 (((x5221 % 8) : Nat) : Int))] := Fr.of hs5477 hd5478 ⟨q5483, trivial⟩
                      refine s_pure hT (d := 82) (v := .int .i64 (((8 * (x5221 % 8)) : Nat) : Int)) (cs := [-9223372036854775808 ≤ (((8 * (x5221 % 8)) : Nat) : Int), (((8 * (x5221 % 8)) : Nat) : Int) ≤ 9223372036854775807]) (by kernel_rfl) (by kernel_rfl) (And.intro (Int.le_trans (by decide) (Int.natCast_nonneg _)) (And.intro g5317 trivial)) hF5473 ?_
                      rintro a2 ha2 hF2; rw [ha2]
                      exact hK5476 _ _ rfl (grown_refl _ _)
                    · -- operation 10
                      rintro a5488 w5487 b5491 KK5497 hs5493 hd5494 hJ5495 hb5496 hr5498 hK5492
                      have hr5498x : RD SL5323 b5491 a5488 a5287 w5487 [(82, some 9)] := hr5498 _ (by kernel_rfl)
                      obtain ⟨⟨v5500, q5499, s5501⟩, -⟩ := hr5498x
                      obtain rfl : v5500 = .int .i64 (((8 * (x5221 % 8)) : Nat) : Int) := s5501
                      obtain ⟨hX5502, hS5490⟩ := hJ5495
                      have hF5489 : Fr 89 a5488 [(82, .int .i64 (((8 * (x5221 % 8)) : Nat) : Int))] := Fr.of hs5493 hd5494 ⟨q5499, trivial⟩
                      refine s_pure hT (d := 83) (v := .int .i64 ((56 : Int) - (((8 * (x5221 % 8)) : Nat) : Int))) (cs := [-9223372036854775808 ≤ ((56 : Int) - (((8 * (x5221 % 8)) : Nat) : Int)), ((56 : Int) - (((8 * (x5221 % 8)) : Nat) : Int)) ≤ 9223372036854775807]) (by kernel_rfl) (by kernel_rfl) (And.intro g5319 (And.intro g5321 trivial)) hF5489 ?_
                      rintro a2 ha2 hF2; rw [ha2]
                      exact hK5492 _ _ rfl (grown_refl _ _)
                    · -- operation 11
                      rintro a5504 w5503 b5507 KK5513 hs5509 hd5510 hJ5511 hb5512 hr5514 hK5508
                      have hr5514x : RD SL5323 b5507 a5504 a5287 w5503 [(83, some 10)] := hr5514 _ (by kernel_rfl)
                      obtain ⟨⟨v5516, q5515, s5517⟩, -⟩ := hr5514x
                      obtain rfl : v5516 = .int .i64 ((56 : Int) - (((8 * (x5221 % 8)) : Nat) : Int)) := s5517
                      obtain ⟨hX5518, hS5506⟩ := hJ5511
                      have hF5505 : Fr 89 a5504 [(83, .int .i64 ((56 : Int) - (((8 * (x5221 % 8)) : Nat) : Int)))] := Fr.of hs5509 hd5510 ⟨q5515, trivial⟩
                      refine s_conv64 hT (d := 84) (x := ((56 : Int) - (((8 * (x5221 % 8)) : Nat) : Int))) (y := (((56 : Int) - (((8 * (x5221 % 8)) : Nat) : Int)) % 18446744073709551616).toNat) (by kernel_rfl) hF5505 (by omega) ?_
                      rintro a5519 ha5521 hF5520
                      rw [ha5521]
                      exact hK5508 _ _ rfl (grown_refl _ _)
                    · -- operation 12
                      rintro a5523 w5522 b5526 KK5532 hs5528 hd5529 hJ5530 hb5531 hr5533 hK5527
                      have hr5533x : RD SL5323 b5526 a5523 a5287 w5522 [(79, some 6), (84, some 11)] := hr5533 _ (by kernel_rfl)
                      obtain ⟨⟨v5535, q5534, s5536⟩, ⟨v5538, q5537, s5539⟩, -⟩ := hr5533x
                      obtain rfl : v5535 = .int .u64 (((zs4270.getD (x5221 / 8) 0) : Nat) : Int) := s5536
                      obtain rfl : v5538 = .int .u64 (((((56 : Int) - (((8 * (x5221 % 8)) : Nat) : Int)) % 18446744073709551616).toNat : Nat) : Int) := s5539
                      obtain ⟨hX5540, hS5525⟩ := hJ5530
                      have hF5524 : Fr 89 a5523 [(79, .int .u64 (((zs4270.getD (x5221 / 8) 0) : Nat) : Int)), (84, .int .u64 (((((56 : Int) - (((8 * (x5221 % 8)) : Nat) : Int)) % 18446744073709551616).toNat : Nat) : Int))] := Fr.of hs5528 hd5529 ⟨q5534, q5537, trivial⟩
                      refine s_pure hT (d := 85) (v := .int .u64 ((((zs4270.getD (x5221 / 8) 0) / 2 ^ ((((56 : Int) - (((8 * (x5221 % 8)) : Nat) : Int)) % 18446744073709551616).toNat)) : Nat) : Int)) (cs := [(zs4270.getD (x5221 / 8) 0) < 18446744073709551616]) (by kernel_rfl) (by kernel_rfl) (And.intro (hh4272.get (by decide) (x5221 / 8)) trivial) hF5524 ?_
                      rintro a2 ha2 hF2; rw [ha2]
                      exact hK5527 _ _ rfl (grown_refl _ _)
                    · -- operation 13
                      rintro a5542 w5541 b5545 KK5551 hs5547 hd5548 hJ5549 hb5550 hr5552 hK5546
                      have hr5552x : RD SL5323 b5545 a5542 a5287 w5541 [(85, some 12)] := hr5552 _ (by kernel_rfl)
                      obtain ⟨⟨v5554, q5553, s5555⟩, -⟩ := hr5552x
                      obtain rfl : v5554 = .int .u64 ((((zs4270.getD (x5221 / 8) 0) / 2 ^ ((((56 : Int) - (((8 * (x5221 % 8)) : Nat) : Int)) % 18446744073709551616).toNat)) : Nat) : Int) := s5555
                      obtain ⟨hX5556, hS5544⟩ := hJ5549
                      have hF5543 : Fr 89 a5542 [(85, .int .u64 ((((zs4270.getD (x5221 / 8) 0) / 2 ^ ((((56 : Int) - (((8 * (x5221 % 8)) : Nat) : Int)) % 18446744073709551616).toNat)) : Nat) : Int))] := Fr.of hs5547 hd5548 ⟨q5553, trivial⟩
                      refine s_pure hT (d := 86) (v := .int .u8 (((((zs4270.getD (x5221 / 8) 0) / 2 ^ ((((56 : Int) - (((8 * (x5221 % 8)) : Nat) : Int)) % 18446744073709551616).toNat)) % 256) : Nat) : Int)) (cs := []) (by kernel_rfl) (by kernel_rfl) trivial hF5543 ?_
                      rintro a2 ha2 hF2; rw [ha2]
                      exact hK5546 _ _ rfl (grown_refl _ _)
                    · -- operation 14
                      rintro a5558 w5557 b5561 KK5567 hs5563 hd5564 hJ5565 hb5566 hr5568 hK5562
                      have hr5568x : RD SL5323 b5561 a5558 a5287 w5557 [(75, some 2), (86, some 13)] := hr5568 _ (by kernel_rfl)
                      obtain ⟨⟨v5570, q5569, s5571⟩, ⟨v5573, q5572, s5574⟩, -⟩ := hr5568x
                      obtain rfl : v5570 = .int .u8 (((zs4889.getD x5221 0) : Nat) : Int) := s5571
                      obtain rfl : v5573 = .int .u8 (((((zs4270.getD (x5221 / 8) 0) / 2 ^ ((((56 : Int) - (((8 * (x5221 % 8)) : Nat) : Int)) % 18446744073709551616).toNat)) % 256) : Nat) : Int) := s5574
                      obtain ⟨hX5575, hS5560⟩ := hJ5565
                      have hF5559 : Fr 89 a5558 [(75, .int .u8 (((zs4889.getD x5221 0) : Nat) : Int)), (86, .int .u8 (((((zs4270.getD (x5221 / 8) 0) / 2 ^ ((((56 : Int) - (((8 * (x5221 % 8)) : Nat) : Int)) % 18446744073709551616).toNat)) % 256) : Nat) : Int))] := Fr.of hs5563 hd5564 ⟨q5569, q5572, trivial⟩
                      refine s_pure hT (d := 87) (v := .bool (!(decide ((((zs4889.getD x5221 0) : Nat) : Int) = (((((zs4270.getD (x5221 / 8) 0) / 2 ^ ((((56 : Int) - (((8 * (x5221 % 8)) : Nat) : Int)) % 18446744073709551616).toNat)) % 256) : Nat) : Int))))) (cs := []) (by kernel_rfl) (by kernel_rfl) trivial hF5559 ?_
                      rintro a2 ha2 hF2; rw [ha2]
                      exact hK5562 _ _ rfl (grown_refl _ _)
                    · -- behind the region
                      rintro a5576 w5577 hs5578 hd5579 ⟨⟨v5582, q5583, s5584⟩, q5585, q5586, q5587, -⟩ ⟨hX5581, hS5580⟩
                      obtain rfl : v5582 = .bool (!(decide ((((zs4889.getD x5221 0) : Nat) : Int) = (((((zs4270.getD (x5221 / 8) 0) / 2 ^ ((((56 : Int) - (((8 * (x5221 % 8)) : Nat) : Int)) % 18446744073709551616).toNat)) % 256) : Nat) : Int)))) := s5584
                      have hF5588 : Fr 89 a5576 [(87, .bool (!(decide ((((zs4889.getD x5221 0) : Nat) : Int) = (((((zs4270.getD (x5221 / 8) 0) / 2 ^ ((((56 : Int) - (((8 * (x5221 % 8)) : Nat) : Int)) % 18446744073709551616).toNat)) % 256) : Nat) : Int))))), (4, .pointer (some ⟨b3924, 0, none⟩)), (8, .pointer (some ⟨b4894, 0, none⟩)), (9, .int .i64 ((x5221 : Nat) : Int))] := Fr.of hs5578 hd5579 ⟨q5583, (Fr.init hF5291 q5585 (by kernel_rfl)), (Fr.init hF5291 q5586 (by kernel_rfl)), (Fr.init hF5291 q5587 (by kernel_rfl)), trivial⟩
                      clear hF5291 hS5276 hs5578 hd5579 q5583 q5585 q5586 q5587
                      refine hK5311 _ _ ?_
                      rcases (ite_some h5320 : (((((zs4889.getD x5221 0) : Nat) : Int) = (((((zs4270.getD (x5221 / 8) 0) / 2 ^ ((((56 : Int) - (((8 * (x5221 % 8)) : Nat) : Int)) % 18446744073709551616).toNat)) % 256) : Nat) : Int)) ∧ _) ∨ (¬ ((((zs4889.getD x5221 0) : Nat) : Int) = (((((zs4270.getD (x5221 / 8) 0) / 2 ^ ((((56 : Int) - (((8 * (x5221 % 8)) : Nat) : Int)) % 18446744073709551616).toNat)) % 256) : Nat) : Int)) ∧ _)) with ⟨hc5589, h5590⟩ | ⟨hc5589, h5590⟩
                      · clear h5320
                        have hF5591 : Fr 89 a5576 [(87, .bool false), (4, .pointer (some ⟨b3924, 0, none⟩)), (8, .pointer (some ⟨b4894, 0, none⟩)), (9, .int .i64 ((x5221 : Nat) : Int))] := hF5588.pick [87, 4, 8, 9] (by rw [decide_eq_true hc5589]; kernel_rfl); clear hF5588
                        refine condF hF5591 (by kernel_rfl) ?_
                        refine wp_skip ?_
                        refine hK5309 _ _ ?_
                        obtain ⟨g5593, h5592⟩ : ((((x5221 + 1) : Nat) : Int) ≤ 9223372036854775807) ∧ _ := gd_some h5590; clear h5590
                        refine wp_region_lit ?_
                        refine pu_end hT 3 _ hF5591 [4, 8, 9] (G := [(4, .pointer (some ⟨b3924, 0, none⟩)), (8, .pointer (some ⟨b4894, 0, none⟩)), (9, .int .i64 (((x5221 + 1) : Nat) : Int))]) (cs := [-9223372036854775808 ≤ (((x5221 + 1) : Nat) : Int), (((x5221 + 1) : Nat) : Int) ≤ 9223372036854775807]) (by kernel_rfl) rfl (And.intro (by omega) (And.intro g5593 trivial)) ?_; clear hF5591 a5576; intro a5594 hF5595
                        obtain rfl := Option.some.inj h5592
                        exact hK5270 _ _ _ hy5269 ⟨(x5221 + 1), rfl, hF5595.pick [4, 8, 9] (by kernel_rfl), hS5580.pick [0, 1] (by decide) rfl⟩
                      · clear h5320
                        have hF5596 : Fr 89 a5576 [(87, .bool true), (4, .pointer (some ⟨b3924, 0, none⟩)), (8, .pointer (some ⟨b4894, 0, none⟩)), (9, .int .i64 ((x5221 : Nat) : Int))] := hF5588.pick [87, 4, 8, 9] (by rw [decide_eq_false hc5589]; kernel_rfl); clear hF5588
                        refine condT hF5596 (by kernel_rfl) ?_
                        refine wp_seq_k (fun K5597 hK5598 => ?_)
                        refine wp_region_lit ?_
                        refine pu_end hT 1 _ hF5596 [2] (G := [(2, .bool false)]) (cs := []) (by kernel_rfl) rfl trivial ?_; clear hF5596 a5576; intro a5599 hF5600
                        refine hK5598 _ _ ?_
                        refine wp_ret ?_
                        obtain rfl := Option.some.inj h5590
                        obtain rfl : _ = xj5125 := hy5269
                        obtain rfl := Option.some.inj (show some _ = some _ from h5127)
                        exact absurd hr0 (by decide)
                  · clear h5277
                    have hF5601 : Fr 89 a5287 [(4, .pointer (some ⟨b3924, 0, none⟩)), (8, .pointer (some ⟨b4894, 0, none⟩)), (9, .int .i64 ((x5221 : Nat) : Int)), (70, .bool false)] := hF5288.pick [4, 8, 9, 70] (by rw [decide_eq_false hc5289]; kernel_rfl); clear hF5288
                    refine condF hF5601 (by kernel_rfl) ?_
                    refine wp_exit ?_
                    obtain rfl := Option.some.inj h5290
                    obtain rfl : _ = xj5125 := hy5269
                    exact ⟨rfl, hF5601.pick [] (by kernel_rfl), hS5276.pick [] (by decide) rfl⟩
                · skip
                  clear hx5126 hF4929 hS4928 
                  rintro a5602 w5603 ⟨rfl, hF5604, hS5605⟩
                  refine wp_seq_k (fun K5607 hK5608 => ?_)
                  obtain ⟨b5609, hr5611, h5610⟩ := bnd_some h5127; clear h5127; replace hr5611 : F_casematelaw14_awake = some (b5609) := hr5611
                  refine wp_region_lit ?_
                  refine wl (s_call (d := 88) (f := 15) (l := []) (by kernel_rfl) hF5604 cl15 (W_casematelaw14_awake _ b5609 hr5611) ?_)
                  rintro a5612 w5613 v5614 ⟨rfl, hC5615⟩ ha5616 hF5617; clear ha5616 hF5604 a5602
                  have hS5618 : Heap w [] w5613 [] := Heap.call hS5605 hC5615; clear hS5605
                  have hF5619 := hF5617.pick [88] (G := [(88, .bool (b5609))]) (by kernel_rfl); clear hF5617
                  refine pu_end hT 1 _ hF5619 [2] (G := [(2, .bool (b5609))]) (cs := []) (by kernel_rfl) rfl trivial ?_; clear hF5619 a5612; intro a5620 hF5621
                  refine hK5608 _ _ ?_
                  refine wp_ret ?_
                  obtain rfl := Option.some.inj h5610
                  refine ret1 hF5621 rfl (v := .bool (b5609)) (by kernel_rfl) ?_
                  exact ⟨by rw [show (b5609) = true from hr0], hS5618.pick [] (by decide) rfl⟩
            · clear h3343
              have hF5622 : Fr 89 a3902 [(44, .bool true), (0, .slice pA0 xs0.length pc0), (3, .slice A30 zs27.length c31)] := hF3913.pick [44, 0, 3] (by rw [decide_eq_false hc3914]; kernel_rfl); clear hF3913
              refine condT hF5622 (by kernel_rfl) ?_
              refine wp_seq_k (fun K5623 hK5624 => ?_)
              refine wp_region_lit ?_
              refine pu_end hT 1 _ hF5622 [2] (G := [(2, .bool false)]) (cs := []) (by kernel_rfl) rfl trivial ?_; clear hF5622 a3902; intro a5625 hF5626
              refine hK5624 _ _ ?_
              refine wp_ret ?_
              obtain rfl := Option.some.inj h3915
              exact absurd hr0 (by decide)
    · clear h28
      obtain rfl := Option.some.inj h75
      exact absurd hr0 (by decide)

end Go.Proofs.Ytddphjmcoolinaa
