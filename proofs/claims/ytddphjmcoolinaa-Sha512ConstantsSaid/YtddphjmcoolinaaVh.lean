/- Walks of functions, printed by auto.py. -/
import Derived.Test.YtddphjmcoolinaaVd
import Derived.Test.YtddphjmcoolinaaVe
set_option linter.unusedVariables false
set_option linter.unusedSimpArgs false
set_option maxRecDepth 100000
namespace Go.Proofs.Ytddphjmcoolinaa
open Go.Proofs Go.RowKit
noncomputable def F_casematelaw14_Sha512Constants (x0 : Int) : Option Bool := if x0 < 0 then (bnd (F_casematelaw14_awake) fun (b39 : Bool) => some (b39)) else (if 80 ≤ x0 then (bnd (F_casematelaw14_awake) fun (b128 : Bool) => some (b128)) else (bnd (F_casematelaw14_awake) fun (b144 : Bool) => if b144 = true then (bnd (F_sha512_Rounds) fun (zs201 : List Nat) => gd ((0 : Int) ≤ x0) (ltb (x0.toNat) fun (t208 : Nat) => gd (t208 < 80) (bnd (F_casemateref14_Rounds) fun (zs214 : List Nat) => ltb (x0.toNat) fun (t219 : Nat) => gd (t219 < 80) (if (((zs201.getD t208 0) : Nat) : Int) = (((zs214.getD t219 0) : Nat) : Int) then (bnd (F_sha512_Start) fun (zs253 : List Nat) => gd (0 ≤ x0) (gd ((0 : Int) ≤ (x0 % 8)) (ltb ((x0 % 8).toNat) fun (t262 : Nat) => gd (t262 < 8) (bnd (F_casemateref14_Start) fun (zs268 : List Nat) => ltb ((x0 % 8).toNat) fun (t273 : Nat) => gd (t273 < 8) (some ((decide ((((zs253.getD t262 0) : Nat) : Int) = (((zs268.getD t273 0) : Nat) : Int))))))))) else (some false))))) else (some false)))
set_option maxHeartbeats 4000000 in
theorem W_casematelaw14_Sha512Constants (x0 : Int) (w : World) (h : F_casematelaw14_Sha512Constants x0 = some true) :
    Calls Try.prog 3 [.int .i64 x0].toArray w (Ret fun v w' => v = .bool true ∧ Heap w [] w' []) := by
  obtain ⟨r, hr0⟩ : ∃ r, r = true := ⟨_, rfl⟩; rw [← hr0] at h
  unfold F_casematelaw14_Sha512Constants at h
  refine enter Try.func3 rfl (n := 31) Try.ntmps3 (by simp) ?_
  intro a hF
  have hS := Heap.init w
  refine wp_seq_k (fun K1 hK2 => ?_)
  refine wp_region_lit ?_
  refine pu_end hT 1 _ hF [0] (G := [(0, .int .i64 x0)]) (cs := []) (by kernel_rfl) rfl trivial ?_; clear hF a; intro a3 hF4
  refine hK2 _ _ ?_
  refine wp_seq_k (fun K21 hK22 => ?_)
  refine wp_seq_k (fun K23 hK24 => ?_)
  rcases (ite_some h : ((x0 < 0) ∧ _) ∨ (¬ (x0 < 0) ∧ _)) with ⟨hc25, h26⟩ | ⟨hc25, h26⟩
  · clear h
    refine wp_region_lit ?_
    refine pu hT 3 _ hF4 [0, 5] (G := [(0, .int .i64 x0), (5, .bool ((decide (x0 < 0))))]) (cs := []) (by kernel_rfl) trivial ?_; clear hF4 a3; intro a32 hF33
    have hF34 : Fr 31 a32 [(0, .int .i64 x0), (5, .bool true)] := hF33.pick [0, 5] (by rw [decide_eq_true hc25]; kernel_rfl); clear hF33
    refine pu_end hT 3 _ hF34 [0, 8] (G := [(0, .int .i64 x0), (8, .bool true)]) (cs := []) (by kernel_rfl) rfl trivial ?_; clear hF34 a32; intro a35 hF36
    refine hK24 _ _ ?_
    refine condT hF36 (by kernel_rfl) ?_
    refine wp_seq_k (fun K37 hK38 => ?_)
    obtain ⟨b39, hr41, h40⟩ := bnd_some h26; clear h26; replace hr41 : F_casematelaw14_awake = some (b39) := hr41
    refine wp_region_lit ?_
    refine wl (s_call (d := 9) (f := 15) (l := []) (by kernel_rfl) hF36 cl15 (W_casematelaw14_awake _ b39 hr41) ?_)
    rintro a42 w43 v44 ⟨rfl, hC45⟩ ha46 hF47; clear ha46 hF36 a35
    have hS48 : Heap w [] w43 [] := Heap.call hS hC45; clear hS
    have hF49 := hF47.pick [9] (G := [(9, .bool (b39))]) (by kernel_rfl); clear hF47
    refine pu_end hT 1 _ hF49 [2] (G := [(2, .bool (b39))]) (cs := []) (by kernel_rfl) rfl trivial ?_; clear hF49 a42; intro a50 hF51
    refine hK38 _ _ ?_
    refine wp_ret ?_
    obtain rfl := Option.some.inj h40
    refine ret1 hF51 rfl (v := .bool (b39)) (by kernel_rfl) ?_
    exact ⟨by rw [show (b39) = true from hr0], hS48.pick [] (by decide) rfl⟩
  · clear h
    refine wp_region_lit ?_
    refine pu hT 3 _ hF4 [0, 5] (G := [(0, .int .i64 x0), (5, .bool ((decide (x0 < 0))))]) (cs := []) (by kernel_rfl) trivial ?_; clear hF4 a3; intro a118 hF119
    have hF120 : Fr 31 a118 [(0, .int .i64 x0), (5, .bool false)] := hF119.pick [0, 5] (by rw [decide_eq_false hc25]; kernel_rfl); clear hF119
    refine pu_end hT 3 _ hF120 [0, 8] (G := [(0, .int .i64 x0), (8, .bool ((decide (80 ≤ x0))))]) (cs := []) (by kernel_rfl) rfl trivial ?_; clear hF120 a118; intro a121 hF122
    refine hK24 _ _ ?_
    rcases (ite_some h26 : ((80 ≤ x0) ∧ _) ∨ (¬ (80 ≤ x0) ∧ _)) with ⟨hc123, h124⟩ | ⟨hc123, h124⟩
    · clear h26
      have hF125 : Fr 31 a121 [(0, .int .i64 x0), (8, .bool true)] := hF122.pick [0, 8] (by rw [decide_eq_true hc123]; kernel_rfl); clear hF122
      refine condT hF125 (by kernel_rfl) ?_
      refine wp_seq_k (fun K126 hK127 => ?_)
      obtain ⟨b128, hr130, h129⟩ := bnd_some h124; clear h124; replace hr130 : F_casematelaw14_awake = some (b128) := hr130
      refine wp_region_lit ?_
      refine wl (s_call (d := 9) (f := 15) (l := []) (by kernel_rfl) hF125 cl15 (W_casematelaw14_awake _ b128 hr130) ?_)
      rintro a131 w132 v133 ⟨rfl, hC134⟩ ha135 hF136; clear ha135 hF125 a121
      have hS137 : Heap w [] w132 [] := Heap.call hS hC134; clear hS
      have hF138 := hF136.pick [9] (G := [(9, .bool (b128))]) (by kernel_rfl); clear hF136
      refine pu_end hT 1 _ hF138 [2] (G := [(2, .bool (b128))]) (cs := []) (by kernel_rfl) rfl trivial ?_; clear hF138 a131; intro a139 hF140
      refine hK127 _ _ ?_
      refine wp_ret ?_
      obtain rfl := Option.some.inj h129
      refine ret1 hF140 rfl (v := .bool (b128)) (by kernel_rfl) ?_
      exact ⟨by rw [show (b128) = true from hr0], hS137.pick [] (by decide) rfl⟩
    · clear h26
      have hF141 : Fr 31 a121 [(0, .int .i64 x0), (8, .bool false)] := hF122.pick [0, 8] (by rw [decide_eq_false hc123]; kernel_rfl); clear hF122
      refine condF hF141 (by kernel_rfl) ?_
      refine wp_skip ?_
      refine hK22 _ _ ?_
      refine wp_seq_k (fun K142 hK143 => ?_)
      obtain ⟨b144, hr146, h145⟩ := bnd_some h124; clear h124; replace hr146 : F_casematelaw14_awake = some (b144) := hr146
      rcases (ite_some h145 : ((b144 = true) ∧ _) ∨ (¬ (b144 = true) ∧ _)) with ⟨hc147, h148⟩ | ⟨hc147, h148⟩
      · clear h145
        obtain ⟨zs201, hr203, h202⟩ := bnd_some h148; clear h148; replace hr203 : F_sha512_Rounds = some (zs201) := hr203
        obtain ⟨g207, h206⟩ : ((0 : Int) ≤ x0) ∧ _ := gd_some h202; clear h202
        obtain ⟨t208, hm209, h210⟩ := ltb_some h206; clear h206; have hm211 : ((t208 : Nat) : Int) = x0 := by rw [show t208 = x0.toNat from hm209]; exact Int.toNat_of_nonneg g207
        obtain ⟨g213, h212⟩ : (t208 < 80) ∧ _ := gd_some h210; clear h210
        obtain ⟨zs214, hr216, h215⟩ := bnd_some h212; clear h212; replace hr216 : F_casemateref14_Rounds = some (zs214) := hr216
        obtain ⟨t219, hm220, h221⟩ := ltb_some h215; clear h215; have hm222 : ((t219 : Nat) : Int) = x0 := by rw [show t219 = x0.toNat from hm220]; exact Int.toNat_of_nonneg g207
        obtain ⟨g224, h223⟩ : (t219 < 80) ∧ _ := gd_some h221; clear h221
        rcases (ite_some h223 : (((((zs201.getD t208 0) : Nat) : Int) = (((zs214.getD t219 0) : Nat) : Int)) ∧ _) ∨ (¬ ((((zs201.getD t208 0) : Nat) : Int) = (((zs214.getD t219 0) : Nat) : Int)) ∧ _)) with ⟨hc225, h226⟩ | ⟨hc225, h226⟩
        · clear h223
          obtain ⟨zs253, hr255, h254⟩ := bnd_some h226; clear h226; replace hr255 : F_sha512_Start = some (zs253) := hr255
          obtain ⟨g259, h258⟩ : (0 ≤ x0) ∧ _ := gd_some h254; clear h254
          obtain ⟨g261, h260⟩ : ((0 : Int) ≤ (x0 % 8)) ∧ _ := gd_some h258; clear h258
          obtain ⟨t262, hm263, h264⟩ := ltb_some h260; clear h260; have hm265 : ((t262 : Nat) : Int) = (x0 % 8) := by rw [show t262 = (x0 % 8).toNat from hm263]; exact Int.toNat_of_nonneg g261
          obtain ⟨g267, h266⟩ : (t262 < 8) ∧ _ := gd_some h264; clear h264
          obtain ⟨zs268, hr270, h269⟩ := bnd_some h266; clear h266; replace hr270 : F_casemateref14_Start = some (zs268) := hr270
          obtain ⟨t273, hm274, h275⟩ := ltb_some h269; clear h269; have hm276 : ((t273 : Nat) : Int) = (x0 % 8) := by rw [show t273 = (x0 % 8).toNat from hm274]; exact Int.toNat_of_nonneg g261
          obtain ⟨g278, h277⟩ : (t273 < 8) ∧ _ := gd_some h275; clear h275
          have hlt279 := hS.ids
          have hsz281 := hS.size
          let SL280 : List SP := [SP.val (.bool (b144)), SP.val (.bool true), SP.mk' (fun B v W => v = .agg (vs .u64 zs201).toArray ∧ (zs201.length = 80) ∧ (LB 18446744073709551616 zs201)) (fun B v W W2 hh gg => by obtain ⟨e, hh204, hh205⟩ := hh; exact ⟨e, hh204, hh205⟩), SP.val (.int .i64 ((t208 : Nat) : Int)), SP.mk' (fun B v W => v = .int .u64 (((zs201.getD t208 0) : Nat) : Int) ∧ (LB 18446744073709551616 zs201)) (fun B v W W2 hh gg => by obtain ⟨e, hh205⟩ := hh; exact ⟨e, hh205⟩), SP.mk' (fun B v W => v = .agg (vs .u64 zs214).toArray ∧ (zs214.length = 80) ∧ (LB 18446744073709551616 zs214)) (fun B v W W2 hh gg => by obtain ⟨e, hh217, hh218⟩ := hh; exact ⟨e, hh217, hh218⟩), SP.val (.int .i64 ((t219 : Nat) : Int)), SP.mk' (fun B v W => v = .int .u64 (((zs214.getD t219 0) : Nat) : Int) ∧ (LB 18446744073709551616 zs214)) (fun B v W W2 hh gg => by obtain ⟨e, hh218⟩ := hh; exact ⟨e, hh218⟩), SP.val (.bool ((decide ((((zs201.getD t208 0) : Nat) : Int) = (((zs214.getD t219 0) : Nat) : Int))))), SP.val (.bool ((decide ((((zs201.getD t208 0) : Nat) : Int) = (((zs214.getD t219 0) : Nat) : Int))))), SP.val (.bool true), SP.mk' (fun B v W => v = .agg (vs .u64 zs253).toArray ∧ (zs253.length = 8) ∧ (LB 18446744073709551616 zs253)) (fun B v W W2 hh gg => by obtain ⟨e, hh256, hh257⟩ := hh; exact ⟨e, hh256, hh257⟩), SP.val (.int .i64 x0), SP.val (.int .i64 ((t262 : Nat) : Int)), SP.mk' (fun B v W => v = .int .u64 (((zs253.getD t262 0) : Nat) : Int) ∧ (LB 18446744073709551616 zs253)) (fun B v W W2 hh gg => by obtain ⟨e, hh257⟩ := hh; exact ⟨e, hh257⟩), SP.mk' (fun B v W => v = .agg (vs .u64 zs268).toArray ∧ (zs268.length = 8) ∧ (LB 18446744073709551616 zs268)) (fun B v W W2 hh gg => by obtain ⟨e, hh271, hh272⟩ := hh; exact ⟨e, hh271, hh272⟩), SP.val (.int .i64 x0), SP.val (.int .i64 ((t273 : Nat) : Int)), SP.mk' (fun B v W => v = .int .u64 (((zs268.getD t273 0) : Nat) : Int) ∧ (LB 18446744073709551616 zs268)) (fun B v W W2 hh gg => by obtain ⟨e, hh272⟩ := hh; exact ⟨e, hh272⟩), SP.val (.bool ((decide ((((zs253.getD t262 0) : Nat) : Int) = (((zs268.getD t273 0) : Nat) : Int))))), SP.val (.bool ((decide ((((zs253.getD t262 0) : Nat) : Int) = (((zs268.getD t273 0) : Nat) : Int))))), SP.val (.bool ((decide ((((zs253.getD t262 0) : Nat) : Int) = (((zs268.getD t273 0) : Nat) : Int)))))]
          refine region_rel (SL := SL280) (J := (fun (B : Bool) (W : World) => w.heap.size ≤ W.heap.size ∧ Heap w [] W [])) (m := 22) wide (by kernel_rfl) (by kernel_rfl) hF141 rfl ?_ ⟨Nat.le_refl _, hS⟩ ⟨?_, ?_, ?_, ?_, ?_, ?_, ?_, ?_, ?_, ?_, ?_, ?_, ?_, ?_, ?_, ?_, ?_, ?_, ?_, ?_, ?_, ?_, trivial⟩ [(2, some 21)] (by kernel_rfl) ?_
          · intro b W W' hj g; exact ⟨Nat.le_trans hj.1 g.size, hj.2.growN g⟩
          · -- operation 0
            rintro a283 w282 b286 KK292 hs288 hd289 hJ290 hb291 hr293 hK287
            have hr293x : RD SL280 b286 a283 a121 w282 [] := hr293 _ (by kernel_rfl)
            obtain ⟨hX294, hS285⟩ := hJ290
            have hF284 : Fr 31 a283 [] := Fr.of hs288 hd289 trivial
            refine s_call (d := 10) (f := 15) (l := []) (by kernel_rfl) hF284 cl15 (W_casematelaw14_awake _ b144 hr146) ?_
            rintro a295 w296 v297 ⟨rfl, hC298⟩ ha299 hF300
            have hS301 : Heap w [] w296 [] := Heap.call hS285 hC298
            rw [ha299]
            exact hK287 _ _ rfl (hC298.grown)
          · -- operation 1
            rintro a303 w302 b306 KK312 hs308 hd309 hJ310 hb311 hr313 hK307
            have hr313x : RD SL280 b306 a303 a121 w302 [(10, some 0)] := hr313 _ (by kernel_rfl)
            obtain ⟨⟨v315, q314, s316⟩, -⟩ := hr313x
            obtain rfl : v315 = .bool (b144) := s316
            obtain ⟨hX317, hS305⟩ := hJ310
            have hF304 : Fr 31 a303 [(10, .bool (b144))] := Fr.of hs308 hd309 ⟨q314, trivial⟩
            refine s_pure hT (d := 11) (v := .bool (b144)) (cs := []) (by kernel_rfl) (by kernel_rfl) trivial hF304 ?_
            rintro a2 ha2 hF2; rw [ha2]
            exact hK307 _ _ (show (.bool (b144) : Value) = .bool true by (rw [hc147] <;> rfl)) (grown_refl _ _)
          · -- operation 2
            rintro a319 w318 b322 KK328 hs324 hd325 hJ326 hb327 hr329 hK323
            have hr329x : RD SL280 b322 a319 a121 w318 [(11, some 1)] := hr329 _ (by kernel_rfl)
            obtain ⟨⟨v331, q330, s332⟩, -⟩ := hr329x
            obtain rfl : v331 = .bool true := s332
            obtain ⟨hX333, hS321⟩ := hJ326
            have hF320 : Fr 31 a319 [(11, .bool true)] := Fr.of hs324 hd325 ⟨q330, trivial⟩
            refine One.bare hF320 (by kernel_rfl) (s_call (d := 12) (f := 16) (l := []) (by kernel_rfl) hF320 cl16 (W_sha512_Rounds _ zs201 hr203) ?_)
            rintro a334 w335 v336 ⟨rfl, hh204, hh205, hC337⟩ ha338 hF339
            have hS340 : Heap w [] w335 [] := Heap.call hS321 hC337
            rw [ha338]
            exact hK323 _ _ ⟨rfl, hh204, hh205⟩ (hC337.grown)
          · -- operation 3
            rintro a342 w341 b345 KK351 hs347 hd348 hJ349 hb350 hr352 hK346
            have hr352x : RD SL280 b345 a342 a121 w341 [(0, none), (11, some 1)] := hr352 _ (by kernel_rfl)
            obtain ⟨q353, ⟨v355, q354, s356⟩, -⟩ := hr352x
            obtain rfl : v355 = .bool true := s356
            obtain ⟨hX357, hS344⟩ := hJ349
            have hF343 : Fr 31 a342 [(0, .int .i64 x0), (11, .bool true)] := Fr.of hs347 hd348 ⟨(Fr.init hF141 q353 (by kernel_rfl)), q354, trivial⟩
            refine One.bare hF343 (by kernel_rfl) (s_pure hT (d := 13) (v := .int .i64 x0) (cs := []) (by kernel_rfl) (by kernel_rfl) trivial hF343 ?_)
            rintro a2 ha2 hF2; rw [ha2]
            exact hK346 _ _ (show (.int .i64 x0 : Value) = .int .i64 ((t208 : Nat) : Int) by (rw [hm211] <;> rfl)) (grown_refl _ _)
          · -- operation 4
            rintro a359 w358 b362 KK368 hs364 hd365 hJ366 hb367 hr369 hK363
            have hr369x : RD SL280 b362 a359 a121 w358 [(12, some 2), (13, some 3), (11, some 1)] := hr369 _ (by kernel_rfl)
            obtain ⟨⟨v371, q370, s372⟩, ⟨v374, q373, s375⟩, ⟨v377, q376, s378⟩, -⟩ := hr369x
            obtain ⟨rfl, hh204, hh205⟩ := s372
            obtain rfl : v374 = .int .i64 ((t208 : Nat) : Int) := s375
            obtain rfl : v377 = .bool true := s378
            obtain ⟨hX379, hS361⟩ := hJ366
            have hF360 : Fr 31 a359 [(12, .agg (vs .u64 zs201).toArray), (13, .int .i64 ((t208 : Nat) : Int)), (11, .bool true)] := Fr.of hs364 hd365 ⟨q370, q373, q376, trivial⟩
            refine One.bare hF360 (by kernel_rfl) (s_arrIdx hT (d := 14) (j := t208) (m := 80) (k := .u64) (xs := zs201) (by kernel_rfl) hF360 (by omega) (by have := hh204; omega) ?_)
            rintro a380 ha382 hF381
            rw [ha382]
            exact hK363 _ _ ⟨rfl, hh205⟩ (grown_refl _ _)
          · -- operation 5
            rintro a384 w383 b387 KK393 hs389 hd390 hJ391 hb392 hr394 hK388
            have hr394x : RD SL280 b387 a384 a121 w383 [(11, some 1)] := hr394 _ (by kernel_rfl)
            obtain ⟨⟨v396, q395, s397⟩, -⟩ := hr394x
            obtain rfl : v396 = .bool true := s397
            obtain ⟨hX398, hS386⟩ := hJ391
            have hF385 : Fr 31 a384 [(11, .bool true)] := Fr.of hs389 hd390 ⟨q395, trivial⟩
            refine One.bare hF385 (by kernel_rfl) (s_call (d := 15) (f := 17) (l := []) (by kernel_rfl) hF385 cl17 (W_casemateref14_Rounds _ zs214 hr216) ?_)
            rintro a399 w400 v401 ⟨rfl, hh217, hh218, hC402⟩ ha403 hF404
            have hS405 : Heap w [] w400 [] := Heap.call hS386 hC402
            rw [ha403]
            exact hK388 _ _ ⟨rfl, hh217, hh218⟩ (hC402.grown)
          · -- operation 6
            rintro a407 w406 b410 KK416 hs412 hd413 hJ414 hb415 hr417 hK411
            have hr417x : RD SL280 b410 a407 a121 w406 [(0, none), (11, some 1)] := hr417 _ (by kernel_rfl)
            obtain ⟨q418, ⟨v420, q419, s421⟩, -⟩ := hr417x
            obtain rfl : v420 = .bool true := s421
            obtain ⟨hX422, hS409⟩ := hJ414
            have hF408 : Fr 31 a407 [(0, .int .i64 x0), (11, .bool true)] := Fr.of hs412 hd413 ⟨(Fr.init hF141 q418 (by kernel_rfl)), q419, trivial⟩
            refine One.bare hF408 (by kernel_rfl) (s_pure hT (d := 16) (v := .int .i64 x0) (cs := []) (by kernel_rfl) (by kernel_rfl) trivial hF408 ?_)
            rintro a2 ha2 hF2; rw [ha2]
            exact hK411 _ _ (show (.int .i64 x0 : Value) = .int .i64 ((t219 : Nat) : Int) by (rw [hm222] <;> rfl)) (grown_refl _ _)
          · -- operation 7
            rintro a424 w423 b427 KK433 hs429 hd430 hJ431 hb432 hr434 hK428
            have hr434x : RD SL280 b427 a424 a121 w423 [(15, some 5), (16, some 6), (11, some 1)] := hr434 _ (by kernel_rfl)
            obtain ⟨⟨v436, q435, s437⟩, ⟨v439, q438, s440⟩, ⟨v442, q441, s443⟩, -⟩ := hr434x
            obtain ⟨rfl, hh217, hh218⟩ := s437
            obtain rfl : v439 = .int .i64 ((t219 : Nat) : Int) := s440
            obtain rfl : v442 = .bool true := s443
            obtain ⟨hX444, hS426⟩ := hJ431
            have hF425 : Fr 31 a424 [(15, .agg (vs .u64 zs214).toArray), (16, .int .i64 ((t219 : Nat) : Int)), (11, .bool true)] := Fr.of hs429 hd430 ⟨q435, q438, q441, trivial⟩
            refine One.bare hF425 (by kernel_rfl) (s_arrIdx hT (d := 17) (j := t219) (m := 80) (k := .u64) (xs := zs214) (by kernel_rfl) hF425 (by omega) (by have := hh217; omega) ?_)
            rintro a445 ha447 hF446
            rw [ha447]
            exact hK428 _ _ ⟨rfl, hh218⟩ (grown_refl _ _)
          · -- operation 8
            rintro a449 w448 b452 KK458 hs454 hd455 hJ456 hb457 hr459 hK453
            have hr459x : RD SL280 b452 a449 a121 w448 [(14, some 4), (17, some 7), (11, some 1)] := hr459 _ (by kernel_rfl)
            obtain ⟨⟨v461, q460, s462⟩, ⟨v464, q463, s465⟩, ⟨v467, q466, s468⟩, -⟩ := hr459x
            obtain ⟨rfl, hh205⟩ := s462
            obtain ⟨rfl, hh218⟩ := s465
            obtain rfl : v467 = .bool true := s468
            obtain ⟨hX469, hS451⟩ := hJ456
            have hF450 : Fr 31 a449 [(14, .int .u64 (((zs201.getD t208 0) : Nat) : Int)), (17, .int .u64 (((zs214.getD t219 0) : Nat) : Int)), (11, .bool true)] := Fr.of hs454 hd455 ⟨q460, q463, q466, trivial⟩
            refine One.bare hF450 (by kernel_rfl) (s_pure hT (d := 18) (v := .bool ((decide ((((zs201.getD t208 0) : Nat) : Int) = (((zs214.getD t219 0) : Nat) : Int))))) (cs := []) (by kernel_rfl) (by kernel_rfl) trivial hF450 ?_)
            rintro a2 ha2 hF2; rw [ha2]
            exact hK453 _ _ rfl (grown_refl _ _)
          · -- operation 9
            rintro a471 w470 b474 KK480 hs476 hd477 hJ478 hb479 hr481 hK475
            have hr481x : RD SL280 b474 a471 a121 w470 [(11, some 1), (18, some 8)] := hr481 _ (by kernel_rfl)
            obtain ⟨⟨v483, q482, s484⟩, ⟨v486, q485, s487⟩, -⟩ := hr481x
            obtain rfl : v483 = .bool true := s484
            obtain rfl : v486 = .bool ((decide ((((zs201.getD t208 0) : Nat) : Int) = (((zs214.getD t219 0) : Nat) : Int)))) := s487
            obtain ⟨hX488, hS473⟩ := hJ478
            have hF472 : Fr 31 a471 [(11, .bool true), (18, .bool ((decide ((((zs201.getD t208 0) : Nat) : Int) = (((zs214.getD t219 0) : Nat) : Int)))))] := Fr.of hs476 hd477 ⟨q482, q485, trivial⟩
            refine s_pure hT (d := 19) (v := .bool ((decide ((((zs201.getD t208 0) : Nat) : Int) = (((zs214.getD t219 0) : Nat) : Int))))) (cs := []) (by kernel_rfl) (by kernel_rfl) trivial hF472 ?_
            rintro a2 ha2 hF2; rw [ha2]
            exact hK475 _ _ rfl (grown_refl _ _)
          · -- operation 10
            rintro a490 w489 b493 KK499 hs495 hd496 hJ497 hb498 hr500 hK494
            have hr500x : RD SL280 b493 a490 a121 w489 [(19, some 9)] := hr500 _ (by kernel_rfl)
            obtain ⟨⟨v502, q501, s503⟩, -⟩ := hr500x
            obtain rfl : v502 = .bool ((decide ((((zs201.getD t208 0) : Nat) : Int) = (((zs214.getD t219 0) : Nat) : Int)))) := s503
            obtain ⟨hX504, hS492⟩ := hJ497
            have hF491 : Fr 31 a490 [(19, .bool ((decide ((((zs201.getD t208 0) : Nat) : Int) = (((zs214.getD t219 0) : Nat) : Int)))))] := Fr.of hs495 hd496 ⟨q501, trivial⟩
            refine s_pure hT (d := 20) (v := .bool ((decide ((((zs201.getD t208 0) : Nat) : Int) = (((zs214.getD t219 0) : Nat) : Int))))) (cs := []) (by kernel_rfl) (by kernel_rfl) trivial hF491 ?_
            rintro a2 ha2 hF2; rw [ha2]
            exact hK494 _ _ (show (.bool ((decide ((((zs201.getD t208 0) : Nat) : Int) = (((zs214.getD t219 0) : Nat) : Int)))) : Value) = .bool true by (rw [decide_eq_true hc225] <;> rfl)) (grown_refl _ _)
          · -- operation 11
            rintro a506 w505 b509 KK515 hs511 hd512 hJ513 hb514 hr516 hK510
            have hr516x : RD SL280 b509 a506 a121 w505 [(20, some 10)] := hr516 _ (by kernel_rfl)
            obtain ⟨⟨v518, q517, s519⟩, -⟩ := hr516x
            obtain rfl : v518 = .bool true := s519
            obtain ⟨hX520, hS508⟩ := hJ513
            have hF507 : Fr 31 a506 [(20, .bool true)] := Fr.of hs511 hd512 ⟨q517, trivial⟩
            refine One.bare hF507 (by kernel_rfl) (s_call (d := 21) (f := 18) (l := []) (by kernel_rfl) hF507 cl18 (W_sha512_Start _ zs253 hr255) ?_)
            rintro a521 w522 v523 ⟨rfl, hh256, hh257, hC524⟩ ha525 hF526
            have hS527 : Heap w [] w522 [] := Heap.call hS508 hC524
            rw [ha525]
            exact hK510 _ _ ⟨rfl, hh256, hh257⟩ (hC524.grown)
          · -- operation 12
            rintro a529 w528 b532 KK538 hs534 hd535 hJ536 hb537 hr539 hK533
            have hr539x : RD SL280 b532 a529 a121 w528 [(0, none), (20, some 10)] := hr539 _ (by kernel_rfl)
            obtain ⟨q540, ⟨v542, q541, s543⟩, -⟩ := hr539x
            obtain rfl : v542 = .bool true := s543
            obtain ⟨hX544, hS531⟩ := hJ536
            have hF530 : Fr 31 a529 [(0, .int .i64 x0), (20, .bool true)] := Fr.of hs534 hd535 ⟨(Fr.init hF141 q540 (by kernel_rfl)), q541, trivial⟩
            refine One.bare hF530 (by kernel_rfl) (s_pure hT (d := 22) (v := .int .i64 x0) (cs := []) (by kernel_rfl) (by kernel_rfl) trivial hF530 ?_)
            rintro a2 ha2 hF2; rw [ha2]
            exact hK533 _ _ rfl (grown_refl _ _)
          · -- operation 13
            rintro a546 w545 b549 KK555 hs551 hd552 hJ553 hb554 hr556 hK550
            have hr556x : RD SL280 b549 a546 a121 w545 [(22, some 12), (20, some 10)] := hr556 _ (by kernel_rfl)
            obtain ⟨⟨v558, q557, s559⟩, ⟨v561, q560, s562⟩, -⟩ := hr556x
            obtain rfl : v558 = .int .i64 x0 := s559
            obtain rfl : v561 = .bool true := s562
            obtain ⟨hX563, hS548⟩ := hJ553
            have hF547 : Fr 31 a546 [(22, .int .i64 x0), (20, .bool true)] := Fr.of hs551 hd552 ⟨q557, q560, trivial⟩
            refine One.bare hF547 (by kernel_rfl) (s_pure hT (d := 23) (v := .int .i64 (x0 % 8)) (cs := [0 ≤ x0, 0 < (8 : Int)]) (by kernel_rfl) (by kernel_rfl) (And.intro g259 (And.intro (by decide) trivial)) hF547 ?_)
            rintro a2 ha2 hF2; rw [ha2]
            exact hK550 _ _ (show (.int .i64 (x0 % 8) : Value) = .int .i64 ((t262 : Nat) : Int) by (rw [hm265] <;> rfl)) (grown_refl _ _)
          · -- operation 14
            rintro a565 w564 b568 KK574 hs570 hd571 hJ572 hb573 hr575 hK569
            have hr575x : RD SL280 b568 a565 a121 w564 [(21, some 11), (23, some 13), (20, some 10)] := hr575 _ (by kernel_rfl)
            obtain ⟨⟨v577, q576, s578⟩, ⟨v580, q579, s581⟩, ⟨v583, q582, s584⟩, -⟩ := hr575x
            obtain ⟨rfl, hh256, hh257⟩ := s578
            obtain rfl : v580 = .int .i64 ((t262 : Nat) : Int) := s581
            obtain rfl : v583 = .bool true := s584
            obtain ⟨hX585, hS567⟩ := hJ572
            have hF566 : Fr 31 a565 [(21, .agg (vs .u64 zs253).toArray), (23, .int .i64 ((t262 : Nat) : Int)), (20, .bool true)] := Fr.of hs570 hd571 ⟨q576, q579, q582, trivial⟩
            refine One.bare hF566 (by kernel_rfl) (s_arrIdx hT (d := 24) (j := t262) (m := 8) (k := .u64) (xs := zs253) (by kernel_rfl) hF566 (by omega) (by have := hh256; omega) ?_)
            rintro a586 ha588 hF587
            rw [ha588]
            exact hK569 _ _ ⟨rfl, hh257⟩ (grown_refl _ _)
          · -- operation 15
            rintro a590 w589 b593 KK599 hs595 hd596 hJ597 hb598 hr600 hK594
            have hr600x : RD SL280 b593 a590 a121 w589 [(20, some 10)] := hr600 _ (by kernel_rfl)
            obtain ⟨⟨v602, q601, s603⟩, -⟩ := hr600x
            obtain rfl : v602 = .bool true := s603
            obtain ⟨hX604, hS592⟩ := hJ597
            have hF591 : Fr 31 a590 [(20, .bool true)] := Fr.of hs595 hd596 ⟨q601, trivial⟩
            refine One.bare hF591 (by kernel_rfl) (s_call (d := 25) (f := 19) (l := []) (by kernel_rfl) hF591 cl19 (W_casemateref14_Start _ zs268 hr270) ?_)
            rintro a605 w606 v607 ⟨rfl, hh271, hh272, hC608⟩ ha609 hF610
            have hS611 : Heap w [] w606 [] := Heap.call hS592 hC608
            rw [ha609]
            exact hK594 _ _ ⟨rfl, hh271, hh272⟩ (hC608.grown)
          · -- operation 16
            rintro a613 w612 b616 KK622 hs618 hd619 hJ620 hb621 hr623 hK617
            have hr623x : RD SL280 b616 a613 a121 w612 [(0, none), (20, some 10)] := hr623 _ (by kernel_rfl)
            obtain ⟨q624, ⟨v626, q625, s627⟩, -⟩ := hr623x
            obtain rfl : v626 = .bool true := s627
            obtain ⟨hX628, hS615⟩ := hJ620
            have hF614 : Fr 31 a613 [(0, .int .i64 x0), (20, .bool true)] := Fr.of hs618 hd619 ⟨(Fr.init hF141 q624 (by kernel_rfl)), q625, trivial⟩
            refine One.bare hF614 (by kernel_rfl) (s_pure hT (d := 26) (v := .int .i64 x0) (cs := []) (by kernel_rfl) (by kernel_rfl) trivial hF614 ?_)
            rintro a2 ha2 hF2; rw [ha2]
            exact hK617 _ _ rfl (grown_refl _ _)
          · -- operation 17
            rintro a630 w629 b633 KK639 hs635 hd636 hJ637 hb638 hr640 hK634
            have hr640x : RD SL280 b633 a630 a121 w629 [(26, some 16), (20, some 10)] := hr640 _ (by kernel_rfl)
            obtain ⟨⟨v642, q641, s643⟩, ⟨v645, q644, s646⟩, -⟩ := hr640x
            obtain rfl : v642 = .int .i64 x0 := s643
            obtain rfl : v645 = .bool true := s646
            obtain ⟨hX647, hS632⟩ := hJ637
            have hF631 : Fr 31 a630 [(26, .int .i64 x0), (20, .bool true)] := Fr.of hs635 hd636 ⟨q641, q644, trivial⟩
            refine One.bare hF631 (by kernel_rfl) (s_pure hT (d := 27) (v := .int .i64 (x0 % 8)) (cs := [0 ≤ x0, 0 < (8 : Int)]) (by kernel_rfl) (by kernel_rfl) (And.intro g259 (And.intro (by decide) trivial)) hF631 ?_)
            rintro a2 ha2 hF2; rw [ha2]
            exact hK634 _ _ (show (.int .i64 (x0 % 8) : Value) = .int .i64 ((t273 : Nat) : Int) by (rw [hm276] <;> rfl)) (grown_refl _ _)
          · -- operation 18
            rintro a649 w648 b652 KK658 hs654 hd655 hJ656 hb657 hr659 hK653
            have hr659x : RD SL280 b652 a649 a121 w648 [(25, some 15), (27, some 17), (20, some 10)] := hr659 _ (by kernel_rfl)
            obtain ⟨⟨v661, q660, s662⟩, ⟨v664, q663, s665⟩, ⟨v667, q666, s668⟩, -⟩ := hr659x
            obtain ⟨rfl, hh271, hh272⟩ := s662
            obtain rfl : v664 = .int .i64 ((t273 : Nat) : Int) := s665
            obtain rfl : v667 = .bool true := s668
            obtain ⟨hX669, hS651⟩ := hJ656
            have hF650 : Fr 31 a649 [(25, .agg (vs .u64 zs268).toArray), (27, .int .i64 ((t273 : Nat) : Int)), (20, .bool true)] := Fr.of hs654 hd655 ⟨q660, q663, q666, trivial⟩
            refine One.bare hF650 (by kernel_rfl) (s_arrIdx hT (d := 28) (j := t273) (m := 8) (k := .u64) (xs := zs268) (by kernel_rfl) hF650 (by omega) (by have := hh271; omega) ?_)
            rintro a670 ha672 hF671
            rw [ha672]
            exact hK653 _ _ ⟨rfl, hh272⟩ (grown_refl _ _)
          · -- operation 19
            rintro a674 w673 b677 KK683 hs679 hd680 hJ681 hb682 hr684 hK678
            have hr684x : RD SL280 b677 a674 a121 w673 [(24, some 14), (28, some 18), (20, some 10)] := hr684 _ (by kernel_rfl)
            obtain ⟨⟨v686, q685, s687⟩, ⟨v689, q688, s690⟩, ⟨v692, q691, s693⟩, -⟩ := hr684x
            obtain ⟨rfl, hh257⟩ := s687
            obtain ⟨rfl, hh272⟩ := s690
            obtain rfl : v692 = .bool true := s693
            obtain ⟨hX694, hS676⟩ := hJ681
            have hF675 : Fr 31 a674 [(24, .int .u64 (((zs253.getD t262 0) : Nat) : Int)), (28, .int .u64 (((zs268.getD t273 0) : Nat) : Int)), (20, .bool true)] := Fr.of hs679 hd680 ⟨q685, q688, q691, trivial⟩
            refine One.bare hF675 (by kernel_rfl) (s_pure hT (d := 29) (v := .bool ((decide ((((zs253.getD t262 0) : Nat) : Int) = (((zs268.getD t273 0) : Nat) : Int))))) (cs := []) (by kernel_rfl) (by kernel_rfl) trivial hF675 ?_)
            rintro a2 ha2 hF2; rw [ha2]
            exact hK678 _ _ rfl (grown_refl _ _)
          · -- operation 20
            rintro a696 w695 b699 KK705 hs701 hd702 hJ703 hb704 hr706 hK700
            have hr706x : RD SL280 b699 a696 a121 w695 [(20, some 10), (29, some 19)] := hr706 _ (by kernel_rfl)
            obtain ⟨⟨v708, q707, s709⟩, ⟨v711, q710, s712⟩, -⟩ := hr706x
            obtain rfl : v708 = .bool true := s709
            obtain rfl : v711 = .bool ((decide ((((zs253.getD t262 0) : Nat) : Int) = (((zs268.getD t273 0) : Nat) : Int)))) := s712
            obtain ⟨hX713, hS698⟩ := hJ703
            have hF697 : Fr 31 a696 [(20, .bool true), (29, .bool ((decide ((((zs253.getD t262 0) : Nat) : Int) = (((zs268.getD t273 0) : Nat) : Int)))))] := Fr.of hs701 hd702 ⟨q707, q710, trivial⟩
            refine s_pure hT (d := 30) (v := .bool ((decide ((((zs253.getD t262 0) : Nat) : Int) = (((zs268.getD t273 0) : Nat) : Int))))) (cs := []) (by kernel_rfl) (by kernel_rfl) trivial hF697 ?_
            rintro a2 ha2 hF2; rw [ha2]
            exact hK700 _ _ rfl (grown_refl _ _)
          · -- operation 21
            rintro a715 w714 b718 KK724 hs720 hd721 hJ722 hb723 hr725 hK719
            have hr725x : RD SL280 b718 a715 a121 w714 [(30, some 20)] := hr725 _ (by kernel_rfl)
            obtain ⟨⟨v727, q726, s728⟩, -⟩ := hr725x
            obtain rfl : v727 = .bool ((decide ((((zs253.getD t262 0) : Nat) : Int) = (((zs268.getD t273 0) : Nat) : Int)))) := s728
            obtain ⟨hX729, hS717⟩ := hJ722
            have hF716 : Fr 31 a715 [(30, .bool ((decide ((((zs253.getD t262 0) : Nat) : Int) = (((zs268.getD t273 0) : Nat) : Int)))))] := Fr.of hs720 hd721 ⟨q726, trivial⟩
            refine s_pure hT (d := 2) (v := .bool ((decide ((((zs253.getD t262 0) : Nat) : Int) = (((zs268.getD t273 0) : Nat) : Int))))) (cs := []) (by kernel_rfl) (by kernel_rfl) trivial hF716 ?_
            rintro a2 ha2 hF2; rw [ha2]
            exact hK719 _ _ rfl (grown_refl _ _)
          · -- behind the region
            rintro a730 w731 hs732 hd733 ⟨⟨v736, q737, s738⟩, -⟩ ⟨hX735, hS734⟩
            obtain rfl : v736 = .bool ((decide ((((zs253.getD t262 0) : Nat) : Int) = (((zs268.getD t273 0) : Nat) : Int)))) := s738
            have hF739 : Fr 31 a730 [(2, .bool ((decide ((((zs253.getD t262 0) : Nat) : Int) = (((zs268.getD t273 0) : Nat) : Int)))))] := Fr.of hs732 hd733 ⟨q737, trivial⟩
            clear hF141 hS hs732 hd733 q737
            refine hK143 _ _ ?_
            refine wp_ret ?_
            obtain rfl := Option.some.inj h277
            refine ret1 hF739 rfl (v := .bool ((decide ((((zs253.getD t262 0) : Nat) : Int) = (((zs268.getD t273 0) : Nat) : Int))))) (by kernel_rfl) ?_
            exact ⟨by rw [show ((decide ((((zs253.getD t262 0) : Nat) : Int) = (((zs268.getD t273 0) : Nat) : Int)))) = true from hr0], hS734.pick [] (by decide) rfl⟩
        · clear h223
          obtain rfl := Option.some.inj h226
          exact absurd hr0 (by decide)
      · clear h145
        obtain rfl := Option.some.inj h148
        exact absurd hr0 (by decide)

end Go.Proofs.Ytddphjmcoolinaa
