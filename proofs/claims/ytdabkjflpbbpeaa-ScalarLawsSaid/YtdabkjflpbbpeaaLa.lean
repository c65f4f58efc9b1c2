/- The functions of nums once more, told in numbers: lemmas. -/
import Derived.Test.YtdabkjflpbbpeaaWc
import Derived.Test.YtdabkjflpbbpeaaKr
set_option linter.unusedVariables false
namespace Go.Proofs.Ytdabkjflpbbpeaa
open Go.Proofs Go.RowKit
variable {w : World} {A A2 : Option Addr} {n c n2 c2 x y : Nat} {xs ys : List Nat}
theorem Norm' (hx : nv 256 xs = x) (hn : xs.length = n) (hR : Rd w A (vs .u8 xs)) (hbx : By xs) (hl : n ≤ 1048576) :
    Calls Try.prog 19 [.slice A n c].toArray w (Ret fun v w' => ∃ A' c', v = .slice A' (dig 256 x).length c' ∧ Ex w w' ∧ Own w' w.heap.size 5 1 A' (dig 256 x).length c' (vs .u8 (dig 256 x))) := by subst hx; exact nums_Norm A n c xs w hn hR hbx hl
theorem Cmp' (hx : nv 256 xs = x) (hy : nv 256 ys = y) (hn : xs.length = n) (hn2 : ys.length = n2) (hR : Rd w A (vs .u8 xs)) (hR2 : Rd w A2 (vs .u8 ys)) (hbx : By xs) (hby : By ys) (hl : n ≤ 1048576) (hl2 : n2 ≤ 1048576) :
    Calls Try.prog 16 [.slice A n c, .slice A2 n2 c2].toArray w (Ret fun v w' => v = .int .i64 (cmpI x y) ∧ Ex w w') := by subst hx hy; exact nums_Cmp A n c xs A2 n2 c2 ys w hn hn2 hR hR2 hbx hby hl hl2
theorem Add' (hx : nv 256 xs = x) (hy : nv 256 ys = y) (hn : xs.length = n) (hn2 : ys.length = n2) (hR : Rd w A (vs .u8 xs)) (hR2 : Rd w A2 (vs .u8 ys)) (hbx : By xs) (hby : By ys) (hl : n ≤ 1048576) (hl2 : n2 ≤ 1048576) :
    Calls Try.prog 17 [.slice A n c, .slice A2 n2 c2].toArray w (Ret fun v w' => ∃ A' c', v = .slice A' (dig 256 (x + y)).length c' ∧ Ex w w' ∧ Own w' w.heap.size 5 1 A' (dig 256 (x + y)).length c' (vs .u8 (dig 256 (x + y)))) := by subst hx hy; exact nums_Add A n c xs A2 n2 c2 ys w hn hn2 hR hR2 hbx hby hl hl2
theorem Sub' (hx : nv 256 xs = x) (hy : nv 256 ys = y) (hn : xs.length = n) (hn2 : ys.length = n2) (hR : Rd w A (vs .u8 xs)) (hR2 : Rd w A2 (vs .u8 ys)) (hbx : By xs) (hby : By ys) (hl : n ≤ 1048576) (hl2 : n2 ≤ 1048576) :
    Calls Try.prog 15 [.slice A n c, .slice A2 n2 c2].toArray w (Ret fun v w' => ∃ A' c', v = .slice A' (dig 256 (x - y)).length c' ∧ Ex w w' ∧ Own w' w.heap.size 5 1 A' (dig 256 (x - y)).length c' (vs .u8 (dig 256 (x - y)))) := by subst hx hy; exact nums_Sub A n c xs A2 n2 c2 ys w hn hn2 hR hR2 hbx hby hl hl2
theorem Mul' (hx : nv 256 xs = x) (hy : nv 256 ys = y) (hn : xs.length = n) (hn2 : ys.length = n2) (hR : Rd w A (vs .u8 xs)) (hR2 : Rd w A2 (vs .u8 ys)) (hbx : By xs) (hby : By ys) (hl : n ≤ 1048576) (hl2 : n2 ≤ 1048576) :
    Calls Try.prog 18 [.slice A n c, .slice A2 n2 c2].toArray w (Ret fun v w' => ∃ A' c', v = .slice A' (dig 256 (x * y)).length c' ∧ Ex w w' ∧ Own w' w.heap.size 5 1 A' (dig 256 (x * y)).length c' (vs .u8 (dig 256 (x * y)))) := by subst hx hy; exact nums_Mul A n c xs A2 n2 c2 ys w hn hn2 hR hR2 hbx hby hl hl2
theorem Mod0' (hx : nv 256 xs = x) (hy : nv 256 ys = y) (h : y = 0) (hn : xs.length = n) (hn2 : ys.length = n2) (hR : Rd w A (vs .u8 xs)) (hR2 : Rd w A2 (vs .u8 ys)) (hbx : By xs) (hby : By ys) (hl : n ≤ 1048576) (hl2 : n2 ≤ 1048576) :
    Calls Try.prog 13 [.slice A n c, .slice A2 n2 c2].toArray w (Ret fun v w' => ∃ A' c', v = .tuple #[.slice A' 0 c', .int .i64 20] ∧ Ex w w' ∧ Own w' w.heap.size 5 1 A' 0 c' (vs .u8 [])) := by
  have := nums_Mod A n c xs A2 n2 c2 ys w hn hn2 hR hR2 hbx hby hl hl2
  rw [hx, hy, h] at this
  exact this
theorem Mod1' (hx : nv 256 xs = x) (hy : nv 256 ys = y) (h : 0 < y) (hn : xs.length = n) (hn2 : ys.length = n2) (hR : Rd w A (vs .u8 xs)) (hR2 : Rd w A2 (vs .u8 ys)) (hbx : By xs) (hby : By ys) (hl : n ≤ 1048576) (hl2 : n2 ≤ 1048576) :
    Calls Try.prog 13 [.slice A n c, .slice A2 n2 c2].toArray w (Ret fun v w' => ∃ A' c', v = .tuple #[.slice A' (dig 256 (x % y)).length c', .int .i64 0] ∧ Ex w w' ∧ Own w' w.heap.size 5 1 A' (dig 256 (x % y)).length c' (vs .u8 (dig 256 (x % y)))) := by
  have := nums_Mod A n c xs A2 n2 c2 ys w hn hn2 hR hR2 hbx hby hl hl2
  rw [hx, hy] at this
  simpa only [modL, modE, if_neg (show ¬ y = 0 by omega)] using this
end Go.Proofs.Ytdabkjflpbbpeaa
