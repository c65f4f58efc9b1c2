/- What is known of the types of this translation: closed facts. -/
import Derived.Test.YtdabkjflpbbpeaaKe
import Derived.Test.YtdabkjflpbbpeaaProg
set_option maxRecDepth 100000
namespace Go.Proofs.Ytdabkjflpbbpeaa
open Go.Proofs
abbrev tr3 : T1 := ⟨.int .i64, 1, 8, .int .i64 0⟩
abbrev tr4 : T1 := ⟨.bool, 1, 1, .bool false⟩
abbrev tr5 : T1 := ⟨.int .u8, 1, 1, .int .u8 0⟩
abbrev tr9 : T1 := ⟨.string, 1, 16, .string ByteArray.empty⟩
abbrev tr22 : T1 := ⟨.slice 5, 1, 24, .slice none 0 0⟩
abbrev tr24 : T1 := ⟨.int .i64, 1, 8, .int .i64 0⟩
abbrev tr32 : T1 := ⟨.array 32 5, 32, 32, .agg #[.int .u8 0, .int .u8 0, .int .u8 0, .int .u8 0, .int .u8 0, .int .u8 0, .int .u8 0, .int .u8 0, .int .u8 0, .int .u8 0, .int .u8 0, .int .u8 0, .int .u8 0, .int .u8 0, .int .u8 0, .int .u8 0, .int .u8 0, .int .u8 0, .int .u8 0, .int .u8 0, .int .u8 0, .int .u8 0, .int .u8 0, .int .u8 0, .int .u8 0, .int .u8 0, .int .u8 0, .int .u8 0, .int .u8 0, .int .u8 0, .int .u8 0, .int .u8 0]⟩
abbrev tr44 : T1 := ⟨.slice 47, 1, 24, .slice none 0 0⟩
abbrev tr47 : T1 := ⟨.int .u64, 1, 8, .int .u64 0⟩
def TI : List (Nat × T1) := [
(3, tr3), (4, tr4), (5, tr5), (9, tr9), (22, tr22), (24, tr24), (32, tr32), (44, tr44), (47, tr47)]
theorem ti3 : (Try.prog.info? 3).map (fun j => (j.size, j.bytes, j.zero)) = some (1, 8, some (.int .i64 0)) := by kernel_rfl
theorem ti4 : (Try.prog.info? 4).map (fun j => (j.size, j.bytes, j.zero)) = some (1, 1, some (.bool false)) := by kernel_rfl
theorem ti5 : (Try.prog.info? 5).map (fun j => (j.size, j.bytes, j.zero)) = some (1, 1, some (.int .u8 0)) := by kernel_rfl
theorem ti9 : (Try.prog.info? 9).map (fun j => (j.size, j.bytes, j.zero)) = some (1, 16, some (.string ByteArray.empty)) := by kernel_rfl
theorem ti22 : (Try.prog.info? 22).map (fun j => (j.size, j.bytes, j.zero)) = some (1, 24, some (.slice none 0 0)) := by kernel_rfl
theorem ti24 : (Try.prog.info? 24).map (fun j => (j.size, j.bytes, j.zero)) = some (1, 8, some (.int .i64 0)) := by kernel_rfl
theorem ti32 : (Try.prog.info? 32).map (fun j => (j.size, j.bytes, j.zero)) = some (32, 32, some (.agg #[.int .u8 0, .int .u8 0, .int .u8 0, .int .u8 0, .int .u8 0, .int .u8 0, .int .u8 0, .int .u8 0, .int .u8 0, .int .u8 0, .int .u8 0, .int .u8 0, .int .u8 0, .int .u8 0, .int .u8 0, .int .u8 0, .int .u8 0, .int .u8 0, .int .u8 0, .int .u8 0, .int .u8 0, .int .u8 0, .int .u8 0, .int .u8 0, .int .u8 0, .int .u8 0, .int .u8 0, .int .u8 0, .int .u8 0, .int .u8 0, .int .u8 0, .int .u8 0])) := by kernel_rfl
theorem ti44 : (Try.prog.info? 44).map (fun j => (j.size, j.bytes, j.zero)) = some (1, 24, some (.slice none 0 0)) := by kernel_rfl
theorem ti47 : (Try.prog.info? 47).map (fun j => (j.size, j.bytes, j.zero)) = some (1, 8, some (.int .u64 0)) := by kernel_rfl
theorem hT : TIok Try.prog TI := TIok.mk' (by
  unfold TI
  refine List.forall_mem_cons.2 ⟨⟨Try.underlying3, ti3⟩, ?_⟩
  refine List.forall_mem_cons.2 ⟨⟨Try.underlying4, ti4⟩, ?_⟩
  refine List.forall_mem_cons.2 ⟨⟨Try.underlying5, ti5⟩, ?_⟩
  refine List.forall_mem_cons.2 ⟨⟨Try.underlying9, ti9⟩, ?_⟩
  refine List.forall_mem_cons.2 ⟨⟨Try.underlying22, ti22⟩, ?_⟩
  refine List.forall_mem_cons.2 ⟨⟨Try.underlying24, ti24⟩, ?_⟩
  refine List.forall_mem_cons.2 ⟨⟨Try.underlying32, ti32⟩, ?_⟩
  refine List.forall_mem_cons.2 ⟨⟨Try.underlying44, ti44⟩, ?_⟩
  refine List.forall_mem_cons.2 ⟨⟨Try.underlying47, ti47⟩, ?_⟩
  exact fun p hp => absurd hp (List.not_mem_nil))
theorem wide : Try.prog.follows .mixedOrders = true := by kernel_rfl
theorem cl3 : callable Try.prog 3 := callable.mk Try.func3 (by kernel_rfl) (by kernel_rfl)
theorem cl4 : callable Try.prog 4 := callable.mk Try.func4 (by kernel_rfl) (by kernel_rfl)
theorem cl5 : callable Try.prog 5 := callable.mk Try.func5 (by kernel_rfl) (by kernel_rfl)
theorem cl6 : callable Try.prog 6 := callable.mk Try.func6 (by kernel_rfl) (by kernel_rfl)
theorem cl7 : callable Try.prog 7 := callable.mk Try.func7 (by kernel_rfl) (by kernel_rfl)
theorem cl8 : callable Try.prog 8 := callable.mk Try.func8 (by kernel_rfl) (by kernel_rfl)
theorem cl9 : callable Try.prog 9 := callable.mk Try.func9 (by kernel_rfl) (by kernel_rfl)
theorem cl10 : callable Try.prog 10 := callable.mk Try.func10 (by kernel_rfl) (by kernel_rfl)
theorem cl11 : callable Try.prog 11 := callable.mk Try.func11 (by kernel_rfl) (by kernel_rfl)
theorem cl12 : callable Try.prog 12 := callable.mk Try.func12 (by kernel_rfl) (by kernel_rfl)
theorem cl13 : callable Try.prog 13 := callable.mk Try.func13 (by kernel_rfl) (by kernel_rfl)
theorem cl14 : callable Try.prog 14 := callable.mk Try.func14 (by kernel_rfl) (by kernel_rfl)
theorem cl15 : callable Try.prog 15 := callable.mk Try.func15 (by kernel_rfl) (by kernel_rfl)
theorem cl16 : callable Try.prog 16 := callable.mk Try.func16 (by kernel_rfl) (by kernel_rfl)
theorem cl17 : callable Try.prog 17 := callable.mk Try.func17 (by kernel_rfl) (by kernel_rfl)
theorem cl18 : callable Try.prog 18 := callable.mk Try.func18 (by kernel_rfl) (by kernel_rfl)
theorem cl19 : callable Try.prog 19 := callable.mk Try.func19 (by kernel_rfl) (by kernel_rfl)
theorem cl20 : callable Try.prog 20 := callable.mk Try.func20 (by kernel_rfl) (by kernel_rfl)
theorem cl21 : callable Try.prog 21 := callable.mk Try.func21 (by kernel_rfl) (by kernel_rfl)
theorem cl22 : callable Try.prog 22 := callable.mk Try.func22 (by kernel_rfl) (by kernel_rfl)
theorem cl23 : callable Try.prog 23 := callable.mk Try.func23 (by kernel_rfl) (by kernel_rfl)
theorem cl24 : callable Try.prog 24 := callable.mk Try.func24 (by kernel_rfl) (by kernel_rfl)
theorem cl25 : callable Try.prog 25 := callable.mk Try.func25 (by kernel_rfl) (by kernel_rfl)
theorem cl26 : callable Try.prog 26 := callable.mk Try.func26 (by kernel_rfl) (by kernel_rfl)
theorem cl27 : callable Try.prog 27 := callable.mk Try.func27 (by kernel_rfl) (by kernel_rfl)
theorem cl28 : callable Try.prog 28 := callable.mk Try.func28 (by kernel_rfl) (by kernel_rfl)
theorem cl29 : callable Try.prog 29 := callable.mk Try.func29 (by kernel_rfl) (by kernel_rfl)
theorem cl30 : callable Try.prog 30 := callable.mk Try.func30 (by kernel_rfl) (by kernel_rfl)
theorem cl31 : callable Try.prog 31 := callable.mk Try.func31 (by kernel_rfl) (by kernel_rfl)
theorem cl32 : callable Try.prog 32 := callable.mk Try.func32 (by kernel_rfl) (by kernel_rfl)
theorem cl33 : callable Try.prog 33 := callable.mk Try.func33 (by kernel_rfl) (by kernel_rfl)
theorem cl34 : callable Try.prog 34 := callable.mk Try.func34 (by kernel_rfl) (by kernel_rfl)
theorem cl35 : callable Try.prog 35 := callable.mk Try.func35 (by kernel_rfl) (by kernel_rfl)
theorem cl36 : callable Try.prog 36 := callable.mk Try.func36 (by kernel_rfl) (by kernel_rfl)
theorem cl37 : callable Try.prog 37 := callable.mk Try.func37 (by kernel_rfl) (by kernel_rfl)
theorem cl38 : callable Try.prog 38 := callable.mk Try.func38 (by kernel_rfl) (by kernel_rfl)
theorem cl39 : callable Try.prog 39 := callable.mk Try.func39 (by kernel_rfl) (by kernel_rfl)
theorem cl40 : callable Try.prog 40 := callable.mk Try.func40 (by kernel_rfl) (by kernel_rfl)
theorem cl41 : callable Try.prog 41 := callable.mk Try.func41 (by kernel_rfl) (by kernel_rfl)
theorem cl43 : callable Try.prog 43 := callable.mk Try.func43 (by kernel_rfl) (by kernel_rfl)
theorem cl44 : callable Try.prog 44 := callable.mk Try.func44 (by kernel_rfl) (by kernel_rfl)
theorem cl45 : callable Try.prog 45 := callable.mk Try.func45 (by kernel_rfl) (by kernel_rfl)
theorem cl46 : callable Try.prog 46 := callable.mk Try.func46 (by kernel_rfl) (by kernel_rfl)
theorem cl47 : callable Try.prog 47 := callable.mk Try.func47 (by kernel_rfl) (by kernel_rfl)
theorem cl48 : callable Try.prog 48 := callable.mk Try.func48 (by kernel_rfl) (by kernel_rfl)
end Go.Proofs.Ytdabkjflpbbpeaa
