/- What is known of the types of this translation: closed facts. -/
import Derived.Test.YtddphjmcoolinaaKe
import Derived.Test.YtddphjmcoolinaaProg
set_option maxRecDepth 100000
namespace Go.Proofs.Ytddphjmcoolinaa
open Go.Proofs
abbrev tr2 : T1 := ⟨.int .i64, 1, 8, .int .i64 0⟩
abbrev tr3 : T1 := ⟨.int .i64, 1, 8, .int .i64 0⟩
abbrev tr4 : T1 := ⟨.bool, 1, 1, .bool false⟩
abbrev tr5 : T1 := ⟨.int .u8, 1, 1, .int .u8 0⟩
abbrev tr9 : T1 := ⟨.string, 1, 16, .string ByteArray.empty⟩
abbrev tr21 : T1 := ⟨.int .i32, 1, 4, .int .i32 0⟩
abbrev tr23 : T1 := ⟨.int .u64, 1, 8, .int .u64 0⟩
abbrev tr24 : T1 := ⟨.array 80 23, 80, 640, .agg #[.int .u64 0, .int .u64 0, .int .u64 0, .int .u64 0, .int .u64 0, .int .u64 0, .int .u64 0, .int .u64 0, .int .u64 0, .int .u64 0, .int .u64 0, .int .u64 0, .int .u64 0, .int .u64 0, .int .u64 0, .int .u64 0, .int .u64 0, .int .u64 0, .int .u64 0, .int .u64 0, .int .u64 0, .int .u64 0, .int .u64 0, .int .u64 0, .int .u64 0, .int .u64 0, .int .u64 0, .int .u64 0, .int .u64 0, .int .u64 0, .int .u64 0, .int .u64 0, .int .u64 0, .int .u64 0, .int .u64 0, .int .u64 0, .int .u64 0, .int .u64 0, .int .u64 0, .int .u64 0, .int .u64 0, .int .u64 0, .int .u64 0, .int .u64 0, .int .u64 0, .int .u64 0, .int .u64 0, .int .u64 0, .int .u64 0, .int .u64 0, .int .u64 0, .int .u64 0, .int .u64 0, .int .u64 0, .int .u64 0, .int .u64 0, .int .u64 0, .int .u64 0, .int .u64 0, .int .u64 0, .int .u64 0, .int .u64 0, .int .u64 0, .int .u64 0, .int .u64 0, .int .u64 0, .int .u64 0, .int .u64 0, .int .u64 0, .int .u64 0, .int .u64 0, .int .u64 0, .int .u64 0, .int .u64 0, .int .u64 0, .int .u64 0, .int .u64 0, .int .u64 0, .int .u64 0, .int .u64 0]⟩
abbrev tr26 : T1 := ⟨.array 8 23, 8, 64, .agg #[.int .u64 0, .int .u64 0, .int .u64 0, .int .u64 0, .int .u64 0, .int .u64 0, .int .u64 0, .int .u64 0]⟩
abbrev tr29 : T1 := ⟨.slice 5, 1, 24, .slice none 0 0⟩
abbrev tr30 : T1 := ⟨.array 64 5, 64, 64, .agg #[.int .u8 0, .int .u8 0, .int .u8 0, .int .u8 0, .int .u8 0, .int .u8 0, .int .u8 0, .int .u8 0, .int .u8 0, .int .u8 0, .int .u8 0, .int .u8 0, .int .u8 0, .int .u8 0, .int .u8 0, .int .u8 0, .int .u8 0, .int .u8 0, .int .u8 0, .int .u8 0, .int .u8 0, .int .u8 0, .int .u8 0, .int .u8 0, .int .u8 0, .int .u8 0, .int .u8 0, .int .u8 0, .int .u8 0, .int .u8 0, .int .u8 0, .int .u8 0, .int .u8 0, .int .u8 0, .int .u8 0, .int .u8 0, .int .u8 0, .int .u8 0, .int .u8 0, .int .u8 0, .int .u8 0, .int .u8 0, .int .u8 0, .int .u8 0, .int .u8 0, .int .u8 0, .int .u8 0, .int .u8 0, .int .u8 0, .int .u8 0, .int .u8 0, .int .u8 0, .int .u8 0, .int .u8 0, .int .u8 0, .int .u8 0, .int .u8 0, .int .u8 0, .int .u8 0, .int .u8 0, .int .u8 0, .int .u8 0, .int .u8 0, .int .u8 0]⟩
abbrev tr36 : T1 := ⟨.int .i64, 1, 8, .int .i64 0⟩
abbrev tr41 : T1 := ⟨.int .u64, 1, 8, .int .u64 0⟩
abbrev tr42 : T1 := ⟨.slice 3, 1, 24, .slice none 0 0⟩
abbrev tr47 : T1 := ⟨.int .u32, 1, 4, .int .u32 0⟩
abbrev tr48 : T1 := ⟨.array 8 47, 8, 32, .agg #[.int .u32 0, .int .u32 0, .int .u32 0, .int .u32 0, .int .u32 0, .int .u32 0, .int .u32 0, .int .u32 0]⟩
abbrev tr50 : T1 := ⟨.array 64 47, 64, 256, .agg #[.int .u32 0, .int .u32 0, .int .u32 0, .int .u32 0, .int .u32 0, .int .u32 0, .int .u32 0, .int .u32 0, .int .u32 0, .int .u32 0, .int .u32 0, .int .u32 0, .int .u32 0, .int .u32 0, .int .u32 0, .int .u32 0, .int .u32 0, .int .u32 0, .int .u32 0, .int .u32 0, .int .u32 0, .int .u32 0, .int .u32 0, .int .u32 0, .int .u32 0, .int .u32 0, .int .u32 0, .int .u32 0, .int .u32 0, .int .u32 0, .int .u32 0, .int .u32 0, .int .u32 0, .int .u32 0, .int .u32 0, .int .u32 0, .int .u32 0, .int .u32 0, .int .u32 0, .int .u32 0, .int .u32 0, .int .u32 0, .int .u32 0, .int .u32 0, .int .u32 0, .int .u32 0, .int .u32 0, .int .u32 0, .int .u32 0, .int .u32 0, .int .u32 0, .int .u32 0, .int .u32 0, .int .u32 0, .int .u32 0, .int .u32 0, .int .u32 0, .int .u32 0, .int .u32 0, .int .u32 0, .int .u32 0, .int .u32 0, .int .u32 0, .int .u32 0]⟩
abbrev tr53 : T1 := ⟨.array 32 5, 32, 32, .agg #[.int .u8 0, .int .u8 0, .int .u8 0, .int .u8 0, .int .u8 0, .int .u8 0, .int .u8 0, .int .u8 0, .int .u8 0, .int .u8 0, .int .u8 0, .int .u8 0, .int .u8 0, .int .u8 0, .int .u8 0, .int .u8 0, .int .u8 0, .int .u8 0, .int .u8 0, .int .u8 0, .int .u8 0, .int .u8 0, .int .u8 0, .int .u8 0, .int .u8 0, .int .u8 0, .int .u8 0, .int .u8 0, .int .u8 0, .int .u8 0, .int .u8 0, .int .u8 0]⟩
abbrev tr55 : T1 := ⟨.slice 29, 1, 24, .slice none 0 0⟩
abbrev tr56 : T1 := ⟨.pointer 89, 1, 8, .pointer none⟩
abbrev tr67 : T1 := ⟨.pointer 24, 1, 8, .pointer none⟩
abbrev tr75 : T1 := ⟨.struct #[], 0, 0, .agg #[]⟩
abbrev tr76 : T1 := ⟨.struct #[], 0, 0, .agg #[]⟩
abbrev tr78 : T1 := ⟨.struct #[{ name := "_", type := 76, offset := 0, embedded := false, tag := "", pkgPath := "sync/atomic", byteOffset := 0 }, { name := "v", type := 47, offset := 0, embedded := false, tag := "", pkgPath := "sync/atomic", byteOffset := 0 }], 1, 4, .agg #[.int .u32 0]⟩
abbrev tr80 : T1 := ⟨.struct #[{ name := "state", type := 21, offset := 0, embedded := false, tag := "", pkgPath := "internal/sync", byteOffset := 0 }, { name := "sema", type := 47, offset := 1, embedded := false, tag := "", pkgPath := "internal/sync", byteOffset := 4 }], 2, 8, .agg #[.int .i32 0, .int .u32 0]⟩
abbrev tr82 : T1 := ⟨.struct #[{ name := "_", type := 75, offset := 0, embedded := false, tag := "", pkgPath := "sync", byteOffset := 0 }, { name := "mu", type := 80, offset := 0, embedded := false, tag := "", pkgPath := "sync", byteOffset := 0 }], 2, 8, .agg #[.int .i32 0, .int .u32 0]⟩
abbrev tr84 : T1 := ⟨.struct #[{ name := "_", type := 75, offset := 0, embedded := false, tag := "", pkgPath := "sync", byteOffset := 0 }, { name := "done", type := 78, offset := 0, embedded := false, tag := "", pkgPath := "sync", byteOffset := 0 }, { name := "m", type := 82, offset := 1, embedded := false, tag := "", pkgPath := "sync", byteOffset := 4 }], 3, 12, .agg #[.int .u32 0, .int .i32 0, .int .u32 0]⟩
abbrev tr85 : T1 := ⟨.struct #[], 0, 0, .agg #[]⟩
abbrev tr87 : T1 := ⟨.struct #[{ name := "_", type := 76, offset := 0, embedded := false, tag := "", pkgPath := "sync/atomic", byteOffset := 0 }, { name := "_", type := 85, offset := 0, embedded := false, tag := "", pkgPath := "sync/atomic", byteOffset := 0 }, { name := "v", type := 2, offset := 0, embedded := false, tag := "", pkgPath := "sync/atomic", byteOffset := 0 }], 1, 8, .agg #[.int .i64 0]⟩
abbrev tr89 : T1 := ⟨.struct #[{ name := "once", type := 84, offset := 0, embedded := false, tag := "", pkgPath := "casemate/sha256", byteOffset := 0 }, { name := "rounds", type := 50, offset := 3, embedded := false, tag := "", pkgPath := "casemate/sha256", byteOffset := 12 }, { name := "state", type := 48, offset := 67, embedded := false, tag := "", pkgPath := "casemate/sha256", byteOffset := 268 }, { name := "rest", type := 29, offset := 75, embedded := false, tag := "", pkgPath := "casemate/sha256", byteOffset := 304 }, { name := "count", type := 87, offset := 76, embedded := false, tag := "", pkgPath := "casemate/sha256", byteOffset := 328 }], 77, 336, .agg #[.int .u32 0, .int .i32 0, .int .u32 0, .int .u32 0, .int .u32 0, .int .u32 0, .int .u32 0, .int .u32 0, .int .u32 0, .int .u32 0, .int .u32 0, .int .u32 0, .int .u32 0, .int .u32 0, .int .u32 0, .int .u32 0, .int .u32 0, .int .u32 0, .int .u32 0, .int .u32 0, .int .u32 0, .int .u32 0, .int .u32 0, .int .u32 0, .int .u32 0, .int .u32 0, .int .u32 0, .int .u32 0, .int .u32 0, .int .u32 0, .int .u32 0, .int .u32 0, .int .u32 0, .int .u32 0, .int .u32 0, .int .u32 0, .int .u32 0, .int .u32 0, .int .u32 0, .int .u32 0, .int .u32 0, .int .u32 0, .int .u32 0, .int .u32 0, .int .u32 0, .int .u32 0, .int .u32 0, .int .u32 0, .int .u32 0, .int .u32 0, .int .u32 0, .int .u32 0, .int .u32 0, .int .u32 0, .int .u32 0, .int .u32 0, .int .u32 0, .int .u32 0, .int .u32 0, .int .u32 0, .int .u32 0, .int .u32 0, .int .u32 0, .int .u32 0, .int .u32 0, .int .u32 0, .int .u32 0, .int .u32 0, .int .u32 0, .int .u32 0, .int .u32 0, .int .u32 0, .int .u32 0, .int .u32 0, .int .u32 0, .slice none 0 0, .int .i64 0]⟩
abbrev tr92 : T1 := ⟨.pointer 50, 1, 8, .pointer none⟩
abbrev tr97 : T1 := ⟨.slice 23, 1, 24, .slice none 0 0⟩
abbrev tr107 : T1 := ⟨.pointer 87, 1, 8, .pointer none⟩
abbrev tr109 : T1 := ⟨.pointer 2, 1, 8, .pointer none⟩
abbrev tr112 : T1 := ⟨.pointer 84, 1, 8, .pointer none⟩
abbrev tr113 : T1 := ⟨.pointer 78, 1, 8, .pointer none⟩
abbrev tr115 : T1 := ⟨.pointer 47, 1, 8, .pointer none⟩
abbrev tr117 : T1 := ⟨.pointer 82, 1, 8, .pointer none⟩
abbrev tr120 : T1 := ⟨.pointer 80, 1, 8, .pointer none⟩
abbrev tr122 : T1 := ⟨.pointer 21, 1, 8, .pointer none⟩
def TI : List (Nat × T1) := [
(2, tr2), (3, tr3), (4, tr4), (5, tr5), (9, tr9), (21, tr21), (23, tr23), (24, tr24), (26, tr26), (29, tr29), (30, tr30), (36, tr36), (41, tr41), (42, tr42), (47, tr47), (48, tr48), (50, tr50), (53, tr53), (55, tr55), (56, tr56), (67, tr67), (75, tr75), (76, tr76), (78, tr78), (80, tr80), (82, tr82), (84, tr84), (85, tr85), (87, tr87), (89, tr89), (92, tr92), (97, tr97), (107, tr107), (109, tr109), (112, tr112), (113, tr113), (115, tr115), (117, tr117), (120, tr120), (122, tr122)]
theorem ti2 : (Try.prog.info? 2).map (fun j => (j.size, j.bytes, j.zero)) = some (1, 8, some (.int .i64 0)) := by kernel_rfl
theorem ti3 : (Try.prog.info? 3).map (fun j => (j.size, j.bytes, j.zero)) = some (1, 8, some (.int .i64 0)) := by kernel_rfl
theorem ti4 : (Try.prog.info? 4).map (fun j => (j.size, j.bytes, j.zero)) = some (1, 1, some (.bool false)) := by kernel_rfl
theorem ti5 : (Try.prog.info? 5).map (fun j => (j.size, j.bytes, j.zero)) = some (1, 1, some (.int .u8 0)) := by kernel_rfl
theorem ti9 : (Try.prog.info? 9).map (fun j => (j.size, j.bytes, j.zero)) = some (1, 16, some (.string ByteArray.empty)) := by kernel_rfl
theorem ti21 : (Try.prog.info? 21).map (fun j => (j.size, j.bytes, j.zero)) = some (1, 4, some (.int .i32 0)) := by kernel_rfl
theorem ti23 : (Try.prog.info? 23).map (fun j => (j.size, j.bytes, j.zero)) = some (1, 8, some (.int .u64 0)) := by kernel_rfl
theorem ti24 : (Try.prog.info? 24).map (fun j => (j.size, j.bytes, j.zero)) = some (80, 640, some (.agg #[.int .u64 0, .int .u64 0, .int .u64 0, .int .u64 0, .int .u64 0, .int .u64 0, .int .u64 0, .int .u64 0, .int .u64 0, .int .u64 0, .int .u64 0, .int .u64 0, .int .u64 0, .int .u64 0, .int .u64 0, .int .u64 0, .int .u64 0, .int .u64 0, .int .u64 0, .int .u64 0, .int .u64 0, .int .u64 0, .int .u64 0, .int .u64 0, .int .u64 0, .int .u64 0, .int .u64 0, .int .u64 0, .int .u64 0, .int .u64 0, .int .u64 0, .int .u64 0, .int .u64 0, .int .u64 0, .int .u64 0, .int .u64 0, .int .u64 0, .int .u64 0, .int .u64 0, .int .u64 0, .int .u64 0, .int .u64 0, .int .u64 0, .int .u64 0, .int .u64 0, .int .u64 0, .int .u64 0, .int .u64 0, .int .u64 0, .int .u64 0, .int .u64 0, .int .u64 0, .int .u64 0, .int .u64 0, .int .u64 0, .int .u64 0, .int .u64 0, .int .u64 0, .int .u64 0, .int .u64 0, .int .u64 0, .int .u64 0, .int .u64 0, .int .u64 0, .int .u64 0, .int .u64 0, .int .u64 0, .int .u64 0, .int .u64 0, .int .u64 0, .int .u64 0, .int .u64 0, .int .u64 0, .int .u64 0, .int .u64 0, .int .u64 0, .int .u64 0, .int .u64 0, .int .u64 0, .int .u64 0])) := by kernel_rfl
theorem ti26 : (Try.prog.info? 26).map (fun j => (j.size, j.bytes, j.zero)) = some (8, 64, some (.agg #[.int .u64 0, .int .u64 0, .int .u64 0, .int .u64 0, .int .u64 0, .int .u64 0, .int .u64 0, .int .u64 0])) := by kernel_rfl
theorem ti29 : (Try.prog.info? 29).map (fun j => (j.size, j.bytes, j.zero)) = some (1, 24, some (.slice none 0 0)) := by kernel_rfl
theorem ti30 : (Try.prog.info? 30).map (fun j => (j.size, j.bytes, j.zero)) = some (64, 64, some (.agg #[.int .u8 0, .int .u8 0, .int .u8 0, .int .u8 0, .int .u8 0, .int .u8 0, .int .u8 0, .int .u8 0, .int .u8 0, .int .u8 0, .int .u8 0, .int .u8 0, .int .u8 0, .int .u8 0, .int .u8 0, .int .u8 0, .int .u8 0, .int .u8 0, .int .u8 0, .int .u8 0, .int .u8 0, .int .u8 0, .int .u8 0, .int .u8 0, .int .u8 0, .int .u8 0, .int .u8 0, .int .u8 0, .int .u8 0, .int .u8 0, .int .u8 0, .int .u8 0, .int .u8 0, .int .u8 0, .int .u8 0, .int .u8 0, .int .u8 0, .int .u8 0, .int .u8 0, .int .u8 0, .int .u8 0, .int .u8 0, .int .u8 0, .int .u8 0, .int .u8 0, .int .u8 0, .int .u8 0, .int .u8 0, .int .u8 0, .int .u8 0, .int .u8 0, .int .u8 0, .int .u8 0, .int .u8 0, .int .u8 0, .int .u8 0, .int .u8 0, .int .u8 0, .int .u8 0, .int .u8 0, .int .u8 0, .int .u8 0, .int .u8 0, .int .u8 0])) := by kernel_rfl
theorem ti36 : (Try.prog.info? 36).map (fun j => (j.size, j.bytes, j.zero)) = some (1, 8, some (.int .i64 0)) := by kernel_rfl
theorem ti41 : (Try.prog.info? 41).map (fun j => (j.size, j.bytes, j.zero)) = some (1, 8, some (.int .u64 0)) := by kernel_rfl
theorem ti42 : (Try.prog.info? 42).map (fun j => (j.size, j.bytes, j.zero)) = some (1, 24, some (.slice none 0 0)) := by kernel_rfl
theorem ti47 : (Try.prog.info? 47).map (fun j => (j.size, j.bytes, j.zero)) = some (1, 4, some (.int .u32 0)) := by kernel_rfl
theorem ti48 : (Try.prog.info? 48).map (fun j => (j.size, j.bytes, j.zero)) = some (8, 32, some (.agg #[.int .u32 0, .int .u32 0, .int .u32 0, .int .u32 0, .int .u32 0, .int .u32 0, .int .u32 0, .int .u32 0])) := by kernel_rfl
theorem ti50 : (Try.prog.info? 50).map (fun j => (j.size, j.bytes, j.zero)) = some (64, 256, some (.agg #[.int .u32 0, .int .u32 0, .int .u32 0, .int .u32 0, .int .u32 0, .int .u32 0, .int .u32 0, .int .u32 0, .int .u32 0, .int .u32 0, .int .u32 0, .int .u32 0, .int .u32 0, .int .u32 0, .int .u32 0, .int .u32 0, .int .u32 0, .int .u32 0, .int .u32 0, .int .u32 0, .int .u32 0, .int .u32 0, .int .u32 0, .int .u32 0, .int .u32 0, .int .u32 0, .int .u32 0, .int .u32 0, .int .u32 0, .int .u32 0, .int .u32 0, .int .u32 0, .int .u32 0, .int .u32 0, .int .u32 0, .int .u32 0, .int .u32 0, .int .u32 0, .int .u32 0, .int .u32 0, .int .u32 0, .int .u32 0, .int .u32 0, .int .u32 0, .int .u32 0, .int .u32 0, .int .u32 0, .int .u32 0, .int .u32 0, .int .u32 0, .int .u32 0, .int .u32 0, .int .u32 0, .int .u32 0, .int .u32 0, .int .u32 0, .int .u32 0, .int .u32 0, .int .u32 0, .int .u32 0, .int .u32 0, .int .u32 0, .int .u32 0, .int .u32 0])) := by kernel_rfl
theorem ti53 : (Try.prog.info? 53).map (fun j => (j.size, j.bytes, j.zero)) = some (32, 32, some (.agg #[.int .u8 0, .int .u8 0, .int .u8 0, .int .u8 0, .int .u8 0, .int .u8 0, .int .u8 0, .int .u8 0, .int .u8 0, .int .u8 0, .int .u8 0, .int .u8 0, .int .u8 0, .int .u8 0, .int .u8 0, .int .u8 0, .int .u8 0, .int .u8 0, .int .u8 0, .int .u8 0, .int .u8 0, .int .u8 0, .int .u8 0, .int .u8 0, .int .u8 0, .int .u8 0, .int .u8 0, .int .u8 0, .int .u8 0, .int .u8 0, .int .u8 0, .int .u8 0])) := by kernel_rfl
theorem ti55 : (Try.prog.info? 55).map (fun j => (j.size, j.bytes, j.zero)) = some (1, 24, some (.slice none 0 0)) := by kernel_rfl
theorem ti56 : (Try.prog.info? 56).map (fun j => (j.size, j.bytes, j.zero)) = some (1, 8, some (.pointer none)) := by kernel_rfl
theorem ti67 : (Try.prog.info? 67).map (fun j => (j.size, j.bytes, j.zero)) = some (1, 8, some (.pointer none)) := by kernel_rfl
theorem ti75 : (Try.prog.info? 75).map (fun j => (j.size, j.bytes, j.zero)) = some (0, 0, some (.agg #[])) := by kernel_rfl
theorem ti76 : (Try.prog.info? 76).map (fun j => (j.size, j.bytes, j.zero)) = some (0, 0, some (.agg #[])) := by kernel_rfl
theorem ti78 : (Try.prog.info? 78).map (fun j => (j.size, j.bytes, j.zero)) = some (1, 4, some (.agg #[.int .u32 0])) := by kernel_rfl
theorem ti80 : (Try.prog.info? 80).map (fun j => (j.size, j.bytes, j.zero)) = some (2, 8, some (.agg #[.int .i32 0, .int .u32 0])) := by kernel_rfl
theorem ti82 : (Try.prog.info? 82).map (fun j => (j.size, j.bytes, j.zero)) = some (2, 8, some (.agg #[.int .i32 0, .int .u32 0])) := by kernel_rfl
theorem ti84 : (Try.prog.info? 84).map (fun j => (j.size, j.bytes, j.zero)) = some (3, 12, some (.agg #[.int .u32 0, .int .i32 0, .int .u32 0])) := by kernel_rfl
theorem ti85 : (Try.prog.info? 85).map (fun j => (j.size, j.bytes, j.zero)) = some (0, 0, some (.agg #[])) := by kernel_rfl
theorem ti87 : (Try.prog.info? 87).map (fun j => (j.size, j.bytes, j.zero)) = some (1, 8, some (.agg #[.int .i64 0])) := by kernel_rfl
theorem ti89 : (Try.prog.info? 89).map (fun j => (j.size, j.bytes, j.zero)) = some (77, 336, some (.agg #[.int .u32 0, .int .i32 0, .int .u32 0, .int .u32 0, .int .u32 0, .int .u32 0, .int .u32 0, .int .u32 0, .int .u32 0, .int .u32 0, .int .u32 0, .int .u32 0, .int .u32 0, .int .u32 0, .int .u32 0, .int .u32 0, .int .u32 0, .int .u32 0, .int .u32 0, .int .u32 0, .int .u32 0, .int .u32 0, .int .u32 0, .int .u32 0, .int .u32 0, .int .u32 0, .int .u32 0, .int .u32 0, .int .u32 0, .int .u32 0, .int .u32 0, .int .u32 0, .int .u32 0, .int .u32 0, .int .u32 0, .int .u32 0, .int .u32 0, .int .u32 0, .int .u32 0, .int .u32 0, .int .u32 0, .int .u32 0, .int .u32 0, .int .u32 0, .int .u32 0, .int .u32 0, .int .u32 0, .int .u32 0, .int .u32 0, .int .u32 0, .int .u32 0, .int .u32 0, .int .u32 0, .int .u32 0, .int .u32 0, .int .u32 0, .int .u32 0, .int .u32 0, .int .u32 0, .int .u32 0, .int .u32 0, .int .u32 0, .int .u32 0, .int .u32 0, .int .u32 0, .int .u32 0, .int .u32 0, .int .u32 0, .int .u32 0, .int .u32 0, .int .u32 0, .int .u32 0, .int .u32 0, .int .u32 0, .int .u32 0, .slice none 0 0, .int .i64 0])) := by kernel_rfl
theorem ti92 : (Try.prog.info? 92).map (fun j => (j.size, j.bytes, j.zero)) = some (1, 8, some (.pointer none)) := by kernel_rfl
theorem ti97 : (Try.prog.info? 97).map (fun j => (j.size, j.bytes, j.zero)) = some (1, 24, some (.slice none 0 0)) := by kernel_rfl
theorem ti107 : (Try.prog.info? 107).map (fun j => (j.size, j.bytes, j.zero)) = some (1, 8, some (.pointer none)) := by kernel_rfl
theorem ti109 : (Try.prog.info? 109).map (fun j => (j.size, j.bytes, j.zero)) = some (1, 8, some (.pointer none)) := by kernel_rfl
theorem ti112 : (Try.prog.info? 112).map (fun j => (j.size, j.bytes, j.zero)) = some (1, 8, some (.pointer none)) := by kernel_rfl
theorem ti113 : (Try.prog.info? 113).map (fun j => (j.size, j.bytes, j.zero)) = some (1, 8, some (.pointer none)) := by kernel_rfl
theorem ti115 : (Try.prog.info? 115).map (fun j => (j.size, j.bytes, j.zero)) = some (1, 8, some (.pointer none)) := by kernel_rfl
theorem ti117 : (Try.prog.info? 117).map (fun j => (j.size, j.bytes, j.zero)) = some (1, 8, some (.pointer none)) := by kernel_rfl
theorem ti120 : (Try.prog.info? 120).map (fun j => (j.size, j.bytes, j.zero)) = some (1, 8, some (.pointer none)) := by kernel_rfl
theorem ti122 : (Try.prog.info? 122).map (fun j => (j.size, j.bytes, j.zero)) = some (1, 8, some (.pointer none)) := by kernel_rfl
theorem hT : TIok Try.prog TI := TIok.mk' (by
  unfold TI
  refine List.forall_mem_cons.2 ⟨⟨Try.underlying2, ti2⟩, ?_⟩
  refine List.forall_mem_cons.2 ⟨⟨Try.underlying3, ti3⟩, ?_⟩
  refine List.forall_mem_cons.2 ⟨⟨Try.underlying4, ti4⟩, ?_⟩
  refine List.forall_mem_cons.2 ⟨⟨Try.underlying5, ti5⟩, ?_⟩
  refine List.forall_mem_cons.2 ⟨⟨Try.underlying9, ti9⟩, ?_⟩
  refine List.forall_mem_cons.2 ⟨⟨Try.underlying21, ti21⟩, ?_⟩
  refine List.forall_mem_cons.2 ⟨⟨Try.underlying23, ti23⟩, ?_⟩
  refine List.forall_mem_cons.2 ⟨⟨Try.underlying24, ti24⟩, ?_⟩
  refine List.forall_mem_cons.2 ⟨⟨Try.underlying26, ti26⟩, ?_⟩
  refine List.forall_mem_cons.2 ⟨⟨Try.underlying29, ti29⟩, ?_⟩
  refine List.forall_mem_cons.2 ⟨⟨Try.underlying30, ti30⟩, ?_⟩
  refine List.forall_mem_cons.2 ⟨⟨Try.underlying36, ti36⟩, ?_⟩
  refine List.forall_mem_cons.2 ⟨⟨Try.underlying41, ti41⟩, ?_⟩
  refine List.forall_mem_cons.2 ⟨⟨Try.underlying42, ti42⟩, ?_⟩
  refine List.forall_mem_cons.2 ⟨⟨Try.underlying47, ti47⟩, ?_⟩
  refine List.forall_mem_cons.2 ⟨⟨Try.underlying48, ti48⟩, ?_⟩
  refine List.forall_mem_cons.2 ⟨⟨Try.underlying50, ti50⟩, ?_⟩
  refine List.forall_mem_cons.2 ⟨⟨Try.underlying53, ti53⟩, ?_⟩
  refine List.forall_mem_cons.2 ⟨⟨Try.underlying55, ti55⟩, ?_⟩
  refine List.forall_mem_cons.2 ⟨⟨Try.underlying56, ti56⟩, ?_⟩
  refine List.forall_mem_cons.2 ⟨⟨Try.underlying67, ti67⟩, ?_⟩
  refine List.forall_mem_cons.2 ⟨⟨Try.underlying75, ti75⟩, ?_⟩
  refine List.forall_mem_cons.2 ⟨⟨Try.underlying76, ti76⟩, ?_⟩
  refine List.forall_mem_cons.2 ⟨⟨Try.underlying78, ti78⟩, ?_⟩
  refine List.forall_mem_cons.2 ⟨⟨Try.underlying80, ti80⟩, ?_⟩
  refine List.forall_mem_cons.2 ⟨⟨Try.underlying82, ti82⟩, ?_⟩
  refine List.forall_mem_cons.2 ⟨⟨Try.underlying84, ti84⟩, ?_⟩
  refine List.forall_mem_cons.2 ⟨⟨Try.underlying85, ti85⟩, ?_⟩
  refine List.forall_mem_cons.2 ⟨⟨Try.underlying87, ti87⟩, ?_⟩
  refine List.forall_mem_cons.2 ⟨⟨Try.underlying89, ti89⟩, ?_⟩
  refine List.forall_mem_cons.2 ⟨⟨Try.underlying92, ti92⟩, ?_⟩
  refine List.forall_mem_cons.2 ⟨⟨Try.underlying97, ti97⟩, ?_⟩
  refine List.forall_mem_cons.2 ⟨⟨Try.underlying107, ti107⟩, ?_⟩
  refine List.forall_mem_cons.2 ⟨⟨Try.underlying109, ti109⟩, ?_⟩
  refine List.forall_mem_cons.2 ⟨⟨Try.underlying112, ti112⟩, ?_⟩
  refine List.forall_mem_cons.2 ⟨⟨Try.underlying113, ti113⟩, ?_⟩
  refine List.forall_mem_cons.2 ⟨⟨Try.underlying115, ti115⟩, ?_⟩
  refine List.forall_mem_cons.2 ⟨⟨Try.underlying117, ti117⟩, ?_⟩
  refine List.forall_mem_cons.2 ⟨⟨Try.underlying120, ti120⟩, ?_⟩
  refine List.forall_mem_cons.2 ⟨⟨Try.underlying122, ti122⟩, ?_⟩
  exact fun p hp => absurd hp (List.not_mem_nil))
theorem wide : Try.prog.follows .mixedOrders = true := by kernel_rfl
theorem cl2 : callable Try.prog 2 := callable.mk Try.func2 (by kernel_rfl) (by kernel_rfl)
theorem cl3 : callable Try.prog 3 := callable.mk Try.func3 (by kernel_rfl) (by kernel_rfl)
theorem cl4 : callable Try.prog 4 := callable.mk Try.func4 (by kernel_rfl) (by kernel_rfl)
theorem cl5 : callable Try.prog 5 := callable.mk Try.func5 (by kernel_rfl) (by kernel_rfl)
theorem cl6 : callable Try.prog 6 := callable.mk Try.func6 (by kernel_rfl) (by kernel_rfl)
theorem cl7 : callable Try.prog 7 := callable.mk Try.func7 (by kernel_rfl) (by kernel_rfl)
theorem cl8 : callable Try.prog 8 := callable.mk Try.func8 (by kernel_rfl) (by kernel_rfl)
theorem cl9 : callable Try.prog 9 := callable.mk Try.func9 (by kernel_rfl) (by kernel_rfl)
theorem cl10 : callable Try.prog 10 := callable.mk Try.func10 (by kernel_rfl) (by kernel_rfl)
theorem cl11 : callable Try.prog 11 := callable.mk Try.func11 (by kernel_rfl) (by kernel_rfl)
theorem cl12 : callable Try.prog 12 := callable.mk Try.func12 (by kernel_rfl) (by kernel_rfl)
theorem cl13 : callable Try.prog 13 := callable.mk Try.func13 (by kernel_rfl) (by kernel_rfl)
theorem cl14 : callable Try.prog 14 := callable.mk Try.func14 (by kernel_rfl) (by kernel_rfl)
theorem cl15 : callable Try.prog 15 := callable.mk Try.func15 (by kernel_rfl) (by kernel_rfl)
theorem cl16 : callable Try.prog 16 := callable.mk Try.func16 (by kernel_rfl) (by kernel_rfl)
theorem cl17 : callable Try.prog 17 := callable.mk Try.func17 (by kernel_rfl) (by kernel_rfl)
theorem cl18 : callable Try.prog 18 := callable.mk Try.func18 (by kernel_rfl) (by kernel_rfl)
theorem cl19 : callable Try.prog 19 := callable.mk Try.func19 (by kernel_rfl) (by kernel_rfl)
theorem cl20 : callable Try.prog 20 := callable.mk Try.func20 (by kernel_rfl) (by kernel_rfl)
theorem cl21 : callable Try.prog 21 := callable.mk Try.func21 (by kernel_rfl) (by kernel_rfl)
theorem cl22 : callable Try.prog 22 := callable.mk Try.func22 (by kernel_rfl) (by kernel_rfl)
theorem cl23 : callable Try.prog 23 := callable.mk Try.func23 (by kernel_rfl) (by kernel_rfl)
theorem cl24 : callable Try.prog 24 := callable.mk Try.func24 (by kernel_rfl) (by kernel_rfl)
theorem cl25 : callable Try.prog 25 := callable.mk Try.func25 (by kernel_rfl) (by kernel_rfl)
theorem cl26 : callable Try.prog 26 := callable.mk Try.func26 (by kernel_rfl) (by kernel_rfl)
theorem cl27 : callable Try.prog 27 := callable.mk Try.func27 (by kernel_rfl) (by kernel_rfl)
theorem cl28 : callable Try.prog 28 := callable.mk Try.func28 (by kernel_rfl) (by kernel_rfl)
theorem cl29 : callable Try.prog 29 := callable.mk Try.func29 (by kernel_rfl) (by kernel_rfl)
theorem cl30 : callable Try.prog 30 := callable.mk Try.func30 (by kernel_rfl) (by kernel_rfl)
theorem cl31 : callable Try.prog 31 := callable.mk Try.func31 (by kernel_rfl) (by kernel_rfl)
theorem cl32 : callable Try.prog 32 := callable.mk Try.func32 (by kernel_rfl) (by kernel_rfl)
theorem cl33 : callable Try.prog 33 := callable.mk Try.func33 (by kernel_rfl) (by kernel_rfl)
theorem cl34 : callable Try.prog 34 := callable.mk Try.func34 (by kernel_rfl) (by kernel_rfl)
theorem cl35 : callable Try.prog 35 := callable.mk Try.func35 (by kernel_rfl) (by kernel_rfl)
theorem cl36 : callable Try.prog 36 := callable.mk Try.func36 (by kernel_rfl) (by kernel_rfl)
theorem cl37 : callable Try.prog 37 := callable.mk Try.func37 (by kernel_rfl) (by kernel_rfl)
theorem cl38 : callable Try.prog 38 := callable.mk Try.func38 (by kernel_rfl) (by kernel_rfl)
theorem cl39 : callable Try.prog 39 := callable.mk Try.func39 (by kernel_rfl) (by kernel_rfl)
theorem cl40 : callable Try.prog 40 := callable.mk Try.func40 (by kernel_rfl) (by kernel_rfl)
theorem cl41 : callable Try.prog 41 := callable.mk Try.func41 (by kernel_rfl) (by kernel_rfl)
theorem cl42 : callable Try.prog 42 := callable.mk Try.func42 (by kernel_rfl) (by kernel_rfl)
theorem cl43 : callable Try.prog 43 := callable.mk Try.func43 (by kernel_rfl) (by kernel_rfl)
theorem cl44 : callable Try.prog 44 := callable.mk Try.func44 (by kernel_rfl) (by kernel_rfl)
theorem cl45 : callable Try.prog 45 := callable.mk Try.func45 (by kernel_rfl) (by kernel_rfl)
theorem cl46 : callable Try.prog 46 := callable.mk Try.func46 (by kernel_rfl) (by kernel_rfl)
theorem cl47 : callable Try.prog 47 := callable.mk Try.func47 (by kernel_rfl) (by kernel_rfl)
theorem cl48 : callable Try.prog 48 := callable.mk Try.func48 (by kernel_rfl) (by kernel_rfl)
theorem cl49 : callable Try.prog 49 := callable.mk Try.func49 (by kernel_rfl) (by kernel_rfl)
theorem cl50 : callable Try.prog 50 := callable.mk Try.func50 (by kernel_rfl) (by kernel_rfl)
theorem cl51 : callable Try.prog 51 := callable.mk Try.func51 (by kernel_rfl) (by kernel_rfl)
theorem cl52 : callable Try.prog 52 := callable.mk Try.func52 (by kernel_rfl) (by kernel_rfl)
theorem cl53 : callable Try.prog 53 := callable.mk Try.func53 (by kernel_rfl) (by kernel_rfl)
theorem cl54 : callable Try.prog 54 := callable.mk Try.func54 (by kernel_rfl) (by kernel_rfl)
theorem cl55 : callable Try.prog 55 := callable.mk Try.func55 (by kernel_rfl) (by kernel_rfl)
theorem cl56 : callable Try.prog 56 := callable.mk Try.func56 (by kernel_rfl) (by kernel_rfl)
theorem cl57 : callable Try.prog 57 := callable.mk Try.func57 (by kernel_rfl) (by kernel_rfl)
theorem cl58 : callable Try.prog 58 := callable.mk Try.func58 (by kernel_rfl) (by kernel_rfl)
theorem cl59 : callable Try.prog 59 := callable.mk Try.func59 (by kernel_rfl) (by kernel_rfl)
theorem cl60 : callable Try.prog 60 := callable.mk Try.func60 (by kernel_rfl) (by kernel_rfl)
theorem cl61 : callable Try.prog 61 := callable.mk Try.func61 (by kernel_rfl) (by kernel_rfl)
theorem cl62 : callable Try.prog 62 := callable.mk Try.func62 (by kernel_rfl) (by kernel_rfl)
theorem cl63 : callable Try.prog 63 := callable.mk Try.func63 (by kernel_rfl) (by kernel_rfl)
theorem cl64 : callable Try.prog 64 := callable.mk Try.func64 (by kernel_rfl) (by kernel_rfl)
theorem cl65 : callable Try.prog 65 := callable.mk Try.func65 (by kernel_rfl) (by kernel_rfl)
theorem cl66 : callable Try.prog 66 := callable.mk Try.func66 (by kernel_rfl) (by kernel_rfl)
theorem cl67 : callable Try.prog 67 := callable.mk Try.func67 (by kernel_rfl) (by kernel_rfl)
theorem cl68 : callable Try.prog 68 := callable.mk Try.func68 (by kernel_rfl) (by kernel_rfl)
theorem cl70 : callable Try.prog 70 := callable.mk Try.func70 (by kernel_rfl) (by kernel_rfl)
theorem cl71 : callable Try.prog 71 := callable.mk Try.func71 (by kernel_rfl) (by kernel_rfl)
theorem cl72 : callable Try.prog 72 := callable.mk Try.func72 (by kernel_rfl) (by kernel_rfl)
theorem cl74 : callable Try.prog 74 := callable.mk Try.func74 (by kernel_rfl) (by kernel_rfl)
theorem cl76 : callable Try.prog 76 := callable.mk Try.func76 (by kernel_rfl) (by kernel_rfl)
theorem cl77 : callable Try.prog 77 := callable.mk Try.func77 (by kernel_rfl) (by kernel_rfl)
theorem cl78 : callable Try.prog 78 := callable.mk Try.func78 (by kernel_rfl) (by kernel_rfl)
theorem cl79 : callable Try.prog 79 := callable.mk Try.func79 (by kernel_rfl) (by kernel_rfl)
theorem cl80 : callable Try.prog 80 := callable.mk Try.func80 (by kernel_rfl) (by kernel_rfl)
theorem cl81 : callable Try.prog 81 := callable.mk Try.func81 (by kernel_rfl) (by kernel_rfl)
theorem cl82 : callable Try.prog 82 := callable.mk Try.func82 (by kernel_rfl) (by kernel_rfl)
theorem cl84 : callable Try.prog 84 := callable.mk Try.func84 (by kernel_rfl) (by kernel_rfl)
theorem cl85 : callable Try.prog 85 := callable.mk Try.func85 (by kernel_rfl) (by kernel_rfl)
theorem cl86 : callable Try.prog 86 := callable.mk Try.func86 (by kernel_rfl) (by kernel_rfl)
theorem cl87 : callable Try.prog 87 := callable.mk Try.func87 (by kernel_rfl) (by kernel_rfl)
theorem cl88 : callable Try.prog 88 := callable.mk Try.func88 (by kernel_rfl) (by kernel_rfl)
theorem cl90 : callable Try.prog 90 := callable.mk Try.func90 (by kernel_rfl) (by kernel_rfl)
theorem cl95 : callable Try.prog 95 := callable.mk Try.func95 (by kernel_rfl) (by kernel_rfl)
theorem cl98 : callable Try.prog 98 := callable.mk Try.func98 (by kernel_rfl) (by kernel_rfl)
end Go.Proofs.Ytddphjmcoolinaa
