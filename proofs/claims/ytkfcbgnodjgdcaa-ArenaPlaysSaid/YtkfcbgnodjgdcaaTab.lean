/-
  What the program's tables say of types and of functions (written by facts.py of this claim's maker; each row is checked by the kernel).
-/
import Derived.Test.YtkfcbgnodjgdcaaProg
import Derived.Test.YtkfcbgnodjgdcaaHpJ
import Derived.KernelRfl
namespace Go.Proofs.Ytkfcbgnodjgdcaa
open Go Go.Hp
set_option maxRecDepth 100000
set_option linter.all false
theorem mixed : Try.prog.follows .mixedOrders = true := by kernel_rfl
@[go_sem] theorem tl1 : tl Try.prog 1 = some ⟨.other, 1, 8, .nilFunc⟩ := by kernel_rfl
@[go_sem] theorem tl2 : tl Try.prog 2 = some ⟨.int .i64, 1, 8, .int .i64 0⟩ := by kernel_rfl
@[go_sem] theorem tl3 : tl Try.prog 3 = some ⟨.int .i64, 1, 8, .int .i64 0⟩ := by kernel_rfl
@[go_sem] theorem tl4 : tl Try.prog 4 = some ⟨.bool, 1, 1, .bool false⟩ := by kernel_rfl
@[go_sem] theorem tl5 : tl Try.prog 5 = some ⟨.int .u8, 1, 1, .int .u8 0⟩ := by kernel_rfl
@[go_sem] theorem tl6 : tl Try.prog 6 = some ⟨.int .u8, 1, 1, .int .u8 0⟩ := by kernel_rfl
@[go_sem] theorem tl7 : tl Try.prog 7 = some ⟨.struct, 4, 24, .agg #[.int .i64 0, .int .i64 0, .bool false, .int .u8 0]⟩ := by kernel_rfl
@[go_sem] theorem flay7 : flay Try.prog 7 = some [(0, (1, false)), (1, (1, false)), (2, (1, false)), (3, (1, false))] := by kernel_rfl
@[go_sem] theorem tl8 : tl Try.prog 8 = some ⟨.struct, 4, 24, .agg #[.int .i64 0, .int .i64 0, .bool false, .int .u8 0]⟩ := by kernel_rfl
@[go_sem] theorem flay8 : flay Try.prog 8 = some [(0, (1, false)), (1, (1, false)), (2, (1, false)), (3, (1, false))] := by kernel_rfl
@[go_sem] theorem tl9 : tl Try.prog 9 = some ⟨.string, 1, 16, .string ⟨#[]⟩⟩ := by kernel_rfl
@[go_sem] theorem tl10 : tl Try.prog 10 = some ⟨.string, 1, 16, .string ⟨#[]⟩⟩ := by kernel_rfl
@[go_sem] theorem tl11 : tl Try.prog 11 = some ⟨.string, 1, 16, .string ⟨#[]⟩⟩ := by kernel_rfl
@[go_sem] theorem tl12 : tl Try.prog 12 = some ⟨.int .u64, 1, 8, .int .u64 0⟩ := by kernel_rfl
@[go_sem] theorem tl13 : tl Try.prog 13 = some ⟨.struct, 2, 24, .agg #[.string ⟨#[]⟩, .int .u64 0]⟩ := by kernel_rfl
@[go_sem] theorem flay13 : flay Try.prog 13 = some [(0, (1, false)), (1, (1, false))] := by kernel_rfl
@[go_sem] theorem tl14 : tl Try.prog 14 = some ⟨.struct, 2, 24, .agg #[.string ⟨#[]⟩, .int .u64 0]⟩ := by kernel_rfl
@[go_sem] theorem flay14 : flay Try.prog 14 = some [(0, (1, false)), (1, (1, false))] := by kernel_rfl
@[go_sem] theorem tl15 : tl Try.prog 15 = some ⟨.ptr, 1, 8, .pointer none⟩ := by kernel_rfl
@[go_sem] theorem tl16 : tl Try.prog 16 = some ⟨.ptr, 1, 8, .pointer none⟩ := by kernel_rfl
@[go_sem] theorem tl17 : tl Try.prog 17 = some ⟨.ptr, 1, 8, .pointer none⟩ := by kernel_rfl
@[go_sem] theorem tl18 : tl Try.prog 18 = some ⟨.struct, 1, 8, .agg #[.pointer none]⟩ := by kernel_rfl
@[go_sem] theorem flay18 : flay Try.prog 18 = some [(0, (1, false))] := by kernel_rfl
@[go_sem] theorem tl19 : tl Try.prog 19 = some ⟨.struct, 1, 8, .agg #[.pointer none]⟩ := by kernel_rfl
@[go_sem] theorem flay19 : flay Try.prog 19 = some [(0, (1, false))] := by kernel_rfl
@[go_sem] theorem tl20 : tl Try.prog 20 = some ⟨.other, 1, 16, .nilIface⟩ := by kernel_rfl
@[go_sem] theorem tl21 : tl Try.prog 21 = some ⟨.int .i32, 1, 4, .int .i32 0⟩ := by kernel_rfl
@[go_sem] theorem tl22 : tl Try.prog 22 = some ⟨.slice, 1, 24, .slice none 0 0⟩ := by kernel_rfl
@[go_sem] theorem elems22 : elems Try.prog 22 = some (Option.none, 3, 1) := by kernel_rfl
@[go_sem] theorem tl23 : tl Try.prog 23 = some ⟨.other, 1, 8, .nilFunc⟩ := by kernel_rfl
@[go_sem] theorem tl24 : tl Try.prog 24 = some ⟨.other, 1, 8, .nilFunc⟩ := by kernel_rfl
@[go_sem] theorem tl25 : tl Try.prog 25 = some ⟨.ptr, 1, 8, .pointer none⟩ := by kernel_rfl
@[go_sem] theorem tl26 : tl Try.prog 26 = some ⟨.int .i64, 1, 8, .int .i64 0⟩ := by kernel_rfl
@[go_sem] theorem tl28 : tl Try.prog 28 = some ⟨.other, 1, 8, .nilFunc⟩ := by kernel_rfl
@[go_sem] theorem tl30 : tl Try.prog 30 = some ⟨.other, 1, 8, .nilFunc⟩ := by kernel_rfl
@[go_sem] theorem tl31 : tl Try.prog 31 = some ⟨.other, 1, 8, .nilFunc⟩ := by kernel_rfl
@[go_sem] theorem tl32 : tl Try.prog 32 = some ⟨.other, 1, 8, .nilFunc⟩ := by kernel_rfl
@[go_sem] theorem tl33 : tl Try.prog 33 = some ⟨.other, 1, 8, .nilFunc⟩ := by kernel_rfl
@[go_sem] theorem tl34 : tl Try.prog 34 = some ⟨.ptr, 1, 8, .pointer none⟩ := by kernel_rfl
@[go_sem] theorem tl36 : tl Try.prog 36 = some ⟨.other, 1, 8, .nilFunc⟩ := by kernel_rfl
@[go_sem] theorem tl37 : tl Try.prog 37 = some ⟨.array, 2, 16, .agg #[.int .i64 0, .int .i64 0]⟩ := by kernel_rfl
@[go_sem] theorem elems37 : elems Try.prog 37 = some ((some 2), 3, 1) := by kernel_rfl
@[go_sem] theorem tl38 : tl Try.prog 38 = some ⟨.other, 1, 8, .nilFunc⟩ := by kernel_rfl
@[go_sem] theorem tl39 : tl Try.prog 39 = some ⟨.other, 1, 8, .nilFunc⟩ := by kernel_rfl
@[go_sem] theorem tl40 : tl Try.prog 40 = some ⟨.other, 1, 8, .nilFunc⟩ := by kernel_rfl
@[go_sem] theorem tl42 : tl Try.prog 42 = some ⟨.other, 1, 8, .nilFunc⟩ := by kernel_rfl
@[go_sem] theorem tl43 : tl Try.prog 43 = some ⟨.other, 1, 8, .nilFunc⟩ := by kernel_rfl
@[go_sem] theorem tl44 : tl Try.prog 44 = some ⟨.slice, 1, 24, .slice none 0 0⟩ := by kernel_rfl
@[go_sem] theorem elems44 : elems Try.prog 44 = some (Option.none, 60, 4) := by kernel_rfl
@[go_sem] theorem tl45 : tl Try.prog 45 = some ⟨.ptr, 1, 8, .pointer none⟩ := by kernel_rfl
@[go_sem] theorem tl47 : tl Try.prog 47 = some ⟨.other, 1, 8, .nilFunc⟩ := by kernel_rfl
@[go_sem] theorem tl48 : tl Try.prog 48 = some ⟨.ptr, 1, 8, .pointer none⟩ := by kernel_rfl
@[go_sem] theorem tl50 : tl Try.prog 50 = some ⟨.other, 1, 8, .nilFunc⟩ := by kernel_rfl
@[go_sem] theorem tl51 : tl Try.prog 51 = some ⟨.ptr, 1, 8, .pointer none⟩ := by kernel_rfl
@[go_sem] theorem tl52 : tl Try.prog 52 = some ⟨.slice, 1, 24, .slice none 0 0⟩ := by kernel_rfl
@[go_sem] theorem elems52 : elems Try.prog 52 = some (Option.none, 22, 1) := by kernel_rfl
@[go_sem] theorem tl53 : tl Try.prog 53 = some ⟨.struct, 5, 88, .agg #[.pointer none, .pointer none, .slice none 0 0, .slice none 0 0, .slice none 0 0]⟩ := by kernel_rfl
@[go_sem] theorem flay53 : flay Try.prog 53 = some [(0, (1, false)), (1, (1, false)), (2, (1, false)), (3, (1, false)), (4, (1, false))] := by kernel_rfl
@[go_sem] theorem tl54 : tl Try.prog 54 = some ⟨.struct, 5, 88, .agg #[.pointer none, .pointer none, .slice none 0 0, .slice none 0 0, .slice none 0 0]⟩ := by kernel_rfl
@[go_sem] theorem flay54 : flay Try.prog 54 = some [(0, (1, false)), (1, (1, false)), (2, (1, false)), (3, (1, false)), (4, (1, false))] := by kernel_rfl
@[go_sem] theorem tl55 : tl Try.prog 55 = some ⟨.ptr, 1, 8, .pointer none⟩ := by kernel_rfl
@[go_sem] theorem tl56 : tl Try.prog 56 = some ⟨.slice, 1, 24, .slice none 0 0⟩ := by kernel_rfl
@[go_sem] theorem elems56 : elems Try.prog 56 = some (Option.none, 9, 1) := by kernel_rfl
@[go_sem] theorem tl57 : tl Try.prog 57 = some ⟨.struct, 5, 88, .agg #[.pointer none, .pointer none, .slice none 0 0, .slice none 0 0, .slice none 0 0]⟩ := by kernel_rfl
@[go_sem] theorem flay57 : flay Try.prog 57 = some [(0, (1, false)), (1, (1, false)), (2, (1, false)), (3, (1, false)), (4, (1, false))] := by kernel_rfl
@[go_sem] theorem tl58 : tl Try.prog 58 = some ⟨.struct, 5, 88, .agg #[.pointer none, .pointer none, .slice none 0 0, .slice none 0 0, .slice none 0 0]⟩ := by kernel_rfl
@[go_sem] theorem flay58 : flay Try.prog 58 = some [(0, (1, false)), (1, (1, false)), (2, (1, false)), (3, (1, false)), (4, (1, false))] := by kernel_rfl
@[go_sem] theorem tl59 : tl Try.prog 59 = some ⟨.struct, 4, 32, .agg #[.int .i64 0, .int .i64 0, .int .i64 0, .bool false]⟩ := by kernel_rfl
@[go_sem] theorem flay59 : flay Try.prog 59 = some [(0, (1, false)), (1, (1, false)), (2, (1, false)), (3, (1, false))] := by kernel_rfl
@[go_sem] theorem tl60 : tl Try.prog 60 = some ⟨.struct, 4, 32, .agg #[.int .i64 0, .int .i64 0, .int .i64 0, .bool false]⟩ := by kernel_rfl
@[go_sem] theorem flay60 : flay Try.prog 60 = some [(0, (1, false)), (1, (1, false)), (2, (1, false)), (3, (1, false))] := by kernel_rfl
@[go_sem] theorem tl61 : tl Try.prog 61 = some ⟨.other, 1, 8, .nilFunc⟩ := by kernel_rfl
@[go_sem] theorem tl62 : tl Try.prog 62 = some ⟨.other, 1, 8, .nilFunc⟩ := by kernel_rfl
@[go_sem] theorem tl63 : tl Try.prog 63 = some ⟨.other, 1, 8, .nilFunc⟩ := by kernel_rfl
@[go_sem] theorem tl64 : tl Try.prog 64 = some ⟨.other, 1, 8, .nilFunc⟩ := by kernel_rfl
@[go_sem] theorem tl65 : tl Try.prog 65 = some ⟨.other, 1, 8, .nilFunc⟩ := by kernel_rfl
@[go_sem] theorem tl67 : tl Try.prog 67 = some ⟨.other, 1, 8, .nilFunc⟩ := by kernel_rfl
@[go_sem] theorem tl68 : tl Try.prog 68 = some ⟨.slice, 1, 24, .slice none 0 0⟩ := by kernel_rfl
@[go_sem] theorem elems68 : elems Try.prog 68 = some (Option.none, 72, 3) := by kernel_rfl
@[go_sem] theorem tl69 : tl Try.prog 69 = some ⟨.struct, 4, 48, .agg #[.int .i64 0, .int .i64 0, .slice none 0 0, .int .i64 0]⟩ := by kernel_rfl
@[go_sem] theorem flay69 : flay Try.prog 69 = some [(0, (1, false)), (1, (1, false)), (2, (1, false)), (3, (1, false))] := by kernel_rfl
@[go_sem] theorem tl70 : tl Try.prog 70 = some ⟨.struct, 4, 48, .agg #[.int .i64 0, .int .i64 0, .slice none 0 0, .int .i64 0]⟩ := by kernel_rfl
@[go_sem] theorem flay70 : flay Try.prog 70 = some [(0, (1, false)), (1, (1, false)), (2, (1, false)), (3, (1, false))] := by kernel_rfl
@[go_sem] theorem tl71 : tl Try.prog 71 = some ⟨.struct, 3, 24, .agg #[.int .i64 0, .bool false, .int .i64 0]⟩ := by kernel_rfl
@[go_sem] theorem flay71 : flay Try.prog 71 = some [(0, (1, false)), (1, (1, false)), (2, (1, false))] := by kernel_rfl
@[go_sem] theorem tl72 : tl Try.prog 72 = some ⟨.struct, 3, 24, .agg #[.int .i64 0, .bool false, .int .i64 0]⟩ := by kernel_rfl
@[go_sem] theorem flay72 : flay Try.prog 72 = some [(0, (1, false)), (1, (1, false)), (2, (1, false))] := by kernel_rfl
@[go_sem] theorem tl73 : tl Try.prog 73 = some ⟨.ptr, 1, 8, .pointer none⟩ := by kernel_rfl
@[go_sem] theorem tl74 : tl Try.prog 74 = some ⟨.other, 1, 8, .nilFunc⟩ := by kernel_rfl
@[go_sem] theorem tl75 : tl Try.prog 75 = some ⟨.slice, 1, 24, .slice none 0 0⟩ := by kernel_rfl
@[go_sem] theorem elems75 : elems Try.prog 75 = some (Option.none, 79, 4) := by kernel_rfl
@[go_sem] theorem tl76 : tl Try.prog 76 = some ⟨.struct, 4, 48, .agg #[.int .i64 0, .int .i64 0, .slice none 0 0, .int .i64 0]⟩ := by kernel_rfl
@[go_sem] theorem flay76 : flay Try.prog 76 = some [(0, (1, false)), (1, (1, false)), (2, (1, false)), (3, (1, false))] := by kernel_rfl
@[go_sem] theorem tl77 : tl Try.prog 77 = some ⟨.struct, 4, 48, .agg #[.int .i64 0, .int .i64 0, .slice none 0 0, .int .i64 0]⟩ := by kernel_rfl
@[go_sem] theorem flay77 : flay Try.prog 77 = some [(0, (1, false)), (1, (1, false)), (2, (1, false)), (3, (1, false))] := by kernel_rfl
@[go_sem] theorem tl78 : tl Try.prog 78 = some ⟨.struct, 4, 32, .agg #[.int .i64 0, .int .i64 0, .bool false, .int .i64 0]⟩ := by kernel_rfl
@[go_sem] theorem flay78 : flay Try.prog 78 = some [(0, (2, true)), (2, (1, false)), (3, (1, false))] := by kernel_rfl
@[go_sem] theorem tl79 : tl Try.prog 79 = some ⟨.struct, 4, 32, .agg #[.int .i64 0, .int .i64 0, .bool false, .int .i64 0]⟩ := by kernel_rfl
@[go_sem] theorem flay79 : flay Try.prog 79 = some [(0, (2, true)), (2, (1, false)), (3, (1, false))] := by kernel_rfl
@[go_sem] theorem tl80 : tl Try.prog 80 = some ⟨.ptr, 1, 8, .pointer none⟩ := by kernel_rfl
@[go_sem] theorem tl81 : tl Try.prog 81 = some ⟨.other, 1, 8, .nilFunc⟩ := by kernel_rfl
@[go_sem] theorem tl82 : tl Try.prog 82 = some ⟨.slice, 1, 24, .slice none 0 0⟩ := by kernel_rfl
@[go_sem] theorem elems82 : elems Try.prog 82 = some (Option.none, 96, 3) := by kernel_rfl
@[go_sem] theorem tl83 : tl Try.prog 83 = some ⟨.struct, 4, 48, .agg #[.int .i64 0, .int .i64 0, .slice none 0 0, .int .i64 0]⟩ := by kernel_rfl
@[go_sem] theorem flay83 : flay Try.prog 83 = some [(0, (1, false)), (1, (1, false)), (2, (1, false)), (3, (1, false))] := by kernel_rfl
@[go_sem] theorem tl84 : tl Try.prog 84 = some ⟨.struct, 4, 48, .agg #[.int .i64 0, .int .i64 0, .slice none 0 0, .int .i64 0]⟩ := by kernel_rfl
@[go_sem] theorem flay84 : flay Try.prog 84 = some [(0, (1, false)), (1, (1, false)), (2, (1, false)), (3, (1, false))] := by kernel_rfl
@[go_sem] theorem tl85 : tl Try.prog 85 = some ⟨.slice, 1, 24, .slice none 0 0⟩ := by kernel_rfl
@[go_sem] theorem elems85 : elems Try.prog 85 = some (Option.none, 4, 1) := by kernel_rfl
@[go_sem] theorem tl86 : tl Try.prog 86 = some ⟨.struct, 3, 56, .agg #[.int .i64 0, .slice none 0 0, .slice none 0 0]⟩ := by kernel_rfl
@[go_sem] theorem flay86 : flay Try.prog 86 = some [(0, (1, false)), (1, (1, false)), (2, (1, false))] := by kernel_rfl
@[go_sem] theorem tl87 : tl Try.prog 87 = some ⟨.struct, 3, 56, .agg #[.int .i64 0, .slice none 0 0, .slice none 0 0]⟩ := by kernel_rfl
@[go_sem] theorem flay87 : flay Try.prog 87 = some [(0, (1, false)), (1, (1, false)), (2, (1, false))] := by kernel_rfl
@[go_sem] theorem tl88 : tl Try.prog 88 = some ⟨.other, 1, 8, .nilFunc⟩ := by kernel_rfl
@[go_sem] theorem tl89 : tl Try.prog 89 = some ⟨.other, 1, 8, .nilFunc⟩ := by kernel_rfl
@[go_sem] theorem tl90 : tl Try.prog 90 = some ⟨.other, 1, 8, .nilFunc⟩ := by kernel_rfl
@[go_sem] theorem tl91 : tl Try.prog 91 = some ⟨.other, 1, 8, .nilFunc⟩ := by kernel_rfl
@[go_sem] theorem tl92 : tl Try.prog 92 = some ⟨.int .u64, 1, 8, .int .u64 0⟩ := by kernel_rfl
@[go_sem] theorem tl93 : tl Try.prog 93 = some ⟨.slice, 1, 24, .slice none 0 0⟩ := by kernel_rfl
@[go_sem] theorem elems93 : elems Try.prog 93 = some (Option.none, 5, 1) := by kernel_rfl
@[go_sem] theorem tl94 : tl Try.prog 94 = some ⟨.other, 1, 8, .nilFunc⟩ := by kernel_rfl
@[go_sem] theorem tl95 : tl Try.prog 95 = some ⟨.struct, 3, 32, .agg #[.string ⟨#[]⟩, .bool false, .int .i64 0]⟩ := by kernel_rfl
@[go_sem] theorem flay95 : flay Try.prog 95 = some [(0, (1, false)), (1, (1, false)), (2, (1, false))] := by kernel_rfl
@[go_sem] theorem tl96 : tl Try.prog 96 = some ⟨.struct, 3, 32, .agg #[.string ⟨#[]⟩, .bool false, .int .i64 0]⟩ := by kernel_rfl
@[go_sem] theorem flay96 : flay Try.prog 96 = some [(0, (1, false)), (1, (1, false)), (2, (1, false))] := by kernel_rfl
@[go_sem] theorem tl97 : tl Try.prog 97 = some ⟨.ptr, 1, 8, .pointer none⟩ := by kernel_rfl
@[go_sem] theorem tl98 : tl Try.prog 98 = some ⟨.other, 1, 8, .nilFunc⟩ := by kernel_rfl
@[go_sem] theorem tl99 : tl Try.prog 99 = some ⟨.other, 1, 8, .nilFunc⟩ := by kernel_rfl
@[go_sem] theorem tl100 : tl Try.prog 100 = some ⟨.other, 1, 8, .nilFunc⟩ := by kernel_rfl
@[go_sem] theorem tl101 : tl Try.prog 101 = some ⟨.other, 1, 8, .nilFunc⟩ := by kernel_rfl
@[go_sem] theorem tl102 : tl Try.prog 102 = some ⟨.other, 1, 8, .nilFunc⟩ := by kernel_rfl
@[go_sem] theorem tl103 : tl Try.prog 103 = some ⟨.struct, 4, 40, .agg #[.pointer none, .pointer none, .pointer none, .string ⟨#[]⟩]⟩ := by kernel_rfl
@[go_sem] theorem flay103 : flay Try.prog 103 = some [(0, (1, false)), (1, (1, false)), (2, (1, false)), (3, (1, false))] := by kernel_rfl
@[go_sem] theorem tl104 : tl Try.prog 104 = some ⟨.struct, 4, 40, .agg #[.pointer none, .pointer none, .pointer none, .string ⟨#[]⟩]⟩ := by kernel_rfl
@[go_sem] theorem flay104 : flay Try.prog 104 = some [(0, (1, false)), (1, (1, false)), (2, (1, false)), (3, (1, false))] := by kernel_rfl
@[go_sem] theorem tl105 : tl Try.prog 105 = some ⟨.array, 0, 0, .agg #[]⟩ := by kernel_rfl
@[go_sem] theorem elems105 : elems Try.prog 105 = some ((some 0), 16, 1) := by kernel_rfl
@[go_sem] theorem tl106 : tl Try.prog 106 = some ⟨.struct, 0, 0, .agg #[]⟩ := by kernel_rfl
@[go_sem] theorem flay106 : flay Try.prog 106 = some [(0, (0, true))] := by kernel_rfl
@[go_sem] theorem tl107 : tl Try.prog 107 = some ⟨.struct, 0, 0, .agg #[]⟩ := by kernel_rfl
@[go_sem] theorem flay107 : flay Try.prog 107 = some [(0, (0, true))] := by kernel_rfl
@[go_sem] theorem tl108 : tl Try.prog 108 = some ⟨.int .u32, 1, 4, .int .u32 0⟩ := by kernel_rfl
@[go_sem] theorem tl109 : tl Try.prog 109 = some ⟨.int .u8, 1, 1, .int .u8 0⟩ := by kernel_rfl
@[go_sem] theorem tl110 : tl Try.prog 110 = some ⟨.int .u8, 1, 1, .int .u8 0⟩ := by kernel_rfl
@[go_sem] theorem tl111 : tl Try.prog 111 = some ⟨.other, 1, 8, .nilFunc⟩ := by kernel_rfl
@[go_sem] theorem tl112 : tl Try.prog 112 = some ⟨.ptr, 1, 8, .pointer none⟩ := by kernel_rfl
@[go_sem] theorem tl113 : tl Try.prog 113 = some ⟨.int .i32, 1, 4, .int .i32 0⟩ := by kernel_rfl
@[go_sem] theorem tl114 : tl Try.prog 114 = some ⟨.int .i32, 1, 4, .int .i32 0⟩ := by kernel_rfl
@[go_sem] theorem tl115 : tl Try.prog 115 = some ⟨.struct, 11, 48, .agg #[.int .u64 0, .int .u64 0, .int .u32 0, .int .u8 0, .int .u8 0, .int .u8 0, .int .u8 0, .nilFunc, .pointer none, .int .i32 0, .int .i32 0]⟩ := by kernel_rfl
@[go_sem] theorem flay115 : flay Try.prog 115 = some [(0, (1, false)), (1, (1, false)), (2, (1, false)), (3, (1, false)), (4, (1, false)), (5, (1, false)), (6, (1, false)), (7, (1, false)), (8, (1, false)), (9, (1, false)), (10, (1, false))] := by kernel_rfl
@[go_sem] theorem tl116 : tl Try.prog 116 = some ⟨.struct, 11, 48, .agg #[.int .u64 0, .int .u64 0, .int .u32 0, .int .u8 0, .int .u8 0, .int .u8 0, .int .u8 0, .nilFunc, .pointer none, .int .i32 0, .int .i32 0]⟩ := by kernel_rfl
@[go_sem] theorem flay116 : flay Try.prog 116 = some [(0, (1, false)), (1, (1, false)), (2, (1, false)), (3, (1, false)), (4, (1, false)), (5, (1, false)), (6, (1, false)), (7, (1, false)), (8, (1, false)), (9, (1, false)), (10, (1, false))] := by kernel_rfl
@[go_sem] theorem tl117 : tl Try.prog 117 = some ⟨.other, 1, 8, .nilFunc⟩ := by kernel_rfl
@[go_sem] theorem tl118 : tl Try.prog 118 = some ⟨.other, 1, 8, .pointer none⟩ := by kernel_rfl
/-- gosem.cut.init -/
theorem call2 {args : Array Value} {H : Heap} {K : Value → Heap → Prop} (ha : args.size ≤ 1) (h : codeX Try.prog [] (Try.f2.body.getD .skip) (endQ Try.prog [] K) (Env.init args) H) : CallsH Try.prog 2 args H K :=
  callsH_of mixed [] 1 [] (f := 2) (fn := Try.f2) (by kernel_rfl) (by kernel_rfl) (c := Try.f2.body.getD .skip) (by kernel_rfl) (by kernel_rfl) (by kernel_rfl) (by kernel_rfl) ha h
/-- isthmus/isthmuslaw02.ArenaTurns -/
theorem call3 {args : Array Value} {H : Heap} {K : Value → Heap → Prop} (ha : args.size ≤ 161) (h : codeX Try.prog [] (Try.f3.body.getD .skip) (endQ Try.prog [.tmp 4] K) (Env.init args) H) : CallsH Try.prog 3 args H K :=
  callsH_of mixed [] 161 [.tmp 4] (f := 3) (fn := Try.f3) (by kernel_rfl) (by kernel_rfl) (c := Try.f3.body.getD .skip) (by kernel_rfl) (by kernel_rfl) (by kernel_rfl) (by kernel_rfl) ha h
/-- isthmus/isthmuslaw02.ArenaKeeps -/
theorem call4 {args : Array Value} {H : Heap} {K : Value → Heap → Prop} (ha : args.size ≤ 228) (h : codeX Try.prog [31, 36] (Try.f4.body.getD .skip) (endQ Try.prog [.tmp 4] K) (Env.init args) H) : CallsH Try.prog 4 args H K :=
  callsH_of mixed [31, 36] 228 [.tmp 4] (f := 4) (fn := Try.f4) (by kernel_rfl) (by kernel_rfl) (c := Try.f4.body.getD .skip) (by kernel_rfl) (by kernel_rfl) (by kernel_rfl) (by kernel_rfl) ha h
/-- isthmus/isthmuslaw02.ArenaPlays · draws: [17] -/
theorem call5 {args : Array Value} {H : Heap} {K : Value → Heap → Prop} (ha : args.size ≤ 127) (h : codeX Try.prog [18] (Try.f5.body.getD .skip) (endQ Try.prog [.tmp 6] K) (Env.init args) H) : CallsH Try.prog 5 args H K :=
  callsH_of mixed [18] 127 [.tmp 6] (f := 5) (fn := Try.f5) (by kernel_rfl) (by kernel_rfl) (c := Try.f5.body.getD .skip) (by kernel_rfl) (by kernel_rfl) (by kernel_rfl) (by kernel_rfl) ha h
/-- isthmus/isthmuslaw02.awake -/
theorem call6 {args : Array Value} {H : Heap} {K : Value → Heap → Prop} (ha : args.size ≤ 72) (h : codeX Try.prog [] (Try.f6.body.getD .skip) (endQ Try.prog [.tmp 0] K) (Env.init args) H) : CallsH Try.prog 6 args H K :=
  callsH_of mixed [] 72 [.tmp 0] (f := 6) (fn := Try.f6) (by kernel_rfl) (by kernel_rfl) (c := Try.f6.body.getD .skip) (by kernel_rfl) (by kernel_rfl) (by kernel_rfl) (by kernel_rfl) ha h
/-- isthmus/isthmuslaw02.pick -/
theorem call7 {args : Array Value} {H : Heap} {K : Value → Heap → Prop} (ha : args.size ≤ 13) (h : codeX Try.prog [] (Try.f7.body.getD .skip) (endQ Try.prog [.tmp 4] K) (Env.init args) H) : CallsH Try.prog 7 args H K :=
  callsH_of mixed [] 13 [.tmp 4] (f := 7) (fn := Try.f7) (by kernel_rfl) (by kernel_rfl) (c := Try.f7.body.getD .skip) (by kernel_rfl) (by kernel_rfl) (by kernel_rfl) (by kernel_rfl) ha h
/-- isthmus/arena.New[int] -/
theorem call8 {args : Array Value} {H : Heap} {K : Value → Heap → Prop} (ha : args.size ≤ 14) (h : codeX Try.prog [] (Try.f8.body.getD .skip) (endQ Try.prog [.tmp 2, .tmp 3] K) (Env.init args) H) : CallsH Try.prog 8 args H K :=
  callsH_of mixed [] 14 [.tmp 2, .tmp 3] (f := 8) (fn := Try.f8) (by kernel_rfl) (by kernel_rfl) (c := Try.f8.body.getD .skip) (by kernel_rfl) (by kernel_rfl) (by kernel_rfl) (by kernel_rfl) ha h
/-- (*isthmus/arena.Arena[int]).Put -/
theorem call9 {args : Array Value} {H : Heap} {K : Value → Heap → Prop} (ha : args.size ≤ 66) (h : codeX Try.prog [1] (Try.f9.body.getD .skip) (endQ Try.prog [.tmp 4, .tmp 5] K) (Env.init args) H) : CallsH Try.prog 9 args H K :=
  callsH_of mixed [1] 66 [.tmp 4, .tmp 5] (f := 9) (fn := Try.f9) (by kernel_rfl) (by kernel_rfl) (c := Try.f9.body.getD .skip) (by kernel_rfl) (by kernel_rfl) (by kernel_rfl) (by kernel_rfl) ha h
/-- (*isthmus/arena.Arena[int]).Drop -/
theorem call10 {args : Array Value} {H : Heap} {K : Value → Heap → Prop} (ha : args.size ≤ 29) (h : codeX Try.prog [] (Try.f10.body.getD .skip) (endQ Try.prog [.tmp 4] K) (Env.init args) H) : CallsH Try.prog 10 args H K :=
  callsH_of mixed [] 29 [.tmp 4] (f := 10) (fn := Try.f10) (by kernel_rfl) (by kernel_rfl) (c := Try.f10.body.getD .skip) (by kernel_rfl) (by kernel_rfl) (by kernel_rfl) (by kernel_rfl) ha h
/-- (*isthmus/arena.Arena[int]).Get -/
theorem call11 {args : Array Value} {H : Heap} {K : Value → Heap → Prop} (ha : args.size ≤ 18) (h : codeX Try.prog [] (Try.f11.body.getD .skip) (endQ Try.prog [.tmp 4, .tmp 5] K) (Env.init args) H) : CallsH Try.prog 11 args H K :=
  callsH_of mixed [] 18 [.tmp 4, .tmp 5] (f := 11) (fn := Try.f11) (by kernel_rfl) (by kernel_rfl) (c := Try.f11.body.getD .skip) (by kernel_rfl) (by kernel_rfl) (by kernel_rfl) (by kernel_rfl) ha h
/-- (*isthmus/arena.Arena[int]).Len -/
theorem call12 {args : Array Value} {H : Heap} {K : Value → Heap → Prop} (ha : args.size ≤ 7) (h : codeX Try.prog [] (Try.f12.body.getD .skip) (endQ Try.prog [.tmp 2] K) (Env.init args) H) : CallsH Try.prog 12 args H K :=
  callsH_of mixed [] 7 [.tmp 2] (f := 12) (fn := Try.f12) (by kernel_rfl) (by kernel_rfl) (c := Try.f12.body.getD .skip) (by kernel_rfl) (by kernel_rfl) (by kernel_rfl) (by kernel_rfl) ha h
/-- isthmus/arena.New[[2]int] -/
theorem call13 {args : Array Value} {H : Heap} {K : Value → Heap → Prop} (ha : args.size ≤ 14) (h : codeX Try.prog [] (Try.f13.body.getD .skip) (endQ Try.prog [.tmp 2, .tmp 3] K) (Env.init args) H) : CallsH Try.prog 13 args H K :=
  callsH_of mixed [] 14 [.tmp 2, .tmp 3] (f := 13) (fn := Try.f13) (by kernel_rfl) (by kernel_rfl) (c := Try.f13.body.getD .skip) (by kernel_rfl) (by kernel_rfl) (by kernel_rfl) (by kernel_rfl) ha h
/-- (*isthmus/arena.Arena[[2]int]).Put -/
theorem call14 {args : Array Value} {H : Heap} {K : Value → Heap → Prop} (ha : args.size ≤ 66) (h : codeX Try.prog [1, 6, 9] (Try.f14.body.getD .skip) (endQ Try.prog [.tmp 4, .tmp 5] K) (Env.init args) H) : CallsH Try.prog 14 args H K :=
  callsH_of mixed [1, 6, 9] 66 [.tmp 4, .tmp 5] (f := 14) (fn := Try.f14) (by kernel_rfl) (by kernel_rfl) (c := Try.f14.body.getD .skip) (by kernel_rfl) (by kernel_rfl) (by kernel_rfl) (by kernel_rfl) ha h
/-- (*isthmus/arena.Arena[[2]int]).Len -/
theorem call15 {args : Array Value} {H : Heap} {K : Value → Heap → Prop} (ha : args.size ≤ 7) (h : codeX Try.prog [] (Try.f15.body.getD .skip) (endQ Try.prog [.tmp 2] K) (Env.init args) H) : CallsH Try.prog 15 args H K :=
  callsH_of mixed [] 7 [.tmp 2] (f := 15) (fn := Try.f15) (by kernel_rfl) (by kernel_rfl) (c := Try.f15.body.getD .skip) (by kernel_rfl) (by kernel_rfl) (by kernel_rfl) (by kernel_rfl) ha h
/-- (*isthmus/arena.Arena[[2]int]).Drop -/
theorem call16 {args : Array Value} {H : Heap} {K : Value → Heap → Prop} (ha : args.size ≤ 29) (h : codeX Try.prog [] (Try.f16.body.getD .skip) (endQ Try.prog [.tmp 4] K) (Env.init args) H) : CallsH Try.prog 16 args H K :=
  callsH_of mixed [] 29 [.tmp 4] (f := 16) (fn := Try.f16) (by kernel_rfl) (by kernel_rfl) (c := Try.f16.body.getD .skip) (by kernel_rfl) (by kernel_rfl) (by kernel_rfl) (by kernel_rfl) ha h
/-- isthmus/isthmuslaw02.again -/
theorem call17 {args : Array Value} {H : Heap} {K : Value → Heap → Prop} (ha : args.size ≤ 32) (h : codeX Try.prog [4] (Try.f17.body.getD .skip) (endQ Try.prog [.tmp 6] K) (Env.init args) H) : CallsH Try.prog 17 args H K :=
  callsH_of mixed [4] 32 [.tmp 6] (f := 17) (fn := Try.f17) (by kernel_rfl) (by kernel_rfl) (c := Try.f17.body.getD .skip) (by kernel_rfl) (by kernel_rfl) (by kernel_rfl) (by kernel_rfl) ha h
/-- isthmus/isthmuslaw02.gone -/
theorem call18 {args : Array Value} {H : Heap} {K : Value → Heap → Prop} (ha : args.size ≤ 22) (h : codeX Try.prog [] (Try.f18.body.getD .skip) (endQ Try.prog [] K) (Env.init args) H) : CallsH Try.prog 18 args H K :=
  callsH_of mixed [] 22 [] (f := 18) (fn := Try.f18) (by kernel_rfl) (by kernel_rfl) (c := Try.f18.body.getD .skip) (by kernel_rfl) (by kernel_rfl) (by kernel_rfl) (by kernel_rfl) ha h
/-- (*isthmus/arena.Arena[[2]int]).Get -/
theorem call19 {args : Array Value} {H : Heap} {K : Value → Heap → Prop} (ha : args.size ≤ 18) (h : codeX Try.prog [] (Try.f19.body.getD .skip) (endQ Try.prog [.cell 4 37, .tmp 5] K) (Env.init args) H) : CallsH Try.prog 19 args H K :=
  callsH_of mixed [] 18 [.cell 4 37, .tmp 5] (f := 19) (fn := Try.f19) (by kernel_rfl) (by kernel_rfl) (c := Try.f19.body.getD .skip) (by kernel_rfl) (by kernel_rfl) (by kernel_rfl) (by kernel_rfl) ha h
/-- (*isthmus/arena.Arena[[2]int]).All -/
theorem call20 {args : Array Value} {H : Heap} {K : Value → Heap → Prop} (ha : args.size ≤ 32) (h : codeX Try.prog [] (Try.f20.body.getD .skip) (endQ Try.prog [.tmp 2] K) (Env.init args) H) : CallsH Try.prog 20 args H K :=
  callsH_of mixed [] 32 [.tmp 2] (f := 20) (fn := Try.f20) (by kernel_rfl) (by kernel_rfl) (c := Try.f20.body.getD .skip) (by kernel_rfl) (by kernel_rfl) (by kernel_rfl) (by kernel_rfl) ha h
/-- isthmus/arena.New[string] -/
theorem call21 {args : Array Value} {H : Heap} {K : Value → Heap → Prop} (ha : args.size ≤ 14) (h : codeX Try.prog [] (Try.f21.body.getD .skip) (endQ Try.prog [.tmp 2, .tmp 3] K) (Env.init args) H) : CallsH Try.prog 21 args H K :=
  callsH_of mixed [] 14 [.tmp 2, .tmp 3] (f := 21) (fn := Try.f21) (by kernel_rfl) (by kernel_rfl) (c := Try.f21.body.getD .skip) (by kernel_rfl) (by kernel_rfl) (by kernel_rfl) (by kernel_rfl) ha h
/-- isthmus/isthmusref02.New -/
theorem call22 {args : Array Value} {H : Heap} {K : Value → Heap → Prop} (ha : args.size ≤ 14) (h : codeX Try.prog [] (Try.f22.body.getD .skip) (endQ Try.prog [.tmp 2, .tmp 3] K) (Env.init args) H) : CallsH Try.prog 22 args H K :=
  callsH_of mixed [] 14 [.tmp 2, .tmp 3] (f := 22) (fn := Try.f22) (by kernel_rfl) (by kernel_rfl) (c := Try.f22.body.getD .skip) (by kernel_rfl) (by kernel_rfl) (by kernel_rfl) (by kernel_rfl) ha h
/-- (*isthmus/isthmuslaw02.side[string]).step · draws: [5, 11, 16] -/
theorem call23 {args : Array Value} {H : Heap} {K : Value → Heap → Prop} (ha : args.size ≤ 102) (h : codeX Try.prog [] (Try.f23.body.getD .skip) (endQ Try.prog [.tmp 6] K) (Env.init args) H) : CallsH Try.prog 23 args H K :=
  callsH_of mixed [] 102 [.tmp 6] (f := 23) (fn := Try.f23) (by kernel_rfl) (by kernel_rfl) (c := Try.f23.body.getD .skip) (by kernel_rfl) (by kernel_rfl) (by kernel_rfl) (by kernel_rfl) ha h
/-- isthmus/isthmuslaw02.text -/
theorem call24 {args : Array Value} {H : Heap} {K : Value → Heap → Prop} (ha : args.size ≤ 13) (h : codeX Try.prog [] (Try.f24.body.getD .skip) (endQ Try.prog [.tmp 2] K) (Env.init args) H) : CallsH Try.prog 24 args H K :=
  callsH_of mixed [] 13 [.tmp 2] (f := 24) (fn := Try.f24) (by kernel_rfl) (by kernel_rfl) (c := Try.f24.body.getD .skip) (by kernel_rfl) (by kernel_rfl) (by kernel_rfl) (by kernel_rfl) ha h
/-- (*isthmus/isthmuslaw02.side[int]).step · draws: [5, 11, 16] -/
theorem call25 {args : Array Value} {H : Heap} {K : Value → Heap → Prop} (ha : args.size ≤ 102) (h : codeX Try.prog [] (Try.f25.body.getD .skip) (endQ Try.prog [.tmp 6] K) (Env.init args) H) : CallsH Try.prog 25 args H K :=
  callsH_of mixed [] 102 [.tmp 6] (f := 25) (fn := Try.f25) (by kernel_rfl) (by kernel_rfl) (c := Try.f25.body.getD .skip) (by kernel_rfl) (by kernel_rfl) (by kernel_rfl) (by kernel_rfl) ha h
/-- (*isthmus/isthmuslaw02.side[int]).ends · draws: [26, 35] -/
theorem call26 {args : Array Value} {H : Heap} {K : Value → Heap → Prop} (ha : args.size ≤ 177) (h : codeX Try.prog [10] (Try.f26.body.getD .skip) (endQ Try.prog [.tmp 2] K) (Env.init args) H) : CallsH Try.prog 26 args H K :=
  callsH_of mixed [10] 177 [.tmp 2] (f := 26) (fn := Try.f26) (by kernel_rfl) (by kernel_rfl) (c := Try.f26.body.getD .skip) (by kernel_rfl) (by kernel_rfl) (by kernel_rfl) (by kernel_rfl) ha h
/-- (*isthmus/isthmuslaw02.side[string]).ends · draws: [26, 35] -/
theorem call27 {args : Array Value} {H : Heap} {K : Value → Heap → Prop} (ha : args.size ≤ 177) (h : codeX Try.prog [10] (Try.f27.body.getD .skip) (endQ Try.prog [.tmp 2] K) (Env.init args) H) : CallsH Try.prog 27 args H K :=
  callsH_of mixed [10] 177 [.tmp 2] (f := 27) (fn := Try.f27) (by kernel_rfl) (by kernel_rfl) (c := Try.f27.body.getD .skip) (by kernel_rfl) (by kernel_rfl) (by kernel_rfl) (by kernel_rfl) ha h
/-- (*isthmus/arena.Arena[string]).Put -/
theorem call28 {args : Array Value} {H : Heap} {K : Value → Heap → Prop} (ha : args.size ≤ 66) (h : codeX Try.prog [1] (Try.f28.body.getD .skip) (endQ Try.prog [.tmp 4, .tmp 5] K) (Env.init args) H) : CallsH Try.prog 28 args H K :=
  callsH_of mixed [1] 66 [.tmp 4, .tmp 5] (f := 28) (fn := Try.f28) (by kernel_rfl) (by kernel_rfl) (c := Try.f28.body.getD .skip) (by kernel_rfl) (by kernel_rfl) (by kernel_rfl) (by kernel_rfl) ha h
/-- (*isthmus/arena.Arena[string]).Get -/
theorem call29 {args : Array Value} {H : Heap} {K : Value → Heap → Prop} (ha : args.size ≤ 18) (h : codeX Try.prog [] (Try.f29.body.getD .skip) (endQ Try.prog [.tmp 4, .tmp 5] K) (Env.init args) H) : CallsH Try.prog 29 args H K :=
  callsH_of mixed [] 18 [.tmp 4, .tmp 5] (f := 29) (fn := Try.f29) (by kernel_rfl) (by kernel_rfl) (c := Try.f29.body.getD .skip) (by kernel_rfl) (by kernel_rfl) (by kernel_rfl) (by kernel_rfl) ha h
/-- (*isthmus/arena.Arena[string]).Len -/
theorem call30 {args : Array Value} {H : Heap} {K : Value → Heap → Prop} (ha : args.size ≤ 7) (h : codeX Try.prog [] (Try.f30.body.getD .skip) (endQ Try.prog [.tmp 2] K) (Env.init args) H) : CallsH Try.prog 30 args H K :=
  callsH_of mixed [] 7 [.tmp 2] (f := 30) (fn := Try.f30) (by kernel_rfl) (by kernel_rfl) (c := Try.f30.body.getD .skip) (by kernel_rfl) (by kernel_rfl) (by kernel_rfl) (by kernel_rfl) ha h
/-- (*isthmus/arena.Arena[int]).at -/
theorem call31 {args : Array Value} {H : Heap} {K : Value → Heap → Prop} (ha : args.size ≤ 33) (h : codeX Try.prog [] (Try.f31.body.getD .skip) (endQ Try.prog [.tmp 4] K) (Env.init args) H) : CallsH Try.prog 31 args H K :=
  callsH_of mixed [] 33 [.tmp 4] (f := 31) (fn := Try.f31) (by kernel_rfl) (by kernel_rfl) (c := Try.f31.body.getD .skip) (by kernel_rfl) (by kernel_rfl) (by kernel_rfl) (by kernel_rfl) ha h
/-- (*isthmus/arena.Arena[[2]int]).at -/
theorem call32 {args : Array Value} {H : Heap} {K : Value → Heap → Prop} (ha : args.size ≤ 33) (h : codeX Try.prog [] (Try.f32.body.getD .skip) (endQ Try.prog [.tmp 4] K) (Env.init args) H) : CallsH Try.prog 32 args H K :=
  callsH_of mixed [] 33 [.tmp 4] (f := 32) (fn := Try.f32) (by kernel_rfl) (by kernel_rfl) (c := Try.f32.body.getD .skip) (by kernel_rfl) (by kernel_rfl) (by kernel_rfl) (by kernel_rfl) ha h
/-- (*isthmus/isthmuslaw02.side[string]).put -/
theorem call33 {args : Array Value} {H : Heap} {K : Value → Heap → Prop} (ha : args.size ≤ 64) (h : codeX Try.prog [] (Try.f33.body.getD .skip) (endQ Try.prog [.tmp 4] K) (Env.init args) H) : CallsH Try.prog 33 args H K :=
  callsH_of mixed [] 64 [.tmp 4] (f := 33) (fn := Try.f33) (by kernel_rfl) (by kernel_rfl) (c := Try.f33.body.getD .skip) (by kernel_rfl) (by kernel_rfl) (by kernel_rfl) (by kernel_rfl) ha h
/-- (*isthmus/arena.Arena[string]).Drop -/
theorem call34 {args : Array Value} {H : Heap} {K : Value → Heap → Prop} (ha : args.size ≤ 29) (h : codeX Try.prog [] (Try.f34.body.getD .skip) (endQ Try.prog [.tmp 4] K) (Env.init args) H) : CallsH Try.prog 34 args H K :=
  callsH_of mixed [] 29 [.tmp 4] (f := 34) (fn := Try.f34) (by kernel_rfl) (by kernel_rfl) (c := Try.f34.body.getD .skip) (by kernel_rfl) (by kernel_rfl) (by kernel_rfl) (by kernel_rfl) ha h
/-- (*isthmus/isthmusref02.Arena).Drop -/
theorem call35 {args : Array Value} {H : Heap} {K : Value → Heap → Prop} (ha : args.size ≤ 25) (h : codeX Try.prog [] (Try.f35.body.getD .skip) (endQ Try.prog [.tmp 4] K) (Env.init args) H) : CallsH Try.prog 35 args H K :=
  callsH_of mixed [] 25 [.tmp 4] (f := 35) (fn := Try.f35) (by kernel_rfl) (by kernel_rfl) (c := Try.f35.body.getD .skip) (by kernel_rfl) (by kernel_rfl) (by kernel_rfl) (by kernel_rfl) ha h
/-- (*isthmus/isthmuslaw02.side[string]).get -/
theorem call36 {args : Array Value} {H : Heap} {K : Value → Heap → Prop} (ha : args.size ≤ 44) (h : codeX Try.prog [] (Try.f36.body.getD .skip) (endQ Try.prog [.tmp 4] K) (Env.init args) H) : CallsH Try.prog 36 args H K :=
  callsH_of mixed [] 44 [.tmp 4] (f := 36) (fn := Try.f36) (by kernel_rfl) (by kernel_rfl) (c := Try.f36.body.getD .skip) (by kernel_rfl) (by kernel_rfl) (by kernel_rfl) (by kernel_rfl) ha h
/-- (*isthmus/isthmuslaw02.side[string]).set -/
theorem call37 {args : Array Value} {H : Heap} {K : Value → Heap → Prop} (ha : args.size ≤ 33) (h : codeX Try.prog [] (Try.f37.body.getD .skip) (endQ Try.prog [.tmp 6] K) (Env.init args) H) : CallsH Try.prog 37 args H K :=
  callsH_of mixed [] 33 [.tmp 6] (f := 37) (fn := Try.f37) (by kernel_rfl) (by kernel_rfl) (c := Try.f37.body.getD .skip) (by kernel_rfl) (by kernel_rfl) (by kernel_rfl) (by kernel_rfl) ha h
/-- (*isthmus/isthmusref02.Arena).Len -/
theorem call38 {args : Array Value} {H : Heap} {K : Value → Heap → Prop} (ha : args.size ≤ 24) (h : codeX Try.prog [] (Try.f38.body.getD .skip) (endQ Try.prog [.tmp 2] K) (Env.init args) H) : CallsH Try.prog 38 args H K :=
  callsH_of mixed [] 24 [.tmp 2] (f := 38) (fn := Try.f38) (by kernel_rfl) (by kernel_rfl) (c := Try.f38.body.getD .skip) (by kernel_rfl) (by kernel_rfl) (by kernel_rfl) (by kernel_rfl) ha h
/-- (*isthmus/arena.Arena[string]).All -/
theorem call39 {args : Array Value} {H : Heap} {K : Value → Heap → Prop} (ha : args.size ≤ 32) (h : codeX Try.prog [] (Try.f39.body.getD .skip) (endQ Try.prog [.tmp 2] K) (Env.init args) H) : CallsH Try.prog 39 args H K :=
  callsH_of mixed [] 32 [.tmp 2] (f := 39) (fn := Try.f39) (by kernel_rfl) (by kernel_rfl) (c := Try.f39.body.getD .skip) (by kernel_rfl) (by kernel_rfl) (by kernel_rfl) (by kernel_rfl) ha h
/-- (*isthmus/isthmusref02.Arena).All -/
theorem call40 {args : Array Value} {H : Heap} {K : Value → Heap → Prop} (ha : args.size ≤ 26) (h : codeX Try.prog [] (Try.f40.body.getD .skip) (endQ Try.prog [.tmp 2] K) (Env.init args) H) : CallsH Try.prog 40 args H K :=
  callsH_of mixed [] 26 [.tmp 2] (f := 40) (fn := Try.f40) (by kernel_rfl) (by kernel_rfl) (c := Try.f40.body.getD .skip) (by kernel_rfl) (by kernel_rfl) (by kernel_rfl) (by kernel_rfl) ha h
/-- isthmus/isthmuslaw02.same -/
theorem call41 {args : Array Value} {H : Heap} {K : Value → Heap → Prop} (ha : args.size ≤ 26) (h : codeX Try.prog [6] (Try.f41.body.getD .skip) (endQ Try.prog [.tmp 4] K) (Env.init args) H) : CallsH Try.prog 41 args H K :=
  callsH_of mixed [6] 26 [.tmp 4] (f := 41) (fn := Try.f41) (by kernel_rfl) (by kernel_rfl) (c := Try.f41.body.getD .skip) (by kernel_rfl) (by kernel_rfl) (by kernel_rfl) (by kernel_rfl) ha h
/-- (*isthmus/isthmuslaw02.side[int]).put -/
theorem call42 {args : Array Value} {H : Heap} {K : Value → Heap → Prop} (ha : args.size ≤ 64) (h : codeX Try.prog [] (Try.f42.body.getD .skip) (endQ Try.prog [.tmp 4] K) (Env.init args) H) : CallsH Try.prog 42 args H K :=
  callsH_of mixed [] 64 [.tmp 4] (f := 42) (fn := Try.f42) (by kernel_rfl) (by kernel_rfl) (c := Try.f42.body.getD .skip) (by kernel_rfl) (by kernel_rfl) (by kernel_rfl) (by kernel_rfl) ha h
/-- (*isthmus/isthmuslaw02.side[int]).get -/
theorem call43 {args : Array Value} {H : Heap} {K : Value → Heap → Prop} (ha : args.size ≤ 44) (h : codeX Try.prog [] (Try.f43.body.getD .skip) (endQ Try.prog [.tmp 4] K) (Env.init args) H) : CallsH Try.prog 43 args H K :=
  callsH_of mixed [] 44 [.tmp 4] (f := 43) (fn := Try.f43) (by kernel_rfl) (by kernel_rfl) (c := Try.f43.body.getD .skip) (by kernel_rfl) (by kernel_rfl) (by kernel_rfl) (by kernel_rfl) ha h
/-- (*isthmus/isthmuslaw02.side[int]).set -/
theorem call44 {args : Array Value} {H : Heap} {K : Value → Heap → Prop} (ha : args.size ≤ 33) (h : codeX Try.prog [] (Try.f44.body.getD .skip) (endQ Try.prog [.tmp 6] K) (Env.init args) H) : CallsH Try.prog 44 args H K :=
  callsH_of mixed [] 33 [.tmp 6] (f := 44) (fn := Try.f44) (by kernel_rfl) (by kernel_rfl) (c := Try.f44.body.getD .skip) (by kernel_rfl) (by kernel_rfl) (by kernel_rfl) (by kernel_rfl) ha h
/-- (*isthmus/arena.Arena[int]).All -/
theorem call45 {args : Array Value} {H : Heap} {K : Value → Heap → Prop} (ha : args.size ≤ 32) (h : codeX Try.prog [] (Try.f45.body.getD .skip) (endQ Try.prog [.tmp 2] K) (Env.init args) H) : CallsH Try.prog 45 args H K :=
  callsH_of mixed [] 32 [.tmp 2] (f := 45) (fn := Try.f45) (by kernel_rfl) (by kernel_rfl) (c := Try.f45.body.getD .skip) (by kernel_rfl) (by kernel_rfl) (by kernel_rfl) (by kernel_rfl) ha h
/-- (*isthmus/arena.Arena[string]).at -/
theorem call46 {args : Array Value} {H : Heap} {K : Value → Heap → Prop} (ha : args.size ≤ 33) (h : codeX Try.prog [] (Try.f46.body.getD .skip) (endQ Try.prog [.tmp 4] K) (Env.init args) H) : CallsH Try.prog 46 args H K :=
  callsH_of mixed [] 33 [.tmp 4] (f := 46) (fn := Try.f46) (by kernel_rfl) (by kernel_rfl) (c := Try.f46.body.getD .skip) (by kernel_rfl) (by kernel_rfl) (by kernel_rfl) (by kernel_rfl) ha h
/-- (*isthmus/isthmusref02.Arena).Put · draws: [1] -/
theorem call47 {args : Array Value} {H : Heap} {K : Value → Heap → Prop} (ha : args.size ≤ 60) (h : codeX Try.prog [] (Try.f47.body.getD .skip) (endQ Try.prog [.tmp 2, .tmp 3] K) (Env.init args) H) : CallsH Try.prog 47 args H K :=
  callsH_of mixed [] 60 [.tmp 2, .tmp 3] (f := 47) (fn := Try.f47) (by kernel_rfl) (by kernel_rfl) (c := Try.f47.body.getD .skip) (by kernel_rfl) (by kernel_rfl) (by kernel_rfl) (by kernel_rfl) ha h
/-- (*isthmus/isthmusref02.Arena).Has -/
theorem call48 {args : Array Value} {H : Heap} {K : Value → Heap → Prop} (ha : args.size ≤ 25) (h : codeX Try.prog [] (Try.f48.body.getD .skip) (endQ Try.prog [.tmp 4] K) (Env.init args) H) : CallsH Try.prog 48 args H K :=
  callsH_of mixed [] 25 [.tmp 4] (f := 48) (fn := Try.f48) (by kernel_rfl) (by kernel_rfl) (c := Try.f48.body.getD .skip) (by kernel_rfl) (by kernel_rfl) (by kernel_rfl) (by kernel_rfl) ha h
/-- (*isthmus/arena.Arena[string]).Set -/
theorem call49 {args : Array Value} {H : Heap} {K : Value → Heap → Prop} (ha : args.size ≤ 17) (h : codeX Try.prog [] (Try.f49.body.getD .skip) (endQ Try.prog [.tmp 6] K) (Env.init args) H) : CallsH Try.prog 49 args H K :=
  callsH_of mixed [] 17 [.tmp 6] (f := 49) (fn := Try.f49) (by kernel_rfl) (by kernel_rfl) (c := Try.f49.body.getD .skip) (by kernel_rfl) (by kernel_rfl) (by kernel_rfl) (by kernel_rfl) ha h
/-- (*isthmus/arena.Arena[int]).Set -/
theorem call50 {args : Array Value} {H : Heap} {K : Value → Heap → Prop} (ha : args.size ≤ 17) (h : codeX Try.prog [] (Try.f50.body.getD .skip) (endQ Try.prog [.tmp 6] K) (Env.init args) H) : CallsH Try.prog 50 args H K :=
  callsH_of mixed [] 17 [.tmp 6] (f := 50) (fn := Try.f50) (by kernel_rfl) (by kernel_rfl) (c := Try.f50.body.getD .skip) (by kernel_rfl) (by kernel_rfl) (by kernel_rfl) (by kernel_rfl) ha h
end Go.Proofs.Ytkfcbgnodjgdcaa
