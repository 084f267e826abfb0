/-
  What the program's tables say of types and of functions (written by facts.py of this claim's maker; each row is checked by the kernel).
-/
import Derived.Test.YtnlafhnbakipmaaProg
import Derived.Test.YtnlafhnbakipmaaHpJ
import Derived.KernelRfl
namespace Go.Proofs.Ytnlafhnbakipmaa
open Go Go.Hp
set_option maxRecDepth 100000
set_option linter.all false
variable {args : Array Value} {H : Heap} {K : Value → Heap → Prop}
theorem mixed : Try.prog.follows .mixedOrders = true := by kernel_rfl
@[go_sem] theorem tl1 : tl Try.prog 1 = some ⟨.other, 1, 8, .nilFunc⟩ := by kernel_rfl
@[go_sem] theorem tl2 : tl Try.prog 2 = some ⟨.int .i64, 1, 8, .int .i64 0⟩ := by kernel_rfl
@[go_sem] theorem tl3 : tl Try.prog 3 = some ⟨.int .i64, 1, 8, .int .i64 0⟩ := by kernel_rfl
@[go_sem] theorem tl4 : tl Try.prog 4 = some ⟨.bool, 1, 1, .bool false⟩ := by kernel_rfl
@[go_sem] theorem tl5 : tl Try.prog 5 = some ⟨.int .u8, 1, 1, .int .u8 0⟩ := by kernel_rfl
@[go_sem] theorem tl6 : tl Try.prog 6 = some ⟨.int .u8, 1, 1, .int .u8 0⟩ := by kernel_rfl
@[go_sem] theorem tl7 : tl Try.prog 7 = some ⟨.struct, 4, 24, .agg #[.int .i64 0, .int .i64 0, .bool false, .int .u8 0]⟩ := by kernel_rfl
@[go_sem] theorem flay7 : flay Try.prog 7 = some [(0, (1, false)), (1, (1, false)), (2, (1, false)), (3, (1, false))] := by kernel_rfl
@[go_sem] theorem tl8 : tl Try.prog 8 = some ⟨.struct, 4, 24, .agg #[.int .i64 0, .int .i64 0, .bool false, .int .u8 0]⟩ := by kernel_rfl
@[go_sem] theorem flay8 : flay Try.prog 8 = some [(0, (1, false)), (1, (1, false)), (2, (1, false)), (3, (1, false))] := by kernel_rfl
@[go_sem] theorem tl9 : tl Try.prog 9 = some ⟨.string, 1, 16, .string ⟨#[]⟩⟩ := by kernel_rfl
@[go_sem] theorem tl10 : tl Try.prog 10 = some ⟨.string, 1, 16, .string ⟨#[]⟩⟩ := by kernel_rfl
@[go_sem] theorem tl11 : tl Try.prog 11 = some ⟨.string, 1, 16, .string ⟨#[]⟩⟩ := by kernel_rfl
@[go_sem] theorem tl12 : tl Try.prog 12 = some ⟨.int .u64, 1, 8, .int .u64 0⟩ := by kernel_rfl
@[go_sem] theorem tl13 : tl Try.prog 13 = some ⟨.struct, 2, 24, .agg #[.string ⟨#[]⟩, .int .u64 0]⟩ := by kernel_rfl
@[go_sem] theorem flay13 : flay Try.prog 13 = some [(0, (1, false)), (1, (1, false))] := by kernel_rfl
@[go_sem] theorem tl14 : tl Try.prog 14 = some ⟨.struct, 2, 24, .agg #[.string ⟨#[]⟩, .int .u64 0]⟩ := by kernel_rfl
@[go_sem] theorem flay14 : flay Try.prog 14 = some [(0, (1, false)), (1, (1, false))] := by kernel_rfl
@[go_sem] theorem tl15 : tl Try.prog 15 = some ⟨.ptr, 1, 8, .pointer none⟩ := by kernel_rfl
@[go_sem] theorem tl16 : tl Try.prog 16 = some ⟨.ptr, 1, 8, .pointer none⟩ := by kernel_rfl
@[go_sem] theorem tl17 : tl Try.prog 17 = some ⟨.ptr, 1, 8, .pointer none⟩ := by kernel_rfl
@[go_sem] theorem tl18 : tl Try.prog 18 = some ⟨.struct, 1, 8, .agg #[.pointer none]⟩ := by kernel_rfl
@[go_sem] theorem flay18 : flay Try.prog 18 = some [(0, (1, false))] := by kernel_rfl
@[go_sem] theorem tl19 : tl Try.prog 19 = some ⟨.struct, 1, 8, .agg #[.pointer none]⟩ := by kernel_rfl
@[go_sem] theorem flay19 : flay Try.prog 19 = some [(0, (1, false))] := by kernel_rfl
@[go_sem] theorem tl20 : tl Try.prog 20 = some ⟨.other, 1, 16, .nilIface⟩ := by kernel_rfl
@[go_sem] theorem tl21 : tl Try.prog 21 = some ⟨.int .i32, 1, 4, .int .i32 0⟩ := by kernel_rfl
@[go_sem] theorem tl22 : tl Try.prog 22 = some ⟨.slice, 1, 24, .slice none 0 0⟩ := by kernel_rfl
@[go_sem] theorem elems22 : elems Try.prog 22 = some (Option.none, 3, 1) := by kernel_rfl
@[go_sem] theorem tl23 : tl Try.prog 23 = some ⟨.other, 1, 8, .nilFunc⟩ := by kernel_rfl
@[go_sem] theorem tl24 : tl Try.prog 24 = some ⟨.ptr, 1, 8, .pointer none⟩ := by kernel_rfl
@[go_sem] theorem tl25 : tl Try.prog 25 = some ⟨.int .i64, 1, 8, .int .i64 0⟩ := by kernel_rfl
@[go_sem] theorem tl27 : tl Try.prog 27 = some ⟨.other, 1, 8, .nilFunc⟩ := by kernel_rfl
@[go_sem] theorem tl28 : tl Try.prog 28 = some ⟨.other, 1, 8, .nilFunc⟩ := by kernel_rfl
@[go_sem] theorem tl29 : tl Try.prog 29 = some ⟨.other, 1, 8, .nilFunc⟩ := by kernel_rfl
@[go_sem] theorem tl30 : tl Try.prog 30 = some ⟨.other, 1, 8, .nilFunc⟩ := by kernel_rfl
@[go_sem] theorem tl32 : tl Try.prog 32 = some ⟨.other, 1, 8, .nilFunc⟩ := by kernel_rfl
@[go_sem] theorem tl33 : tl Try.prog 33 = some ⟨.other, 1, 8, .nilFunc⟩ := by kernel_rfl
@[go_sem] theorem tl35 : tl Try.prog 35 = some ⟨.other, 1, 8, .nilFunc⟩ := by kernel_rfl
@[go_sem] theorem tl36 : tl Try.prog 36 = some ⟨.other, 1, 8, .nilFunc⟩ := by kernel_rfl
@[go_sem] theorem tl37 : tl Try.prog 37 = some ⟨.slice, 1, 24, .slice none 0 0⟩ := by kernel_rfl
@[go_sem] theorem elems37 : elems Try.prog 37 = some (Option.none, 44, 6) := by kernel_rfl
@[go_sem] theorem tl38 : tl Try.prog 38 = some ⟨.ptr, 1, 8, .pointer none⟩ := by kernel_rfl
@[go_sem] theorem tl39 : tl Try.prog 39 = some ⟨.slice, 1, 24, .slice none 0 0⟩ := by kernel_rfl
@[go_sem] theorem elems39 : elems Try.prog 39 = some (Option.none, 4, 1) := by kernel_rfl
@[go_sem] theorem tl40 : tl Try.prog 40 = some ⟨.slice, 1, 24, .slice none 0 0⟩ := by kernel_rfl
@[go_sem] theorem elems40 : elems Try.prog 40 = some (Option.none, 47, 2) := by kernel_rfl
@[go_sem] theorem tl41 : tl Try.prog 41 = some ⟨.struct, 4, 80, .agg #[.int .i64 0, .slice none 0 0, .slice none 0 0, .slice none 0 0]⟩ := by kernel_rfl
@[go_sem] theorem flay41 : flay Try.prog 41 = some [(0, (1, false)), (1, (1, false)), (2, (1, false)), (3, (1, false))] := by kernel_rfl
@[go_sem] theorem tl42 : tl Try.prog 42 = some ⟨.struct, 4, 80, .agg #[.int .i64 0, .slice none 0 0, .slice none 0 0, .slice none 0 0]⟩ := by kernel_rfl
@[go_sem] theorem flay42 : flay Try.prog 42 = some [(0, (1, false)), (1, (1, false)), (2, (1, false)), (3, (1, false))] := by kernel_rfl
@[go_sem] theorem tl43 : tl Try.prog 43 = some ⟨.struct, 6, 40, .agg #[.int .i64 0, .int .i64 0, .int .i64 0, .int .i64 0, .bool false, .bool false]⟩ := by kernel_rfl
@[go_sem] theorem flay43 : flay Try.prog 43 = some [(0, (1, false)), (1, (1, false)), (2, (1, false)), (3, (1, false)), (4, (1, false)), (5, (1, false))] := by kernel_rfl
@[go_sem] theorem tl44 : tl Try.prog 44 = some ⟨.struct, 6, 40, .agg #[.int .i64 0, .int .i64 0, .int .i64 0, .int .i64 0, .bool false, .bool false]⟩ := by kernel_rfl
@[go_sem] theorem flay44 : flay Try.prog 44 = some [(0, (1, false)), (1, (1, false)), (2, (1, false)), (3, (1, false)), (4, (1, false)), (5, (1, false))] := by kernel_rfl
@[go_sem] theorem tl45 : tl Try.prog 45 = some ⟨.other, 1, 8, .nilFunc⟩ := by kernel_rfl
@[go_sem] theorem tl46 : tl Try.prog 46 = some ⟨.struct, 2, 16, .agg #[.int .i64 0, .int .i64 0]⟩ := by kernel_rfl
@[go_sem] theorem flay46 : flay Try.prog 46 = some [(0, (1, false)), (1, (1, false))] := by kernel_rfl
@[go_sem] theorem tl47 : tl Try.prog 47 = some ⟨.struct, 2, 16, .agg #[.int .i64 0, .int .i64 0]⟩ := by kernel_rfl
@[go_sem] theorem flay47 : flay Try.prog 47 = some [(0, (1, false)), (1, (1, false))] := by kernel_rfl
@[go_sem] theorem tl48 : tl Try.prog 48 = some ⟨.other, 1, 8, .nilFunc⟩ := by kernel_rfl
@[go_sem] theorem tl49 : tl Try.prog 49 = some ⟨.other, 1, 8, .nilFunc⟩ := by kernel_rfl
@[go_sem] theorem tl50 : tl Try.prog 50 = some ⟨.other, 1, 8, .nilFunc⟩ := by kernel_rfl
@[go_sem] theorem tl51 : tl Try.prog 51 = some ⟨.other, 1, 8, .nilFunc⟩ := by kernel_rfl
@[go_sem] theorem tl52 : tl Try.prog 52 = some ⟨.other, 1, 8, .nilFunc⟩ := by kernel_rfl
@[go_sem] theorem tl53 : tl Try.prog 53 = some ⟨.other, 1, 8, .nilFunc⟩ := by kernel_rfl
@[go_sem] theorem tl55 : tl Try.prog 55 = some ⟨.other, 1, 8, .nilFunc⟩ := by kernel_rfl
@[go_sem] theorem tl56 : tl Try.prog 56 = some ⟨.struct, 5, 40, .agg #[.int .i64 0, .int .i64 0, .int .i64 0, .int .i64 0, .int .i64 0]⟩ := by kernel_rfl
@[go_sem] theorem flay56 : flay Try.prog 56 = some [(0, (1, false)), (1, (1, false)), (2, (1, false)), (3, (1, false)), (4, (1, false))] := by kernel_rfl
@[go_sem] theorem tl57 : tl Try.prog 57 = some ⟨.struct, 5, 40, .agg #[.int .i64 0, .int .i64 0, .int .i64 0, .int .i64 0, .int .i64 0]⟩ := by kernel_rfl
@[go_sem] theorem flay57 : flay Try.prog 57 = some [(0, (1, false)), (1, (1, false)), (2, (1, false)), (3, (1, false)), (4, (1, false))] := by kernel_rfl
@[go_sem] theorem tl59 : tl Try.prog 59 = some ⟨.other, 1, 8, .nilFunc⟩ := by kernel_rfl
@[go_sem] theorem tl60 : tl Try.prog 60 = some ⟨.ptr, 1, 8, .pointer none⟩ := by kernel_rfl
@[go_sem] theorem tl62 : tl Try.prog 62 = some ⟨.other, 1, 8, .nilFunc⟩ := by kernel_rfl
@[go_sem] theorem tl63 : tl Try.prog 63 = some ⟨.ptr, 1, 8, .pointer none⟩ := by kernel_rfl
@[go_sem] theorem tl64 : tl Try.prog 64 = some ⟨.slice, 1, 24, .slice none 0 0⟩ := by kernel_rfl
@[go_sem] theorem elems64 : elems Try.prog 64 = some (Option.none, 22, 1) := by kernel_rfl
@[go_sem] theorem tl65 : tl Try.prog 65 = some ⟨.struct, 4, 64, .agg #[.pointer none, .pointer none, .slice none 0 0, .slice none 0 0]⟩ := by kernel_rfl
@[go_sem] theorem flay65 : flay Try.prog 65 = some [(0, (1, false)), (1, (1, false)), (2, (1, false)), (3, (1, false))] := by kernel_rfl
@[go_sem] theorem tl66 : tl Try.prog 66 = some ⟨.struct, 4, 64, .agg #[.pointer none, .pointer none, .slice none 0 0, .slice none 0 0]⟩ := by kernel_rfl
@[go_sem] theorem flay66 : flay Try.prog 66 = some [(0, (1, false)), (1, (1, false)), (2, (1, false)), (3, (1, false))] := by kernel_rfl
@[go_sem] theorem tl67 : tl Try.prog 67 = some ⟨.other, 1, 8, .nilFunc⟩ := by kernel_rfl
@[go_sem] theorem tl68 : tl Try.prog 68 = some ⟨.other, 1, 8, .nilFunc⟩ := by kernel_rfl
@[go_sem] theorem tl69 : tl Try.prog 69 = some ⟨.ptr, 1, 8, .pointer none⟩ := by kernel_rfl
@[go_sem] theorem tl71 : tl Try.prog 71 = some ⟨.other, 1, 8, .nilFunc⟩ := by kernel_rfl
@[go_sem] theorem tl72 : tl Try.prog 72 = some ⟨.map, 1, 8, .map none⟩ := by kernel_rfl
@[go_sem] theorem tl73 : tl Try.prog 73 = some ⟨.map, 1, 8, .map none⟩ := by kernel_rfl
@[go_sem] theorem tl74 : tl Try.prog 74 = some ⟨.struct, 4, 48, .agg #[.pointer none, .slice none 0 0, .map none, .map none]⟩ := by kernel_rfl
@[go_sem] theorem flay74 : flay Try.prog 74 = some [(0, (1, false)), (1, (1, false)), (2, (1, false)), (3, (1, false))] := by kernel_rfl
@[go_sem] theorem tl75 : tl Try.prog 75 = some ⟨.struct, 4, 48, .agg #[.pointer none, .slice none 0 0, .map none, .map none]⟩ := by kernel_rfl
@[go_sem] theorem flay75 : flay Try.prog 75 = some [(0, (1, false)), (1, (1, false)), (2, (1, false)), (3, (1, false))] := by kernel_rfl
@[go_sem] theorem tl77 : tl Try.prog 77 = some ⟨.other, 1, 8, .nilFunc⟩ := by kernel_rfl
@[go_sem] theorem tl78 : tl Try.prog 78 = some ⟨.struct, 3, 24, .agg #[.int .i64 0, .bool false, .int .i64 0]⟩ := by kernel_rfl
@[go_sem] theorem flay78 : flay Try.prog 78 = some [(0, (1, false)), (1, (1, false)), (2, (1, false))] := by kernel_rfl
@[go_sem] theorem tl79 : tl Try.prog 79 = some ⟨.struct, 3, 24, .agg #[.int .i64 0, .bool false, .int .i64 0]⟩ := by kernel_rfl
@[go_sem] theorem flay79 : flay Try.prog 79 = some [(0, (1, false)), (1, (1, false)), (2, (1, false))] := by kernel_rfl
@[go_sem] theorem tl80 : tl Try.prog 80 = some ⟨.other, 1, 8, .nilFunc⟩ := by kernel_rfl
@[go_sem] theorem tl81 : tl Try.prog 81 = some ⟨.other, 1, 8, .nilFunc⟩ := by kernel_rfl
@[go_sem] theorem tl82 : tl Try.prog 82 = some ⟨.other, 1, 8, .nilFunc⟩ := by kernel_rfl
@[go_sem] theorem tl83 : tl Try.prog 83 = some ⟨.array, 2, 16, .agg #[.int .i64 0, .int .i64 0]⟩ := by kernel_rfl
@[go_sem] theorem elems83 : elems Try.prog 83 = some ((some 2), 3, 1) := by kernel_rfl
@[go_sem] theorem tl86 : tl Try.prog 86 = some ⟨.other, 1, 8, .nilFunc⟩ := by kernel_rfl
@[go_sem] theorem tl87 : tl Try.prog 87 = some ⟨.other, 1, 8, .nilFunc⟩ := by kernel_rfl
@[go_sem] theorem tl88 : tl Try.prog 88 = some ⟨.ptr, 1, 8, .pointer none⟩ := by kernel_rfl
@[go_sem] theorem tl89 : tl Try.prog 89 = some ⟨.other, 1, 8, .nilFunc⟩ := by kernel_rfl
@[go_sem] theorem tl90 : tl Try.prog 90 = some ⟨.other, 1, 8, .nilFunc⟩ := by kernel_rfl
@[go_sem] theorem tl91 : tl Try.prog 91 = some ⟨.array, 4, 32, .agg #[.int .i64 0, .int .i64 0, .int .i64 0, .int .i64 0]⟩ := by kernel_rfl
@[go_sem] theorem elems91 : elems Try.prog 91 = some ((some 2), 83, 2) := by kernel_rfl
@[go_sem] theorem tl92 : tl Try.prog 92 = some ⟨.other, 1, 8, .nilFunc⟩ := by kernel_rfl
@[go_sem] theorem tl93 : tl Try.prog 93 = some ⟨.slice, 1, 24, .slice none 0 0⟩ := by kernel_rfl
@[go_sem] theorem elems93 : elems Try.prog 93 = some (Option.none, 40, 1) := by kernel_rfl
@[go_sem] theorem tl94 : tl Try.prog 94 = some ⟨.struct, 5, 120, .agg #[.slice none 0 0, .slice none 0 0, .slice none 0 0, .slice none 0 0, .slice none 0 0]⟩ := by kernel_rfl
@[go_sem] theorem flay94 : flay Try.prog 94 = some [(0, (1, false)), (1, (1, false)), (2, (1, false)), (3, (1, false)), (4, (1, false))] := by kernel_rfl
@[go_sem] theorem tl95 : tl Try.prog 95 = some ⟨.struct, 5, 120, .agg #[.slice none 0 0, .slice none 0 0, .slice none 0 0, .slice none 0 0, .slice none 0 0]⟩ := by kernel_rfl
@[go_sem] theorem flay95 : flay Try.prog 95 = some [(0, (1, false)), (1, (1, false)), (2, (1, false)), (3, (1, false)), (4, (1, false))] := by kernel_rfl
@[go_sem] theorem tl96 : tl Try.prog 96 = some ⟨.ptr, 1, 8, .pointer none⟩ := by kernel_rfl
@[go_sem] theorem tl98 : tl Try.prog 98 = some ⟨.other, 1, 8, .nilFunc⟩ := by kernel_rfl
@[go_sem] theorem tl99 : tl Try.prog 99 = some ⟨.ptr, 1, 8, .pointer none⟩ := by kernel_rfl
@[go_sem] theorem tl100 : tl Try.prog 100 = some ⟨.struct, 1, 8, .agg #[.pointer none]⟩ := by kernel_rfl
@[go_sem] theorem flay100 : flay Try.prog 100 = some [(0, (1, false))] := by kernel_rfl
@[go_sem] theorem tl101 : tl Try.prog 101 = some ⟨.struct, 1, 8, .agg #[.pointer none]⟩ := by kernel_rfl
@[go_sem] theorem flay101 : flay Try.prog 101 = some [(0, (1, false))] := by kernel_rfl
@[go_sem] theorem tl102 : tl Try.prog 102 = some ⟨.other, 1, 8, .nilFunc⟩ := by kernel_rfl
@[go_sem] theorem tl103 : tl Try.prog 103 = some ⟨.struct, 12, 96, .agg #[.int .i64 0, .bool false, .int .i64 0, .int .i64 0, .int .i64 0, .int .i64 0, .int .i64 0, .int .i64 0, .int .i64 0, .int .i64 0, .int .i64 0, .int .i64 0]⟩ := by kernel_rfl
@[go_sem] theorem flay103 : flay Try.prog 103 = some [(0, (3, true)), (3, (1, false)), (4, (2, true)), (6, (1, false)), (7, (5, true))] := by kernel_rfl
@[go_sem] theorem tl104 : tl Try.prog 104 = some ⟨.struct, 12, 96, .agg #[.int .i64 0, .bool false, .int .i64 0, .int .i64 0, .int .i64 0, .int .i64 0, .int .i64 0, .int .i64 0, .int .i64 0, .int .i64 0, .int .i64 0, .int .i64 0]⟩ := by kernel_rfl
@[go_sem] theorem flay104 : flay Try.prog 104 = some [(0, (3, true)), (3, (1, false)), (4, (2, true)), (6, (1, false)), (7, (5, true))] := by kernel_rfl
@[go_sem] theorem tl105 : tl Try.prog 105 = some ⟨.other, 1, 8, .nilFunc⟩ := by kernel_rfl
@[go_sem] theorem tl106 : tl Try.prog 106 = some ⟨.other, 1, 8, .nilFunc⟩ := by kernel_rfl
@[go_sem] theorem tl107 : tl Try.prog 107 = some ⟨.other, 1, 8, .nilFunc⟩ := by kernel_rfl
@[go_sem] theorem tl108 : tl Try.prog 108 = some ⟨.other, 1, 8, .nilFunc⟩ := by kernel_rfl
@[go_sem] theorem tl109 : tl Try.prog 109 = some ⟨.other, 1, 8, .nilFunc⟩ := by kernel_rfl
@[go_sem] theorem tl111 : tl Try.prog 111 = some ⟨.other, 1, 8, .nilFunc⟩ := by kernel_rfl
@[go_sem] theorem tl113 : tl Try.prog 113 = some ⟨.other, 1, 8, .nilFunc⟩ := by kernel_rfl
@[go_sem] theorem tl114 : tl Try.prog 114 = some ⟨.other, 1, 8, .nilFunc⟩ := by kernel_rfl
@[go_sem] theorem tl115 : tl Try.prog 115 = some ⟨.other, 1, 8, .nilFunc⟩ := by kernel_rfl
@[go_sem] theorem tl116 : tl Try.prog 116 = some ⟨.other, 1, 8, .nilFunc⟩ := by kernel_rfl
@[go_sem] theorem tl118 : tl Try.prog 118 = some ⟨.other, 1, 8, .nilFunc⟩ := by kernel_rfl
@[go_sem] theorem tl119 : tl Try.prog 119 = some ⟨.other, 1, 8, .nilFunc⟩ := by kernel_rfl
@[go_sem] theorem tl120 : tl Try.prog 120 = some ⟨.other, 1, 8, .nilFunc⟩ := by kernel_rfl
@[go_sem] theorem tl121 : tl Try.prog 121 = some ⟨.other, 1, 8, .nilFunc⟩ := by kernel_rfl
@[go_sem] theorem tl122 : tl Try.prog 122 = some ⟨.slice, 1, 24, .slice none 0 0⟩ := by kernel_rfl
@[go_sem] theorem elems122 : elems Try.prog 122 = some (Option.none, 126, 3) := by kernel_rfl
@[go_sem] theorem tl123 : tl Try.prog 123 = some ⟨.struct, 4, 48, .agg #[.int .i64 0, .int .i64 0, .slice none 0 0, .int .i64 0]⟩ := by kernel_rfl
@[go_sem] theorem flay123 : flay Try.prog 123 = some [(0, (1, false)), (1, (1, false)), (2, (1, false)), (3, (1, false))] := by kernel_rfl
@[go_sem] theorem tl124 : tl Try.prog 124 = some ⟨.struct, 4, 48, .agg #[.int .i64 0, .int .i64 0, .slice none 0 0, .int .i64 0]⟩ := by kernel_rfl
@[go_sem] theorem flay124 : flay Try.prog 124 = some [(0, (1, false)), (1, (1, false)), (2, (1, false)), (3, (1, false))] := by kernel_rfl
@[go_sem] theorem tl125 : tl Try.prog 125 = some ⟨.struct, 3, 24, .agg #[.pointer none, .bool false, .int .i64 0]⟩ := by kernel_rfl
@[go_sem] theorem flay125 : flay Try.prog 125 = some [(0, (1, false)), (1, (1, false)), (2, (1, false))] := by kernel_rfl
@[go_sem] theorem tl126 : tl Try.prog 126 = some ⟨.struct, 3, 24, .agg #[.pointer none, .bool false, .int .i64 0]⟩ := by kernel_rfl
@[go_sem] theorem flay126 : flay Try.prog 126 = some [(0, (1, false)), (1, (1, false)), (2, (1, false))] := by kernel_rfl
@[go_sem] theorem tl128 : tl Try.prog 128 = some ⟨.other, 1, 8, .nilFunc⟩ := by kernel_rfl
@[go_sem] theorem tl129 : tl Try.prog 129 = some ⟨.other, 1, 8, .nilFunc⟩ := by kernel_rfl
@[go_sem] theorem tl130 : tl Try.prog 130 = some ⟨.other, 1, 8, .nilFunc⟩ := by kernel_rfl
@[go_sem] theorem tl131 : tl Try.prog 131 = some ⟨.other, 1, 8, .nilFunc⟩ := by kernel_rfl
@[go_sem] theorem tl132 : tl Try.prog 132 = some ⟨.ptr, 1, 8, .pointer none⟩ := by kernel_rfl
@[go_sem] theorem tl133 : tl Try.prog 133 = some ⟨.other, 1, 8, .nilFunc⟩ := by kernel_rfl
@[go_sem] theorem tl134 : tl Try.prog 134 = some ⟨.other, 1, 8, .nilFunc⟩ := by kernel_rfl
@[go_sem] theorem tl135 : tl Try.prog 135 = some ⟨.struct, 4, 40, .agg #[.pointer none, .pointer none, .pointer none, .string ⟨#[]⟩]⟩ := by kernel_rfl
@[go_sem] theorem flay135 : flay Try.prog 135 = some [(0, (1, false)), (1, (1, false)), (2, (1, false)), (3, (1, false))] := by kernel_rfl
@[go_sem] theorem tl136 : tl Try.prog 136 = some ⟨.struct, 4, 40, .agg #[.pointer none, .pointer none, .pointer none, .string ⟨#[]⟩]⟩ := by kernel_rfl
@[go_sem] theorem flay136 : flay Try.prog 136 = some [(0, (1, false)), (1, (1, false)), (2, (1, false)), (3, (1, false))] := by kernel_rfl
@[go_sem] theorem tl137 : tl Try.prog 137 = some ⟨.array, 0, 0, .agg #[]⟩ := by kernel_rfl
@[go_sem] theorem elems137 : elems Try.prog 137 = some ((some 0), 16, 1) := by kernel_rfl
@[go_sem] theorem tl138 : tl Try.prog 138 = some ⟨.struct, 0, 0, .agg #[]⟩ := by kernel_rfl
@[go_sem] theorem flay138 : flay Try.prog 138 = some [(0, (0, true))] := by kernel_rfl
@[go_sem] theorem tl139 : tl Try.prog 139 = some ⟨.struct, 0, 0, .agg #[]⟩ := by kernel_rfl
@[go_sem] theorem flay139 : flay Try.prog 139 = some [(0, (0, true))] := by kernel_rfl
@[go_sem] theorem tl140 : tl Try.prog 140 = some ⟨.other, 1, 8, .nilFunc⟩ := by kernel_rfl
@[go_sem] theorem tl141 : tl Try.prog 141 = some ⟨.int .u32, 1, 4, .int .u32 0⟩ := by kernel_rfl
@[go_sem] theorem tl142 : tl Try.prog 142 = some ⟨.int .u8, 1, 1, .int .u8 0⟩ := by kernel_rfl
@[go_sem] theorem tl143 : tl Try.prog 143 = some ⟨.int .u8, 1, 1, .int .u8 0⟩ := by kernel_rfl
@[go_sem] theorem tl144 : tl Try.prog 144 = some ⟨.other, 1, 8, .nilFunc⟩ := by kernel_rfl
@[go_sem] theorem tl145 : tl Try.prog 145 = some ⟨.ptr, 1, 8, .pointer none⟩ := by kernel_rfl
@[go_sem] theorem tl146 : tl Try.prog 146 = some ⟨.int .i32, 1, 4, .int .i32 0⟩ := by kernel_rfl
@[go_sem] theorem tl147 : tl Try.prog 147 = some ⟨.int .i32, 1, 4, .int .i32 0⟩ := by kernel_rfl
@[go_sem] theorem tl148 : tl Try.prog 148 = some ⟨.struct, 11, 48, .agg #[.int .u64 0, .int .u64 0, .int .u32 0, .int .u8 0, .int .u8 0, .int .u8 0, .int .u8 0, .nilFunc, .pointer none, .int .i32 0, .int .i32 0]⟩ := by kernel_rfl
@[go_sem] theorem flay148 : flay Try.prog 148 = some [(0, (1, false)), (1, (1, false)), (2, (1, false)), (3, (1, false)), (4, (1, false)), (5, (1, false)), (6, (1, false)), (7, (1, false)), (8, (1, false)), (9, (1, false)), (10, (1, false))] := by kernel_rfl
@[go_sem] theorem tl149 : tl Try.prog 149 = some ⟨.struct, 11, 48, .agg #[.int .u64 0, .int .u64 0, .int .u32 0, .int .u8 0, .int .u8 0, .int .u8 0, .int .u8 0, .nilFunc, .pointer none, .int .i32 0, .int .i32 0]⟩ := by kernel_rfl
@[go_sem] theorem flay149 : flay Try.prog 149 = some [(0, (1, false)), (1, (1, false)), (2, (1, false)), (3, (1, false)), (4, (1, false)), (5, (1, false)), (6, (1, false)), (7, (1, false)), (8, (1, false)), (9, (1, false)), (10, (1, false))] := by kernel_rfl
@[go_sem] theorem tl150 : tl Try.prog 150 = some ⟨.other, 1, 8, .pointer none⟩ := by kernel_rfl
theorem call5 (ha : args.size ≤ 243) (h : codeX Try.prog [45] (Try.f5.body.getD .skip) (endQ Try.prog [.tmp 4] K) (Env.init args) H) : CallsH Try.prog 5 args H K :=
  callsH_of mixed [45] 243 [.tmp 4] (f := 5) (fn := Try.f5) (by kernel_rfl) (by kernel_rfl) (c := Try.f5.body.getD .skip) (by kernel_rfl) (by kernel_rfl) (by kernel_rfl) (by kernel_rfl) ha h
theorem call8 (ha : args.size ≤ 75) (h : codeX Try.prog [] (Try.f8.body.getD .skip) (endQ Try.prog [.tmp 0] K) (Env.init args) H) : CallsH Try.prog 8 args H K :=
  callsH_of mixed [] 75 [.tmp 0] (f := 8) (fn := Try.f8) (by kernel_rfl) (by kernel_rfl) (c := Try.f8.body.getD .skip) (by kernel_rfl) (by kernel_rfl) (by kernel_rfl) (by kernel_rfl) ha h
theorem call9 (ha : args.size ≤ 51) (h : codeX Try.prog [] (Try.f9.body.getD .skip) (endQ Try.prog [.tmp 2, .tmp 3] K) (Env.init args) H) : CallsH Try.prog 9 args H K :=
  callsH_of mixed [] 51 [.tmp 2, .tmp 3] (f := 9) (fn := Try.f9) (by kernel_rfl) (by kernel_rfl) (c := Try.f9.body.getD .skip) (by kernel_rfl) (by kernel_rfl) (by kernel_rfl) (by kernel_rfl) ha h
theorem call10 (ha : args.size ≤ 13) (h : codeX Try.prog [] (Try.f10.body.getD .skip) (endQ Try.prog [.tmp 4] K) (Env.init args) H) : CallsH Try.prog 10 args H K :=
  callsH_of mixed [] 13 [.tmp 4] (f := 10) (fn := Try.f10) (by kernel_rfl) (by kernel_rfl) (c := Try.f10.body.getD .skip) (by kernel_rfl) (by kernel_rfl) (by kernel_rfl) (by kernel_rfl) ha h
theorem call11 (ha : args.size ≤ 97) (h : codeX Try.prog [3] (Try.f11.body.getD .skip) (endQ Try.prog [.tmp 6] K) (Env.init args) H) : CallsH Try.prog 11 args H K :=
  callsH_of mixed [3] 97 [.tmp 6] (f := 11) (fn := Try.f11) (by kernel_rfl) (by kernel_rfl) (c := Try.f11.body.getD .skip) (by kernel_rfl) (by kernel_rfl) (by kernel_rfl) (by kernel_rfl) ha h
theorem call12 (ha : args.size ≤ 13) (h : codeX Try.prog [] (Try.f12.body.getD .skip) (endQ Try.prog [.tmp 4] K) (Env.init args) H) : CallsH Try.prog 12 args H K :=
  callsH_of mixed [] 13 [.tmp 4] (f := 12) (fn := Try.f12) (by kernel_rfl) (by kernel_rfl) (c := Try.f12.body.getD .skip) (by kernel_rfl) (by kernel_rfl) (by kernel_rfl) (by kernel_rfl) ha h
theorem call13 (ha : args.size ≤ 58) (h : codeX Try.prog [3] (Try.f13.body.getD .skip) (endQ Try.prog [.tmp 4, .tmp 5] K) (Env.init args) H) : CallsH Try.prog 13 args H K :=
  callsH_of mixed [3] 58 [.tmp 4, .tmp 5] (f := 13) (fn := Try.f13) (by kernel_rfl) (by kernel_rfl) (c := Try.f13.body.getD .skip) (by kernel_rfl) (by kernel_rfl) (by kernel_rfl) (by kernel_rfl) ha h
theorem call14 (ha : args.size ≤ 39) (h : codeX Try.prog [3] (Try.f14.body.getD .skip) (endQ Try.prog [.tmp 6, .tmp 7] K) (Env.init args) H) : CallsH Try.prog 14 args H K :=
  callsH_of mixed [3] 39 [.tmp 6, .tmp 7] (f := 14) (fn := Try.f14) (by kernel_rfl) (by kernel_rfl) (c := Try.f14.body.getD .skip) (by kernel_rfl) (by kernel_rfl) (by kernel_rfl) (by kernel_rfl) ha h
theorem call15 (ha : args.size ≤ 26) (h : codeX Try.prog [6] (Try.f15.body.getD .skip) (endQ Try.prog [.tmp 4] K) (Env.init args) H) : CallsH Try.prog 15 args H K :=
  callsH_of mixed [6] 26 [.tmp 4] (f := 15) (fn := Try.f15) (by kernel_rfl) (by kernel_rfl) (c := Try.f15.body.getD .skip) (by kernel_rfl) (by kernel_rfl) (by kernel_rfl) (by kernel_rfl) ha h
theorem call16 (ha : args.size ≤ 120) (h : codeX Try.prog [] (Try.f16.body.getD .skip) (endQ Try.prog [.tmp 6] K) (Env.init args) H) : CallsH Try.prog 16 args H K :=
  callsH_of mixed [] 120 [.tmp 6] (f := 16) (fn := Try.f16) (by kernel_rfl) (by kernel_rfl) (c := Try.f16.body.getD .skip) (by kernel_rfl) (by kernel_rfl) (by kernel_rfl) (by kernel_rfl) ha h
theorem call17 (ha : args.size ≤ 54) (h : codeX Try.prog [9] (Try.f17.body.getD .skip) (endQ Try.prog [.tmp 6] K) (Env.init args) H) : CallsH Try.prog 17 args H K :=
  callsH_of mixed [9] 54 [.tmp 6] (f := 17) (fn := Try.f17) (by kernel_rfl) (by kernel_rfl) (c := Try.f17.body.getD .skip) (by kernel_rfl) (by kernel_rfl) (by kernel_rfl) (by kernel_rfl) ha h
theorem call18 (ha : args.size ≤ 33) (h : codeX Try.prog [] (Try.f18.body.getD .skip) (endQ Try.prog [.tmp 6] K) (Env.init args) H) : CallsH Try.prog 18 args H K :=
  callsH_of mixed [] 33 [.tmp 6] (f := 18) (fn := Try.f18) (by kernel_rfl) (by kernel_rfl) (c := Try.f18.body.getD .skip) (by kernel_rfl) (by kernel_rfl) (by kernel_rfl) (by kernel_rfl) ha h
theorem call19 (ha : args.size ≤ 22) (h : codeX Try.prog [] (Try.f19.body.getD .skip) (endQ Try.prog [.tmp 6] K) (Env.init args) H) : CallsH Try.prog 19 args H K :=
  callsH_of mixed [] 22 [.tmp 6] (f := 19) (fn := Try.f19) (by kernel_rfl) (by kernel_rfl) (c := Try.f19.body.getD .skip) (by kernel_rfl) (by kernel_rfl) (by kernel_rfl) (by kernel_rfl) ha h
theorem call20 (ha : args.size ≤ 22) (h : codeX Try.prog [] (Try.f20.body.getD .skip) (endQ Try.prog [.tmp 6] K) (Env.init args) H) : CallsH Try.prog 20 args H K :=
  callsH_of mixed [] 22 [.tmp 6] (f := 20) (fn := Try.f20) (by kernel_rfl) (by kernel_rfl) (c := Try.f20.body.getD .skip) (by kernel_rfl) (by kernel_rfl) (by kernel_rfl) (by kernel_rfl) ha h
theorem call21 (ha : args.size ≤ 225) (h : codeX Try.prog [4, 14, 17, 23] (Try.f21.body.getD .skip) (endQ Try.prog [.tmp 4] K) (Env.init args) H) : CallsH Try.prog 21 args H K :=
  callsH_of mixed [4, 14, 17, 23] 225 [.tmp 4] (f := 21) (fn := Try.f21) (by kernel_rfl) (by kernel_rfl) (c := Try.f21.body.getD .skip) (by kernel_rfl) (by kernel_rfl) (by kernel_rfl) (by kernel_rfl) ha h
theorem call22 (ha : args.size ≤ 20) (h : codeX Try.prog [] (Try.f22.body.getD .skip) (endQ Try.prog [.tmp 4] K) (Env.init args) H) : CallsH Try.prog 22 args H K :=
  callsH_of mixed [] 20 [.tmp 4] (f := 22) (fn := Try.f22) (by kernel_rfl) (by kernel_rfl) (c := Try.f22.body.getD .skip) (by kernel_rfl) (by kernel_rfl) (by kernel_rfl) (by kernel_rfl) ha h
theorem call23 (ha : args.size ≤ 45) (h : codeX Try.prog [6] (Try.f23.body.getD .skip) (endQ Try.prog [.tmp 8] K) (Env.init args) H) : CallsH Try.prog 23 args H K :=
  callsH_of mixed [6] 45 [.tmp 8] (f := 23) (fn := Try.f23) (by kernel_rfl) (by kernel_rfl) (c := Try.f23.body.getD .skip) (by kernel_rfl) (by kernel_rfl) (by kernel_rfl) (by kernel_rfl) ha h
theorem call24 (ha : args.size ≤ 44) (h : codeX Try.prog [3] (Try.f24.body.getD .skip) (endQ Try.prog [.cell 4 47, .tmp 5] K) (Env.init args) H) : CallsH Try.prog 24 args H K :=
  callsH_of mixed [3] 44 [.cell 4 47, .tmp 5] (f := 24) (fn := Try.f24) (by kernel_rfl) (by kernel_rfl) (c := Try.f24.body.getD .skip) (by kernel_rfl) (by kernel_rfl) (by kernel_rfl) (by kernel_rfl) ha h
theorem call25 (ha : args.size ≤ 26) (h : codeX Try.prog [3] (Try.f25.body.getD .skip) (endQ Try.prog [.cell 4 57, .tmp 5] K) (Env.init args) H) : CallsH Try.prog 25 args H K :=
  callsH_of mixed [3] 26 [.cell 4 57, .tmp 5] (f := 25) (fn := Try.f25) (by kernel_rfl) (by kernel_rfl) (c := Try.f25.body.getD .skip) (by kernel_rfl) (by kernel_rfl) (by kernel_rfl) (by kernel_rfl) ha h
theorem call30 (ha : args.size ≤ 23) (h : codeX Try.prog [] (Try.f30.body.getD .skip) (endQ Try.prog [.tmp 2, .tmp 3] K) (Env.init args) H) : CallsH Try.prog 30 args H K :=
  callsH_of mixed [] 23 [.tmp 2, .tmp 3] (f := 30) (fn := Try.f30) (by kernel_rfl) (by kernel_rfl) (c := Try.f30.body.getD .skip) (by kernel_rfl) (by kernel_rfl) (by kernel_rfl) (by kernel_rfl) ha h
theorem call31 (ha : args.size ≤ 32) (h : codeX Try.prog [] (Try.f31.body.getD .skip) (endQ Try.prog [.tmp 4, .tmp 5] K) (Env.init args) H) : CallsH Try.prog 31 args H K :=
  callsH_of mixed [] 32 [.tmp 4, .tmp 5] (f := 31) (fn := Try.f31) (by kernel_rfl) (by kernel_rfl) (c := Try.f31.body.getD .skip) (by kernel_rfl) (by kernel_rfl) (by kernel_rfl) (by kernel_rfl) ha h
theorem call32 (ha : args.size ≤ 25) (h : codeX Try.prog [] (Try.f32.body.getD .skip) (endQ Try.prog [.tmp 4] K) (Env.init args) H) : CallsH Try.prog 32 args H K :=
  callsH_of mixed [] 25 [.tmp 4] (f := 32) (fn := Try.f32) (by kernel_rfl) (by kernel_rfl) (c := Try.f32.body.getD .skip) (by kernel_rfl) (by kernel_rfl) (by kernel_rfl) (by kernel_rfl) ha h
theorem call33 (ha : args.size ≤ 22) (h : codeX Try.prog [] (Try.f33.body.getD .skip) (endQ Try.prog [.tmp 6, .tmp 7] K) (Env.init args) H) : CallsH Try.prog 33 args H K :=
  callsH_of mixed [] 22 [.tmp 6, .tmp 7] (f := 33) (fn := Try.f33) (by kernel_rfl) (by kernel_rfl) (c := Try.f33.body.getD .skip) (by kernel_rfl) (by kernel_rfl) (by kernel_rfl) (by kernel_rfl) ha h
theorem call34 (ha : args.size ≤ 32) (h : codeX Try.prog [] (Try.f34.body.getD .skip) (endQ Try.prog [] K) (Env.init args) H) : CallsH Try.prog 34 args H K :=
  callsH_of mixed [] 32 [] (f := 34) (fn := Try.f34) (by kernel_rfl) (by kernel_rfl) (c := Try.f34.body.getD .skip) (by kernel_rfl) (by kernel_rfl) (by kernel_rfl) (by kernel_rfl) ha h
theorem call35 (ha : args.size ≤ 30) (h : codeX Try.prog [] (Try.f35.body.getD .skip) (endQ Try.prog [.tmp 4] K) (Env.init args) H) : CallsH Try.prog 35 args H K :=
  callsH_of mixed [] 30 [.tmp 4] (f := 35) (fn := Try.f35) (by kernel_rfl) (by kernel_rfl) (c := Try.f35.body.getD .skip) (by kernel_rfl) (by kernel_rfl) (by kernel_rfl) (by kernel_rfl) ha h
theorem call36 (ha : args.size ≤ 34) (h : codeX Try.prog [] (Try.f36.body.getD .skip) (endQ Try.prog [.tmp 4] K) (Env.init args) H) : CallsH Try.prog 36 args H K :=
  callsH_of mixed [] 34 [.tmp 4] (f := 36) (fn := Try.f36) (by kernel_rfl) (by kernel_rfl) (c := Try.f36.body.getD .skip) (by kernel_rfl) (by kernel_rfl) (by kernel_rfl) (by kernel_rfl) ha h
theorem call37 (ha : args.size ≤ 35) (h : codeX Try.prog [] (Try.f37.body.getD .skip) (endQ Try.prog [.tmp 6] K) (Env.init args) H) : CallsH Try.prog 37 args H K :=
  callsH_of mixed [] 35 [.tmp 6] (f := 37) (fn := Try.f37) (by kernel_rfl) (by kernel_rfl) (c := Try.f37.body.getD .skip) (by kernel_rfl) (by kernel_rfl) (by kernel_rfl) (by kernel_rfl) ha h
theorem call38 (ha : args.size ≤ 43) (h : codeX Try.prog [] (Try.f38.body.getD .skip) (endQ Try.prog [.tmp 6] K) (Env.init args) H) : CallsH Try.prog 38 args H K :=
  callsH_of mixed [] 43 [.tmp 6] (f := 38) (fn := Try.f38) (by kernel_rfl) (by kernel_rfl) (c := Try.f38.body.getD .skip) (by kernel_rfl) (by kernel_rfl) (by kernel_rfl) (by kernel_rfl) ha h
theorem call39 (ha : args.size ≤ 65) (h : codeX Try.prog [] (Try.f39.body.getD .skip) (endQ Try.prog [.tmp 4, .tmp 5] K) (Env.init args) H) : CallsH Try.prog 39 args H K :=
  callsH_of mixed [] 65 [.tmp 4, .tmp 5] (f := 39) (fn := Try.f39) (by kernel_rfl) (by kernel_rfl) (c := Try.f39.body.getD .skip) (by kernel_rfl) (by kernel_rfl) (by kernel_rfl) (by kernel_rfl) ha h
theorem call40 (ha : args.size ≤ 13) (h : codeX Try.prog [] (Try.f40.body.getD .skip) (endQ Try.prog [.tmp 4] K) (Env.init args) H) : CallsH Try.prog 40 args H K :=
  callsH_of mixed [] 13 [.tmp 4] (f := 40) (fn := Try.f40) (by kernel_rfl) (by kernel_rfl) (c := Try.f40.body.getD .skip) (by kernel_rfl) (by kernel_rfl) (by kernel_rfl) (by kernel_rfl) ha h
theorem call41 (ha : args.size ≤ 28) (h : codeX Try.prog [] (Try.f41.body.getD .skip) (endQ Try.prog [.tmp 4, .tmp 5] K) (Env.init args) H) : CallsH Try.prog 41 args H K :=
  callsH_of mixed [] 28 [.tmp 4, .tmp 5] (f := 41) (fn := Try.f41) (by kernel_rfl) (by kernel_rfl) (c := Try.f41.body.getD .skip) (by kernel_rfl) (by kernel_rfl) (by kernel_rfl) (by kernel_rfl) ha h
theorem call42 (ha : args.size ≤ 17) (h : codeX Try.prog [] (Try.f42.body.getD .skip) (endQ Try.prog [.tmp 4] K) (Env.init args) H) : CallsH Try.prog 42 args H K :=
  callsH_of mixed [] 17 [.tmp 4] (f := 42) (fn := Try.f42) (by kernel_rfl) (by kernel_rfl) (c := Try.f42.body.getD .skip) (by kernel_rfl) (by kernel_rfl) (by kernel_rfl) (by kernel_rfl) ha h
theorem call43 (ha : args.size ≤ 25) (h : codeX Try.prog [0] (Try.f43.body.getD .skip) (endQ Try.prog [] K) (Env.init args) H) : CallsH Try.prog 43 args H K :=
  callsH_of mixed [0] 25 [] (f := 43) (fn := Try.f43) (by kernel_rfl) (by kernel_rfl) (c := Try.f43.body.getD .skip) (by kernel_rfl) (by kernel_rfl) (by kernel_rfl) (by kernel_rfl) ha h
theorem call44 (ha : args.size ≤ 27) (h : codeX Try.prog [3] (Try.f44.body.getD .skip) (endQ Try.prog [.tmp 6] K) (Env.init args) H) : CallsH Try.prog 44 args H K :=
  callsH_of mixed [3] 27 [.tmp 6] (f := 44) (fn := Try.f44) (by kernel_rfl) (by kernel_rfl) (c := Try.f44.body.getD .skip) (by kernel_rfl) (by kernel_rfl) (by kernel_rfl) (by kernel_rfl) ha h
theorem call45 (ha : args.size ≤ 7) (h : codeX Try.prog [] (Try.f45.body.getD .skip) (endQ Try.prog [] K) (Env.init args) H) : CallsH Try.prog 45 args H K :=
  callsH_of mixed [] 7 [] (f := 45) (fn := Try.f45) (by kernel_rfl) (by kernel_rfl) (c := Try.f45.body.getD .skip) (by kernel_rfl) (by kernel_rfl) (by kernel_rfl) (by kernel_rfl) ha h
theorem call46 (ha : args.size ≤ 8) (h : codeX Try.prog [] (Try.f46.body.getD .skip) (endQ Try.prog [] K) (Env.init args) H) : CallsH Try.prog 46 args H K :=
  callsH_of mixed [] 8 [] (f := 46) (fn := Try.f46) (by kernel_rfl) (by kernel_rfl) (c := Try.f46.body.getD .skip) (by kernel_rfl) (by kernel_rfl) (by kernel_rfl) (by kernel_rfl) ha h
theorem call47 (ha : args.size ≤ 7) (h : codeX Try.prog [] (Try.f47.body.getD .skip) (endQ Try.prog [.tmp 4] K) (Env.init args) H) : CallsH Try.prog 47 args H K :=
  callsH_of mixed [] 7 [.tmp 4] (f := 47) (fn := Try.f47) (by kernel_rfl) (by kernel_rfl) (c := Try.f47.body.getD .skip) (by kernel_rfl) (by kernel_rfl) (by kernel_rfl) (by kernel_rfl) ha h
theorem call48 (ha : args.size ≤ 8) (h : codeX Try.prog [] (Try.f48.body.getD .skip) (endQ Try.prog [] K) (Env.init args) H) : CallsH Try.prog 48 args H K :=
  callsH_of mixed [] 8 [] (f := 48) (fn := Try.f48) (by kernel_rfl) (by kernel_rfl) (c := Try.f48.body.getD .skip) (by kernel_rfl) (by kernel_rfl) (by kernel_rfl) (by kernel_rfl) ha h
theorem call49 (ha : args.size ≤ 75) (h : codeX Try.prog [] (Try.f49.body.getD .skip) (endQ Try.prog [.tmp 6, .tmp 7] K) (Env.init args) H) : CallsH Try.prog 49 args H K :=
  callsH_of mixed [] 75 [.tmp 6, .tmp 7] (f := 49) (fn := Try.f49) (by kernel_rfl) (by kernel_rfl) (c := Try.f49.body.getD .skip) (by kernel_rfl) (by kernel_rfl) (by kernel_rfl) (by kernel_rfl) ha h
theorem call50 (ha : args.size ≤ 20) (h : codeX Try.prog [] (Try.f50.body.getD .skip) (endQ Try.prog [.cell 4 57, .tmp 5] K) (Env.init args) H) : CallsH Try.prog 50 args H K :=
  callsH_of mixed [] 20 [.cell 4 57, .tmp 5] (f := 50) (fn := Try.f50) (by kernel_rfl) (by kernel_rfl) (c := Try.f50.body.getD .skip) (by kernel_rfl) (by kernel_rfl) (by kernel_rfl) (by kernel_rfl) ha h
theorem call60 (ha : args.size ≤ 33) (h : codeX Try.prog [3] (Try.f60.body.getD .skip) (endQ Try.prog [.tmp 4, .tmp 5] K) (Env.init args) H) : CallsH Try.prog 60 args H K :=
  callsH_of mixed [3] 33 [.tmp 4, .tmp 5] (f := 60) (fn := Try.f60) (by kernel_rfl) (by kernel_rfl) (c := Try.f60.body.getD .skip) (by kernel_rfl) (by kernel_rfl) (by kernel_rfl) (by kernel_rfl) ha h
theorem call63 (ha : args.size ≤ 14) (h : codeX Try.prog [] (Try.f63.body.getD .skip) (endQ Try.prog [.tmp 2, .tmp 3] K) (Env.init args) H) : CallsH Try.prog 63 args H K :=
  callsH_of mixed [] 14 [.tmp 2, .tmp 3] (f := 63) (fn := Try.f63) (by kernel_rfl) (by kernel_rfl) (c := Try.f63.body.getD .skip) (by kernel_rfl) (by kernel_rfl) (by kernel_rfl) (by kernel_rfl) ha h
theorem call64 (ha : args.size ≤ 17) (h : codeX Try.prog [] (Try.f64.body.getD .skip) (endQ Try.prog [.tmp 2] K) (Env.init args) H) : CallsH Try.prog 64 args H K :=
  callsH_of mixed [] 17 [.tmp 2] (f := 64) (fn := Try.f64) (by kernel_rfl) (by kernel_rfl) (c := Try.f64.body.getD .skip) (by kernel_rfl) (by kernel_rfl) (by kernel_rfl) (by kernel_rfl) ha h
theorem call65 (ha : args.size ≤ 30) (h : codeX Try.prog [] (Try.f65.body.getD .skip) (endQ Try.prog [.cell 2 57] K) (Env.init args) H) : CallsH Try.prog 65 args H K :=
  callsH_of mixed [] 30 [.cell 2 57] (f := 65) (fn := Try.f65) (by kernel_rfl) (by kernel_rfl) (c := Try.f65.body.getD .skip) (by kernel_rfl) (by kernel_rfl) (by kernel_rfl) (by kernel_rfl) ha h
theorem call66 (ha : args.size ≤ 66) (h : codeX Try.prog [1] (Try.f66.body.getD .skip) (endQ Try.prog [.tmp 4, .tmp 5] K) (Env.init args) H) : CallsH Try.prog 66 args H K :=
  callsH_of mixed [1] 66 [.tmp 4, .tmp 5] (f := 66) (fn := Try.f66) (by kernel_rfl) (by kernel_rfl) (c := Try.f66.body.getD .skip) (by kernel_rfl) (by kernel_rfl) (by kernel_rfl) (by kernel_rfl) ha h
theorem call67 (ha : args.size ≤ 17) (h : codeX Try.prog [] (Try.f67.body.getD .skip) (endQ Try.prog [.tmp 4] K) (Env.init args) H) : CallsH Try.prog 67 args H K :=
  callsH_of mixed [] 17 [.tmp 4] (f := 67) (fn := Try.f67) (by kernel_rfl) (by kernel_rfl) (c := Try.f67.body.getD .skip) (by kernel_rfl) (by kernel_rfl) (by kernel_rfl) (by kernel_rfl) ha h
theorem call68 (ha : args.size ≤ 23) (h : codeX Try.prog [] (Try.f68.body.getD .skip) (endQ Try.prog [.tmp 6] K) (Env.init args) H) : CallsH Try.prog 68 args H K :=
  callsH_of mixed [] 23 [.tmp 6] (f := 68) (fn := Try.f68) (by kernel_rfl) (by kernel_rfl) (c := Try.f68.body.getD .skip) (by kernel_rfl) (by kernel_rfl) (by kernel_rfl) (by kernel_rfl) ha h
theorem call69 (ha : args.size ≤ 69) (h : codeX Try.prog [] (Try.f69.body.getD .skip) (endQ Try.prog [.tmp 6, .tmp 7] K) (Env.init args) H) : CallsH Try.prog 69 args H K :=
  callsH_of mixed [] 69 [.tmp 6, .tmp 7] (f := 69) (fn := Try.f69) (by kernel_rfl) (by kernel_rfl) (c := Try.f69.body.getD .skip) (by kernel_rfl) (by kernel_rfl) (by kernel_rfl) (by kernel_rfl) ha h
theorem call70 (ha : args.size ≤ 8) (h : codeX Try.prog [] (Try.f70.body.getD .skip) (endQ Try.prog [] K) (Env.init args) H) : CallsH Try.prog 70 args H K :=
  callsH_of mixed [] 8 [] (f := 70) (fn := Try.f70) (by kernel_rfl) (by kernel_rfl) (c := Try.f70.body.getD .skip) (by kernel_rfl) (by kernel_rfl) (by kernel_rfl) (by kernel_rfl) ha h
theorem call71 (ha : args.size ≤ 48) (h : codeX Try.prog [] (Try.f71.body.getD .skip) (endQ Try.prog [] K) (Env.init args) H) : CallsH Try.prog 71 args H K :=
  callsH_of mixed [] 48 [] (f := 71) (fn := Try.f71) (by kernel_rfl) (by kernel_rfl) (c := Try.f71.body.getD .skip) (by kernel_rfl) (by kernel_rfl) (by kernel_rfl) (by kernel_rfl) ha h
theorem call72 (ha : args.size ≤ 25) (h : codeX Try.prog [] (Try.f72.body.getD .skip) (endQ Try.prog [.tmp 6] K) (Env.init args) H) : CallsH Try.prog 72 args H K :=
  callsH_of mixed [] 25 [.tmp 6] (f := 72) (fn := Try.f72) (by kernel_rfl) (by kernel_rfl) (c := Try.f72.body.getD .skip) (by kernel_rfl) (by kernel_rfl) (by kernel_rfl) (by kernel_rfl) ha h
theorem call73 (ha : args.size ≤ 24) (h : codeX Try.prog [] (Try.f73.body.getD .skip) (endQ Try.prog [] K) (Env.init args) H) : CallsH Try.prog 73 args H K :=
  callsH_of mixed [] 24 [] (f := 73) (fn := Try.f73) (by kernel_rfl) (by kernel_rfl) (c := Try.f73.body.getD .skip) (by kernel_rfl) (by kernel_rfl) (by kernel_rfl) (by kernel_rfl) ha h
theorem call74 (ha : args.size ≤ 21) (h : codeX Try.prog [4] (Try.f74.body.getD .skip) (endQ Try.prog [.tmp 4, .cell 5 57] K) (Env.init args) H) : CallsH Try.prog 74 args H K :=
  callsH_of mixed [4] 21 [.tmp 4, .cell 5 57] (f := 74) (fn := Try.f74) (by kernel_rfl) (by kernel_rfl) (c := Try.f74.body.getD .skip) (by kernel_rfl) (by kernel_rfl) (by kernel_rfl) (by kernel_rfl) ha h
theorem call75 (ha : args.size ≤ 25) (h : codeX Try.prog [] (Try.f75.body.getD .skip) (endQ Try.prog [.tmp 4] K) (Env.init args) H) : CallsH Try.prog 75 args H K :=
  callsH_of mixed [] 25 [.tmp 4] (f := 75) (fn := Try.f75) (by kernel_rfl) (by kernel_rfl) (c := Try.f75.body.getD .skip) (by kernel_rfl) (by kernel_rfl) (by kernel_rfl) (by kernel_rfl) ha h
theorem call76 (ha : args.size ≤ 17) (h : codeX Try.prog [] (Try.f76.body.getD .skip) (endQ Try.prog [.cell 4 79, .tmp 5] K) (Env.init args) H) : CallsH Try.prog 76 args H K :=
  callsH_of mixed [] 17 [.cell 4 79, .tmp 5] (f := 76) (fn := Try.f76) (by kernel_rfl) (by kernel_rfl) (c := Try.f76.body.getD .skip) (by kernel_rfl) (by kernel_rfl) (by kernel_rfl) (by kernel_rfl) ha h
theorem call77 (ha : args.size ≤ 28) (h : codeX Try.prog [] (Try.f77.body.getD .skip) (endQ Try.prog [.tmp 6] K) (Env.init args) H) : CallsH Try.prog 77 args H K :=
  callsH_of mixed [] 28 [.tmp 6] (f := 77) (fn := Try.f77) (by kernel_rfl) (by kernel_rfl) (c := Try.f77.body.getD .skip) (by kernel_rfl) (by kernel_rfl) (by kernel_rfl) (by kernel_rfl) ha h
theorem call87 (ha : args.size ≤ 18) (h : codeX Try.prog [] (Try.f87.body.getD .skip) (endQ Try.prog [.tmp 4, .tmp 5] K) (Env.init args) H) : CallsH Try.prog 87 args H K :=
  callsH_of mixed [] 18 [.tmp 4, .tmp 5] (f := 87) (fn := Try.f87) (by kernel_rfl) (by kernel_rfl) (c := Try.f87.body.getD .skip) (by kernel_rfl) (by kernel_rfl) (by kernel_rfl) (by kernel_rfl) ha h
theorem call88 (ha : args.size ≤ 24) (h : codeX Try.prog [] (Try.f88.body.getD .skip) (endQ Try.prog [] K) (Env.init args) H) : CallsH Try.prog 88 args H K :=
  callsH_of mixed [] 24 [] (f := 88) (fn := Try.f88) (by kernel_rfl) (by kernel_rfl) (c := Try.f88.body.getD .skip) (by kernel_rfl) (by kernel_rfl) (by kernel_rfl) (by kernel_rfl) ha h
theorem call89 (ha : args.size ≤ 28) (h : codeX Try.prog [] (Try.f89.body.getD .skip) (endQ Try.prog [] K) (Env.init args) H) : CallsH Try.prog 89 args H K :=
  callsH_of mixed [] 28 [] (f := 89) (fn := Try.f89) (by kernel_rfl) (by kernel_rfl) (c := Try.f89.body.getD .skip) (by kernel_rfl) (by kernel_rfl) (by kernel_rfl) (by kernel_rfl) ha h
theorem call90 (ha : args.size ≤ 16) (h : codeX Try.prog [] (Try.f90.body.getD .skip) (endQ Try.prog [.tmp 6] K) (Env.init args) H) : CallsH Try.prog 90 args H K :=
  callsH_of mixed [] 16 [.tmp 6] (f := 90) (fn := Try.f90) (by kernel_rfl) (by kernel_rfl) (c := Try.f90.body.getD .skip) (by kernel_rfl) (by kernel_rfl) (by kernel_rfl) (by kernel_rfl) ha h
theorem call91 (ha : args.size ≤ 65) (h : codeX Try.prog [] (Try.f91.body.getD .skip) (endQ Try.prog [] K) (Env.init args) H) : CallsH Try.prog 91 args H K :=
  callsH_of mixed [] 65 [] (f := 91) (fn := Try.f91) (by kernel_rfl) (by kernel_rfl) (c := Try.f91.body.getD .skip) (by kernel_rfl) (by kernel_rfl) (by kernel_rfl) (by kernel_rfl) ha h
theorem call92 (ha : args.size ≤ 55) (h : codeX Try.prog [] (Try.f92.body.getD .skip) (endQ Try.prog [.cell 4 57] K) (Env.init args) H) : CallsH Try.prog 92 args H K :=
  callsH_of mixed [] 55 [.cell 4 57] (f := 92) (fn := Try.f92) (by kernel_rfl) (by kernel_rfl) (c := Try.f92.body.getD .skip) (by kernel_rfl) (by kernel_rfl) (by kernel_rfl) (by kernel_rfl) ha h
theorem call93 (ha : args.size ≤ 29) (h : codeX Try.prog [] (Try.f93.body.getD .skip) (endQ Try.prog [.tmp 4] K) (Env.init args) H) : CallsH Try.prog 93 args H K :=
  callsH_of mixed [] 29 [.tmp 4] (f := 93) (fn := Try.f93) (by kernel_rfl) (by kernel_rfl) (c := Try.f93.body.getD .skip) (by kernel_rfl) (by kernel_rfl) (by kernel_rfl) (by kernel_rfl) ha h
theorem call94 (ha : args.size ≤ 33) (h : codeX Try.prog [] (Try.f94.body.getD .skip) (endQ Try.prog [.tmp 4] K) (Env.init args) H) : CallsH Try.prog 94 args H K :=
  callsH_of mixed [] 33 [.tmp 4] (f := 94) (fn := Try.f94) (by kernel_rfl) (by kernel_rfl) (c := Try.f94.body.getD .skip) (by kernel_rfl) (by kernel_rfl) (by kernel_rfl) (by kernel_rfl) ha h
end Go.Proofs.Ytnlafhnbakipmaa
