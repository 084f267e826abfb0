/-
  What the program's tables say of types and of functions (written by facts.py of this claim's maker; each row is checked by the kernel).
-/
import Derived.Test.YtafehbegoanajaaProg
import Derived.Test.YtafehbegoanajaaHpJ
import Derived.KernelRfl
namespace Go.Proofs.Ytafehbegoanajaa
open Go Go.Hp
set_option maxRecDepth 100000
set_option linter.all false
variable {args : Array Value} {H : Heap} {K : Value → Heap → Prop}
theorem mixed : Try.prog.follows .mixedOrders = true := by kernel_rfl
@[go_sem] theorem tl1 : tl Try.prog 1 = some ⟨.other, 1, 8, .nilFunc⟩ := by kernel_rfl
@[go_sem] theorem tl2 : tl Try.prog 2 = some ⟨.int .i64, 1, 8, .int .i64 0⟩ := by kernel_rfl
@[go_sem] theorem tl3 : tl Try.prog 3 = some ⟨.int .i64, 1, 8, .int .i64 0⟩ := by kernel_rfl
@[go_sem] theorem tl4 : tl Try.prog 4 = some ⟨.bool, 1, 1, .bool false⟩ := by kernel_rfl
@[go_sem] theorem tl5 : tl Try.prog 5 = some ⟨.int .u8, 1, 1, .int .u8 0⟩ := by kernel_rfl
@[go_sem] theorem tl6 : tl Try.prog 6 = some ⟨.int .u8, 1, 1, .int .u8 0⟩ := by kernel_rfl
@[go_sem] theorem tl7 : tl Try.prog 7 = some ⟨.struct, 4, 24, .agg #[.int .i64 0, .int .i64 0, .bool false, .int .u8 0]⟩ := by kernel_rfl
@[go_sem] theorem flay7 : flay Try.prog 7 = some [(0, (1, false)), (1, (1, false)), (2, (1, false)), (3, (1, false))] := by kernel_rfl
@[go_sem] theorem tl8 : tl Try.prog 8 = some ⟨.struct, 4, 24, .agg #[.int .i64 0, .int .i64 0, .bool false, .int .u8 0]⟩ := by kernel_rfl
@[go_sem] theorem flay8 : flay Try.prog 8 = some [(0, (1, false)), (1, (1, false)), (2, (1, false)), (3, (1, false))] := by kernel_rfl
@[go_sem] theorem tl9 : tl Try.prog 9 = some ⟨.string, 1, 16, .string ⟨#[]⟩⟩ := by kernel_rfl
@[go_sem] theorem tl10 : tl Try.prog 10 = some ⟨.string, 1, 16, .string ⟨#[]⟩⟩ := by kernel_rfl
@[go_sem] theorem tl11 : tl Try.prog 11 = some ⟨.string, 1, 16, .string ⟨#[]⟩⟩ := by kernel_rfl
@[go_sem] theorem tl12 : tl Try.prog 12 = some ⟨.int .u64, 1, 8, .int .u64 0⟩ := by kernel_rfl
@[go_sem] theorem tl13 : tl Try.prog 13 = some ⟨.struct, 2, 24, .agg #[.string ⟨#[]⟩, .int .u64 0]⟩ := by kernel_rfl
@[go_sem] theorem flay13 : flay Try.prog 13 = some [(0, (1, false)), (1, (1, false))] := by kernel_rfl
@[go_sem] theorem tl14 : tl Try.prog 14 = some ⟨.struct, 2, 24, .agg #[.string ⟨#[]⟩, .int .u64 0]⟩ := by kernel_rfl
@[go_sem] theorem flay14 : flay Try.prog 14 = some [(0, (1, false)), (1, (1, false))] := by kernel_rfl
@[go_sem] theorem tl15 : tl Try.prog 15 = some ⟨.ptr, 1, 8, .pointer none⟩ := by kernel_rfl
@[go_sem] theorem tl16 : tl Try.prog 16 = some ⟨.ptr, 1, 8, .pointer none⟩ := by kernel_rfl
@[go_sem] theorem tl17 : tl Try.prog 17 = some ⟨.ptr, 1, 8, .pointer none⟩ := by kernel_rfl
@[go_sem] theorem tl18 : tl Try.prog 18 = some ⟨.struct, 1, 8, .agg #[.pointer none]⟩ := by kernel_rfl
@[go_sem] theorem flay18 : flay Try.prog 18 = some [(0, (1, false))] := by kernel_rfl
@[go_sem] theorem tl19 : tl Try.prog 19 = some ⟨.struct, 1, 8, .agg #[.pointer none]⟩ := by kernel_rfl
@[go_sem] theorem flay19 : flay Try.prog 19 = some [(0, (1, false))] := by kernel_rfl
@[go_sem] theorem tl20 : tl Try.prog 20 = some ⟨.other, 1, 16, .nilIface⟩ := by kernel_rfl
@[go_sem] theorem tl21 : tl Try.prog 21 = some ⟨.int .i32, 1, 4, .int .i32 0⟩ := by kernel_rfl
@[go_sem] theorem tl22 : tl Try.prog 22 = some ⟨.slice, 1, 24, .slice none 0 0⟩ := by kernel_rfl
@[go_sem] theorem elems22 : elems Try.prog 22 = some (Option.none, 30, 4) := by kernel_rfl
@[go_sem] theorem tl23 : tl Try.prog 23 = some ⟨.other, 1, 8, .nilFunc⟩ := by kernel_rfl
@[go_sem] theorem tl24 : tl Try.prog 24 = some ⟨.other, 1, 8, .nilFunc⟩ := by kernel_rfl
@[go_sem] theorem tl25 : tl Try.prog 25 = some ⟨.ptr, 1, 8, .pointer none⟩ := by kernel_rfl
@[go_sem] theorem tl26 : tl Try.prog 26 = some ⟨.int .i64, 1, 8, .int .i64 0⟩ := by kernel_rfl
@[go_sem] theorem tl28 : tl Try.prog 28 = some ⟨.other, 1, 8, .nilFunc⟩ := by kernel_rfl
@[go_sem] theorem tl29 : tl Try.prog 29 = some ⟨.struct, 4, 32, .agg #[.int .i64 0, .int .i64 0, .int .i64 0, .int .i64 0]⟩ := by kernel_rfl
@[go_sem] theorem flay29 : flay Try.prog 29 = some [(0, (1, false)), (1, (1, false)), (2, (1, false)), (3, (1, false))] := by kernel_rfl
@[go_sem] theorem tl30 : tl Try.prog 30 = some ⟨.struct, 4, 32, .agg #[.int .i64 0, .int .i64 0, .int .i64 0, .int .i64 0]⟩ := by kernel_rfl
@[go_sem] theorem flay30 : flay Try.prog 30 = some [(0, (1, false)), (1, (1, false)), (2, (1, false)), (3, (1, false))] := by kernel_rfl
@[go_sem] theorem tl31 : tl Try.prog 31 = some ⟨.other, 1, 8, .nilFunc⟩ := by kernel_rfl
@[go_sem] theorem tl33 : tl Try.prog 33 = some ⟨.other, 1, 8, .nilFunc⟩ := by kernel_rfl
@[go_sem] theorem tl34 : tl Try.prog 34 = some ⟨.slice, 1, 24, .slice none 0 0⟩ := by kernel_rfl
@[go_sem] theorem elems34 : elems Try.prog 34 = some (Option.none, 3, 1) := by kernel_rfl
@[go_sem] theorem tl35 : tl Try.prog 35 = some ⟨.other, 1, 8, .nilFunc⟩ := by kernel_rfl
@[go_sem] theorem tl36 : tl Try.prog 36 = some ⟨.other, 1, 8, .nilFunc⟩ := by kernel_rfl
@[go_sem] theorem tl37 : tl Try.prog 37 = some ⟨.other, 1, 8, .nilFunc⟩ := by kernel_rfl
@[go_sem] theorem tl38 : tl Try.prog 38 = some ⟨.other, 1, 8, .nilFunc⟩ := by kernel_rfl
@[go_sem] theorem tl39 : tl Try.prog 39 = some ⟨.other, 1, 8, .nilFunc⟩ := by kernel_rfl
@[go_sem] theorem tl40 : tl Try.prog 40 = some ⟨.other, 1, 8, .nilFunc⟩ := by kernel_rfl
@[go_sem] theorem tl41 : tl Try.prog 41 = some ⟨.other, 1, 8, .nilFunc⟩ := by kernel_rfl
@[go_sem] theorem tl42 : tl Try.prog 42 = some ⟨.other, 1, 8, .nilFunc⟩ := by kernel_rfl
@[go_sem] theorem tl43 : tl Try.prog 43 = some ⟨.other, 1, 8, .nilFunc⟩ := by kernel_rfl
@[go_sem] theorem tl44 : tl Try.prog 44 = some ⟨.slice, 1, 24, .slice none 0 0⟩ := by kernel_rfl
@[go_sem] theorem elems44 : elems Try.prog 44 = some (Option.none, 53, 6) := by kernel_rfl
@[go_sem] theorem tl45 : tl Try.prog 45 = some ⟨.ptr, 1, 8, .pointer none⟩ := by kernel_rfl
@[go_sem] theorem tl47 : tl Try.prog 47 = some ⟨.other, 1, 8, .nilFunc⟩ := by kernel_rfl
@[go_sem] theorem tl48 : tl Try.prog 48 = some ⟨.ptr, 1, 8, .pointer none⟩ := by kernel_rfl
@[go_sem] theorem tl49 : tl Try.prog 49 = some ⟨.slice, 1, 24, .slice none 0 0⟩ := by kernel_rfl
@[go_sem] theorem elems49 : elems Try.prog 49 = some (Option.none, 34, 1) := by kernel_rfl
@[go_sem] theorem tl50 : tl Try.prog 50 = some ⟨.struct, 4, 64, .agg #[.pointer none, .pointer none, .slice none 0 0, .slice none 0 0]⟩ := by kernel_rfl
@[go_sem] theorem flay50 : flay Try.prog 50 = some [(0, (1, false)), (1, (1, false)), (2, (1, false)), (3, (1, false))] := by kernel_rfl
@[go_sem] theorem tl51 : tl Try.prog 51 = some ⟨.struct, 4, 64, .agg #[.pointer none, .pointer none, .slice none 0 0, .slice none 0 0]⟩ := by kernel_rfl
@[go_sem] theorem flay51 : flay Try.prog 51 = some [(0, (1, false)), (1, (1, false)), (2, (1, false)), (3, (1, false))] := by kernel_rfl
@[go_sem] theorem tl52 : tl Try.prog 52 = some ⟨.struct, 6, 48, .agg #[.int .i64 0, .int .i64 0, .int .i64 0, .int .i64 0, .int .i64 0, .bool false]⟩ := by kernel_rfl
@[go_sem] theorem flay52 : flay Try.prog 52 = some [(0, (1, false)), (1, (1, false)), (2, (1, false)), (3, (1, false)), (4, (1, false)), (5, (1, false))] := by kernel_rfl
@[go_sem] theorem tl53 : tl Try.prog 53 = some ⟨.struct, 6, 48, .agg #[.int .i64 0, .int .i64 0, .int .i64 0, .int .i64 0, .int .i64 0, .bool false]⟩ := by kernel_rfl
@[go_sem] theorem flay53 : flay Try.prog 53 = some [(0, (1, false)), (1, (1, false)), (2, (1, false)), (3, (1, false)), (4, (1, false)), (5, (1, false))] := by kernel_rfl
@[go_sem] theorem tl54 : tl Try.prog 54 = some ⟨.other, 1, 8, .nilFunc⟩ := by kernel_rfl
@[go_sem] theorem tl55 : tl Try.prog 55 = some ⟨.other, 1, 8, .nilFunc⟩ := by kernel_rfl
@[go_sem] theorem tl56 : tl Try.prog 56 = some ⟨.other, 1, 8, .nilFunc⟩ := by kernel_rfl
@[go_sem] theorem tl57 : tl Try.prog 57 = some ⟨.other, 1, 8, .nilFunc⟩ := by kernel_rfl
@[go_sem] theorem tl58 : tl Try.prog 58 = some ⟨.other, 1, 8, .nilFunc⟩ := by kernel_rfl
@[go_sem] theorem tl59 : tl Try.prog 59 = some ⟨.other, 1, 8, .nilFunc⟩ := by kernel_rfl
@[go_sem] theorem tl61 : tl Try.prog 61 = some ⟨.other, 1, 8, .nilFunc⟩ := by kernel_rfl
@[go_sem] theorem tl62 : tl Try.prog 62 = some ⟨.other, 1, 8, .nilFunc⟩ := by kernel_rfl
@[go_sem] theorem tl63 : tl Try.prog 63 = some ⟨.ptr, 1, 8, .pointer none⟩ := by kernel_rfl
@[go_sem] theorem tl65 : tl Try.prog 65 = some ⟨.other, 1, 8, .nilFunc⟩ := by kernel_rfl
@[go_sem] theorem tl66 : tl Try.prog 66 = some ⟨.map, 1, 8, .map none⟩ := by kernel_rfl
@[go_sem] theorem tl67 : tl Try.prog 67 = some ⟨.map, 1, 8, .map none⟩ := by kernel_rfl
@[go_sem] theorem tl68 : tl Try.prog 68 = some ⟨.struct, 5, 40, .agg #[.int .i64 0, .map none, .map none, .pointer none, .int .i64 0]⟩ := by kernel_rfl
@[go_sem] theorem flay68 : flay Try.prog 68 = some [(0, (1, false)), (1, (1, false)), (2, (1, false)), (3, (1, false)), (4, (1, false))] := by kernel_rfl
@[go_sem] theorem tl69 : tl Try.prog 69 = some ⟨.struct, 5, 40, .agg #[.int .i64 0, .map none, .map none, .pointer none, .int .i64 0]⟩ := by kernel_rfl
@[go_sem] theorem flay69 : flay Try.prog 69 = some [(0, (1, false)), (1, (1, false)), (2, (1, false)), (3, (1, false)), (4, (1, false))] := by kernel_rfl
@[go_sem] theorem tl71 : tl Try.prog 71 = some ⟨.other, 1, 8, .nilFunc⟩ := by kernel_rfl
@[go_sem] theorem tl72 : tl Try.prog 72 = some ⟨.other, 1, 8, .nilFunc⟩ := by kernel_rfl
@[go_sem] theorem tl73 : tl Try.prog 73 = some ⟨.other, 1, 8, .nilFunc⟩ := by kernel_rfl
@[go_sem] theorem tl74 : tl Try.prog 74 = some ⟨.other, 1, 8, .nilFunc⟩ := by kernel_rfl
@[go_sem] theorem tl75 : tl Try.prog 75 = some ⟨.other, 1, 8, .nilFunc⟩ := by kernel_rfl
@[go_sem] theorem tl76 : tl Try.prog 76 = some ⟨.other, 1, 8, .nilFunc⟩ := by kernel_rfl
@[go_sem] theorem tl78 : tl Try.prog 78 = some ⟨.other, 1, 8, .nilFunc⟩ := by kernel_rfl
@[go_sem] theorem tl79 : tl Try.prog 79 = some ⟨.other, 1, 8, .nilFunc⟩ := by kernel_rfl
@[go_sem] theorem tl80 : tl Try.prog 80 = some ⟨.other, 1, 8, .nilFunc⟩ := by kernel_rfl
@[go_sem] theorem tl81 : tl Try.prog 81 = some ⟨.struct, 2, 32, .agg #[.int .i64 0, .slice none 0 0]⟩ := by kernel_rfl
@[go_sem] theorem flay81 : flay Try.prog 81 = some [(0, (1, false)), (1, (1, false))] := by kernel_rfl
@[go_sem] theorem tl82 : tl Try.prog 82 = some ⟨.struct, 2, 32, .agg #[.int .i64 0, .slice none 0 0]⟩ := by kernel_rfl
@[go_sem] theorem flay82 : flay Try.prog 82 = some [(0, (1, false)), (1, (1, false))] := by kernel_rfl
@[go_sem] theorem tl83 : tl Try.prog 83 = some ⟨.slice, 1, 24, .slice none 0 0⟩ := by kernel_rfl
@[go_sem] theorem elems83 : elems Try.prog 83 = some (Option.none, 93, 10) := by kernel_rfl
@[go_sem] theorem tl84 : tl Try.prog 84 = some ⟨.struct, 4, 64, .agg #[.int .i64 0, .slice none 0 0, .map none, .slice none 0 0]⟩ := by kernel_rfl
@[go_sem] theorem flay84 : flay Try.prog 84 = some [(0, (1, false)), (1, (1, false)), (2, (1, false)), (3, (1, false))] := by kernel_rfl
@[go_sem] theorem tl85 : tl Try.prog 85 = some ⟨.struct, 4, 64, .agg #[.int .i64 0, .slice none 0 0, .map none, .slice none 0 0]⟩ := by kernel_rfl
@[go_sem] theorem flay85 : flay Try.prog 85 = some [(0, (1, false)), (1, (1, false)), (2, (1, false)), (3, (1, false))] := by kernel_rfl
@[go_sem] theorem tl86 : tl Try.prog 86 = some ⟨.other, 1, 8, .nilFunc⟩ := by kernel_rfl
@[go_sem] theorem tl87 : tl Try.prog 87 = some ⟨.other, 1, 8, .nilFunc⟩ := by kernel_rfl
@[go_sem] theorem tl88 : tl Try.prog 88 = some ⟨.other, 1, 8, .nilFunc⟩ := by kernel_rfl
@[go_sem] theorem tl89 : tl Try.prog 89 = some ⟨.array, 2, 16, .agg #[.int .i64 0, .int .i64 0]⟩ := by kernel_rfl
@[go_sem] theorem elems89 : elems Try.prog 89 = some ((some 2), 3, 1) := by kernel_rfl
@[go_sem] theorem tl90 : tl Try.prog 90 = some ⟨.struct, 4, 32, .agg #[.int .i64 0, .int .i64 0, .int .i64 0, .bool false]⟩ := by kernel_rfl
@[go_sem] theorem flay90 : flay Try.prog 90 = some [(0, (1, false)), (1, (2, true)), (3, (1, false))] := by kernel_rfl
@[go_sem] theorem tl91 : tl Try.prog 91 = some ⟨.struct, 4, 32, .agg #[.int .i64 0, .int .i64 0, .int .i64 0, .bool false]⟩ := by kernel_rfl
@[go_sem] theorem flay91 : flay Try.prog 91 = some [(0, (1, false)), (1, (2, true)), (3, (1, false))] := by kernel_rfl
@[go_sem] theorem tl92 : tl Try.prog 92 = some ⟨.struct, 10, 80, .agg #[.int .i64 0, .int .i64 0, .int .i64 0, .bool false, .bool false, .int .i64 0, .int .i64 0, .int .i64 0, .int .i64 0, .int .i64 0]⟩ := by kernel_rfl
@[go_sem] theorem flay92 : flay Try.prog 92 = some [(0, (4, true)), (4, (1, false)), (5, (4, true)), (9, (1, false))] := by kernel_rfl
@[go_sem] theorem tl93 : tl Try.prog 93 = some ⟨.struct, 10, 80, .agg #[.int .i64 0, .int .i64 0, .int .i64 0, .bool false, .bool false, .int .i64 0, .int .i64 0, .int .i64 0, .int .i64 0, .int .i64 0]⟩ := by kernel_rfl
@[go_sem] theorem flay93 : flay Try.prog 93 = some [(0, (4, true)), (4, (1, false)), (5, (4, true)), (9, (1, false))] := by kernel_rfl
@[go_sem] theorem tl94 : tl Try.prog 94 = some ⟨.other, 1, 8, .nilFunc⟩ := by kernel_rfl
@[go_sem] theorem tl95 : tl Try.prog 95 = some ⟨.other, 1, 8, .nilFunc⟩ := by kernel_rfl
@[go_sem] theorem tl96 : tl Try.prog 96 = some ⟨.other, 1, 8, .nilFunc⟩ := by kernel_rfl
@[go_sem] theorem tl97 : tl Try.prog 97 = some ⟨.other, 1, 8, .nilFunc⟩ := by kernel_rfl
@[go_sem] theorem tl98 : tl Try.prog 98 = some ⟨.other, 1, 8, .nilFunc⟩ := by kernel_rfl
@[go_sem] theorem tl99 : tl Try.prog 99 = some ⟨.other, 1, 8, .nilFunc⟩ := by kernel_rfl
@[go_sem] theorem tl100 : tl Try.prog 100 = some ⟨.other, 1, 8, .nilFunc⟩ := by kernel_rfl
@[go_sem] theorem tl101 : tl Try.prog 101 = some ⟨.other, 1, 8, .nilFunc⟩ := by kernel_rfl
@[go_sem] theorem tl102 : tl Try.prog 102 = some ⟨.other, 1, 8, .nilFunc⟩ := by kernel_rfl
@[go_sem] theorem tl103 : tl Try.prog 103 = some ⟨.other, 1, 8, .nilFunc⟩ := by kernel_rfl
@[go_sem] theorem tl104 : tl Try.prog 104 = some ⟨.other, 1, 8, .nilFunc⟩ := by kernel_rfl
@[go_sem] theorem tl105 : tl Try.prog 105 = some ⟨.int .u64, 1, 8, .int .u64 0⟩ := by kernel_rfl
@[go_sem] theorem tl106 : tl Try.prog 106 = some ⟨.other, 1, 8, .nilFunc⟩ := by kernel_rfl
@[go_sem] theorem tl107 : tl Try.prog 107 = some ⟨.other, 1, 8, .nilFunc⟩ := by kernel_rfl
@[go_sem] theorem tl108 : tl Try.prog 108 = some ⟨.int .i64, 1, 8, .int .i64 0⟩ := by kernel_rfl
@[go_sem] theorem tl110 : tl Try.prog 110 = some ⟨.other, 1, 8, .nilFunc⟩ := by kernel_rfl
@[go_sem] theorem tl111 : tl Try.prog 111 = some ⟨.other, 1, 8, .nilFunc⟩ := by kernel_rfl
@[go_sem] theorem tl112 : tl Try.prog 112 = some ⟨.other, 1, 8, .nilFunc⟩ := by kernel_rfl
@[go_sem] theorem tl113 : tl Try.prog 113 = some ⟨.other, 1, 8, .nilFunc⟩ := by kernel_rfl
@[go_sem] theorem tl114 : tl Try.prog 114 = some ⟨.other, 1, 8, .nilFunc⟩ := by kernel_rfl
@[go_sem] theorem tl115 : tl Try.prog 115 = some ⟨.int .u32, 1, 4, .int .u32 0⟩ := by kernel_rfl
@[go_sem] theorem tl116 : tl Try.prog 116 = some ⟨.other, 1, 8, .nilFunc⟩ := by kernel_rfl
@[go_sem] theorem tl117 : tl Try.prog 117 = some ⟨.int .u64, 1, 8, .int .u64 0⟩ := by kernel_rfl
@[go_sem] theorem tl118 : tl Try.prog 118 = some ⟨.ptr, 1, 8, .pointer none⟩ := by kernel_rfl
@[go_sem] theorem tl119 : tl Try.prog 119 = some ⟨.other, 1, 8, .nilFunc⟩ := by kernel_rfl
@[go_sem] theorem tl120 : tl Try.prog 120 = some ⟨.other, 1, 8, .nilFunc⟩ := by kernel_rfl
@[go_sem] theorem tl121 : tl Try.prog 121 = some ⟨.other, 1, 8, .nilFunc⟩ := by kernel_rfl
@[go_sem] theorem tl122 : tl Try.prog 122 = some ⟨.ptr, 1, 8, .pointer none⟩ := by kernel_rfl
@[go_sem] theorem tl123 : tl Try.prog 123 = some ⟨.int .u64, 1, 8, .int .u64 0⟩ := by kernel_rfl
@[go_sem] theorem tl124 : tl Try.prog 124 = some ⟨.other, 1, 8, .nilFunc⟩ := by kernel_rfl
@[go_sem] theorem tl125 : tl Try.prog 125 = some ⟨.other, 1, 8, .nilFunc⟩ := by kernel_rfl
@[go_sem] theorem tl126 : tl Try.prog 126 = some ⟨.other, 1, 8, .nilFunc⟩ := by kernel_rfl
@[go_sem] theorem tl127 : tl Try.prog 127 = some ⟨.ptr, 1, 8, .pointer none⟩ := by kernel_rfl
@[go_sem] theorem tl128 : tl Try.prog 128 = some ⟨.other, 1, 8, .nilFunc⟩ := by kernel_rfl
@[go_sem] theorem tl129 : tl Try.prog 129 = some ⟨.other, 1, 8, .nilFunc⟩ := by kernel_rfl
@[go_sem] theorem tl130 : tl Try.prog 130 = some ⟨.ptr, 1, 8, .pointer none⟩ := by kernel_rfl
@[go_sem] theorem tl132 : tl Try.prog 132 = some ⟨.other, 1, 8, .nilFunc⟩ := by kernel_rfl
@[go_sem] theorem tl133 : tl Try.prog 133 = some ⟨.other, 1, 8, .nilFunc⟩ := by kernel_rfl
@[go_sem] theorem tl134 : tl Try.prog 134 = some ⟨.struct, 4, 40, .agg #[.pointer none, .pointer none, .pointer none, .string ⟨#[]⟩]⟩ := by kernel_rfl
@[go_sem] theorem flay134 : flay Try.prog 134 = some [(0, (1, false)), (1, (1, false)), (2, (1, false)), (3, (1, false))] := by kernel_rfl
@[go_sem] theorem tl135 : tl Try.prog 135 = some ⟨.struct, 4, 40, .agg #[.pointer none, .pointer none, .pointer none, .string ⟨#[]⟩]⟩ := by kernel_rfl
@[go_sem] theorem flay135 : flay Try.prog 135 = some [(0, (1, false)), (1, (1, false)), (2, (1, false)), (3, (1, false))] := by kernel_rfl
@[go_sem] theorem tl136 : tl Try.prog 136 = some ⟨.array, 0, 0, .agg #[]⟩ := by kernel_rfl
@[go_sem] theorem elems136 : elems Try.prog 136 = some ((some 0), 16, 1) := by kernel_rfl
@[go_sem] theorem tl137 : tl Try.prog 137 = some ⟨.struct, 0, 0, .agg #[]⟩ := by kernel_rfl
@[go_sem] theorem flay137 : flay Try.prog 137 = some [(0, (0, true))] := by kernel_rfl
@[go_sem] theorem tl138 : tl Try.prog 138 = some ⟨.struct, 0, 0, .agg #[]⟩ := by kernel_rfl
@[go_sem] theorem flay138 : flay Try.prog 138 = some [(0, (0, true))] := by kernel_rfl
@[go_sem] theorem tl139 : tl Try.prog 139 = some ⟨.int .u8, 1, 1, .int .u8 0⟩ := by kernel_rfl
@[go_sem] theorem tl140 : tl Try.prog 140 = some ⟨.int .u8, 1, 1, .int .u8 0⟩ := by kernel_rfl
@[go_sem] theorem tl141 : tl Try.prog 141 = some ⟨.other, 1, 8, .nilFunc⟩ := by kernel_rfl
@[go_sem] theorem tl142 : tl Try.prog 142 = some ⟨.ptr, 1, 8, .pointer none⟩ := by kernel_rfl
@[go_sem] theorem tl143 : tl Try.prog 143 = some ⟨.int .i32, 1, 4, .int .i32 0⟩ := by kernel_rfl
@[go_sem] theorem tl144 : tl Try.prog 144 = some ⟨.int .i32, 1, 4, .int .i32 0⟩ := by kernel_rfl
@[go_sem] theorem tl145 : tl Try.prog 145 = some ⟨.struct, 11, 48, .agg #[.int .u64 0, .int .u64 0, .int .u32 0, .int .u8 0, .int .u8 0, .int .u8 0, .int .u8 0, .nilFunc, .pointer none, .int .i32 0, .int .i32 0]⟩ := by kernel_rfl
@[go_sem] theorem flay145 : flay Try.prog 145 = some [(0, (1, false)), (1, (1, false)), (2, (1, false)), (3, (1, false)), (4, (1, false)), (5, (1, false)), (6, (1, false)), (7, (1, false)), (8, (1, false)), (9, (1, false)), (10, (1, false))] := by kernel_rfl
@[go_sem] theorem tl146 : tl Try.prog 146 = some ⟨.struct, 11, 48, .agg #[.int .u64 0, .int .u64 0, .int .u32 0, .int .u8 0, .int .u8 0, .int .u8 0, .int .u8 0, .nilFunc, .pointer none, .int .i32 0, .int .i32 0]⟩ := by kernel_rfl
@[go_sem] theorem flay146 : flay Try.prog 146 = some [(0, (1, false)), (1, (1, false)), (2, (1, false)), (3, (1, false)), (4, (1, false)), (5, (1, false)), (6, (1, false)), (7, (1, false)), (8, (1, false)), (9, (1, false)), (10, (1, false))] := by kernel_rfl
@[go_sem] theorem tl147 : tl Try.prog 147 = some ⟨.other, 1, 8, .pointer none⟩ := by kernel_rfl
theorem call7 (ha : args.size ≤ 156) (h : codeX Try.prog [] (Try.f7.body.getD .skip) (endQ Try.prog [.tmp 4] K) (Env.init args) H) : CallsH Try.prog 7 args H K :=
  callsH_of mixed [] 156 [.tmp 4] (f := 7) (fn := Try.f7) (by kernel_rfl) (by kernel_rfl) (c := Try.f7.body.getD .skip) (by kernel_rfl) (by kernel_rfl) (by kernel_rfl) (by kernel_rfl) ha h
theorem call9 (ha : args.size ≤ 80) (h : codeX Try.prog [] (Try.f9.body.getD .skip) (endQ Try.prog [.tmp 0] K) (Env.init args) H) : CallsH Try.prog 9 args H K :=
  callsH_of mixed [] 80 [.tmp 0] (f := 9) (fn := Try.f9) (by kernel_rfl) (by kernel_rfl) (c := Try.f9.body.getD .skip) (by kernel_rfl) (by kernel_rfl) (by kernel_rfl) (by kernel_rfl) ha h
theorem call10 (ha : args.size ≤ 13) (h : codeX Try.prog [] (Try.f10.body.getD .skip) (endQ Try.prog [.tmp 4] K) (Env.init args) H) : CallsH Try.prog 10 args H K :=
  callsH_of mixed [] 13 [.tmp 4] (f := 10) (fn := Try.f10) (by kernel_rfl) (by kernel_rfl) (c := Try.f10.body.getD .skip) (by kernel_rfl) (by kernel_rfl) (by kernel_rfl) (by kernel_rfl) ha h
theorem call11 (ha : args.size ≤ 26) (h : codeX Try.prog [] (Try.f11.body.getD .skip) (endQ Try.prog [.tmp 2, .tmp 3] K) (Env.init args) H) : CallsH Try.prog 11 args H K :=
  callsH_of mixed [] 26 [.tmp 2, .tmp 3] (f := 11) (fn := Try.f11) (by kernel_rfl) (by kernel_rfl) (c := Try.f11.body.getD .skip) (by kernel_rfl) (by kernel_rfl) (by kernel_rfl) (by kernel_rfl) ha h
theorem call12 (ha : args.size ≤ 101) (h : codeX Try.prog [13] (Try.f12.body.getD .skip) (endQ Try.prog [.tmp 10] K) (Env.init args) H) : CallsH Try.prog 12 args H K :=
  callsH_of mixed [13] 101 [.tmp 10] (f := 12) (fn := Try.f12) (by kernel_rfl) (by kernel_rfl) (c := Try.f12.body.getD .skip) (by kernel_rfl) (by kernel_rfl) (by kernel_rfl) (by kernel_rfl) ha h
theorem call13 (ha : args.size ≤ 35) (h : codeX Try.prog [] (Try.f13.body.getD .skip) (endQ Try.prog [.cell 6 30, .tmp 7] K) (Env.init args) H) : CallsH Try.prog 13 args H K :=
  callsH_of mixed [] 35 [.cell 6 30, .tmp 7] (f := 13) (fn := Try.f13) (by kernel_rfl) (by kernel_rfl) (c := Try.f13.body.getD .skip) (by kernel_rfl) (by kernel_rfl) (by kernel_rfl) (by kernel_rfl) ha h
theorem call14 (ha : args.size ≤ 69) (h : codeX Try.prog [] (Try.f14.body.getD .skip) (endQ Try.prog [.tmp 4] K) (Env.init args) H) : CallsH Try.prog 14 args H K :=
  callsH_of mixed [] 69 [.tmp 4] (f := 14) (fn := Try.f14) (by kernel_rfl) (by kernel_rfl) (c := Try.f14.body.getD .skip) (by kernel_rfl) (by kernel_rfl) (by kernel_rfl) (by kernel_rfl) ha h
theorem call15 (ha : args.size ≤ 24) (h : codeX Try.prog [] (Try.f15.body.getD .skip) (endQ Try.prog [.tmp 4] K) (Env.init args) H) : CallsH Try.prog 15 args H K :=
  callsH_of mixed [] 24 [.tmp 4] (f := 15) (fn := Try.f15) (by kernel_rfl) (by kernel_rfl) (c := Try.f15.body.getD .skip) (by kernel_rfl) (by kernel_rfl) (by kernel_rfl) (by kernel_rfl) ha h
theorem call16 (ha : args.size ≤ 62) (h : codeX Try.prog [] (Try.f16.body.getD .skip) (endQ Try.prog [.tmp 8] K) (Env.init args) H) : CallsH Try.prog 16 args H K :=
  callsH_of mixed [] 62 [.tmp 8] (f := 16) (fn := Try.f16) (by kernel_rfl) (by kernel_rfl) (c := Try.f16.body.getD .skip) (by kernel_rfl) (by kernel_rfl) (by kernel_rfl) (by kernel_rfl) ha h
theorem call17 (ha : args.size ≤ 9) (h : codeX Try.prog [] (Try.f17.body.getD .skip) (endQ Try.prog [.tmp 2] K) (Env.init args) H) : CallsH Try.prog 17 args H K :=
  callsH_of mixed [] 9 [.tmp 2] (f := 17) (fn := Try.f17) (by kernel_rfl) (by kernel_rfl) (c := Try.f17.body.getD .skip) (by kernel_rfl) (by kernel_rfl) (by kernel_rfl) (by kernel_rfl) ha h
theorem call18 (ha : args.size ≤ 26) (h : codeX Try.prog [6] (Try.f18.body.getD .skip) (endQ Try.prog [.tmp 4] K) (Env.init args) H) : CallsH Try.prog 18 args H K :=
  callsH_of mixed [6] 26 [.tmp 4] (f := 18) (fn := Try.f18) (by kernel_rfl) (by kernel_rfl) (c := Try.f18.body.getD .skip) (by kernel_rfl) (by kernel_rfl) (by kernel_rfl) (by kernel_rfl) ha h
theorem call19 (ha : args.size ≤ 7) (h : codeX Try.prog [] (Try.f19.body.getD .skip) (endQ Try.prog [.tmp 2] K) (Env.init args) H) : CallsH Try.prog 19 args H K :=
  callsH_of mixed [] 7 [.tmp 2] (f := 19) (fn := Try.f19) (by kernel_rfl) (by kernel_rfl) (c := Try.f19.body.getD .skip) (by kernel_rfl) (by kernel_rfl) (by kernel_rfl) (by kernel_rfl) ha h
theorem call24 (ha : args.size ≤ 20) (h : codeX Try.prog [] (Try.f24.body.getD .skip) (endQ Try.prog [.tmp 4] K) (Env.init args) H) : CallsH Try.prog 24 args H K :=
  callsH_of mixed [] 20 [.tmp 4] (f := 24) (fn := Try.f24) (by kernel_rfl) (by kernel_rfl) (c := Try.f24.body.getD .skip) (by kernel_rfl) (by kernel_rfl) (by kernel_rfl) (by kernel_rfl) ha h
theorem call25 (ha : args.size ≤ 38) (h : codeX Try.prog [9] (Try.f25.body.getD .skip) (endQ Try.prog [.tmp 4] K) (Env.init args) H) : CallsH Try.prog 25 args H K :=
  callsH_of mixed [9] 38 [.tmp 4] (f := 25) (fn := Try.f25) (by kernel_rfl) (by kernel_rfl) (c := Try.f25.body.getD .skip) (by kernel_rfl) (by kernel_rfl) (by kernel_rfl) (by kernel_rfl) ha h
theorem call26 (ha : args.size ≤ 145) (h : codeX Try.prog [11, 16, 25, 31] (Try.f26.body.getD .skip) (endQ Try.prog [.tmp 6] K) (Env.init args) H) : CallsH Try.prog 26 args H K :=
  callsH_of mixed [11, 16, 25, 31] 145 [.tmp 6] (f := 26) (fn := Try.f26) (by kernel_rfl) (by kernel_rfl) (c := Try.f26.body.getD .skip) (by kernel_rfl) (by kernel_rfl) (by kernel_rfl) (by kernel_rfl) ha h
theorem call27 (ha : args.size ≤ 31) (h : codeX Try.prog [] (Try.f27.body.getD .skip) (endQ Try.prog [.tmp 4, .tmp 5] K) (Env.init args) H) : CallsH Try.prog 27 args H K :=
  callsH_of mixed [] 31 [.tmp 4, .tmp 5] (f := 27) (fn := Try.f27) (by kernel_rfl) (by kernel_rfl) (c := Try.f27.body.getD .skip) (by kernel_rfl) (by kernel_rfl) (by kernel_rfl) (by kernel_rfl) ha h
theorem call28 (ha : args.size ≤ 17) (h : codeX Try.prog [] (Try.f28.body.getD .skip) (endQ Try.prog [.tmp 2, .tmp 3] K) (Env.init args) H) : CallsH Try.prog 28 args H K :=
  callsH_of mixed [] 17 [.tmp 2, .tmp 3] (f := 28) (fn := Try.f28) (by kernel_rfl) (by kernel_rfl) (c := Try.f28.body.getD .skip) (by kernel_rfl) (by kernel_rfl) (by kernel_rfl) (by kernel_rfl) ha h
theorem call29 (ha : args.size ≤ 15) (h : codeX Try.prog [] (Try.f29.body.getD .skip) (endQ Try.prog [.tmp 4] K) (Env.init args) H) : CallsH Try.prog 29 args H K :=
  callsH_of mixed [] 15 [.tmp 4] (f := 29) (fn := Try.f29) (by kernel_rfl) (by kernel_rfl) (c := Try.f29.body.getD .skip) (by kernel_rfl) (by kernel_rfl) (by kernel_rfl) (by kernel_rfl) ha h
theorem call30 (ha : args.size ≤ 37) (h : codeX Try.prog [] (Try.f30.body.getD .skip) (endQ Try.prog [.cell 6 30, .tmp 7] K) (Env.init args) H) : CallsH Try.prog 30 args H K :=
  callsH_of mixed [] 37 [.cell 6 30, .tmp 7] (f := 30) (fn := Try.f30) (by kernel_rfl) (by kernel_rfl) (c := Try.f30.body.getD .skip) (by kernel_rfl) (by kernel_rfl) (by kernel_rfl) (by kernel_rfl) ha h
theorem call31 (ha : args.size ≤ 34) (h : codeX Try.prog [1, 2, 3] (Try.f31.body.getD .skip) (endQ Try.prog [] K) (Env.init args) H) : CallsH Try.prog 31 args H K :=
  callsH_of mixed [1, 2, 3] 34 [] (f := 31) (fn := Try.f31) (by kernel_rfl) (by kernel_rfl) (c := Try.f31.body.getD .skip) (by kernel_rfl) (by kernel_rfl) (by kernel_rfl) (by kernel_rfl) ha h
theorem call32 (ha : args.size ≤ 24) (h : codeX Try.prog [] (Try.f32.body.getD .skip) (endQ Try.prog [.tmp 4] K) (Env.init args) H) : CallsH Try.prog 32 args H K :=
  callsH_of mixed [] 24 [.tmp 4] (f := 32) (fn := Try.f32) (by kernel_rfl) (by kernel_rfl) (c := Try.f32.body.getD .skip) (by kernel_rfl) (by kernel_rfl) (by kernel_rfl) (by kernel_rfl) ha h
theorem call33 (ha : args.size ≤ 26) (h : codeX Try.prog [1, 2, 3] (Try.f33.body.getD .skip) (endQ Try.prog [] K) (Env.init args) H) : CallsH Try.prog 33 args H K :=
  callsH_of mixed [1, 2, 3] 26 [] (f := 33) (fn := Try.f33) (by kernel_rfl) (by kernel_rfl) (c := Try.f33.body.getD .skip) (by kernel_rfl) (by kernel_rfl) (by kernel_rfl) (by kernel_rfl) ha h
theorem call34 (ha : args.size ≤ 9) (h : codeX Try.prog [] (Try.f34.body.getD .skip) (endQ Try.prog [.tmp 2] K) (Env.init args) H) : CallsH Try.prog 34 args H K :=
  callsH_of mixed [] 9 [.tmp 2] (f := 34) (fn := Try.f34) (by kernel_rfl) (by kernel_rfl) (c := Try.f34.body.getD .skip) (by kernel_rfl) (by kernel_rfl) (by kernel_rfl) (by kernel_rfl) ha h
theorem call35 (ha : args.size ≤ 4) (h : codeX Try.prog [] (Try.f35.body.getD .skip) (endQ Try.prog [.tmp 2] K) (Env.init args) H) : CallsH Try.prog 35 args H K :=
  callsH_of mixed [] 4 [.tmp 2] (f := 35) (fn := Try.f35) (by kernel_rfl) (by kernel_rfl) (c := Try.f35.body.getD .skip) (by kernel_rfl) (by kernel_rfl) (by kernel_rfl) (by kernel_rfl) ha h
theorem call36 (ha : args.size ≤ 6) (h : codeX Try.prog [] (Try.f36.body.getD .skip) (endQ Try.prog [.tmp 4] K) (Env.init args) H) : CallsH Try.prog 36 args H K :=
  callsH_of mixed [] 6 [.tmp 4] (f := 36) (fn := Try.f36) (by kernel_rfl) (by kernel_rfl) (c := Try.f36.body.getD .skip) (by kernel_rfl) (by kernel_rfl) (by kernel_rfl) (by kernel_rfl) ha h
theorem call43 (ha : args.size ≤ 9) (h : codeX Try.prog [] (Try.f43.body.getD .skip) (endQ Try.prog [.tmp 4] K) (Env.init args) H) : CallsH Try.prog 43 args H K :=
  callsH_of mixed [] 9 [.tmp 4] (f := 43) (fn := Try.f43) (by kernel_rfl) (by kernel_rfl) (c := Try.f43.body.getD .skip) (by kernel_rfl) (by kernel_rfl) (by kernel_rfl) (by kernel_rfl) ha h
theorem call44 (ha : args.size ≤ 19) (h : codeX Try.prog [] (Try.f44.body.getD .skip) (endQ Try.prog [.tmp 6] K) (Env.init args) H) : CallsH Try.prog 44 args H K :=
  callsH_of mixed [] 19 [.tmp 6] (f := 44) (fn := Try.f44) (by kernel_rfl) (by kernel_rfl) (c := Try.f44.body.getD .skip) (by kernel_rfl) (by kernel_rfl) (by kernel_rfl) (by kernel_rfl) ha h
theorem call45 (ha : args.size ≤ 28) (h : codeX Try.prog [] (Try.f45.body.getD .skip) (endQ Try.prog [] K) (Env.init args) H) : CallsH Try.prog 45 args H K :=
  callsH_of mixed [] 28 [] (f := 45) (fn := Try.f45) (by kernel_rfl) (by kernel_rfl) (c := Try.f45.body.getD .skip) (by kernel_rfl) (by kernel_rfl) (by kernel_rfl) (by kernel_rfl) ha h
theorem call46 (ha : args.size ≤ 19) (h : codeX Try.prog [0] (Try.f46.body.getD .skip) (endQ Try.prog [] K) (Env.init args) H) : CallsH Try.prog 46 args H K :=
  callsH_of mixed [0] 19 [] (f := 46) (fn := Try.f46) (by kernel_rfl) (by kernel_rfl) (c := Try.f46.body.getD .skip) (by kernel_rfl) (by kernel_rfl) (by kernel_rfl) (by kernel_rfl) ha h
theorem call47 (ha : args.size ≤ 152) (h : codeX Try.prog [12, 13, 14] (Try.f47.body.getD .skip) (endQ Try.prog [.tmp 10] K) (Env.init args) H) : CallsH Try.prog 47 args H K :=
  callsH_of mixed [12, 13, 14] 152 [.tmp 10] (f := 47) (fn := Try.f47) (by kernel_rfl) (by kernel_rfl) (c := Try.f47.body.getD .skip) (by kernel_rfl) (by kernel_rfl) (by kernel_rfl) (by kernel_rfl) ha h
theorem call48 (ha : args.size ≤ 67) (h : codeX Try.prog [] (Try.f48.body.getD .skip) (endQ Try.prog [.tmp 4] K) (Env.init args) H) : CallsH Try.prog 48 args H K :=
  callsH_of mixed [] 67 [.tmp 4] (f := 48) (fn := Try.f48) (by kernel_rfl) (by kernel_rfl) (c := Try.f48.body.getD .skip) (by kernel_rfl) (by kernel_rfl) (by kernel_rfl) (by kernel_rfl) ha h
theorem call49 (ha : args.size ≤ 5) (h : codeX Try.prog [] (Try.f49.body.getD .skip) (endQ Try.prog [.tmp 2] K) (Env.init args) H) : CallsH Try.prog 49 args H K :=
  callsH_of mixed [] 5 [.tmp 2] (f := 49) (fn := Try.f49) (by kernel_rfl) (by kernel_rfl) (c := Try.f49.body.getD .skip) (by kernel_rfl) (by kernel_rfl) (by kernel_rfl) (by kernel_rfl) ha h
theorem call51 (ha : args.size ≤ 14) (h : codeX Try.prog [] (Try.f51.body.getD .skip) (endQ Try.prog [] K) (Env.init args) H) : CallsH Try.prog 51 args H K :=
  callsH_of mixed [] 14 [] (f := 51) (fn := Try.f51) (by kernel_rfl) (by kernel_rfl) (c := Try.f51.body.getD .skip) (by kernel_rfl) (by kernel_rfl) (by kernel_rfl) (by kernel_rfl) ha h
theorem call53 (ha : args.size ≤ 4) (h : codeX Try.prog [] (Try.f53.body.getD .skip) (endQ Try.prog [.tmp 2] K) (Env.init args) H) : CallsH Try.prog 53 args H K :=
  callsH_of mixed [] 4 [.tmp 2] (f := 53) (fn := Try.f53) (by kernel_rfl) (by kernel_rfl) (c := Try.f53.body.getD .skip) (by kernel_rfl) (by kernel_rfl) (by kernel_rfl) (by kernel_rfl) ha h
theorem call54 (ha : args.size ≤ 20) (h : codeX Try.prog [] (Try.f54.body.getD .skip) (endQ Try.prog [.tmp 6, .tmp 7] K) (Env.init args) H) : CallsH Try.prog 54 args H K :=
  callsH_of mixed [] 20 [.tmp 6, .tmp 7] (f := 54) (fn := Try.f54) (by kernel_rfl) (by kernel_rfl) (c := Try.f54.body.getD .skip) (by kernel_rfl) (by kernel_rfl) (by kernel_rfl) (by kernel_rfl) ha h
theorem call59 (ha : args.size ≤ 9) (h : codeX Try.prog [] (Try.f59.body.getD .skip) (endQ Try.prog [.tmp 4] K) (Env.init args) H) : CallsH Try.prog 59 args H K :=
  callsH_of mixed [] 9 [.tmp 4] (f := 59) (fn := Try.f59) (by kernel_rfl) (by kernel_rfl) (c := Try.f59.body.getD .skip) (by kernel_rfl) (by kernel_rfl) (by kernel_rfl) (by kernel_rfl) ha h
theorem call60 (ha : args.size ≤ 14) (h : codeX Try.prog [] (Try.f60.body.getD .skip) (endQ Try.prog [.tmp 3] K) (Env.init args) H) : CallsH Try.prog 60 args H K :=
  callsH_of mixed [] 14 [.tmp 3] (f := 60) (fn := Try.f60) (by kernel_rfl) (by kernel_rfl) (c := Try.f60.body.getD .skip) (by kernel_rfl) (by kernel_rfl) (by kernel_rfl) (by kernel_rfl) ha h
theorem call61 (ha : args.size ≤ 29) (h : codeX Try.prog [] (Try.f61.body.getD .skip) (endQ Try.prog [.tmp 4] K) (Env.init args) H) : CallsH Try.prog 61 args H K :=
  callsH_of mixed [] 29 [.tmp 4] (f := 61) (fn := Try.f61) (by kernel_rfl) (by kernel_rfl) (c := Try.f61.body.getD .skip) (by kernel_rfl) (by kernel_rfl) (by kernel_rfl) (by kernel_rfl) ha h
theorem call62 (ha : args.size ≤ 18) (h : codeX Try.prog [] (Try.f62.body.getD .skip) (endQ Try.prog [] K) (Env.init args) H) : CallsH Try.prog 62 args H K :=
  callsH_of mixed [] 18 [] (f := 62) (fn := Try.f62) (by kernel_rfl) (by kernel_rfl) (c := Try.f62.body.getD .skip) (by kernel_rfl) (by kernel_rfl) (by kernel_rfl) (by kernel_rfl) ha h
theorem call63 (ha : args.size ≤ 38) (h : codeX Try.prog [] (Try.f63.body.getD .skip) (endQ Try.prog [] K) (Env.init args) H) : CallsH Try.prog 63 args H K :=
  callsH_of mixed [] 38 [] (f := 63) (fn := Try.f63) (by kernel_rfl) (by kernel_rfl) (c := Try.f63.body.getD .skip) (by kernel_rfl) (by kernel_rfl) (by kernel_rfl) (by kernel_rfl) ha h
theorem call64 (ha : args.size ≤ 40) (h : codeX Try.prog [] (Try.f64.body.getD .skip) (endQ Try.prog [] K) (Env.init args) H) : CallsH Try.prog 64 args H K :=
  callsH_of mixed [] 40 [] (f := 64) (fn := Try.f64) (by kernel_rfl) (by kernel_rfl) (c := Try.f64.body.getD .skip) (by kernel_rfl) (by kernel_rfl) (by kernel_rfl) (by kernel_rfl) ha h
theorem call68 (ha : args.size ≤ 15) (h : codeX Try.prog [] (Try.f68.body.getD .skip) (endQ Try.prog [] K) (Env.init args) H) : CallsH Try.prog 68 args H K :=
  callsH_of mixed [] 15 [] (f := 68) (fn := Try.f68) (by kernel_rfl) (by kernel_rfl) (c := Try.f68.body.getD .skip) (by kernel_rfl) (by kernel_rfl) (by kernel_rfl) (by kernel_rfl) ha h
theorem call69 (ha : args.size ≤ 19) (h : codeX Try.prog [] (Try.f69.body.getD .skip) (endQ Try.prog [.tmp 4] K) (Env.init args) H) : CallsH Try.prog 69 args H K :=
  callsH_of mixed [] 19 [.tmp 4] (f := 69) (fn := Try.f69) (by kernel_rfl) (by kernel_rfl) (c := Try.f69.body.getD .skip) (by kernel_rfl) (by kernel_rfl) (by kernel_rfl) (by kernel_rfl) ha h
theorem call70 (ha : args.size ≤ 42) (h : codeX Try.prog [] (Try.f70.body.getD .skip) (endQ Try.prog [] K) (Env.init args) H) : CallsH Try.prog 70 args H K :=
  callsH_of mixed [] 42 [] (f := 70) (fn := Try.f70) (by kernel_rfl) (by kernel_rfl) (c := Try.f70.body.getD .skip) (by kernel_rfl) (by kernel_rfl) (by kernel_rfl) (by kernel_rfl) ha h
theorem call72 (ha : args.size ≤ 28) (h : codeX Try.prog [] (Try.f72.body.getD .skip) (endQ Try.prog [] K) (Env.init args) H) : CallsH Try.prog 72 args H K :=
  callsH_of mixed [] 28 [] (f := 72) (fn := Try.f72) (by kernel_rfl) (by kernel_rfl) (c := Try.f72.body.getD .skip) (by kernel_rfl) (by kernel_rfl) (by kernel_rfl) (by kernel_rfl) ha h
theorem call73 (ha : args.size ≤ 56) (h : codeX Try.prog [1] (Try.f73.body.getD .skip) (endQ Try.prog [] K) (Env.init args) H) : CallsH Try.prog 73 args H K :=
  callsH_of mixed [1] 56 [] (f := 73) (fn := Try.f73) (by kernel_rfl) (by kernel_rfl) (c := Try.f73.body.getD .skip) (by kernel_rfl) (by kernel_rfl) (by kernel_rfl) (by kernel_rfl) ha h
theorem call85 (ha : args.size ≤ 29) (h : codeX Try.prog [] (Try.f85.body.getD .skip) (endQ Try.prog [.tmp 4] K) (Env.init args) H) : CallsH Try.prog 85 args H K :=
  callsH_of mixed [] 29 [.tmp 4] (f := 85) (fn := Try.f85) (by kernel_rfl) (by kernel_rfl) (c := Try.f85.body.getD .skip) (by kernel_rfl) (by kernel_rfl) (by kernel_rfl) (by kernel_rfl) ha h
theorem call86 (ha : args.size ≤ 4) (h : codeX Try.prog [] (Try.f86.body.getD .skip) (endQ Try.prog [.tmp 2] K) (Env.init args) H) : CallsH Try.prog 86 args H K :=
  callsH_of mixed [] 4 [.tmp 2] (f := 86) (fn := Try.f86) (by kernel_rfl) (by kernel_rfl) (c := Try.f86.body.getD .skip) (by kernel_rfl) (by kernel_rfl) (by kernel_rfl) (by kernel_rfl) ha h
theorem call87 (ha : args.size ≤ 118) (h : codeX Try.prog [] (Try.f87.body.getD .skip) (endQ Try.prog [] K) (Env.init args) H) : CallsH Try.prog 87 args H K :=
  callsH_of mixed [] 118 [] (f := 87) (fn := Try.f87) (by kernel_rfl) (by kernel_rfl) (c := Try.f87.body.getD .skip) (by kernel_rfl) (by kernel_rfl) (by kernel_rfl) (by kernel_rfl) ha h
theorem call88 (ha : args.size ≤ 55) (h : codeX Try.prog [] (Try.f88.body.getD .skip) (endQ Try.prog [.tmp 6] K) (Env.init args) H) : CallsH Try.prog 88 args H K :=
  callsH_of mixed [] 55 [.tmp 6] (f := 88) (fn := Try.f88) (by kernel_rfl) (by kernel_rfl) (c := Try.f88.body.getD .skip) (by kernel_rfl) (by kernel_rfl) (by kernel_rfl) (by kernel_rfl) ha h
theorem call95 (ha : args.size ≤ 21) (h : codeX Try.prog [] (Try.f95.body.getD .skip) (endQ Try.prog [.tmp 4] K) (Env.init args) H) : CallsH Try.prog 95 args H K :=
  callsH_of mixed [] 21 [.tmp 4] (f := 95) (fn := Try.f95) (by kernel_rfl) (by kernel_rfl) (c := Try.f95.body.getD .skip) (by kernel_rfl) (by kernel_rfl) (by kernel_rfl) (by kernel_rfl) ha h
theorem call96 (ha : args.size ≤ 19) (h : codeX Try.prog [] (Try.f96.body.getD .skip) (endQ Try.prog [] K) (Env.init args) H) : CallsH Try.prog 96 args H K :=
  callsH_of mixed [] 19 [] (f := 96) (fn := Try.f96) (by kernel_rfl) (by kernel_rfl) (c := Try.f96.body.getD .skip) (by kernel_rfl) (by kernel_rfl) (by kernel_rfl) (by kernel_rfl) ha h
theorem call97 (ha : args.size ≤ 19) (h : codeX Try.prog [] (Try.f97.body.getD .skip) (endQ Try.prog [.tmp 4] K) (Env.init args) H) : CallsH Try.prog 97 args H K :=
  callsH_of mixed [] 19 [.tmp 4] (f := 97) (fn := Try.f97) (by kernel_rfl) (by kernel_rfl) (c := Try.f97.body.getD .skip) (by kernel_rfl) (by kernel_rfl) (by kernel_rfl) (by kernel_rfl) ha h
end Go.Proofs.Ytafehbegoanajaa
