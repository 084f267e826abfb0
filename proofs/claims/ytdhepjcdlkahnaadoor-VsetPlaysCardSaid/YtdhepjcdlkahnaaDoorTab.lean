/-
  What the program's tables say of types and of functions (written by facts.py of this claim's maker; each row is checked by the kernel).
-/
import Derived.Test.YtdhepjcdlkahnaaDoorProg
import Derived.Test.YtdhepjcdlkahnaaDoorHpJ
import Derived.KernelRfl
namespace Go.Proofs.YtdhepjcdlkahnaaDoor
open Go Go.Hp
set_option maxRecDepth 100000
set_option linter.all false
theorem mixed : Tryd.prog.follows .mixedOrders = true := by kernel_rfl
@[go_sem] theorem tl1 : tl Tryd.prog 1 = some ⟨.other, 1, 8, .nilFunc⟩ := by kernel_rfl
@[go_sem] theorem tl2 : tl Tryd.prog 2 = some ⟨.int .i64, 1, 8, .int .i64 0⟩ := by kernel_rfl
@[go_sem] theorem tl3 : tl Tryd.prog 3 = some ⟨.int .i64, 1, 8, .int .i64 0⟩ := by kernel_rfl
@[go_sem] theorem tl4 : tl Tryd.prog 4 = some ⟨.bool, 1, 1, .bool false⟩ := by kernel_rfl
@[go_sem] theorem tl5 : tl Tryd.prog 5 = some ⟨.int .u8, 1, 1, .int .u8 0⟩ := by kernel_rfl
@[go_sem] theorem tl6 : tl Tryd.prog 6 = some ⟨.int .u8, 1, 1, .int .u8 0⟩ := by kernel_rfl
@[go_sem] theorem tl7 : tl Tryd.prog 7 = some ⟨.struct, 4, 24, .agg #[.int .i64 0, .int .i64 0, .bool false, .int .u8 0]⟩ := by kernel_rfl
@[go_sem] theorem flay7 : flay Tryd.prog 7 = some [(0, (1, false)), (1, (1, false)), (2, (1, false)), (3, (1, false))] := by kernel_rfl
@[go_sem] theorem tl8 : tl Tryd.prog 8 = some ⟨.struct, 4, 24, .agg #[.int .i64 0, .int .i64 0, .bool false, .int .u8 0]⟩ := by kernel_rfl
@[go_sem] theorem flay8 : flay Tryd.prog 8 = some [(0, (1, false)), (1, (1, false)), (2, (1, false)), (3, (1, false))] := by kernel_rfl
@[go_sem] theorem tl9 : tl Tryd.prog 9 = some ⟨.string, 1, 16, .string ⟨#[]⟩⟩ := by kernel_rfl
@[go_sem] theorem tl10 : tl Tryd.prog 10 = some ⟨.string, 1, 16, .string ⟨#[]⟩⟩ := by kernel_rfl
@[go_sem] theorem tl11 : tl Tryd.prog 11 = some ⟨.string, 1, 16, .string ⟨#[]⟩⟩ := by kernel_rfl
@[go_sem] theorem tl12 : tl Tryd.prog 12 = some ⟨.int .u64, 1, 8, .int .u64 0⟩ := by kernel_rfl
@[go_sem] theorem tl13 : tl Tryd.prog 13 = some ⟨.struct, 2, 24, .agg #[.string ⟨#[]⟩, .int .u64 0]⟩ := by kernel_rfl
@[go_sem] theorem flay13 : flay Tryd.prog 13 = some [(0, (1, false)), (1, (1, false))] := by kernel_rfl
@[go_sem] theorem tl14 : tl Tryd.prog 14 = some ⟨.struct, 2, 24, .agg #[.string ⟨#[]⟩, .int .u64 0]⟩ := by kernel_rfl
@[go_sem] theorem flay14 : flay Tryd.prog 14 = some [(0, (1, false)), (1, (1, false))] := by kernel_rfl
@[go_sem] theorem tl15 : tl Tryd.prog 15 = some ⟨.ptr, 1, 8, .pointer none⟩ := by kernel_rfl
@[go_sem] theorem tl16 : tl Tryd.prog 16 = some ⟨.ptr, 1, 8, .pointer none⟩ := by kernel_rfl
@[go_sem] theorem tl17 : tl Tryd.prog 17 = some ⟨.ptr, 1, 8, .pointer none⟩ := by kernel_rfl
@[go_sem] theorem tl18 : tl Tryd.prog 18 = some ⟨.struct, 1, 8, .agg #[.pointer none]⟩ := by kernel_rfl
@[go_sem] theorem flay18 : flay Tryd.prog 18 = some [(0, (1, false))] := by kernel_rfl
@[go_sem] theorem tl19 : tl Tryd.prog 19 = some ⟨.struct, 1, 8, .agg #[.pointer none]⟩ := by kernel_rfl
@[go_sem] theorem flay19 : flay Tryd.prog 19 = some [(0, (1, false))] := by kernel_rfl
@[go_sem] theorem tl20 : tl Tryd.prog 20 = some ⟨.other, 1, 16, .nilIface⟩ := by kernel_rfl
@[go_sem] theorem tl21 : tl Tryd.prog 21 = some ⟨.int .i32, 1, 4, .int .i32 0⟩ := by kernel_rfl
@[go_sem] theorem tl22 : tl Tryd.prog 22 = some ⟨.slice, 1, 24, .slice none 0 0⟩ := by kernel_rfl
@[go_sem] theorem elems22 : elems Tryd.prog 22 = some (Option.none, 3, 1) := by kernel_rfl
@[go_sem] theorem tl23 : tl Tryd.prog 23 = some ⟨.other, 1, 8, .nilFunc⟩ := by kernel_rfl
@[go_sem] theorem tl24 : tl Tryd.prog 24 = some ⟨.int .u64, 1, 8, .int .u64 0⟩ := by kernel_rfl
@[go_sem] theorem tl25 : tl Tryd.prog 25 = some ⟨.struct, 1, 8, .agg #[.int .u64 0]⟩ := by kernel_rfl
@[go_sem] theorem flay25 : flay Tryd.prog 25 = some [(0, (1, false))] := by kernel_rfl
@[go_sem] theorem tl26 : tl Tryd.prog 26 = some ⟨.struct, 1, 8, .agg #[.int .u64 0]⟩ := by kernel_rfl
@[go_sem] theorem flay26 : flay Tryd.prog 26 = some [(0, (1, false))] := by kernel_rfl
@[go_sem] theorem tl27 : tl Tryd.prog 27 = some ⟨.other, 1, 8, .nilFunc⟩ := by kernel_rfl
@[go_sem] theorem tl28 : tl Tryd.prog 28 = some ⟨.other, 1, 8, .nilFunc⟩ := by kernel_rfl
@[go_sem] theorem tl29 : tl Tryd.prog 29 = some ⟨.other, 1, 8, .nilFunc⟩ := by kernel_rfl
@[go_sem] theorem tl30 : tl Tryd.prog 30 = some ⟨.int .i64, 1, 8, .int .i64 0⟩ := by kernel_rfl
@[go_sem] theorem tl32 : tl Tryd.prog 32 = some ⟨.other, 1, 8, .nilFunc⟩ := by kernel_rfl
@[go_sem] theorem tl33 : tl Tryd.prog 33 = some ⟨.other, 1, 8, .nilFunc⟩ := by kernel_rfl
@[go_sem] theorem tl34 : tl Tryd.prog 34 = some ⟨.other, 1, 8, .nilFunc⟩ := by kernel_rfl
@[go_sem] theorem tl35 : tl Tryd.prog 35 = some ⟨.other, 1, 8, .nilFunc⟩ := by kernel_rfl
@[go_sem] theorem tl36 : tl Tryd.prog 36 = some ⟨.other, 1, 8, .nilFunc⟩ := by kernel_rfl
@[go_sem] theorem tl37 : tl Tryd.prog 37 = some ⟨.slice, 1, 24, .slice none 0 0⟩ := by kernel_rfl
@[go_sem] theorem elems37 : elems Tryd.prog 37 = some (Option.none, 49, 5) := by kernel_rfl
@[go_sem] theorem tl38 : tl Tryd.prog 38 = some ⟨.ptr, 1, 8, .pointer none⟩ := by kernel_rfl
@[go_sem] theorem tl39 : tl Tryd.prog 39 = some ⟨.array, 4, 32, .agg #[.int .u64 0, .int .u64 0, .int .u64 0, .int .u64 0]⟩ := by kernel_rfl
@[go_sem] theorem elems39 : elems Tryd.prog 39 = some ((some 4), 26, 1) := by kernel_rfl
theorem tl40 : tl Tryd.prog 40 = some ⟨.array, 64, 64, .agg #[.bool false, .bool false, .bool false, .bool false, .bool false, .bool false, .bool false, .bool false, .bool false, .bool false, .bool false, .bool false, .bool false, .bool false, .bool false, .bool false, .bool false, .bool false, .bool false, .bool false, .bool false, .bool false, .bool false, .bool false, .bool false, .bool false, .bool false, .bool false, .bool false, .bool false, .bool false, .bool false, .bool false, .bool false, .bool false, .bool false, .bool false, .bool false, .bool false, .bool false, .bool false, .bool false, .bool false, .bool false, .bool false, .bool false, .bool false, .bool false, .bool false, .bool false, .bool false, .bool false, .bool false, .bool false, .bool false, .bool false, .bool false, .bool false, .bool false, .bool false, .bool false, .bool false, .bool false, .bool false]⟩ := by kernel_rfl
@[go_sem] theorem elems40 : elems Tryd.prog 40 = some ((some 64), 4, 1) := by kernel_rfl
theorem tl41 : tl Tryd.prog 41 = some ⟨.struct, 64, 64, .agg #[.bool false, .bool false, .bool false, .bool false, .bool false, .bool false, .bool false, .bool false, .bool false, .bool false, .bool false, .bool false, .bool false, .bool false, .bool false, .bool false, .bool false, .bool false, .bool false, .bool false, .bool false, .bool false, .bool false, .bool false, .bool false, .bool false, .bool false, .bool false, .bool false, .bool false, .bool false, .bool false, .bool false, .bool false, .bool false, .bool false, .bool false, .bool false, .bool false, .bool false, .bool false, .bool false, .bool false, .bool false, .bool false, .bool false, .bool false, .bool false, .bool false, .bool false, .bool false, .bool false, .bool false, .bool false, .bool false, .bool false, .bool false, .bool false, .bool false, .bool false, .bool false, .bool false, .bool false, .bool false]⟩ := by kernel_rfl
@[go_sem] theorem flay41 : flay Tryd.prog 41 = some [(0, (64, true))] := by kernel_rfl
theorem tl42 : tl Tryd.prog 42 = some ⟨.struct, 64, 64, .agg #[.bool false, .bool false, .bool false, .bool false, .bool false, .bool false, .bool false, .bool false, .bool false, .bool false, .bool false, .bool false, .bool false, .bool false, .bool false, .bool false, .bool false, .bool false, .bool false, .bool false, .bool false, .bool false, .bool false, .bool false, .bool false, .bool false, .bool false, .bool false, .bool false, .bool false, .bool false, .bool false, .bool false, .bool false, .bool false, .bool false, .bool false, .bool false, .bool false, .bool false, .bool false, .bool false, .bool false, .bool false, .bool false, .bool false, .bool false, .bool false, .bool false, .bool false, .bool false, .bool false, .bool false, .bool false, .bool false, .bool false, .bool false, .bool false, .bool false, .bool false, .bool false, .bool false, .bool false, .bool false]⟩ := by kernel_rfl
@[go_sem] theorem flay42 : flay Tryd.prog 42 = some [(0, (64, true))] := by kernel_rfl
@[go_sem] theorem elems43 : elems Tryd.prog 43 = some ((some 4), 42, 64) := by kernel_rfl
@[go_sem] theorem tl44 : tl Tryd.prog 44 = some ⟨.slice, 1, 24, .slice none 0 0⟩ := by kernel_rfl
@[go_sem] theorem elems44 : elems Tryd.prog 44 = some (Option.none, 22, 1) := by kernel_rfl
@[go_sem] theorem flay45 : flay Tryd.prog 45 = some [(0, (4, true)), (4, (256, true)), (260, (1, false)), (261, (1, false))] := by kernel_rfl
@[go_sem] theorem flay46 : flay Tryd.prog 46 = some [(0, (4, true)), (4, (256, true)), (260, (1, false)), (261, (1, false))] := by kernel_rfl
@[go_sem] theorem tl47 : tl Tryd.prog 47 = some ⟨.other, 1, 8, .nilFunc⟩ := by kernel_rfl
@[go_sem] theorem tl48 : tl Tryd.prog 48 = some ⟨.struct, 5, 56, .agg #[.int .i64 0, .int .i64 0, .int .i64 0, .int .i64 0, .slice none 0 0]⟩ := by kernel_rfl
@[go_sem] theorem flay48 : flay Tryd.prog 48 = some [(0, (1, false)), (1, (1, false)), (2, (1, false)), (3, (1, false)), (4, (1, false))] := by kernel_rfl
@[go_sem] theorem tl49 : tl Tryd.prog 49 = some ⟨.struct, 5, 56, .agg #[.int .i64 0, .int .i64 0, .int .i64 0, .int .i64 0, .slice none 0 0]⟩ := by kernel_rfl
@[go_sem] theorem flay49 : flay Tryd.prog 49 = some [(0, (1, false)), (1, (1, false)), (2, (1, false)), (3, (1, false)), (4, (1, false))] := by kernel_rfl
@[go_sem] theorem tl50 : tl Tryd.prog 50 = some ⟨.other, 1, 8, .nilFunc⟩ := by kernel_rfl
@[go_sem] theorem tl51 : tl Tryd.prog 51 = some ⟨.other, 1, 8, .nilFunc⟩ := by kernel_rfl
@[go_sem] theorem tl52 : tl Tryd.prog 52 = some ⟨.other, 1, 8, .nilFunc⟩ := by kernel_rfl
@[go_sem] theorem tl53 : tl Tryd.prog 53 = some ⟨.other, 1, 8, .nilFunc⟩ := by kernel_rfl
@[go_sem] theorem tl54 : tl Tryd.prog 54 = some ⟨.other, 1, 8, .nilFunc⟩ := by kernel_rfl
@[go_sem] theorem tl55 : tl Tryd.prog 55 = some ⟨.slice, 1, 24, .slice none 0 0⟩ := by kernel_rfl
@[go_sem] theorem elems55 : elems Tryd.prog 55 = some (Option.none, 68, 5) := by kernel_rfl
@[go_sem] theorem tl56 : tl Tryd.prog 56 = some ⟨.ptr, 1, 8, .pointer none⟩ := by kernel_rfl
@[go_sem] theorem tl57 : tl Tryd.prog 57 = some ⟨.other, 1, 8, .nilFunc⟩ := by kernel_rfl
@[go_sem] theorem tl58 : tl Tryd.prog 58 = some ⟨.ptr, 1, 8, .pointer none⟩ := by kernel_rfl
@[go_sem] theorem tl59 : tl Tryd.prog 59 = some ⟨.ptr, 1, 8, .pointer none⟩ := by kernel_rfl
@[go_sem] theorem tl60 : tl Tryd.prog 60 = some ⟨.slice, 1, 24, .slice none 0 0⟩ := by kernel_rfl
@[go_sem] theorem elems60 : elems Tryd.prog 60 = some (Option.none, 9, 1) := by kernel_rfl
@[go_sem] theorem tl61 : tl Tryd.prog 61 = some ⟨.slice, 1, 24, .slice none 0 0⟩ := by kernel_rfl
@[go_sem] theorem elems61 : elems Tryd.prog 61 = some (Option.none, 42, 64) := by kernel_rfl
@[go_sem] theorem tl62 : tl Tryd.prog 62 = some ⟨.struct, 2, 48, .agg #[.slice none 0 0, .slice none 0 0]⟩ := by kernel_rfl
@[go_sem] theorem flay62 : flay Tryd.prog 62 = some [(0, (1, false)), (1, (1, false))] := by kernel_rfl
@[go_sem] theorem tl63 : tl Tryd.prog 63 = some ⟨.struct, 2, 48, .agg #[.slice none 0 0, .slice none 0 0]⟩ := by kernel_rfl
@[go_sem] theorem flay63 : flay Tryd.prog 63 = some [(0, (1, false)), (1, (1, false))] := by kernel_rfl
@[go_sem] theorem tl64 : tl Tryd.prog 64 = some ⟨.slice, 1, 24, .slice none 0 0⟩ := by kernel_rfl
@[go_sem] theorem elems64 : elems Tryd.prog 64 = some (Option.none, 60, 1) := by kernel_rfl
@[go_sem] theorem tl65 : tl Tryd.prog 65 = some ⟨.struct, 4, 64, .agg #[.pointer none, .pointer none, .slice none 0 0, .slice none 0 0]⟩ := by kernel_rfl
@[go_sem] theorem flay65 : flay Tryd.prog 65 = some [(0, (1, false)), (1, (1, false)), (2, (1, false)), (3, (1, false))] := by kernel_rfl
@[go_sem] theorem tl66 : tl Tryd.prog 66 = some ⟨.struct, 4, 64, .agg #[.pointer none, .pointer none, .slice none 0 0, .slice none 0 0]⟩ := by kernel_rfl
@[go_sem] theorem flay66 : flay Tryd.prog 66 = some [(0, (1, false)), (1, (1, false)), (2, (1, false)), (3, (1, false))] := by kernel_rfl
@[go_sem] theorem tl67 : tl Tryd.prog 67 = some ⟨.struct, 5, 64, .agg #[.int .i64 0, .int .i64 0, .string ⟨#[]⟩, .slice none 0 0, .bool false]⟩ := by kernel_rfl
@[go_sem] theorem flay67 : flay Tryd.prog 67 = some [(0, (1, false)), (1, (1, false)), (2, (1, false)), (3, (1, false)), (4, (1, false))] := by kernel_rfl
@[go_sem] theorem tl68 : tl Tryd.prog 68 = some ⟨.struct, 5, 64, .agg #[.int .i64 0, .int .i64 0, .string ⟨#[]⟩, .slice none 0 0, .bool false]⟩ := by kernel_rfl
@[go_sem] theorem flay68 : flay Tryd.prog 68 = some [(0, (1, false)), (1, (1, false)), (2, (1, false)), (3, (1, false)), (4, (1, false))] := by kernel_rfl
@[go_sem] theorem tl69 : tl Tryd.prog 69 = some ⟨.other, 1, 8, .nilFunc⟩ := by kernel_rfl
@[go_sem] theorem tl70 : tl Tryd.prog 70 = some ⟨.other, 1, 8, .nilFunc⟩ := by kernel_rfl
@[go_sem] theorem tl71 : tl Tryd.prog 71 = some ⟨.slice, 1, 24, .slice none 0 0⟩ := by kernel_rfl
@[go_sem] theorem elems71 : elems Tryd.prog 71 = some (Option.none, 26, 1) := by kernel_rfl
@[go_sem] theorem tl72 : tl Tryd.prog 72 = some ⟨.slice, 1, 24, .slice none 0 0⟩ := by kernel_rfl
@[go_sem] theorem elems72 : elems Tryd.prog 72 = some (Option.none, 5, 1) := by kernel_rfl
@[go_sem] theorem tl73 : tl Tryd.prog 73 = some ⟨.other, 1, 8, .nilFunc⟩ := by kernel_rfl
@[go_sem] theorem tl74 : tl Tryd.prog 74 = some ⟨.other, 1, 8, .nilFunc⟩ := by kernel_rfl
@[go_sem] theorem tl75 : tl Tryd.prog 75 = some ⟨.other, 1, 8, .nilFunc⟩ := by kernel_rfl
@[go_sem] theorem tl76 : tl Tryd.prog 76 = some ⟨.other, 1, 8, .nilFunc⟩ := by kernel_rfl
@[go_sem] theorem tl77 : tl Tryd.prog 77 = some ⟨.other, 1, 8, .nilFunc⟩ := by kernel_rfl
@[go_sem] theorem tl78 : tl Tryd.prog 78 = some ⟨.other, 1, 8, .nilFunc⟩ := by kernel_rfl
@[go_sem] theorem tl80 : tl Tryd.prog 80 = some ⟨.other, 1, 8, .nilFunc⟩ := by kernel_rfl
@[go_sem] theorem tl81 : tl Tryd.prog 81 = some ⟨.int .u64, 1, 8, .int .u64 0⟩ := by kernel_rfl
@[go_sem] theorem tl82 : tl Tryd.prog 82 = some ⟨.other, 1, 8, .nilFunc⟩ := by kernel_rfl
@[go_sem] theorem tl84 : tl Tryd.prog 84 = some ⟨.other, 1, 8, .nilFunc⟩ := by kernel_rfl
@[go_sem] theorem tl85 : tl Tryd.prog 85 = some ⟨.other, 1, 8, .nilFunc⟩ := by kernel_rfl
@[go_sem] theorem tl86 : tl Tryd.prog 86 = some ⟨.other, 1, 8, .nilFunc⟩ := by kernel_rfl
@[go_sem] theorem tl87 : tl Tryd.prog 87 = some ⟨.other, 1, 8, .nilFunc⟩ := by kernel_rfl
@[go_sem] theorem tl88 : tl Tryd.prog 88 = some ⟨.other, 1, 8, .nilFunc⟩ := by kernel_rfl
@[go_sem] theorem tl89 : tl Tryd.prog 89 = some ⟨.other, 1, 8, .nilFunc⟩ := by kernel_rfl
@[go_sem] theorem tl90 : tl Tryd.prog 90 = some ⟨.map, 1, 8, .map none⟩ := by kernel_rfl
@[go_sem] theorem tl91 : tl Tryd.prog 91 = some ⟨.struct, 1, 8, .agg #[.map none]⟩ := by kernel_rfl
@[go_sem] theorem flay91 : flay Tryd.prog 91 = some [(0, (1, false))] := by kernel_rfl
@[go_sem] theorem tl92 : tl Tryd.prog 92 = some ⟨.struct, 1, 8, .agg #[.map none]⟩ := by kernel_rfl
@[go_sem] theorem flay92 : flay Tryd.prog 92 = some [(0, (1, false))] := by kernel_rfl
@[go_sem] theorem tl93 : tl Tryd.prog 93 = some ⟨.other, 1, 8, .nilFunc⟩ := by kernel_rfl
@[go_sem] theorem tl94 : tl Tryd.prog 94 = some ⟨.other, 1, 8, .nilFunc⟩ := by kernel_rfl
@[go_sem] theorem tl95 : tl Tryd.prog 95 = some ⟨.other, 1, 8, .nilFunc⟩ := by kernel_rfl
@[go_sem] theorem tl96 : tl Tryd.prog 96 = some ⟨.other, 1, 8, .nilFunc⟩ := by kernel_rfl
@[go_sem] theorem tl97 : tl Tryd.prog 97 = some ⟨.other, 1, 8, .nilFunc⟩ := by kernel_rfl
@[go_sem] theorem tl98 : tl Tryd.prog 98 = some ⟨.other, 1, 8, .nilFunc⟩ := by kernel_rfl
@[go_sem] theorem tl99 : tl Tryd.prog 99 = some ⟨.other, 1, 8, .nilFunc⟩ := by kernel_rfl
@[go_sem] theorem tl100 : tl Tryd.prog 100 = some ⟨.map, 1, 8, .map none⟩ := by kernel_rfl
@[go_sem] theorem tl102 : tl Tryd.prog 102 = some ⟨.other, 1, 8, .nilFunc⟩ := by kernel_rfl
theorem tl104 : tl Tryd.prog 104 = some ⟨.array, 64, 64, .agg #[.int .u8 0, .int .u8 0, .int .u8 0, .int .u8 0, .int .u8 0, .int .u8 0, .int .u8 0, .int .u8 0, .int .u8 0, .int .u8 0, .int .u8 0, .int .u8 0, .int .u8 0, .int .u8 0, .int .u8 0, .int .u8 0, .int .u8 0, .int .u8 0, .int .u8 0, .int .u8 0, .int .u8 0, .int .u8 0, .int .u8 0, .int .u8 0, .int .u8 0, .int .u8 0, .int .u8 0, .int .u8 0, .int .u8 0, .int .u8 0, .int .u8 0, .int .u8 0, .int .u8 0, .int .u8 0, .int .u8 0, .int .u8 0, .int .u8 0, .int .u8 0, .int .u8 0, .int .u8 0, .int .u8 0, .int .u8 0, .int .u8 0, .int .u8 0, .int .u8 0, .int .u8 0, .int .u8 0, .int .u8 0, .int .u8 0, .int .u8 0, .int .u8 0, .int .u8 0, .int .u8 0, .int .u8 0, .int .u8 0, .int .u8 0, .int .u8 0, .int .u8 0, .int .u8 0, .int .u8 0, .int .u8 0, .int .u8 0, .int .u8 0, .int .u8 0]⟩ := by kernel_rfl
@[go_sem] theorem elems104 : elems Tryd.prog 104 = some ((some 64), 5, 1) := by kernel_rfl
@[go_sem] theorem tl105 : tl Tryd.prog 105 = some ⟨.other, 1, 8, .nilFunc⟩ := by kernel_rfl
@[go_sem] theorem tl106 : tl Tryd.prog 106 = some ⟨.other, 1, 8, .nilFunc⟩ := by kernel_rfl
@[go_sem] theorem tl107 : tl Tryd.prog 107 = some ⟨.other, 1, 8, .nilFunc⟩ := by kernel_rfl
@[go_sem] theorem tl108 : tl Tryd.prog 108 = some ⟨.other, 1, 8, .nilFunc⟩ := by kernel_rfl
@[go_sem] theorem tl109 : tl Tryd.prog 109 = some ⟨.other, 1, 8, .nilFunc⟩ := by kernel_rfl
@[go_sem] theorem tl110 : tl Tryd.prog 110 = some ⟨.other, 1, 8, .nilFunc⟩ := by kernel_rfl
@[go_sem] theorem tl111 : tl Tryd.prog 111 = some ⟨.other, 1, 8, .nilFunc⟩ := by kernel_rfl
@[go_sem] theorem tl112 : tl Tryd.prog 112 = some ⟨.other, 1, 8, .nilFunc⟩ := by kernel_rfl
@[go_sem] theorem tl113 : tl Tryd.prog 113 = some ⟨.other, 1, 8, .nilFunc⟩ := by kernel_rfl
@[go_sem] theorem tl114 : tl Tryd.prog 114 = some ⟨.int .i64, 1, 8, .int .i64 0⟩ := by kernel_rfl
@[go_sem] theorem tl116 : tl Tryd.prog 116 = some ⟨.other, 1, 8, .nilFunc⟩ := by kernel_rfl
@[go_sem] theorem tl117 : tl Tryd.prog 117 = some ⟨.other, 1, 8, .nilFunc⟩ := by kernel_rfl
@[go_sem] theorem tl118 : tl Tryd.prog 118 = some ⟨.other, 1, 8, .nilFunc⟩ := by kernel_rfl
@[go_sem] theorem tl119 : tl Tryd.prog 119 = some ⟨.other, 1, 8, .nilFunc⟩ := by kernel_rfl
@[go_sem] theorem tl120 : tl Tryd.prog 120 = some ⟨.other, 1, 8, .nilFunc⟩ := by kernel_rfl
@[go_sem] theorem tl121 : tl Tryd.prog 121 = some ⟨.other, 1, 8, .nilFunc⟩ := by kernel_rfl
@[go_sem] theorem tl122 : tl Tryd.prog 122 = some ⟨.int .u32, 1, 4, .int .u32 0⟩ := by kernel_rfl
@[go_sem] theorem tl123 : tl Tryd.prog 123 = some ⟨.int .u64, 1, 8, .int .u64 0⟩ := by kernel_rfl
@[go_sem] theorem tl124 : tl Tryd.prog 124 = some ⟨.other, 1, 8, .nilFunc⟩ := by kernel_rfl
@[go_sem] theorem tl125 : tl Tryd.prog 125 = some ⟨.other, 1, 8, .nilFunc⟩ := by kernel_rfl
@[go_sem] theorem tl126 : tl Tryd.prog 126 = some ⟨.other, 1, 8, .nilFunc⟩ := by kernel_rfl
@[go_sem] theorem tl127 : tl Tryd.prog 127 = some ⟨.ptr, 1, 8, .pointer none⟩ := by kernel_rfl
@[go_sem] theorem tl128 : tl Tryd.prog 128 = some ⟨.other, 1, 8, .nilFunc⟩ := by kernel_rfl
@[go_sem] theorem tl129 : tl Tryd.prog 129 = some ⟨.ptr, 1, 8, .pointer none⟩ := by kernel_rfl
@[go_sem] theorem tl131 : tl Tryd.prog 131 = some ⟨.other, 1, 8, .nilFunc⟩ := by kernel_rfl
@[go_sem] theorem tl132 : tl Tryd.prog 132 = some ⟨.other, 1, 8, .nilFunc⟩ := by kernel_rfl
@[go_sem] theorem tl133 : tl Tryd.prog 133 = some ⟨.struct, 4, 40, .agg #[.pointer none, .pointer none, .pointer none, .string ⟨#[]⟩]⟩ := by kernel_rfl
@[go_sem] theorem flay133 : flay Tryd.prog 133 = some [(0, (1, false)), (1, (1, false)), (2, (1, false)), (3, (1, false))] := by kernel_rfl
@[go_sem] theorem tl134 : tl Tryd.prog 134 = some ⟨.struct, 4, 40, .agg #[.pointer none, .pointer none, .pointer none, .string ⟨#[]⟩]⟩ := by kernel_rfl
@[go_sem] theorem flay134 : flay Tryd.prog 134 = some [(0, (1, false)), (1, (1, false)), (2, (1, false)), (3, (1, false))] := by kernel_rfl
@[go_sem] theorem tl135 : tl Tryd.prog 135 = some ⟨.array, 0, 0, .agg #[]⟩ := by kernel_rfl
@[go_sem] theorem elems135 : elems Tryd.prog 135 = some ((some 0), 16, 1) := by kernel_rfl
@[go_sem] theorem tl136 : tl Tryd.prog 136 = some ⟨.struct, 0, 0, .agg #[]⟩ := by kernel_rfl
@[go_sem] theorem flay136 : flay Tryd.prog 136 = some [(0, (0, true))] := by kernel_rfl
@[go_sem] theorem tl137 : tl Tryd.prog 137 = some ⟨.struct, 0, 0, .agg #[]⟩ := by kernel_rfl
@[go_sem] theorem flay137 : flay Tryd.prog 137 = some [(0, (0, true))] := by kernel_rfl
@[go_sem] theorem tl138 : tl Tryd.prog 138 = some ⟨.int .u8, 1, 1, .int .u8 0⟩ := by kernel_rfl
@[go_sem] theorem tl139 : tl Tryd.prog 139 = some ⟨.int .u8, 1, 1, .int .u8 0⟩ := by kernel_rfl
@[go_sem] theorem tl140 : tl Tryd.prog 140 = some ⟨.other, 1, 8, .nilFunc⟩ := by kernel_rfl
@[go_sem] theorem tl141 : tl Tryd.prog 141 = some ⟨.ptr, 1, 8, .pointer none⟩ := by kernel_rfl
@[go_sem] theorem tl142 : tl Tryd.prog 142 = some ⟨.int .i32, 1, 4, .int .i32 0⟩ := by kernel_rfl
@[go_sem] theorem tl143 : tl Tryd.prog 143 = some ⟨.int .i32, 1, 4, .int .i32 0⟩ := by kernel_rfl
@[go_sem] theorem tl144 : tl Tryd.prog 144 = some ⟨.struct, 11, 48, .agg #[.int .u64 0, .int .u64 0, .int .u32 0, .int .u8 0, .int .u8 0, .int .u8 0, .int .u8 0, .nilFunc, .pointer none, .int .i32 0, .int .i32 0]⟩ := by kernel_rfl
@[go_sem] theorem flay144 : flay Tryd.prog 144 = some [(0, (1, false)), (1, (1, false)), (2, (1, false)), (3, (1, false)), (4, (1, false)), (5, (1, false)), (6, (1, false)), (7, (1, false)), (8, (1, false)), (9, (1, false)), (10, (1, false))] := by kernel_rfl
@[go_sem] theorem tl145 : tl Tryd.prog 145 = some ⟨.struct, 11, 48, .agg #[.int .u64 0, .int .u64 0, .int .u32 0, .int .u8 0, .int .u8 0, .int .u8 0, .int .u8 0, .nilFunc, .pointer none, .int .i32 0, .int .i32 0]⟩ := by kernel_rfl
@[go_sem] theorem flay145 : flay Tryd.prog 145 = some [(0, (1, false)), (1, (1, false)), (2, (1, false)), (3, (1, false)), (4, (1, false)), (5, (1, false)), (6, (1, false)), (7, (1, false)), (8, (1, false)), (9, (1, false)), (10, (1, false))] := by kernel_rfl
@[go_sem] theorem tl146 : tl Tryd.prog 146 = some ⟨.other, 1, 8, .pointer none⟩ := by kernel_rfl
/-- isthmus/isthmuslaw09.VsetAlike · draws: [24] -/
theorem call3 {args : Array Value} {H : Heap} {K : Value → Heap → Prop} (ha : args.size ≤ 148) (h : codeX Tryd.prog [] (Tryd.f3.body.getD .skip) (endQ Tryd.prog [.tmp 4] K) (Env.init args) H) : CallsH Tryd.prog 3 args H K :=
  callsH_of mixed [] 148 [.tmp 4] (f := 3) (fn := Tryd.f3) (by kernel_rfl) (by kernel_rfl) (c := Tryd.f3.body.getD .skip) (by kernel_rfl) (by kernel_rfl) (by kernel_rfl) (by kernel_rfl) ha h
/-- isthmus/isthmuslaw09.VsetPlays -/
theorem call4 {args : Array Value} {H : Heap} {K : Value → Heap → Prop} (ha : args.size ≤ 42) (h : codeX Tryd.prog [] (Tryd.f4.body.getD .skip) (endQ Tryd.prog [.tmp 2] K) (Env.init args) H) : CallsH Tryd.prog 4 args H K :=
  callsH_of mixed [] 42 [.tmp 2] (f := 4) (fn := Tryd.f4) (by kernel_rfl) (by kernel_rfl) (c := Tryd.f4.body.getD .skip) (by kernel_rfl) (by kernel_rfl) (by kernel_rfl) (by kernel_rfl) ha h
/-- isthmus/isthmuslaw09.VsetLaws · draws: [6, 7, 8, 9] -/
theorem call5 {args : Array Value} {H : Heap} {K : Value → Heap → Prop} (ha : args.size ≤ 243) (h : codeX Tryd.prog [] (Tryd.f5.body.getD .skip) (endQ Tryd.prog [.tmp 8] K) (Env.init args) H) : CallsH Tryd.prog 5 args H K :=
  callsH_of mixed [] 243 [.tmp 8] (f := 5) (fn := Tryd.f5) (by kernel_rfl) (by kernel_rfl) (c := Tryd.f5.body.getD .skip) (by kernel_rfl) (by kernel_rfl) (by kernel_rfl) (by kernel_rfl) ha h
/-- isthmus/isthmuslaw09.VsetOthers · draws: [18, 20] -/
theorem call6 {args : Array Value} {H : Heap} {K : Value → Heap → Prop} (ha : args.size ≤ 114) (h : codeX Tryd.prog [] (Tryd.f6.body.getD .skip) (endQ Tryd.prog [.tmp 4] K) (Env.init args) H) : CallsH Tryd.prog 6 args H K :=
  callsH_of mixed [] 114 [.tmp 4] (f := 6) (fn := Tryd.f6) (by kernel_rfl) (by kernel_rfl) (c := Tryd.f6.body.getD .skip) (by kernel_rfl) (by kernel_rfl) (by kernel_rfl) (by kernel_rfl) ha h
/-- isthmus/isthmuslaw09.VsetFamilies -/
theorem call7 {args : Array Value} {H : Heap} {K : Value → Heap → Prop} (ha : args.size ≤ 65) (h : codeX Tryd.prog [] (Tryd.f7.body.getD .skip) (endQ Tryd.prog [.tmp 2] K) (Env.init args) H) : CallsH Tryd.prog 7 args H K :=
  callsH_of mixed [] 65 [.tmp 2] (f := 7) (fn := Tryd.f7) (by kernel_rfl) (by kernel_rfl) (c := Tryd.f7.body.getD .skip) (by kernel_rfl) (by kernel_rfl) (by kernel_rfl) (by kernel_rfl) ha h
/-- isthmus/isthmuslaw09.VsetGroups -/
theorem call8 {args : Array Value} {H : Heap} {K : Value → Heap → Prop} (ha : args.size ≤ 250) (h : codeX Tryd.prog [35, 36, 45] (Tryd.f8.body.getD .skip) (endQ Tryd.prog [.tmp 4] K) (Env.init args) H) : CallsH Tryd.prog 8 args H K :=
  callsH_of mixed [35, 36, 45] 250 [.tmp 4] (f := 8) (fn := Tryd.f8) (by kernel_rfl) (by kernel_rfl) (c := Tryd.f8.body.getD .skip) (by kernel_rfl) (by kernel_rfl) (by kernel_rfl) (by kernel_rfl) ha h
/-- isthmus/isthmuslaw09.awake -/
theorem call9 {args : Array Value} {H : Heap} {K : Value → Heap → Prop} (ha : args.size ≤ 63) (h : codeX Tryd.prog [] (Tryd.f9.body.getD .skip) (endQ Tryd.prog [.tmp 0] K) (Env.init args) H) : CallsH Tryd.prog 9 args H K :=
  callsH_of mixed [] 63 [.tmp 0] (f := 9) (fn := Tryd.f9) (by kernel_rfl) (by kernel_rfl) (c := Tryd.f9.body.getD .skip) (by kernel_rfl) (by kernel_rfl) (by kernel_rfl) (by kernel_rfl) ha h
/-- isthmus/isthmuslaw09.of · draws: [12] -/
theorem call10 {args : Array Value} {H : Heap} {K : Value → Heap → Prop} (ha : args.size ≤ 61) (h : codeX Tryd.prog [] (Tryd.f10.body.getD .skip) (endQ Tryd.prog [.cell 2 26] K) (Env.init args) H) : CallsH Tryd.prog 10 args H K :=
  callsH_of mixed [] 61 [.cell 2 26] (f := 10) (fn := Tryd.f10) (by kernel_rfl) (by kernel_rfl) (c := Tryd.f10.body.getD .skip) (by kernel_rfl) (by kernel_rfl) (by kernel_rfl) (by kernel_rfl) ha h
/-- (isthmus/vset.Set).All -/
theorem call11 {args : Array Value} {H : Heap} {K : Value → Heap → Prop} (ha : args.size ≤ 21) (h : codeX Tryd.prog [] (Tryd.f11.body.getD .skip) (endQ Tryd.prog [.tmp 2] K) (Env.init args) H) : CallsH Tryd.prog 11 args H K :=
  callsH_of mixed [] 21 [.tmp 2] (f := 11) (fn := Tryd.f11) (by kernel_rfl) (by kernel_rfl) (c := Tryd.f11.body.getD .skip) (by kernel_rfl) (by kernel_rfl) (by kernel_rfl) (by kernel_rfl) ha h
/-- isthmus/isthmuslaw09.pick -/
theorem call12 {args : Array Value} {H : Heap} {K : Value → Heap → Prop} (ha : args.size ≤ 13) (h : codeX Tryd.prog [] (Tryd.f12.body.getD .skip) (endQ Tryd.prog [.tmp 4] K) (Env.init args) H) : CallsH Tryd.prog 12 args H K :=
  callsH_of mixed [] 13 [.tmp 4] (f := 12) (fn := Tryd.f12) (by kernel_rfl) (by kernel_rfl) (c := Tryd.f12.body.getD .skip) (by kernel_rfl) (by kernel_rfl) (by kernel_rfl) (by kernel_rfl) ha h
/-- isthmus/vset.Of -/
theorem call13 {args : Array Value} {H : Heap} {K : Value → Heap → Prop} (ha : args.size ≤ 30) (h : codeX Tryd.prog [] (Tryd.f13.body.getD .skip) (endQ Tryd.prog [.cell 2 26, .tmp 3] K) (Env.init args) H) : CallsH Tryd.prog 13 args H K :=
  callsH_of mixed [] 30 [.cell 2 26, .tmp 3] (f := 13) (fn := Tryd.f13) (by kernel_rfl) (by kernel_rfl) (c := Tryd.f13.body.getD .skip) (by kernel_rfl) (by kernel_rfl) (by kernel_rfl) (by kernel_rfl) ha h
/-- (isthmus/vset.Set).Next -/
theorem call14 {args : Array Value} {H : Heap} {K : Value → Heap → Prop} (ha : args.size ≤ 21) (h : codeX Tryd.prog [] (Tryd.f14.body.getD .skip) (endQ Tryd.prog [.tmp 4] K) (Env.init args) H) : CallsH Tryd.prog 14 args H K :=
  callsH_of mixed [] 21 [.tmp 4] (f := 14) (fn := Tryd.f14) (by kernel_rfl) (by kernel_rfl) (c := Tryd.f14.body.getD .skip) (by kernel_rfl) (by kernel_rfl) (by kernel_rfl) (by kernel_rfl) ha h
/-- (isthmus/vset.Set).Has -/
theorem call15 {args : Array Value} {H : Heap} {K : Value → Heap → Prop} (ha : args.size ≤ 17) (h : codeX Tryd.prog [] (Tryd.f15.body.getD .skip) (endQ Tryd.prog [.tmp 4] K) (Env.init args) H) : CallsH Tryd.prog 15 args H K :=
  callsH_of mixed [] 17 [.tmp 4] (f := 15) (fn := Tryd.f15) (by kernel_rfl) (by kernel_rfl) (c := Tryd.f15.body.getD .skip) (by kernel_rfl) (by kernel_rfl) (by kernel_rfl) (by kernel_rfl) ha h
/-- (isthmus/vset.Set).Len -/
theorem call16 {args : Array Value} {H : Heap} {K : Value → Heap → Prop} (ha : args.size ≤ 6) (h : codeX Tryd.prog [] (Tryd.f16.body.getD .skip) (endQ Tryd.prog [.tmp 2] K) (Env.init args) H) : CallsH Tryd.prog 16 args H K :=
  callsH_of mixed [] 6 [.tmp 2] (f := 16) (fn := Tryd.f16) (by kernel_rfl) (by kernel_rfl) (c := Tryd.f16.body.getD .skip) (by kernel_rfl) (by kernel_rfl) (by kernel_rfl) (by kernel_rfl) ha h
/-- (*isthmus/isthmuslaw09.book).makes · draws: [5, 12, 13, 16, 17, 20, 21, 23, 24, 26, 27] -/
theorem call17 {args : Array Value} {H : Heap} {K : Value → Heap → Prop} (ha : args.size ≤ 261) (h : codeX Tryd.prog [10] (Tryd.f17.body.getD .skip) (endQ Tryd.prog [.tmp 4] K) (Env.init args) H) : CallsH Tryd.prog 17 args H K :=
  callsH_of mixed [10] 261 [.tmp 4] (f := 17) (fn := Tryd.f17) (by kernel_rfl) (by kernel_rfl) (c := Tryd.f17.body.getD .skip) (by kernel_rfl) (by kernel_rfl) (by kernel_rfl) (by kernel_rfl) ha h
/-- (*isthmus/isthmuslaw09.book).asks · draws: [6, 8, 10, 15] -/
theorem call18 {args : Array Value} {H : Heap} {K : Value → Heap → Prop} (ha : args.size ≤ 164) (h : codeX Tryd.prog [18] (Tryd.f18.body.getD .skip) (endQ Tryd.prog [.tmp 4] K) (Env.init args) H) : CallsH Tryd.prog 18 args H K :=
  callsH_of mixed [18] 164 [.tmp 4] (f := 18) (fn := Tryd.f18) (by kernel_rfl) (by kernel_rfl) (c := Tryd.f18.body.getD .skip) (by kernel_rfl) (by kernel_rfl) (by kernel_rfl) (by kernel_rfl) ha h
/-- (*isthmus/isthmuslaw09.book).ends · draws: [4, 26] -/
theorem call19 {args : Array Value} {H : Heap} {K : Value → Heap → Prop} (ha : args.size ≤ 156) (h : codeX Tryd.prog [10] (Tryd.f19.body.getD .skip) (endQ Tryd.prog [.tmp 2] K) (Env.init args) H) : CallsH Tryd.prog 19 args H K :=
  callsH_of mixed [10] 156 [.tmp 2] (f := 19) (fn := Tryd.f19) (by kernel_rfl) (by kernel_rfl) (c := Tryd.f19.body.getD .skip) (by kernel_rfl) (by kernel_rfl) (by kernel_rfl) (by kernel_rfl) ha h
/-- (isthmus/vset.Set).Meet -/
theorem call20 {args : Array Value} {H : Heap} {K : Value → Heap → Prop} (ha : args.size ≤ 11) (h : codeX Tryd.prog [] (Tryd.f20.body.getD .skip) (endQ Tryd.prog [.cell 4 26] K) (Env.init args) H) : CallsH Tryd.prog 20 args H K :=
  callsH_of mixed [] 11 [.cell 4 26] (f := 20) (fn := Tryd.f20) (by kernel_rfl) (by kernel_rfl) (c := Tryd.f20.body.getD .skip) (by kernel_rfl) (by kernel_rfl) (by kernel_rfl) (by kernel_rfl) ha h
/-- (isthmus/vset.Set).Union -/
theorem call21 {args : Array Value} {H : Heap} {K : Value → Heap → Prop} (ha : args.size ≤ 11) (h : codeX Tryd.prog [] (Tryd.f21.body.getD .skip) (endQ Tryd.prog [.cell 4 26] K) (Env.init args) H) : CallsH Tryd.prog 21 args H K :=
  callsH_of mixed [] 11 [.cell 4 26] (f := 21) (fn := Tryd.f21) (by kernel_rfl) (by kernel_rfl) (c := Tryd.f21.body.getD .skip) (by kernel_rfl) (by kernel_rfl) (by kernel_rfl) (by kernel_rfl) ha h
/-- (isthmus/vset.Set).Minus -/
theorem call22 {args : Array Value} {H : Heap} {K : Value → Heap → Prop} (ha : args.size ≤ 11) (h : codeX Tryd.prog [] (Tryd.f22.body.getD .skip) (endQ Tryd.prog [.cell 4 26] K) (Env.init args) H) : CallsH Tryd.prog 22 args H K :=
  callsH_of mixed [] 11 [.cell 4 26] (f := 22) (fn := Tryd.f22) (by kernel_rfl) (by kernel_rfl) (c := Tryd.f22.body.getD .skip) (by kernel_rfl) (by kernel_rfl) (by kernel_rfl) (by kernel_rfl) ha h
/-- (isthmus/vset.Set).With -/
theorem call23 {args : Array Value} {H : Heap} {K : Value → Heap → Prop} (ha : args.size ≤ 21) (h : codeX Tryd.prog [] (Tryd.f23.body.getD .skip) (endQ Tryd.prog [.cell 4 26, .tmp 5] K) (Env.init args) H) : CallsH Tryd.prog 23 args H K :=
  callsH_of mixed [] 21 [.cell 4 26, .tmp 5] (f := 23) (fn := Tryd.f23) (by kernel_rfl) (by kernel_rfl) (c := Tryd.f23.body.getD .skip) (by kernel_rfl) (by kernel_rfl) (by kernel_rfl) (by kernel_rfl) ha h
/-- (isthmus/vset.Set).Without -/
theorem call24 {args : Array Value} {H : Heap} {K : Value → Heap → Prop} (ha : args.size ≤ 21) (h : codeX Tryd.prog [] (Tryd.f24.body.getD .skip) (endQ Tryd.prog [.cell 4 26, .tmp 5] K) (Env.init args) H) : CallsH Tryd.prog 24 args H K :=
  callsH_of mixed [] 21 [.cell 4 26, .tmp 5] (f := 24) (fn := Tryd.f24) (by kernel_rfl) (by kernel_rfl) (c := Tryd.f24.body.getD .skip) (by kernel_rfl) (by kernel_rfl) (by kernel_rfl) (by kernel_rfl) ha h
/-- isthmus/vset.NewFamily -/
theorem call25 {args : Array Value} {H : Heap} {K : Value → Heap → Prop} (ha : args.size ≤ 4) (h : codeX Tryd.prog [] (Tryd.f25.body.getD .skip) (endQ Tryd.prog [.tmp 0] K) (Env.init args) H) : CallsH Tryd.prog 25 args H K :=
  callsH_of mixed [] 4 [.tmp 0] (f := 25) (fn := Tryd.f25) (by kernel_rfl) (by kernel_rfl) (c := Tryd.f25.body.getD .skip) (by kernel_rfl) (by kernel_rfl) (by kernel_rfl) (by kernel_rfl) ha h
/-- (*isthmus/isthmuslaw09.side).step · draws: [3, 5, 7, 8, 9, 19, 21] -/
theorem call26 {args : Array Value} {H : Heap} {K : Value → Heap → Prop} (ha : args.size ≤ 213) (h : codeX Tryd.prog [] (Tryd.f26.body.getD .skip) (endQ Tryd.prog [.tmp 4] K) (Env.init args) H) : CallsH Tryd.prog 26 args H K :=
  callsH_of mixed [] 213 [.tmp 4] (f := 26) (fn := Tryd.f26) (by kernel_rfl) (by kernel_rfl) (c := Tryd.f26.body.getD .skip) (by kernel_rfl) (by kernel_rfl) (by kernel_rfl) (by kernel_rfl) ha h
/-- (*isthmus/isthmuslaw09.side).ends · draws: [24] -/
theorem call27 {args : Array Value} {H : Heap} {K : Value → Heap → Prop} (ha : args.size ≤ 156) (h : codeX Tryd.prog [8, 17, 31] (Tryd.f27.body.getD .skip) (endQ Tryd.prog [.tmp 2] K) (Env.init args) H) : CallsH Tryd.prog 27 args H K :=
  callsH_of mixed [8, 17, 31] 156 [.tmp 2] (f := 27) (fn := Tryd.f27) (by kernel_rfl) (by kernel_rfl) (c := Tryd.f27.body.getD .skip) (by kernel_rfl) (by kernel_rfl) (by kernel_rfl) (by kernel_rfl) ha h
/-- (*isthmus/vset.Family).Add -/
theorem call28 {args : Array Value} {H : Heap} {K : Value → Heap → Prop} (ha : args.size ≤ 26) (h : codeX Tryd.prog [] (Tryd.f28.body.getD .skip) (endQ Tryd.prog [.tmp 4] K) (Env.init args) H) : CallsH Tryd.prog 28 args H K :=
  callsH_of mixed [] 26 [.tmp 4] (f := 28) (fn := Tryd.f28) (by kernel_rfl) (by kernel_rfl) (c := Tryd.f28.body.getD .skip) (by kernel_rfl) (by kernel_rfl) (by kernel_rfl) (by kernel_rfl) ha h
/-- (*isthmus/vset.Family).Lay -/
theorem call29 {args : Array Value} {H : Heap} {K : Value → Heap → Prop} (ha : args.size ≤ 17) (h : codeX Tryd.prog [3] (Tryd.f29.body.getD .skip) (endQ Tryd.prog [.tmp 6] K) (Env.init args) H) : CallsH Tryd.prog 29 args H K :=
  callsH_of mixed [3] 17 [.tmp 6] (f := 29) (fn := Tryd.f29) (by kernel_rfl) (by kernel_rfl) (c := Tryd.f29.body.getD .skip) (by kernel_rfl) (by kernel_rfl) (by kernel_rfl) (by kernel_rfl) ha h
/-- (*isthmus/vset.Family).Purge -/
theorem call30 {args : Array Value} {H : Heap} {K : Value → Heap → Prop} (ha : args.size ≤ 39) (h : codeX Tryd.prog [7] (Tryd.f30.body.getD .skip) (endQ Tryd.prog [.tmp 4] K) (Env.init args) H) : CallsH Tryd.prog 30 args H K :=
  callsH_of mixed [7] 39 [.tmp 4] (f := 30) (fn := Tryd.f30) (by kernel_rfl) (by kernel_rfl) (c := Tryd.f30.body.getD .skip) (by kernel_rfl) (by kernel_rfl) (by kernel_rfl) (by kernel_rfl) ha h
/-- (*isthmus/vset.Family).Same -/
theorem call31 {args : Array Value} {H : Heap} {K : Value → Heap → Prop} (ha : args.size ≤ 67) (h : codeX Tryd.prog [] (Tryd.f31.body.getD .skip) (endQ Tryd.prog [.tmp 2] K) (Env.init args) H) : CallsH Tryd.prog 31 args H K :=
  callsH_of mixed [] 67 [.tmp 2] (f := 31) (fn := Tryd.f31) (by kernel_rfl) (by kernel_rfl) (c := Tryd.f31.body.getD .skip) (by kernel_rfl) (by kernel_rfl) (by kernel_rfl) (by kernel_rfl) ha h
/-- (*isthmus/vset.Family).Get -/
theorem call32 {args : Array Value} {H : Heap} {K : Value → Heap → Prop} (ha : args.size ≤ 21) (h : codeX Tryd.prog [] (Tryd.f32.body.getD .skip) (endQ Tryd.prog [.cell 4 26, .tmp 5] K) (Env.init args) H) : CallsH Tryd.prog 32 args H K :=
  callsH_of mixed [] 21 [.cell 4 26, .tmp 5] (f := 32) (fn := Tryd.f32) (by kernel_rfl) (by kernel_rfl) (c := Tryd.f32.body.getD .skip) (by kernel_rfl) (by kernel_rfl) (by kernel_rfl) (by kernel_rfl) ha h
/-- isthmus/isthmuslaw09.same -/
theorem call33 {args : Array Value} {H : Heap} {K : Value → Heap → Prop} (ha : args.size ≤ 26) (h : codeX Tryd.prog [6] (Tryd.f33.body.getD .skip) (endQ Tryd.prog [.tmp 4] K) (Env.init args) H) : CallsH Tryd.prog 33 args H K :=
  callsH_of mixed [6] 26 [.tmp 4] (f := 33) (fn := Tryd.f33) (by kernel_rfl) (by kernel_rfl) (c := Tryd.f33.body.getD .skip) (by kernel_rfl) (by kernel_rfl) (by kernel_rfl) (by kernel_rfl) ha h
/-- isthmus/vset.bit -/
theorem call34 {args : Array Value} {H : Heap} {K : Value → Heap → Prop} (ha : args.size ≤ 13) (h : codeX Tryd.prog [] (Tryd.f34.body.getD .skip) (endQ Tryd.prog [.tmp 2, .tmp 3] K) (Env.init args) H) : CallsH Tryd.prog 34 args H K :=
  callsH_of mixed [] 13 [.tmp 2, .tmp 3] (f := 34) (fn := Tryd.f34) (by kernel_rfl) (by kernel_rfl) (c := Tryd.f34.body.getD .skip) (by kernel_rfl) (by kernel_rfl) (by kernel_rfl) (by kernel_rfl) ha h
/-- math/bits.TrailingZeros64 -/
theorem call35 {args : Array Value} {H : Heap} {K : Value → Heap → Prop} (ha : args.size ≤ 14) (h : codeX Tryd.prog [] (Tryd.f35.body.getD .skip) (endQ Tryd.prog [.tmp 2] K) (Env.init args) H) : CallsH Tryd.prog 35 args H K :=
  callsH_of mixed [] 14 [.tmp 2] (f := 35) (fn := Tryd.f35) (by kernel_rfl) (by kernel_rfl) (c := Tryd.f35.body.getD .skip) (by kernel_rfl) (by kernel_rfl) (by kernel_rfl) (by kernel_rfl) ha h
/-- math/bits.OnesCount64 -/
theorem call36 {args : Array Value} {H : Heap} {K : Value → Heap → Prop} (ha : args.size ≤ 35) (h : codeX Tryd.prog [] (Tryd.f36.body.getD .skip) (endQ Tryd.prog [.tmp 2] K) (Env.init args) H) : CallsH Tryd.prog 36 args H K :=
  callsH_of mixed [] 35 [.tmp 2] (f := 36) (fn := Tryd.f36) (by kernel_rfl) (by kernel_rfl) (c := Tryd.f36.body.getD .skip) (by kernel_rfl) (by kernel_rfl) (by kernel_rfl) (by kernel_rfl) ha h
/-- isthmus/isthmusref09.Of -/
theorem call37 {args : Array Value} {H : Heap} {K : Value → Heap → Prop} (ha : args.size ≤ 29) (h : codeX Tryd.prog [] (Tryd.f37.body.getD .skip) (endQ Tryd.prog [.cell 2 42, .tmp 3] K) (Env.init args) H) : CallsH Tryd.prog 37 args H K :=
  callsH_of mixed [] 29 [.cell 2 42, .tmp 3] (f := 37) (fn := Tryd.f37) (by kernel_rfl) (by kernel_rfl) (c := Tryd.f37.body.getD .skip) (by kernel_rfl) (by kernel_rfl) (by kernel_rfl) (by kernel_rfl) ha h
/-- (*isthmus/isthmuslaw09.book).lays -/
theorem call38 {args : Array Value} {H : Heap} {K : Value → Heap → Prop} (ha : args.size ≤ 39) (h : codeX Tryd.prog [4, 5] (Tryd.f38.body.getD .skip) (endQ Tryd.prog [.tmp 12] K) (Env.init args) H) : CallsH Tryd.prog 38 args H K :=
  callsH_of mixed [4, 5] 39 [.tmp 12] (f := 38) (fn := Tryd.f38) (by kernel_rfl) (by kernel_rfl) (c := Tryd.f38.body.getD .skip) (by kernel_rfl) (by kernel_rfl) (by kernel_rfl) (by kernel_rfl) ha h
/-- isthmus/isthmusref09.With -/
theorem call39 {args : Array Value} {H : Heap} {K : Value → Heap → Prop} (ha : args.size ≤ 19) (h : codeX Tryd.prog [] (Tryd.f39.body.getD .skip) (endQ Tryd.prog [.cell 6 42, .tmp 7] K) (Env.init args) H) : CallsH Tryd.prog 39 args H K :=
  callsH_of mixed [] 19 [.cell 6 42, .tmp 7] (f := 39) (fn := Tryd.f39) (by kernel_rfl) (by kernel_rfl) (c := Tryd.f39.body.getD .skip) (by kernel_rfl) (by kernel_rfl) (by kernel_rfl) (by kernel_rfl) ha h
/-- isthmus/isthmusref09.Two -/
theorem call40 {args : Array Value} {H : Heap} {K : Value → Heap → Prop} (ha : args.size ≤ 60) (h : codeX Tryd.prog [] (Tryd.f40.body.getD .skip) (endQ Tryd.prog [.cell 6 42] K) (Env.init args) H) : CallsH Tryd.prog 40 args H K :=
  callsH_of mixed [] 60 [.cell 6 42] (f := 40) (fn := Tryd.f40) (by kernel_rfl) (by kernel_rfl) (c := Tryd.f40.body.getD .skip) (by kernel_rfl) (by kernel_rfl) (by kernel_rfl) (by kernel_rfl) ha h
/-- isthmus/isthmusref09.Fits -/
theorem call41 {args : Array Value} {H : Heap} {K : Value → Heap → Prop} (ha : args.size ≤ 9) (h : codeX Tryd.prog [] (Tryd.f41.body.getD .skip) (endQ Tryd.prog [.tmp 2] K) (Env.init args) H) : CallsH Tryd.prog 41 args H K :=
  callsH_of mixed [] 9 [.tmp 2] (f := 41) (fn := Tryd.f41) (by kernel_rfl) (by kernel_rfl) (c := Tryd.f41.body.getD .skip) (by kernel_rfl) (by kernel_rfl) (by kernel_rfl) (by kernel_rfl) ha h
/-- isthmus/isthmusref09.All -/
theorem call42 {args : Array Value} {H : Heap} {K : Value → Heap → Prop} (ha : args.size ≤ 18) (h : codeX Tryd.prog [] (Tryd.f42.body.getD .skip) (endQ Tryd.prog [.tmp 2] K) (Env.init args) H) : CallsH Tryd.prog 42 args H K :=
  callsH_of mixed [] 18 [.tmp 2] (f := 42) (fn := Tryd.f42) (by kernel_rfl) (by kernel_rfl) (c := Tryd.f42.body.getD .skip) (by kernel_rfl) (by kernel_rfl) (by kernel_rfl) (by kernel_rfl) ha h
/-- isthmus/isthmusref09.Next -/
theorem call43 {args : Array Value} {H : Heap} {K : Value → Heap → Prop} (ha : args.size ≤ 17) (h : codeX Tryd.prog [] (Tryd.f43.body.getD .skip) (endQ Tryd.prog [.tmp 4] K) (Env.init args) H) : CallsH Tryd.prog 43 args H K :=
  callsH_of mixed [] 17 [.tmp 4] (f := 43) (fn := Tryd.f43) (by kernel_rfl) (by kernel_rfl) (c := Tryd.f43.body.getD .skip) (by kernel_rfl) (by kernel_rfl) (by kernel_rfl) (by kernel_rfl) ha h
/-- (*isthmus/isthmusref09.Family).Add -/
theorem call44 {args : Array Value} {H : Heap} {K : Value → Heap → Prop} (ha : args.size ≤ 89) (h : codeX Tryd.prog [] (Tryd.f44.body.getD .skip) (endQ Tryd.prog [.tmp 4] K) (Env.init args) H) : CallsH Tryd.prog 44 args H K :=
  callsH_of mixed [] 89 [.tmp 4] (f := 44) (fn := Tryd.f44) (by kernel_rfl) (by kernel_rfl) (c := Tryd.f44.body.getD .skip) (by kernel_rfl) (by kernel_rfl) (by kernel_rfl) (by kernel_rfl) ha h
/-- (*isthmus/vset.Family).Drop -/
theorem call45 {args : Array Value} {H : Heap} {K : Value → Heap → Prop} (ha : args.size ≤ 14) (h : codeX Tryd.prog [] (Tryd.f45.body.getD .skip) (endQ Tryd.prog [.tmp 4] K) (Env.init args) H) : CallsH Tryd.prog 45 args H K :=
  callsH_of mixed [] 14 [.tmp 4] (f := 45) (fn := Tryd.f45) (by kernel_rfl) (by kernel_rfl) (c := Tryd.f45.body.getD .skip) (by kernel_rfl) (by kernel_rfl) (by kernel_rfl) (by kernel_rfl) ha h
/-- (*isthmus/isthmusref09.Family).Drop -/
theorem call46 {args : Array Value} {H : Heap} {K : Value → Heap → Prop} (ha : args.size ≤ 53) (h : codeX Tryd.prog [] (Tryd.f46.body.getD .skip) (endQ Tryd.prog [.tmp 4] K) (Env.init args) H) : CallsH Tryd.prog 46 args H K :=
  callsH_of mixed [] 53 [.tmp 4] (f := 46) (fn := Tryd.f46) (by kernel_rfl) (by kernel_rfl) (c := Tryd.f46.body.getD .skip) (by kernel_rfl) (by kernel_rfl) (by kernel_rfl) (by kernel_rfl) ha h
/-- (*isthmus/isthmusref09.Family).Get -/
theorem call47 {args : Array Value} {H : Heap} {K : Value → Heap → Prop} (ha : args.size ≤ 20) (h : codeX Tryd.prog [] (Tryd.f47.body.getD .skip) (endQ Tryd.prog [.cell 4 42, .tmp 5] K) (Env.init args) H) : CallsH Tryd.prog 47 args H K :=
  callsH_of mixed [] 20 [.cell 4 42, .tmp 5] (f := 47) (fn := Tryd.f47) (by kernel_rfl) (by kernel_rfl) (c := Tryd.f47.body.getD .skip) (by kernel_rfl) (by kernel_rfl) (by kernel_rfl) (by kernel_rfl) ha h
/-- (*isthmus/isthmusref09.Family).Lay -/
theorem call48 {args : Array Value} {H : Heap} {K : Value → Heap → Prop} (ha : args.size ≤ 20) (h : codeX Tryd.prog [4] (Tryd.f48.body.getD .skip) (endQ Tryd.prog [.tmp 6] K) (Env.init args) H) : CallsH Tryd.prog 48 args H K :=
  callsH_of mixed [4] 20 [.tmp 6] (f := 48) (fn := Tryd.f48) (by kernel_rfl) (by kernel_rfl) (c := Tryd.f48.body.getD .skip) (by kernel_rfl) (by kernel_rfl) (by kernel_rfl) (by kernel_rfl) ha h
/-- (*isthmus/isthmusref09.Family).Purge -/
theorem call49 {args : Array Value} {H : Heap} {K : Value → Heap → Prop} (ha : args.size ≤ 29) (h : codeX Tryd.prog [] (Tryd.f49.body.getD .skip) (endQ Tryd.prog [.tmp 4] K) (Env.init args) H) : CallsH Tryd.prog 49 args H K :=
  callsH_of mixed [] 29 [.tmp 4] (f := 49) (fn := Tryd.f49) (by kernel_rfl) (by kernel_rfl) (c := Tryd.f49.body.getD .skip) (by kernel_rfl) (by kernel_rfl) (by kernel_rfl) (by kernel_rfl) ha h
/-- (*isthmus/vset.Family).Names -/
theorem call50 {args : Array Value} {H : Heap} {K : Value → Heap → Prop} (ha : args.size ≤ 18) (h : codeX Tryd.prog [] (Tryd.f50.body.getD .skip) (endQ Tryd.prog [.tmp 2] K) (Env.init args) H) : CallsH Tryd.prog 50 args H K :=
  callsH_of mixed [] 18 [.tmp 2] (f := 50) (fn := Tryd.f50) (by kernel_rfl) (by kernel_rfl) (c := Tryd.f50.body.getD .skip) (by kernel_rfl) (by kernel_rfl) (by kernel_rfl) (by kernel_rfl) ha h
/-- isthmus/isthmuslaw09.texts -/
theorem call51 {args : Array Value} {H : Heap} {K : Value → Heap → Prop} (ha : args.size ≤ 26) (h : codeX Tryd.prog [6] (Tryd.f51.body.getD .skip) (endQ Tryd.prog [.tmp 4] K) (Env.init args) H) : CallsH Tryd.prog 51 args H K :=
  callsH_of mixed [6] 26 [.tmp 4] (f := 51) (fn := Tryd.f51) (by kernel_rfl) (by kernel_rfl) (c := Tryd.f51.body.getD .skip) (by kernel_rfl) (by kernel_rfl) (by kernel_rfl) (by kernel_rfl) ha h
/-- (*isthmus/isthmuslaw09.side).keeps · draws: [2] -/
theorem call52 {args : Array Value} {H : Heap} {K : Value → Heap → Prop} (ha : args.size ≤ 31) (h : codeX Tryd.prog [] (Tryd.f52.body.getD .skip) (endQ Tryd.prog [] K) (Env.init args) H) : CallsH Tryd.prog 52 args H K :=
  callsH_of mixed [] 31 [] (f := 52) (fn := Tryd.f52) (by kernel_rfl) (by kernel_rfl) (c := Tryd.f52.body.getD .skip) (by kernel_rfl) (by kernel_rfl) (by kernel_rfl) (by kernel_rfl) ha h
/-- isthmus/isthmuslaw09.groups -/
theorem call53 {args : Array Value} {H : Heap} {K : Value → Heap → Prop} (ha : args.size ≤ 29) (h : codeX Tryd.prog [6] (Tryd.f53.body.getD .skip) (endQ Tryd.prog [.tmp 4] K) (Env.init args) H) : CallsH Tryd.prog 53 args H K :=
  callsH_of mixed [6] 29 [.tmp 4] (f := 53) (fn := Tryd.f53) (by kernel_rfl) (by kernel_rfl) (c := Tryd.f53.body.getD .skip) (by kernel_rfl) (by kernel_rfl) (by kernel_rfl) (by kernel_rfl) ha h
/-- (*isthmus/isthmusref09.Family).Same -/
theorem call54 {args : Array Value} {H : Heap} {K : Value → Heap → Prop} (ha : args.size ≤ 83) (h : codeX Tryd.prog [9, 15] (Tryd.f54.body.getD .skip) (endQ Tryd.prog [.tmp 2] K) (Env.init args) H) : CallsH Tryd.prog 54 args H K :=
  callsH_of mixed [9, 15] 83 [.tmp 2] (f := 54) (fn := Tryd.f54) (by kernel_rfl) (by kernel_rfl) (c := Tryd.f54.body.getD .skip) (by kernel_rfl) (by kernel_rfl) (by kernel_rfl) (by kernel_rfl) ha h
/-- isthmus/vset.isName -/
theorem call55 {args : Array Value} {H : Heap} {K : Value → Heap → Prop} (ha : args.size ≤ 78) (h : codeX Tryd.prog [] (Tryd.f55.body.getD .skip) (endQ Tryd.prog [.tmp 2] K) (Env.init args) H) : CallsH Tryd.prog 55 args H K :=
  callsH_of mixed [] 78 [.tmp 2] (f := 55) (fn := Tryd.f55) (by kernel_rfl) (by kernel_rfl) (c := Tryd.f55.body.getD .skip) (by kernel_rfl) (by kernel_rfl) (by kernel_rfl) (by kernel_rfl) ha h
/-- (*isthmus/vset.Family).has -/
theorem call56 {args : Array Value} {H : Heap} {K : Value → Heap → Prop} (ha : args.size ≤ 17) (h : codeX Tryd.prog [] (Tryd.f56.body.getD .skip) (endQ Tryd.prog [.tmp 4] K) (Env.init args) H) : CallsH Tryd.prog 56 args H K :=
  callsH_of mixed [] 17 [.tmp 4] (f := 56) (fn := Tryd.f56) (by kernel_rfl) (by kernel_rfl) (c := Tryd.f56.body.getD .skip) (by kernel_rfl) (by kernel_rfl) (by kernel_rfl) (by kernel_rfl) ha h
/-- isthmus/isthmusref09.IsName -/
theorem call58 {args : Array Value} {H : Heap} {K : Value → Heap → Prop} (ha : args.size ≤ 65) (h : codeX Tryd.prog [] (Tryd.f58.body.getD .skip) (endQ Tryd.prog [.tmp 2] K) (Env.init args) H) : CallsH Tryd.prog 58 args H K :=
  callsH_of mixed [] 65 [.tmp 2] (f := 58) (fn := Tryd.f58) (by kernel_rfl) (by kernel_rfl) (c := Tryd.f58.body.getD .skip) (by kernel_rfl) (by kernel_rfl) (by kernel_rfl) (by kernel_rfl) ha h
/-- (*isthmus/isthmusref09.Family).Place -/
theorem call59 {args : Array Value} {H : Heap} {K : Value → Heap → Prop} (ha : args.size ≤ 25) (h : codeX Tryd.prog [] (Tryd.f59.body.getD .skip) (endQ Tryd.prog [.tmp 4] K) (Env.init args) H) : CallsH Tryd.prog 59 args H K :=
  callsH_of mixed [] 25 [.tmp 4] (f := 59) (fn := Tryd.f59) (by kernel_rfl) (by kernel_rfl) (c := Tryd.f59.body.getD .skip) (by kernel_rfl) (by kernel_rfl) (by kernel_rfl) (by kernel_rfl) ha h
/-- maps.Keys[map[string]isthmus/vset.Set,string,isthmus/vset.Set] -/
theorem call61 {args : Array Value} {H : Heap} {K : Value → Heap → Prop} (ha : args.size ≤ 4) (h : codeX Tryd.prog [] (Tryd.f61.body.getD .skip) (endQ Tryd.prog [.tmp 2] K) (Env.init args) H) : CallsH Tryd.prog 61 args H K :=
  callsH_of mixed [] 4 [.tmp 2] (f := 61) (fn := Tryd.f61) (by kernel_rfl) (by kernel_rfl) (c := Tryd.f61.body.getD .skip) (by kernel_rfl) (by kernel_rfl) (by kernel_rfl) (by kernel_rfl) ha h
/-- isthmus/isthmusref09.Words -/
theorem call62 {args : Array Value} {H : Heap} {K : Value → Heap → Prop} (ha : args.size ≤ 2) (h : codeX Tryd.prog [] (Tryd.f62.body.getD .skip) (endQ Tryd.prog [.tmp 0] K) (Env.init args) H) : CallsH Tryd.prog 62 args H K :=
  callsH_of mixed [] 2 [.tmp 0] (f := 62) (fn := Tryd.f62) (by kernel_rfl) (by kernel_rfl) (c := Tryd.f62.body.getD .skip) (by kernel_rfl) (by kernel_rfl) (by kernel_rfl) (by kernel_rfl) ha h
/-- maps.Keys[map[string]isthmus/vset.Set,string,isthmus/vset.Set]$1 -/
theorem call65 {args : Array Value} {H : Heap} {K : Value → Heap → Prop} (ha : args.size ≤ 14) (h : codeX Tryd.prog [] (Tryd.f65.body.getD .skip) (endQ Tryd.prog [] K) (Env.init args) H) : CallsH Tryd.prog 65 args H K :=
  callsH_of mixed [] 14 [] (f := 65) (fn := Tryd.f65) (by kernel_rfl) (by kernel_rfl) (c := Tryd.f65.body.getD .skip) (by kernel_rfl) (by kernel_rfl) (by kernel_rfl) (by kernel_rfl) ha h
/-- math/bits.Len -/
theorem call68 {args : Array Value} {H : Heap} {K : Value → Heap → Prop} (ha : args.size ≤ 8) (h : codeX Tryd.prog [] (Tryd.f68.body.getD .skip) (endQ Tryd.prog [.tmp 2] K) (Env.init args) H) : CallsH Tryd.prog 68 args H K :=
  callsH_of mixed [] 8 [.tmp 2] (f := 68) (fn := Tryd.f68) (by kernel_rfl) (by kernel_rfl) (c := Tryd.f68.body.getD .skip) (by kernel_rfl) (by kernel_rfl) (by kernel_rfl) (by kernel_rfl) ha h
/-- cmp.Less[string] -/
theorem call75 {args : Array Value} {H : Heap} {K : Value → Heap → Prop} (ha : args.size ≤ 17) (h : codeX Tryd.prog [] (Tryd.f75.body.getD .skip) (endQ Tryd.prog [.tmp 4] K) (Env.init args) H) : CallsH Tryd.prog 75 args H K :=
  callsH_of mixed [] 17 [.tmp 4] (f := 75) (fn := Tryd.f75) (by kernel_rfl) (by kernel_rfl) (c := Tryd.f75.body.getD .skip) (by kernel_rfl) (by kernel_rfl) (by kernel_rfl) (by kernel_rfl) ha h
/-- math/bits.Len32 -/
theorem call78 {args : Array Value} {H : Heap} {K : Value → Heap → Prop} (ha : args.size ≤ 19) (h : codeX Tryd.prog [] (Tryd.f78.body.getD .skip) (endQ Tryd.prog [.tmp 2] K) (Env.init args) H) : CallsH Tryd.prog 78 args H K :=
  callsH_of mixed [] 19 [.tmp 2] (f := 78) (fn := Tryd.f78) (by kernel_rfl) (by kernel_rfl) (c := Tryd.f78.body.getD .skip) (by kernel_rfl) (by kernel_rfl) (by kernel_rfl) (by kernel_rfl) ha h
/-- math/bits.Len64 -/
theorem call79 {args : Array Value} {H : Heap} {K : Value → Heap → Prop} (ha : args.size ≤ 25) (h : codeX Tryd.prog [] (Tryd.f79.body.getD .skip) (endQ Tryd.prog [.tmp 2] K) (Env.init args) H) : CallsH Tryd.prog 79 args H K :=
  callsH_of mixed [] 25 [.tmp 2] (f := 79) (fn := Tryd.f79) (by kernel_rfl) (by kernel_rfl) (c := Tryd.f79.body.getD .skip) (by kernel_rfl) (by kernel_rfl) (by kernel_rfl) (by kernel_rfl) ha h
/-- (*slices.xorshift).Next -/
theorem call82 {args : Array Value} {H : Heap} {K : Value → Heap → Prop} (ha : args.size ≤ 33) (h : codeX Tryd.prog [1, 2, 3] (Tryd.f82.body.getD .skip) (endQ Tryd.prog [.tmp 2] K) (Env.init args) H) : CallsH Tryd.prog 82 args H K :=
  callsH_of mixed [1, 2, 3] 33 [.tmp 2] (f := 82) (fn := Tryd.f82) (by kernel_rfl) (by kernel_rfl) (c := Tryd.f82.body.getD .skip) (by kernel_rfl) (by kernel_rfl) (by kernel_rfl) (by kernel_rfl) ha h
/-- cmp.isNaN[string] -/
theorem call85 {args : Array Value} {H : Heap} {K : Value → Heap → Prop} (ha : args.size ≤ 6) (h : codeX Tryd.prog [] (Tryd.f85.body.getD .skip) (endQ Tryd.prog [.tmp 2] K) (Env.init args) H) : CallsH Tryd.prog 85 args H K :=
  callsH_of mixed [] 6 [.tmp 2] (f := 85) (fn := Tryd.f85) (by kernel_rfl) (by kernel_rfl) (c := Tryd.f85.body.getD .skip) (by kernel_rfl) (by kernel_rfl) (by kernel_rfl) (by kernel_rfl) ha h
end Go.Proofs.YtdhepjcdlkahnaaDoor
