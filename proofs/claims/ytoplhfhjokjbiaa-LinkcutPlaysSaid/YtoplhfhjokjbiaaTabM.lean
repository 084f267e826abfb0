/-
  What the program's tables say of types and of functions (written by facts.py of this claim's maker; each row is checked by the kernel).
-/
import Derived.Test.YtoplhfhjokjbiaaProg
import Derived.Test.YtoplhfhjokjbiaaHpJ
import Derived.KernelRfl
namespace Go.Proofs.Ytoplhfhjokjbiaa
open Go Go.Hp
set_option maxRecDepth 100000
set_option linter.all false
variable {args : Array Value} {H : Heap} {K : Value → Heap → Prop}
theorem mixed : Try.prog.follows .mixedOrders = true := by kernel_rfl
@[go_sem] theorem tl1 : tl Try.prog 1 = some ⟨.other, 1, 8, .nilFunc⟩ := by kernel_rfl
@[go_sem] theorem tl2 : tl Try.prog 2 = some ⟨.int .i64, 1, 8, .int .i64 0⟩ := by kernel_rfl
@[go_sem] theorem tl3 : tl Try.prog 3 = some ⟨.int .i64, 1, 8, .int .i64 0⟩ := by kernel_rfl
@[go_sem] theorem tl4 : tl Try.prog 4 = some ⟨.bool, 1, 1, .bool false⟩ := by kernel_rfl
@[go_sem] theorem tl5 : tl Try.prog 5 = some ⟨.int .u8, 1, 1, .int .u8 0⟩ := by kernel_rfl
@[go_sem] theorem tl6 : tl Try.prog 6 = some ⟨.int .u8, 1, 1, .int .u8 0⟩ := by kernel_rfl
@[go_sem] theorem tl7 : tl Try.prog 7 = some ⟨.struct, 4, 24, .agg #[.int .i64 0, .int .i64 0, .bool false, .int .u8 0]⟩ := by kernel_rfl
@[go_sem] theorem flay7 : flay Try.prog 7 = some [(0, (1, false)), (1, (1, false)), (2, (1, false)), (3, (1, false))] := by kernel_rfl
@[go_sem] theorem tl8 : tl Try.prog 8 = some ⟨.struct, 4, 24, .agg #[.int .i64 0, .int .i64 0, .bool false, .int .u8 0]⟩ := by kernel_rfl
@[go_sem] theorem flay8 : flay Try.prog 8 = some [(0, (1, false)), (1, (1, false)), (2, (1, false)), (3, (1, false))] := by kernel_rfl
@[go_sem] theorem tl9 : tl Try.prog 9 = some ⟨.string, 1, 16, .string ⟨#[]⟩⟩ := by kernel_rfl
@[go_sem] theorem tl10 : tl Try.prog 10 = some ⟨.string, 1, 16, .string ⟨#[]⟩⟩ := by kernel_rfl
@[go_sem] theorem tl11 : tl Try.prog 11 = some ⟨.string, 1, 16, .string ⟨#[]⟩⟩ := by kernel_rfl
@[go_sem] theorem tl12 : tl Try.prog 12 = some ⟨.int .u64, 1, 8, .int .u64 0⟩ := by kernel_rfl
@[go_sem] theorem tl13 : tl Try.prog 13 = some ⟨.struct, 2, 24, .agg #[.string ⟨#[]⟩, .int .u64 0]⟩ := by kernel_rfl
@[go_sem] theorem flay13 : flay Try.prog 13 = some [(0, (1, false)), (1, (1, false))] := by kernel_rfl
@[go_sem] theorem tl14 : tl Try.prog 14 = some ⟨.struct, 2, 24, .agg #[.string ⟨#[]⟩, .int .u64 0]⟩ := by kernel_rfl
@[go_sem] theorem flay14 : flay Try.prog 14 = some [(0, (1, false)), (1, (1, false))] := by kernel_rfl
@[go_sem] theorem tl15 : tl Try.prog 15 = some ⟨.ptr, 1, 8, .pointer none⟩ := by kernel_rfl
@[go_sem] theorem tl16 : tl Try.prog 16 = some ⟨.ptr, 1, 8, .pointer none⟩ := by kernel_rfl
@[go_sem] theorem tl17 : tl Try.prog 17 = some ⟨.ptr, 1, 8, .pointer none⟩ := by kernel_rfl
@[go_sem] theorem tl18 : tl Try.prog 18 = some ⟨.struct, 1, 8, .agg #[.pointer none]⟩ := by kernel_rfl
@[go_sem] theorem flay18 : flay Try.prog 18 = some [(0, (1, false))] := by kernel_rfl
@[go_sem] theorem tl19 : tl Try.prog 19 = some ⟨.struct, 1, 8, .agg #[.pointer none]⟩ := by kernel_rfl
@[go_sem] theorem flay19 : flay Try.prog 19 = some [(0, (1, false))] := by kernel_rfl
@[go_sem] theorem tl20 : tl Try.prog 20 = some ⟨.other, 1, 16, .nilIface⟩ := by kernel_rfl
@[go_sem] theorem tl21 : tl Try.prog 21 = some ⟨.int .i32, 1, 4, .int .i32 0⟩ := by kernel_rfl
@[go_sem] theorem tl22 : tl Try.prog 22 = some ⟨.slice, 1, 24, .slice none 0 0⟩ := by kernel_rfl
@[go_sem] theorem elems22 : elems Try.prog 22 = some (Option.none, 3, 1) := by kernel_rfl
@[go_sem] theorem tl23 : tl Try.prog 23 = some ⟨.other, 1, 8, .nilFunc⟩ := by kernel_rfl
@[go_sem] theorem tl24 : tl Try.prog 24 = some ⟨.ptr, 1, 8, .pointer none⟩ := by kernel_rfl
@[go_sem] theorem tl25 : tl Try.prog 25 = some ⟨.int .i64, 1, 8, .int .i64 0⟩ := by kernel_rfl
@[go_sem] theorem tl27 : tl Try.prog 27 = some ⟨.other, 1, 8, .nilFunc⟩ := by kernel_rfl
@[go_sem] theorem tl28 : tl Try.prog 28 = some ⟨.slice, 1, 24, .slice none 0 0⟩ := by kernel_rfl
@[go_sem] theorem elems28 : elems Try.prog 28 = some (Option.none, 31, 4) := by kernel_rfl
@[go_sem] theorem tl29 : tl Try.prog 29 = some ⟨.other, 1, 8, .nilFunc⟩ := by kernel_rfl
@[go_sem] theorem tl30 : tl Try.prog 30 = some ⟨.struct, 4, 32, .agg #[.int .i64 0, .int .i64 0, .int .i64 0, .int .i64 0]⟩ := by kernel_rfl
@[go_sem] theorem flay30 : flay Try.prog 30 = some [(0, (1, false)), (1, (1, false)), (2, (1, false)), (3, (1, false))] := by kernel_rfl
@[go_sem] theorem tl31 : tl Try.prog 31 = some ⟨.struct, 4, 32, .agg #[.int .i64 0, .int .i64 0, .int .i64 0, .int .i64 0]⟩ := by kernel_rfl
@[go_sem] theorem flay31 : flay Try.prog 31 = some [(0, (1, false)), (1, (1, false)), (2, (1, false)), (3, (1, false))] := by kernel_rfl
@[go_sem] theorem tl32 : tl Try.prog 32 = some ⟨.other, 1, 8, .nilFunc⟩ := by kernel_rfl
@[go_sem] theorem tl34 : tl Try.prog 34 = some ⟨.other, 1, 8, .nilFunc⟩ := by kernel_rfl
@[go_sem] theorem tl36 : tl Try.prog 36 = some ⟨.other, 1, 8, .nilFunc⟩ := by kernel_rfl
@[go_sem] theorem tl37 : tl Try.prog 37 = some ⟨.other, 1, 8, .nilFunc⟩ := by kernel_rfl
@[go_sem] theorem tl38 : tl Try.prog 38 = some ⟨.other, 1, 8, .nilFunc⟩ := by kernel_rfl
@[go_sem] theorem tl39 : tl Try.prog 39 = some ⟨.other, 1, 8, .nilFunc⟩ := by kernel_rfl
@[go_sem] theorem tl40 : tl Try.prog 40 = some ⟨.other, 1, 8, .nilFunc⟩ := by kernel_rfl
@[go_sem] theorem tl42 : tl Try.prog 42 = some ⟨.other, 1, 8, .nilFunc⟩ := by kernel_rfl
@[go_sem] theorem tl43 : tl Try.prog 43 = some ⟨.other, 1, 8, .nilFunc⟩ := by kernel_rfl
@[go_sem] theorem tl44 : tl Try.prog 44 = some ⟨.other, 1, 8, .nilFunc⟩ := by kernel_rfl
@[go_sem] theorem tl45 : tl Try.prog 45 = some ⟨.slice, 1, 24, .slice none 0 0⟩ := by kernel_rfl
@[go_sem] theorem elems45 : elems Try.prog 45 = some (Option.none, 54, 6) := by kernel_rfl
@[go_sem] theorem tl46 : tl Try.prog 46 = some ⟨.ptr, 1, 8, .pointer none⟩ := by kernel_rfl
@[go_sem] theorem tl48 : tl Try.prog 48 = some ⟨.other, 1, 8, .nilFunc⟩ := by kernel_rfl
@[go_sem] theorem tl49 : tl Try.prog 49 = some ⟨.ptr, 1, 8, .pointer none⟩ := by kernel_rfl
@[go_sem] theorem tl50 : tl Try.prog 50 = some ⟨.slice, 1, 24, .slice none 0 0⟩ := by kernel_rfl
@[go_sem] theorem elems50 : elems Try.prog 50 = some (Option.none, 22, 1) := by kernel_rfl
@[go_sem] theorem tl51 : tl Try.prog 51 = some ⟨.struct, 4, 64, .agg #[.pointer none, .pointer none, .slice none 0 0, .slice none 0 0]⟩ := by kernel_rfl
@[go_sem] theorem flay51 : flay Try.prog 51 = some [(0, (1, false)), (1, (1, false)), (2, (1, false)), (3, (1, false))] := by kernel_rfl
@[go_sem] theorem tl52 : tl Try.prog 52 = some ⟨.struct, 4, 64, .agg #[.pointer none, .pointer none, .slice none 0 0, .slice none 0 0]⟩ := by kernel_rfl
@[go_sem] theorem flay52 : flay Try.prog 52 = some [(0, (1, false)), (1, (1, false)), (2, (1, false)), (3, (1, false))] := by kernel_rfl
@[go_sem] theorem tl53 : tl Try.prog 53 = some ⟨.struct, 6, 48, .agg #[.int .i64 0, .int .i64 0, .int .i64 0, .int .i64 0, .int .i64 0, .bool false]⟩ := by kernel_rfl
@[go_sem] theorem flay53 : flay Try.prog 53 = some [(0, (1, false)), (1, (1, false)), (2, (1, false)), (3, (1, false)), (4, (1, false)), (5, (1, false))] := by kernel_rfl
@[go_sem] theorem tl54 : tl Try.prog 54 = some ⟨.struct, 6, 48, .agg #[.int .i64 0, .int .i64 0, .int .i64 0, .int .i64 0, .int .i64 0, .bool false]⟩ := by kernel_rfl
@[go_sem] theorem flay54 : flay Try.prog 54 = some [(0, (1, false)), (1, (1, false)), (2, (1, false)), (3, (1, false)), (4, (1, false)), (5, (1, false))] := by kernel_rfl
@[go_sem] theorem tl55 : tl Try.prog 55 = some ⟨.other, 1, 8, .nilFunc⟩ := by kernel_rfl
@[go_sem] theorem tl56 : tl Try.prog 56 = some ⟨.other, 1, 8, .nilFunc⟩ := by kernel_rfl
@[go_sem] theorem tl57 : tl Try.prog 57 = some ⟨.slice, 1, 24, .slice none 0 0⟩ := by kernel_rfl
@[go_sem] theorem elems57 : elems Try.prog 57 = some (Option.none, 4, 1) := by kernel_rfl
@[go_sem] theorem tl58 : tl Try.prog 58 = some ⟨.other, 1, 8, .nilFunc⟩ := by kernel_rfl
@[go_sem] theorem tl60 : tl Try.prog 60 = some ⟨.other, 1, 8, .nilFunc⟩ := by kernel_rfl
@[go_sem] theorem tl61 : tl Try.prog 61 = some ⟨.other, 1, 8, .nilFunc⟩ := by kernel_rfl
@[go_sem] theorem tl62 : tl Try.prog 62 = some ⟨.other, 1, 8, .nilFunc⟩ := by kernel_rfl
@[go_sem] theorem tl63 : tl Try.prog 63 = some ⟨.slice, 1, 24, .slice none 0 0⟩ := by kernel_rfl
@[go_sem] theorem elems63 : elems Try.prog 63 = some (Option.none, 74, 10) := by kernel_rfl
@[go_sem] theorem tl64 : tl Try.prog 64 = some ⟨.map, 1, 8, .map none⟩ := by kernel_rfl
@[go_sem] theorem tl65 : tl Try.prog 65 = some ⟨.struct, 4, 64, .agg #[.int .i64 0, .slice none 0 0, .map none, .slice none 0 0]⟩ := by kernel_rfl
@[go_sem] theorem flay65 : flay Try.prog 65 = some [(0, (1, false)), (1, (1, false)), (2, (1, false)), (3, (1, false))] := by kernel_rfl
@[go_sem] theorem tl66 : tl Try.prog 66 = some ⟨.struct, 4, 64, .agg #[.int .i64 0, .slice none 0 0, .map none, .slice none 0 0]⟩ := by kernel_rfl
@[go_sem] theorem flay66 : flay Try.prog 66 = some [(0, (1, false)), (1, (1, false)), (2, (1, false)), (3, (1, false))] := by kernel_rfl
@[go_sem] theorem tl67 : tl Try.prog 67 = some ⟨.other, 1, 8, .nilFunc⟩ := by kernel_rfl
@[go_sem] theorem tl69 : tl Try.prog 69 = some ⟨.other, 1, 8, .nilFunc⟩ := by kernel_rfl
@[go_sem] theorem tl70 : tl Try.prog 70 = some ⟨.array, 2, 16, .agg #[.int .i64 0, .int .i64 0]⟩ := by kernel_rfl
@[go_sem] theorem elems70 : elems Try.prog 70 = some ((some 2), 3, 1) := by kernel_rfl
@[go_sem] theorem tl71 : tl Try.prog 71 = some ⟨.struct, 4, 32, .agg #[.int .i64 0, .int .i64 0, .int .i64 0, .bool false]⟩ := by kernel_rfl
@[go_sem] theorem flay71 : flay Try.prog 71 = some [(0, (1, false)), (1, (2, true)), (3, (1, false))] := by kernel_rfl
@[go_sem] theorem tl72 : tl Try.prog 72 = some ⟨.struct, 4, 32, .agg #[.int .i64 0, .int .i64 0, .int .i64 0, .bool false]⟩ := by kernel_rfl
@[go_sem] theorem flay72 : flay Try.prog 72 = some [(0, (1, false)), (1, (2, true)), (3, (1, false))] := by kernel_rfl
@[go_sem] theorem tl73 : tl Try.prog 73 = some ⟨.struct, 10, 80, .agg #[.int .i64 0, .int .i64 0, .int .i64 0, .bool false, .bool false, .int .i64 0, .int .i64 0, .int .i64 0, .int .i64 0, .int .i64 0]⟩ := by kernel_rfl
@[go_sem] theorem flay73 : flay Try.prog 73 = some [(0, (4, true)), (4, (1, false)), (5, (4, true)), (9, (1, false))] := by kernel_rfl
@[go_sem] theorem tl74 : tl Try.prog 74 = some ⟨.struct, 10, 80, .agg #[.int .i64 0, .int .i64 0, .int .i64 0, .bool false, .bool false, .int .i64 0, .int .i64 0, .int .i64 0, .int .i64 0, .int .i64 0]⟩ := by kernel_rfl
@[go_sem] theorem flay74 : flay Try.prog 74 = some [(0, (4, true)), (4, (1, false)), (5, (4, true)), (9, (1, false))] := by kernel_rfl
@[go_sem] theorem tl75 : tl Try.prog 75 = some ⟨.other, 1, 8, .nilFunc⟩ := by kernel_rfl
@[go_sem] theorem tl76 : tl Try.prog 76 = some ⟨.other, 1, 8, .nilFunc⟩ := by kernel_rfl
@[go_sem] theorem tl77 : tl Try.prog 77 = some ⟨.other, 1, 8, .nilFunc⟩ := by kernel_rfl
@[go_sem] theorem tl78 : tl Try.prog 78 = some ⟨.struct, 2, 48, .agg #[.slice none 0 0, .slice none 0 0]⟩ := by kernel_rfl
@[go_sem] theorem flay78 : flay Try.prog 78 = some [(0, (1, false)), (1, (1, false))] := by kernel_rfl
@[go_sem] theorem tl79 : tl Try.prog 79 = some ⟨.struct, 2, 48, .agg #[.slice none 0 0, .slice none 0 0]⟩ := by kernel_rfl
@[go_sem] theorem flay79 : flay Try.prog 79 = some [(0, (1, false)), (1, (1, false))] := by kernel_rfl
@[go_sem] theorem tl80 : tl Try.prog 80 = some ⟨.other, 1, 8, .nilFunc⟩ := by kernel_rfl
@[go_sem] theorem tl81 : tl Try.prog 81 = some ⟨.other, 1, 8, .nilFunc⟩ := by kernel_rfl
@[go_sem] theorem tl82 : tl Try.prog 82 = some ⟨.ptr, 1, 8, .pointer none⟩ := by kernel_rfl
@[go_sem] theorem tl83 : tl Try.prog 83 = some ⟨.other, 1, 8, .nilFunc⟩ := by kernel_rfl
@[go_sem] theorem tl84 : tl Try.prog 84 = some ⟨.other, 1, 8, .nilFunc⟩ := by kernel_rfl
@[go_sem] theorem tl85 : tl Try.prog 85 = some ⟨.ptr, 1, 8, .pointer none⟩ := by kernel_rfl
@[go_sem] theorem tl86 : tl Try.prog 86 = some ⟨.other, 1, 8, .nilFunc⟩ := by kernel_rfl
@[go_sem] theorem tl87 : tl Try.prog 87 = some ⟨.other, 1, 8, .nilFunc⟩ := by kernel_rfl
@[go_sem] theorem tl88 : tl Try.prog 88 = some ⟨.other, 1, 8, .nilFunc⟩ := by kernel_rfl
@[go_sem] theorem tl89 : tl Try.prog 89 = some ⟨.other, 1, 8, .nilFunc⟩ := by kernel_rfl
@[go_sem] theorem tl90 : tl Try.prog 90 = some ⟨.other, 1, 8, .nilFunc⟩ := by kernel_rfl
@[go_sem] theorem tl91 : tl Try.prog 91 = some ⟨.other, 1, 8, .nilFunc⟩ := by kernel_rfl
@[go_sem] theorem tl92 : tl Try.prog 92 = some ⟨.struct, 4, 40, .agg #[.pointer none, .pointer none, .pointer none, .string ⟨#[]⟩]⟩ := by kernel_rfl
@[go_sem] theorem flay92 : flay Try.prog 92 = some [(0, (1, false)), (1, (1, false)), (2, (1, false)), (3, (1, false))] := by kernel_rfl
@[go_sem] theorem tl93 : tl Try.prog 93 = some ⟨.struct, 4, 40, .agg #[.pointer none, .pointer none, .pointer none, .string ⟨#[]⟩]⟩ := by kernel_rfl
@[go_sem] theorem flay93 : flay Try.prog 93 = some [(0, (1, false)), (1, (1, false)), (2, (1, false)), (3, (1, false))] := by kernel_rfl
@[go_sem] theorem tl94 : tl Try.prog 94 = some ⟨.array, 0, 0, .agg #[]⟩ := by kernel_rfl
@[go_sem] theorem elems94 : elems Try.prog 94 = some ((some 0), 16, 1) := by kernel_rfl
@[go_sem] theorem tl95 : tl Try.prog 95 = some ⟨.struct, 0, 0, .agg #[]⟩ := by kernel_rfl
@[go_sem] theorem flay95 : flay Try.prog 95 = some [(0, (0, true))] := by kernel_rfl
@[go_sem] theorem tl96 : tl Try.prog 96 = some ⟨.struct, 0, 0, .agg #[]⟩ := by kernel_rfl
@[go_sem] theorem flay96 : flay Try.prog 96 = some [(0, (0, true))] := by kernel_rfl
@[go_sem] theorem tl97 : tl Try.prog 97 = some ⟨.other, 1, 8, .nilFunc⟩ := by kernel_rfl
@[go_sem] theorem tl98 : tl Try.prog 98 = some ⟨.int .u32, 1, 4, .int .u32 0⟩ := by kernel_rfl
@[go_sem] theorem tl99 : tl Try.prog 99 = some ⟨.int .u8, 1, 1, .int .u8 0⟩ := by kernel_rfl
@[go_sem] theorem tl100 : tl Try.prog 100 = some ⟨.int .u8, 1, 1, .int .u8 0⟩ := by kernel_rfl
@[go_sem] theorem tl101 : tl Try.prog 101 = some ⟨.other, 1, 8, .nilFunc⟩ := by kernel_rfl
@[go_sem] theorem tl102 : tl Try.prog 102 = some ⟨.ptr, 1, 8, .pointer none⟩ := by kernel_rfl
@[go_sem] theorem tl103 : tl Try.prog 103 = some ⟨.int .i32, 1, 4, .int .i32 0⟩ := by kernel_rfl
@[go_sem] theorem tl104 : tl Try.prog 104 = some ⟨.int .i32, 1, 4, .int .i32 0⟩ := by kernel_rfl
@[go_sem] theorem tl105 : tl Try.prog 105 = some ⟨.struct, 11, 48, .agg #[.int .u64 0, .int .u64 0, .int .u32 0, .int .u8 0, .int .u8 0, .int .u8 0, .int .u8 0, .nilFunc, .pointer none, .int .i32 0, .int .i32 0]⟩ := by kernel_rfl
@[go_sem] theorem flay105 : flay Try.prog 105 = some [(0, (1, false)), (1, (1, false)), (2, (1, false)), (3, (1, false)), (4, (1, false)), (5, (1, false)), (6, (1, false)), (7, (1, false)), (8, (1, false)), (9, (1, false)), (10, (1, false))] := by kernel_rfl
@[go_sem] theorem tl106 : tl Try.prog 106 = some ⟨.struct, 11, 48, .agg #[.int .u64 0, .int .u64 0, .int .u32 0, .int .u8 0, .int .u8 0, .int .u8 0, .int .u8 0, .nilFunc, .pointer none, .int .i32 0, .int .i32 0]⟩ := by kernel_rfl
@[go_sem] theorem flay106 : flay Try.prog 106 = some [(0, (1, false)), (1, (1, false)), (2, (1, false)), (3, (1, false)), (4, (1, false)), (5, (1, false)), (6, (1, false)), (7, (1, false)), (8, (1, false)), (9, (1, false)), (10, (1, false))] := by kernel_rfl
@[go_sem] theorem tl107 : tl Try.prog 107 = some ⟨.other, 1, 8, .pointer none⟩ := by kernel_rfl
theorem call5 (ha : args.size ≤ 113) (h : codeX Try.prog [] (Try.f5.body.getD .skip) (endQ Try.prog [.tmp 6] K) (Env.init args) H) : CallsH Try.prog 5 args H K :=
  callsH_of mixed [] 113 [.tmp 6] (f := 5) (fn := Try.f5) (by kernel_rfl) (by kernel_rfl) (c := Try.f5.body.getD .skip) (by kernel_rfl) (by kernel_rfl) (by kernel_rfl) (by kernel_rfl) ha h
theorem call7 (ha : args.size ≤ 88) (h : codeX Try.prog [] (Try.f7.body.getD .skip) (endQ Try.prog [.tmp 0] K) (Env.init args) H) : CallsH Try.prog 7 args H K :=
  callsH_of mixed [] 88 [.tmp 0] (f := 7) (fn := Try.f7) (by kernel_rfl) (by kernel_rfl) (c := Try.f7.body.getD .skip) (by kernel_rfl) (by kernel_rfl) (by kernel_rfl) (by kernel_rfl) ha h
theorem call8 (ha : args.size ≤ 17) (h : codeX Try.prog [] (Try.f8.body.getD .skip) (endQ Try.prog [.tmp 2, .tmp 3] K) (Env.init args) H) : CallsH Try.prog 8 args H K :=
  callsH_of mixed [] 17 [.tmp 2, .tmp 3] (f := 8) (fn := Try.f8) (by kernel_rfl) (by kernel_rfl) (c := Try.f8.body.getD .skip) (by kernel_rfl) (by kernel_rfl) (by kernel_rfl) (by kernel_rfl) ha h
theorem call9 (ha : args.size ≤ 13) (h : codeX Try.prog [] (Try.f9.body.getD .skip) (endQ Try.prog [.tmp 4] K) (Env.init args) H) : CallsH Try.prog 9 args H K :=
  callsH_of mixed [] 13 [.tmp 4] (f := 9) (fn := Try.f9) (by kernel_rfl) (by kernel_rfl) (c := Try.f9.body.getD .skip) (by kernel_rfl) (by kernel_rfl) (by kernel_rfl) (by kernel_rfl) ha h
theorem call10 (ha : args.size ≤ 152) (h : codeX Try.prog [12, 13, 14] (Try.f10.body.getD .skip) (endQ Try.prog [.tmp 10] K) (Env.init args) H) : CallsH Try.prog 10 args H K :=
  callsH_of mixed [12, 13, 14] 152 [.tmp 10] (f := 10) (fn := Try.f10) (by kernel_rfl) (by kernel_rfl) (c := Try.f10.body.getD .skip) (by kernel_rfl) (by kernel_rfl) (by kernel_rfl) (by kernel_rfl) ha h
theorem call11 (ha : args.size ≤ 30) (h : codeX Try.prog [] (Try.f11.body.getD .skip) (endQ Try.prog [.tmp 6, .tmp 7] K) (Env.init args) H) : CallsH Try.prog 11 args H K :=
  callsH_of mixed [] 30 [.tmp 6, .tmp 7] (f := 11) (fn := Try.f11) (by kernel_rfl) (by kernel_rfl) (c := Try.f11.body.getD .skip) (by kernel_rfl) (by kernel_rfl) (by kernel_rfl) (by kernel_rfl) ha h
theorem call12 (ha : args.size ≤ 37) (h : codeX Try.prog [] (Try.f12.body.getD .skip) (endQ Try.prog [.cell 6 31, .tmp 7] K) (Env.init args) H) : CallsH Try.prog 12 args H K :=
  callsH_of mixed [] 37 [.cell 6 31, .tmp 7] (f := 12) (fn := Try.f12) (by kernel_rfl) (by kernel_rfl) (c := Try.f12.body.getD .skip) (by kernel_rfl) (by kernel_rfl) (by kernel_rfl) (by kernel_rfl) ha h
theorem call13 (ha : args.size ≤ 26) (h : codeX Try.prog [6] (Try.f13.body.getD .skip) (endQ Try.prog [.tmp 4] K) (Env.init args) H) : CallsH Try.prog 13 args H K :=
  callsH_of mixed [6] 26 [.tmp 4] (f := 13) (fn := Try.f13) (by kernel_rfl) (by kernel_rfl) (c := Try.f13.body.getD .skip) (by kernel_rfl) (by kernel_rfl) (by kernel_rfl) (by kernel_rfl) ha h
theorem call14 (ha : args.size ≤ 24) (h : codeX Try.prog [] (Try.f14.body.getD .skip) (endQ Try.prog [.tmp 4] K) (Env.init args) H) : CallsH Try.prog 14 args H K :=
  callsH_of mixed [] 24 [.tmp 4] (f := 14) (fn := Try.f14) (by kernel_rfl) (by kernel_rfl) (c := Try.f14.body.getD .skip) (by kernel_rfl) (by kernel_rfl) (by kernel_rfl) (by kernel_rfl) ha h
theorem call15 (ha : args.size ≤ 20) (h : codeX Try.prog [] (Try.f15.body.getD .skip) (endQ Try.prog [.tmp 4] K) (Env.init args) H) : CallsH Try.prog 15 args H K :=
  callsH_of mixed [] 20 [.tmp 4] (f := 15) (fn := Try.f15) (by kernel_rfl) (by kernel_rfl) (c := Try.f15.body.getD .skip) (by kernel_rfl) (by kernel_rfl) (by kernel_rfl) (by kernel_rfl) ha h
theorem call16 (ha : args.size ≤ 16) (h : codeX Try.prog [] (Try.f16.body.getD .skip) (endQ Try.prog [.tmp 4, .tmp 5] K) (Env.init args) H) : CallsH Try.prog 16 args H K :=
  callsH_of mixed [] 16 [.tmp 4, .tmp 5] (f := 16) (fn := Try.f16) (by kernel_rfl) (by kernel_rfl) (c := Try.f16.body.getD .skip) (by kernel_rfl) (by kernel_rfl) (by kernel_rfl) (by kernel_rfl) ha h
theorem call17 (ha : args.size ≤ 14) (h : codeX Try.prog [] (Try.f17.body.getD .skip) (endQ Try.prog [.tmp 4] K) (Env.init args) H) : CallsH Try.prog 17 args H K :=
  callsH_of mixed [] 14 [.tmp 4] (f := 17) (fn := Try.f17) (by kernel_rfl) (by kernel_rfl) (c := Try.f17.body.getD .skip) (by kernel_rfl) (by kernel_rfl) (by kernel_rfl) (by kernel_rfl) ha h
theorem call18 (ha : args.size ≤ 31) (h : codeX Try.prog [] (Try.f18.body.getD .skip) (endQ Try.prog [.tmp 2, .tmp 3] K) (Env.init args) H) : CallsH Try.prog 18 args H K :=
  callsH_of mixed [] 31 [.tmp 2, .tmp 3] (f := 18) (fn := Try.f18) (by kernel_rfl) (by kernel_rfl) (c := Try.f18.body.getD .skip) (by kernel_rfl) (by kernel_rfl) (by kernel_rfl) (by kernel_rfl) ha h
theorem call19 (ha : args.size ≤ 246) (h : codeX Try.prog [9, 10, 13, 14, 21, 22] (Try.f19.body.getD .skip) (endQ Try.prog [.tmp 4] K) (Env.init args) H) : CallsH Try.prog 19 args H K :=
  callsH_of mixed [9, 10, 13, 14, 21, 22] 246 [.tmp 4] (f := 19) (fn := Try.f19) (by kernel_rfl) (by kernel_rfl) (c := Try.f19.body.getD .skip) (by kernel_rfl) (by kernel_rfl) (by kernel_rfl) (by kernel_rfl) ha h
theorem call20 (ha : args.size ≤ 184) (h : codeX Try.prog [12] (Try.f20.body.getD .skip) (endQ Try.prog [.tmp 2] K) (Env.init args) H) : CallsH Try.prog 20 args H K :=
  callsH_of mixed [12] 184 [.tmp 2] (f := 20) (fn := Try.f20) (by kernel_rfl) (by kernel_rfl) (c := Try.f20.body.getD .skip) (by kernel_rfl) (by kernel_rfl) (by kernel_rfl) (by kernel_rfl) ha h
theorem call22 (ha : args.size ≤ 67) (h : codeX Try.prog [] (Try.f22.body.getD .skip) (endQ Try.prog [.tmp 4] K) (Env.init args) H) : CallsH Try.prog 22 args H K :=
  callsH_of mixed [] 67 [.tmp 4] (f := 22) (fn := Try.f22) (by kernel_rfl) (by kernel_rfl) (c := Try.f22.body.getD .skip) (by kernel_rfl) (by kernel_rfl) (by kernel_rfl) (by kernel_rfl) ha h
theorem call23 (ha : args.size ≤ 20) (h : codeX Try.prog [] (Try.f23.body.getD .skip) (endQ Try.prog [.tmp 6, .tmp 7] K) (Env.init args) H) : CallsH Try.prog 23 args H K :=
  callsH_of mixed [] 20 [.tmp 6, .tmp 7] (f := 23) (fn := Try.f23) (by kernel_rfl) (by kernel_rfl) (c := Try.f23.body.getD .skip) (by kernel_rfl) (by kernel_rfl) (by kernel_rfl) (by kernel_rfl) ha h
theorem call25 (ha : args.size ≤ 9) (h : codeX Try.prog [] (Try.f25.body.getD .skip) (endQ Try.prog [.tmp 4] K) (Env.init args) H) : CallsH Try.prog 25 args H K :=
  callsH_of mixed [] 9 [.tmp 4] (f := 25) (fn := Try.f25) (by kernel_rfl) (by kernel_rfl) (c := Try.f25.body.getD .skip) (by kernel_rfl) (by kernel_rfl) (by kernel_rfl) (by kernel_rfl) ha h
theorem call26 (ha : args.size ≤ 19) (h : codeX Try.prog [] (Try.f26.body.getD .skip) (endQ Try.prog [.tmp 6] K) (Env.init args) H) : CallsH Try.prog 26 args H K :=
  callsH_of mixed [] 19 [.tmp 6] (f := 26) (fn := Try.f26) (by kernel_rfl) (by kernel_rfl) (c := Try.f26.body.getD .skip) (by kernel_rfl) (by kernel_rfl) (by kernel_rfl) (by kernel_rfl) ha h
theorem call27 (ha : args.size ≤ 18) (h : codeX Try.prog [] (Try.f27.body.getD .skip) (endQ Try.prog [] K) (Env.init args) H) : CallsH Try.prog 27 args H K :=
  callsH_of mixed [] 18 [] (f := 27) (fn := Try.f27) (by kernel_rfl) (by kernel_rfl) (c := Try.f27.body.getD .skip) (by kernel_rfl) (by kernel_rfl) (by kernel_rfl) (by kernel_rfl) ha h
theorem call28 (ha : args.size ≤ 28) (h : codeX Try.prog [] (Try.f28.body.getD .skip) (endQ Try.prog [] K) (Env.init args) H) : CallsH Try.prog 28 args H K :=
  callsH_of mixed [] 28 [] (f := 28) (fn := Try.f28) (by kernel_rfl) (by kernel_rfl) (c := Try.f28.body.getD .skip) (by kernel_rfl) (by kernel_rfl) (by kernel_rfl) (by kernel_rfl) ha h
theorem call29 (ha : args.size ≤ 68) (h : codeX Try.prog [] (Try.f29.body.getD .skip) (endQ Try.prog [] K) (Env.init args) H) : CallsH Try.prog 29 args H K :=
  callsH_of mixed [] 68 [] (f := 29) (fn := Try.f29) (by kernel_rfl) (by kernel_rfl) (c := Try.f29.body.getD .skip) (by kernel_rfl) (by kernel_rfl) (by kernel_rfl) (by kernel_rfl) ha h
theorem call30 (ha : args.size ≤ 42) (h : codeX Try.prog [] (Try.f30.body.getD .skip) (endQ Try.prog [] K) (Env.init args) H) : CallsH Try.prog 30 args H K :=
  callsH_of mixed [] 42 [] (f := 30) (fn := Try.f30) (by kernel_rfl) (by kernel_rfl) (c := Try.f30.body.getD .skip) (by kernel_rfl) (by kernel_rfl) (by kernel_rfl) (by kernel_rfl) ha h
theorem call31 (ha : args.size ≤ 19) (h : codeX Try.prog [0] (Try.f31.body.getD .skip) (endQ Try.prog [] K) (Env.init args) H) : CallsH Try.prog 31 args H K :=
  callsH_of mixed [0] 19 [] (f := 31) (fn := Try.f31) (by kernel_rfl) (by kernel_rfl) (c := Try.f31.body.getD .skip) (by kernel_rfl) (by kernel_rfl) (by kernel_rfl) (by kernel_rfl) ha h
theorem call32 (ha : args.size ≤ 29) (h : codeX Try.prog [] (Try.f32.body.getD .skip) (endQ Try.prog [.tmp 4] K) (Env.init args) H) : CallsH Try.prog 32 args H K :=
  callsH_of mixed [] 29 [.tmp 4] (f := 32) (fn := Try.f32) (by kernel_rfl) (by kernel_rfl) (c := Try.f32.body.getD .skip) (by kernel_rfl) (by kernel_rfl) (by kernel_rfl) (by kernel_rfl) ha h
theorem call33 (ha : args.size ≤ 64) (h : codeX Try.prog [] (Try.f33.body.getD .skip) (endQ Try.prog [.tmp 10] K) (Env.init args) H) : CallsH Try.prog 33 args H K :=
  callsH_of mixed [] 64 [.tmp 10] (f := 33) (fn := Try.f33) (by kernel_rfl) (by kernel_rfl) (c := Try.f33.body.getD .skip) (by kernel_rfl) (by kernel_rfl) (by kernel_rfl) (by kernel_rfl) ha h
theorem call34 (ha : args.size ≤ 24) (h : codeX Try.prog [] (Try.f34.body.getD .skip) (endQ Try.prog [.tmp 4] K) (Env.init args) H) : CallsH Try.prog 34 args H K :=
  callsH_of mixed [] 24 [.tmp 4] (f := 34) (fn := Try.f34) (by kernel_rfl) (by kernel_rfl) (c := Try.f34.body.getD .skip) (by kernel_rfl) (by kernel_rfl) (by kernel_rfl) (by kernel_rfl) ha h
theorem call35 (ha : args.size ≤ 12) (h : codeX Try.prog [] (Try.f35.body.getD .skip) (endQ Try.prog [.tmp 4] K) (Env.init args) H) : CallsH Try.prog 35 args H K :=
  callsH_of mixed [] 12 [.tmp 4] (f := 35) (fn := Try.f35) (by kernel_rfl) (by kernel_rfl) (c := Try.f35.body.getD .skip) (by kernel_rfl) (by kernel_rfl) (by kernel_rfl) (by kernel_rfl) ha h
theorem call36 (ha : args.size ≤ 13) (h : codeX Try.prog [] (Try.f36.body.getD .skip) (endQ Try.prog [.tmp 4, .tmp 5] K) (Env.init args) H) : CallsH Try.prog 36 args H K :=
  callsH_of mixed [] 13 [.tmp 4, .tmp 5] (f := 36) (fn := Try.f36) (by kernel_rfl) (by kernel_rfl) (c := Try.f36.body.getD .skip) (by kernel_rfl) (by kernel_rfl) (by kernel_rfl) (by kernel_rfl) ha h
theorem call37 (ha : args.size ≤ 22) (h : codeX Try.prog [] (Try.f37.body.getD .skip) (endQ Try.prog [.tmp 6, .tmp 7] K) (Env.init args) H) : CallsH Try.prog 37 args H K :=
  callsH_of mixed [] 22 [.tmp 6, .tmp 7] (f := 37) (fn := Try.f37) (by kernel_rfl) (by kernel_rfl) (c := Try.f37.body.getD .skip) (by kernel_rfl) (by kernel_rfl) (by kernel_rfl) (by kernel_rfl) ha h
theorem call38 (ha : args.size ≤ 58) (h : codeX Try.prog [11] (Try.f38.body.getD .skip) (endQ Try.prog [.cell 6 31, .tmp 7] K) (Env.init args) H) : CallsH Try.prog 38 args H K :=
  callsH_of mixed [11] 58 [.cell 6 31, .tmp 7] (f := 38) (fn := Try.f38) (by kernel_rfl) (by kernel_rfl) (c := Try.f38.body.getD .skip) (by kernel_rfl) (by kernel_rfl) (by kernel_rfl) (by kernel_rfl) ha h
theorem call39 (ha : args.size ≤ 44) (h : codeX Try.prog [] (Try.f39.body.getD .skip) (endQ Try.prog [.tmp 6, .tmp 7] K) (Env.init args) H) : CallsH Try.prog 39 args H K :=
  callsH_of mixed [] 44 [.tmp 6, .tmp 7] (f := 39) (fn := Try.f39) (by kernel_rfl) (by kernel_rfl) (c := Try.f39.body.getD .skip) (by kernel_rfl) (by kernel_rfl) (by kernel_rfl) (by kernel_rfl) ha h
theorem call40 (ha : args.size ≤ 40) (h : codeX Try.prog [] (Try.f40.body.getD .skip) (endQ Try.prog [] K) (Env.init args) H) : CallsH Try.prog 40 args H K :=
  callsH_of mixed [] 40 [] (f := 40) (fn := Try.f40) (by kernel_rfl) (by kernel_rfl) (c := Try.f40.body.getD .skip) (by kernel_rfl) (by kernel_rfl) (by kernel_rfl) (by kernel_rfl) ha h
theorem call41 (ha : args.size ≤ 9) (h : codeX Try.prog [] (Try.f41.body.getD .skip) (endQ Try.prog [.tmp 4] K) (Env.init args) H) : CallsH Try.prog 41 args H K :=
  callsH_of mixed [] 9 [.tmp 4] (f := 41) (fn := Try.f41) (by kernel_rfl) (by kernel_rfl) (c := Try.f41.body.getD .skip) (by kernel_rfl) (by kernel_rfl) (by kernel_rfl) (by kernel_rfl) ha h
theorem call42 (ha : args.size ≤ 14) (h : codeX Try.prog [] (Try.f42.body.getD .skip) (endQ Try.prog [.tmp 3] K) (Env.init args) H) : CallsH Try.prog 42 args H K :=
  callsH_of mixed [] 14 [.tmp 3] (f := 42) (fn := Try.f42) (by kernel_rfl) (by kernel_rfl) (c := Try.f42.body.getD .skip) (by kernel_rfl) (by kernel_rfl) (by kernel_rfl) (by kernel_rfl) ha h
theorem call43 (ha : args.size ≤ 38) (h : codeX Try.prog [] (Try.f43.body.getD .skip) (endQ Try.prog [] K) (Env.init args) H) : CallsH Try.prog 43 args H K :=
  callsH_of mixed [] 38 [] (f := 43) (fn := Try.f43) (by kernel_rfl) (by kernel_rfl) (c := Try.f43.body.getD .skip) (by kernel_rfl) (by kernel_rfl) (by kernel_rfl) (by kernel_rfl) ha h
theorem call44 (ha : args.size ≤ 28) (h : codeX Try.prog [] (Try.f44.body.getD .skip) (endQ Try.prog [] K) (Env.init args) H) : CallsH Try.prog 44 args H K :=
  callsH_of mixed [] 28 [] (f := 44) (fn := Try.f44) (by kernel_rfl) (by kernel_rfl) (c := Try.f44.body.getD .skip) (by kernel_rfl) (by kernel_rfl) (by kernel_rfl) (by kernel_rfl) ha h
theorem call46 (ha : args.size ≤ 19) (h : codeX Try.prog [] (Try.f46.body.getD .skip) (endQ Try.prog [.tmp 6] K) (Env.init args) H) : CallsH Try.prog 46 args H K :=
  callsH_of mixed [] 19 [.tmp 6] (f := 46) (fn := Try.f46) (by kernel_rfl) (by kernel_rfl) (c := Try.f46.body.getD .skip) (by kernel_rfl) (by kernel_rfl) (by kernel_rfl) (by kernel_rfl) ha h
theorem call47 (ha : args.size ≤ 36) (h : codeX Try.prog [] (Try.f47.body.getD .skip) (endQ Try.prog [.tmp 4] K) (Env.init args) H) : CallsH Try.prog 47 args H K :=
  callsH_of mixed [] 36 [.tmp 4] (f := 47) (fn := Try.f47) (by kernel_rfl) (by kernel_rfl) (c := Try.f47.body.getD .skip) (by kernel_rfl) (by kernel_rfl) (by kernel_rfl) (by kernel_rfl) ha h
theorem call48 (ha : args.size ≤ 21) (h : codeX Try.prog [] (Try.f48.body.getD .skip) (endQ Try.prog [.tmp 4] K) (Env.init args) H) : CallsH Try.prog 48 args H K :=
  callsH_of mixed [] 21 [.tmp 4] (f := 48) (fn := Try.f48) (by kernel_rfl) (by kernel_rfl) (c := Try.f48.body.getD .skip) (by kernel_rfl) (by kernel_rfl) (by kernel_rfl) (by kernel_rfl) ha h
theorem call49 (ha : args.size ≤ 42) (h : codeX Try.prog [6] (Try.f49.body.getD .skip) (endQ Try.prog [] K) (Env.init args) H) : CallsH Try.prog 49 args H K :=
  callsH_of mixed [6] 42 [] (f := 49) (fn := Try.f49) (by kernel_rfl) (by kernel_rfl) (c := Try.f49.body.getD .skip) (by kernel_rfl) (by kernel_rfl) (by kernel_rfl) (by kernel_rfl) ha h
theorem call50 (ha : args.size ≤ 16) (h : codeX Try.prog [] (Try.f50.body.getD .skip) (endQ Try.prog [.tmp 4] K) (Env.init args) H) : CallsH Try.prog 50 args H K :=
  callsH_of mixed [] 16 [.tmp 4] (f := 50) (fn := Try.f50) (by kernel_rfl) (by kernel_rfl) (c := Try.f50.body.getD .skip) (by kernel_rfl) (by kernel_rfl) (by kernel_rfl) (by kernel_rfl) ha h
theorem call51 (ha : args.size ≤ 66) (h : codeX Try.prog [3] (Try.f51.body.getD .skip) (endQ Try.prog [.tmp 6] K) (Env.init args) H) : CallsH Try.prog 51 args H K :=
  callsH_of mixed [3] 66 [.tmp 6] (f := 51) (fn := Try.f51) (by kernel_rfl) (by kernel_rfl) (c := Try.f51.body.getD .skip) (by kernel_rfl) (by kernel_rfl) (by kernel_rfl) (by kernel_rfl) ha h
theorem call52 (ha : args.size ≤ 24) (h : codeX Try.prog [] (Try.f52.body.getD .skip) (endQ Try.prog [.tmp 4] K) (Env.init args) H) : CallsH Try.prog 52 args H K :=
  callsH_of mixed [] 24 [.tmp 4] (f := 52) (fn := Try.f52) (by kernel_rfl) (by kernel_rfl) (c := Try.f52.body.getD .skip) (by kernel_rfl) (by kernel_rfl) (by kernel_rfl) (by kernel_rfl) ha h
theorem call53 (ha : args.size ≤ 56) (h : codeX Try.prog [1] (Try.f53.body.getD .skip) (endQ Try.prog [] K) (Env.init args) H) : CallsH Try.prog 53 args H K :=
  callsH_of mixed [1] 56 [] (f := 53) (fn := Try.f53) (by kernel_rfl) (by kernel_rfl) (c := Try.f53.body.getD .skip) (by kernel_rfl) (by kernel_rfl) (by kernel_rfl) (by kernel_rfl) ha h
theorem call54 (ha : args.size ≤ 19) (h : codeX Try.prog [] (Try.f54.body.getD .skip) (endQ Try.prog [.tmp 4] K) (Env.init args) H) : CallsH Try.prog 54 args H K :=
  callsH_of mixed [] 19 [.tmp 4] (f := 54) (fn := Try.f54) (by kernel_rfl) (by kernel_rfl) (c := Try.f54.body.getD .skip) (by kernel_rfl) (by kernel_rfl) (by kernel_rfl) (by kernel_rfl) ha h
theorem call55 (ha : args.size ≤ 29) (h : codeX Try.prog [] (Try.f55.body.getD .skip) (endQ Try.prog [.tmp 4] K) (Env.init args) H) : CallsH Try.prog 55 args H K :=
  callsH_of mixed [] 29 [.tmp 4] (f := 55) (fn := Try.f55) (by kernel_rfl) (by kernel_rfl) (c := Try.f55.body.getD .skip) (by kernel_rfl) (by kernel_rfl) (by kernel_rfl) (by kernel_rfl) ha h
theorem call56 (ha : args.size ≤ 4) (h : codeX Try.prog [] (Try.f56.body.getD .skip) (endQ Try.prog [.tmp 2] K) (Env.init args) H) : CallsH Try.prog 56 args H K :=
  callsH_of mixed [] 4 [.tmp 2] (f := 56) (fn := Try.f56) (by kernel_rfl) (by kernel_rfl) (c := Try.f56.body.getD .skip) (by kernel_rfl) (by kernel_rfl) (by kernel_rfl) (by kernel_rfl) ha h
theorem call57 (ha : args.size ≤ 118) (h : codeX Try.prog [] (Try.f57.body.getD .skip) (endQ Try.prog [] K) (Env.init args) H) : CallsH Try.prog 57 args H K :=
  callsH_of mixed [] 118 [] (f := 57) (fn := Try.f57) (by kernel_rfl) (by kernel_rfl) (c := Try.f57.body.getD .skip) (by kernel_rfl) (by kernel_rfl) (by kernel_rfl) (by kernel_rfl) ha h
theorem call58 (ha : args.size ≤ 32) (h : codeX Try.prog [] (Try.f58.body.getD .skip) (endQ Try.prog [.tmp 4] K) (Env.init args) H) : CallsH Try.prog 58 args H K :=
  callsH_of mixed [] 32 [.tmp 4] (f := 58) (fn := Try.f58) (by kernel_rfl) (by kernel_rfl) (c := Try.f58.body.getD .skip) (by kernel_rfl) (by kernel_rfl) (by kernel_rfl) (by kernel_rfl) ha h
theorem call59 (ha : args.size ≤ 55) (h : codeX Try.prog [] (Try.f59.body.getD .skip) (endQ Try.prog [.tmp 6] K) (Env.init args) H) : CallsH Try.prog 59 args H K :=
  callsH_of mixed [] 55 [.tmp 6] (f := 59) (fn := Try.f59) (by kernel_rfl) (by kernel_rfl) (c := Try.f59.body.getD .skip) (by kernel_rfl) (by kernel_rfl) (by kernel_rfl) (by kernel_rfl) ha h
theorem call60 (ha : args.size ≤ 21) (h : codeX Try.prog [] (Try.f60.body.getD .skip) (endQ Try.prog [.tmp 4] K) (Env.init args) H) : CallsH Try.prog 60 args H K :=
  callsH_of mixed [] 21 [.tmp 4] (f := 60) (fn := Try.f60) (by kernel_rfl) (by kernel_rfl) (c := Try.f60.body.getD .skip) (by kernel_rfl) (by kernel_rfl) (by kernel_rfl) (by kernel_rfl) ha h
theorem call61 (ha : args.size ≤ 19) (h : codeX Try.prog [] (Try.f61.body.getD .skip) (endQ Try.prog [] K) (Env.init args) H) : CallsH Try.prog 61 args H K :=
  callsH_of mixed [] 19 [] (f := 61) (fn := Try.f61) (by kernel_rfl) (by kernel_rfl) (c := Try.f61.body.getD .skip) (by kernel_rfl) (by kernel_rfl) (by kernel_rfl) (by kernel_rfl) ha h
theorem call62 (ha : args.size ≤ 19) (h : codeX Try.prog [] (Try.f62.body.getD .skip) (endQ Try.prog [.tmp 4] K) (Env.init args) H) : CallsH Try.prog 62 args H K :=
  callsH_of mixed [] 19 [.tmp 4] (f := 62) (fn := Try.f62) (by kernel_rfl) (by kernel_rfl) (c := Try.f62.body.getD .skip) (by kernel_rfl) (by kernel_rfl) (by kernel_rfl) (by kernel_rfl) ha h
end Go.Proofs.Ytoplhfhjokjbiaa
