/-
  What the program's tables say of types and of functions (written by facts.py of this claim's maker; each row is checked by the kernel).
-/
import Derived.Test.YtpeaogldojepnaaProg
import Derived.Test.YtpeaogldojepnaaHpJ
import Derived.KernelRfl
namespace Go.Proofs.Ytpeaogldojepnaa
open Go Go.Hp
set_option maxRecDepth 100000
set_option linter.all false
variable {args : Array Value} {H : Heap} {K : Value → Heap → Prop}
theorem mixed : Try.prog.follows .mixedOrders = true := by kernel_rfl
@[go_sem] theorem tl1 : tl Try.prog 1 = some ⟨.other, 1, 8, .nilFunc⟩ := by kernel_rfl
@[go_sem] theorem tl2 : tl Try.prog 2 = some ⟨.int .i64, 1, 8, .int .i64 0⟩ := by kernel_rfl
@[go_sem] theorem tl3 : tl Try.prog 3 = some ⟨.int .i64, 1, 8, .int .i64 0⟩ := by kernel_rfl
@[go_sem] theorem tl4 : tl Try.prog 4 = some ⟨.bool, 1, 1, .bool false⟩ := by kernel_rfl
@[go_sem] theorem tl5 : tl Try.prog 5 = some ⟨.int .u8, 1, 1, .int .u8 0⟩ := by kernel_rfl
@[go_sem] theorem tl6 : tl Try.prog 6 = some ⟨.int .u8, 1, 1, .int .u8 0⟩ := by kernel_rfl
@[go_sem] theorem tl7 : tl Try.prog 7 = some ⟨.struct, 4, 24, .agg #[.int .i64 0, .int .i64 0, .bool false, .int .u8 0]⟩ := by kernel_rfl
@[go_sem] theorem flay7 : flay Try.prog 7 = some [(0, (1, false)), (1, (1, false)), (2, (1, false)), (3, (1, false))] := by kernel_rfl
@[go_sem] theorem tl8 : tl Try.prog 8 = some ⟨.struct, 4, 24, .agg #[.int .i64 0, .int .i64 0, .bool false, .int .u8 0]⟩ := by kernel_rfl
@[go_sem] theorem flay8 : flay Try.prog 8 = some [(0, (1, false)), (1, (1, false)), (2, (1, false)), (3, (1, false))] := by kernel_rfl
@[go_sem] theorem tl9 : tl Try.prog 9 = some ⟨.string, 1, 16, .string ⟨#[]⟩⟩ := by kernel_rfl
@[go_sem] theorem tl10 : tl Try.prog 10 = some ⟨.string, 1, 16, .string ⟨#[]⟩⟩ := by kernel_rfl
@[go_sem] theorem tl11 : tl Try.prog 11 = some ⟨.string, 1, 16, .string ⟨#[]⟩⟩ := by kernel_rfl
@[go_sem] theorem tl12 : tl Try.prog 12 = some ⟨.int .u64, 1, 8, .int .u64 0⟩ := by kernel_rfl
@[go_sem] theorem tl13 : tl Try.prog 13 = some ⟨.struct, 2, 24, .agg #[.string ⟨#[]⟩, .int .u64 0]⟩ := by kernel_rfl
@[go_sem] theorem flay13 : flay Try.prog 13 = some [(0, (1, false)), (1, (1, false))] := by kernel_rfl
@[go_sem] theorem tl14 : tl Try.prog 14 = some ⟨.struct, 2, 24, .agg #[.string ⟨#[]⟩, .int .u64 0]⟩ := by kernel_rfl
@[go_sem] theorem flay14 : flay Try.prog 14 = some [(0, (1, false)), (1, (1, false))] := by kernel_rfl
@[go_sem] theorem tl15 : tl Try.prog 15 = some ⟨.ptr, 1, 8, .pointer none⟩ := by kernel_rfl
@[go_sem] theorem tl16 : tl Try.prog 16 = some ⟨.ptr, 1, 8, .pointer none⟩ := by kernel_rfl
@[go_sem] theorem tl17 : tl Try.prog 17 = some ⟨.ptr, 1, 8, .pointer none⟩ := by kernel_rfl
@[go_sem] theorem tl18 : tl Try.prog 18 = some ⟨.struct, 1, 8, .agg #[.pointer none]⟩ := by kernel_rfl
@[go_sem] theorem flay18 : flay Try.prog 18 = some [(0, (1, false))] := by kernel_rfl
@[go_sem] theorem tl19 : tl Try.prog 19 = some ⟨.struct, 1, 8, .agg #[.pointer none]⟩ := by kernel_rfl
@[go_sem] theorem flay19 : flay Try.prog 19 = some [(0, (1, false))] := by kernel_rfl
@[go_sem] theorem tl20 : tl Try.prog 20 = some ⟨.other, 1, 16, .nilIface⟩ := by kernel_rfl
@[go_sem] theorem tl21 : tl Try.prog 21 = some ⟨.int .i32, 1, 4, .int .i32 0⟩ := by kernel_rfl
@[go_sem] theorem tl22 : tl Try.prog 22 = some ⟨.slice, 1, 24, .slice none 0 0⟩ := by kernel_rfl
@[go_sem] theorem elems22 : elems Try.prog 22 = some (Option.none, 54, 2) := by kernel_rfl
@[go_sem] theorem tl23 : tl Try.prog 23 = some ⟨.other, 1, 8, .nilFunc⟩ := by kernel_rfl
@[go_sem] theorem tl24 : tl Try.prog 24 = some ⟨.other, 1, 8, .nilFunc⟩ := by kernel_rfl
@[go_sem] theorem tl25 : tl Try.prog 25 = some ⟨.slice, 1, 24, .slice none 0 0⟩ := by kernel_rfl
@[go_sem] theorem elems25 : elems Try.prog 25 = some (Option.none, 35, 4) := by kernel_rfl
@[go_sem] theorem tl26 : tl Try.prog 26 = some ⟨.other, 1, 8, .nilFunc⟩ := by kernel_rfl
@[go_sem] theorem tl27 : tl Try.prog 27 = some ⟨.ptr, 1, 8, .pointer none⟩ := by kernel_rfl
@[go_sem] theorem tl28 : tl Try.prog 28 = some ⟨.int .i64, 1, 8, .int .i64 0⟩ := by kernel_rfl
@[go_sem] theorem tl30 : tl Try.prog 30 = some ⟨.other, 1, 8, .nilFunc⟩ := by kernel_rfl
@[go_sem] theorem tl31 : tl Try.prog 31 = some ⟨.other, 1, 8, .nilFunc⟩ := by kernel_rfl
@[go_sem] theorem tl32 : tl Try.prog 32 = some ⟨.slice, 1, 24, .slice none 0 0⟩ := by kernel_rfl
@[go_sem] theorem elems32 : elems Try.prog 32 = some (Option.none, 3, 1) := by kernel_rfl
@[go_sem] theorem tl33 : tl Try.prog 33 = some ⟨.other, 1, 8, .nilFunc⟩ := by kernel_rfl
@[go_sem] theorem tl34 : tl Try.prog 34 = some ⟨.struct, 4, 32, .agg #[.int .i64 0, .int .i64 0, .int .i64 0, .int .i64 0]⟩ := by kernel_rfl
@[go_sem] theorem flay34 : flay Try.prog 34 = some [(0, (1, false)), (1, (1, false)), (2, (1, false)), (3, (1, false))] := by kernel_rfl
@[go_sem] theorem tl35 : tl Try.prog 35 = some ⟨.struct, 4, 32, .agg #[.int .i64 0, .int .i64 0, .int .i64 0, .int .i64 0]⟩ := by kernel_rfl
@[go_sem] theorem flay35 : flay Try.prog 35 = some [(0, (1, false)), (1, (1, false)), (2, (1, false)), (3, (1, false))] := by kernel_rfl
@[go_sem] theorem tl36 : tl Try.prog 36 = some ⟨.other, 1, 8, .nilFunc⟩ := by kernel_rfl
@[go_sem] theorem tl37 : tl Try.prog 37 = some ⟨.other, 1, 8, .nilFunc⟩ := by kernel_rfl
@[go_sem] theorem tl39 : tl Try.prog 39 = some ⟨.other, 1, 8, .nilFunc⟩ := by kernel_rfl
@[go_sem] theorem tl40 : tl Try.prog 40 = some ⟨.other, 1, 8, .nilFunc⟩ := by kernel_rfl
@[go_sem] theorem tl41 : tl Try.prog 41 = some ⟨.other, 1, 8, .nilFunc⟩ := by kernel_rfl
@[go_sem] theorem tl42 : tl Try.prog 42 = some ⟨.ptr, 1, 8, .pointer none⟩ := by kernel_rfl
@[go_sem] theorem tl44 : tl Try.prog 44 = some ⟨.other, 1, 8, .nilFunc⟩ := by kernel_rfl
@[go_sem] theorem tl45 : tl Try.prog 45 = some ⟨.other, 1, 8, .nilFunc⟩ := by kernel_rfl
@[go_sem] theorem tl46 : tl Try.prog 46 = some ⟨.other, 1, 8, .nilFunc⟩ := by kernel_rfl
@[go_sem] theorem tl47 : tl Try.prog 47 = some ⟨.other, 1, 8, .nilFunc⟩ := by kernel_rfl
@[go_sem] theorem tl48 : tl Try.prog 48 = some ⟨.other, 1, 8, .nilFunc⟩ := by kernel_rfl
@[go_sem] theorem tl49 : tl Try.prog 49 = some ⟨.other, 1, 8, .nilFunc⟩ := by kernel_rfl
@[go_sem] theorem tl51 : tl Try.prog 51 = some ⟨.other, 1, 8, .nilFunc⟩ := by kernel_rfl
@[go_sem] theorem tl52 : tl Try.prog 52 = some ⟨.other, 1, 8, .nilFunc⟩ := by kernel_rfl
@[go_sem] theorem tl53 : tl Try.prog 53 = some ⟨.struct, 2, 16, .agg #[.int .i64 0, .int .i64 0]⟩ := by kernel_rfl
@[go_sem] theorem flay53 : flay Try.prog 53 = some [(0, (1, false)), (1, (1, false))] := by kernel_rfl
@[go_sem] theorem tl54 : tl Try.prog 54 = some ⟨.struct, 2, 16, .agg #[.int .i64 0, .int .i64 0]⟩ := by kernel_rfl
@[go_sem] theorem flay54 : flay Try.prog 54 = some [(0, (1, false)), (1, (1, false))] := by kernel_rfl
@[go_sem] theorem tl55 : tl Try.prog 55 = some ⟨.other, 1, 8, .nilFunc⟩ := by kernel_rfl
@[go_sem] theorem tl56 : tl Try.prog 56 = some ⟨.ptr, 1, 8, .pointer none⟩ := by kernel_rfl
@[go_sem] theorem tl57 : tl Try.prog 57 = some ⟨.slice, 1, 24, .slice none 0 0⟩ := by kernel_rfl
@[go_sem] theorem elems57 : elems Try.prog 57 = some (Option.none, 32, 1) := by kernel_rfl
@[go_sem] theorem tl58 : tl Try.prog 58 = some ⟨.slice, 1, 24, .slice none 0 0⟩ := by kernel_rfl
@[go_sem] theorem elems58 : elems Try.prog 58 = some (Option.none, 4, 1) := by kernel_rfl
@[go_sem] theorem tl59 : tl Try.prog 59 = some ⟨.struct, 6, 128, .agg #[.slice none 0 0, .slice none 0 0, .slice none 0 0, .slice none 0 0, .int .i64 0, .slice none 0 0]⟩ := by kernel_rfl
@[go_sem] theorem flay59 : flay Try.prog 59 = some [(0, (1, false)), (1, (1, false)), (2, (1, false)), (3, (1, false)), (4, (1, false)), (5, (1, false))] := by kernel_rfl
@[go_sem] theorem tl60 : tl Try.prog 60 = some ⟨.struct, 6, 128, .agg #[.slice none 0 0, .slice none 0 0, .slice none 0 0, .slice none 0 0, .int .i64 0, .slice none 0 0]⟩ := by kernel_rfl
@[go_sem] theorem flay60 : flay Try.prog 60 = some [(0, (1, false)), (1, (1, false)), (2, (1, false)), (3, (1, false)), (4, (1, false)), (5, (1, false))] := by kernel_rfl
@[go_sem] theorem tl61 : tl Try.prog 61 = some ⟨.other, 1, 8, .nilFunc⟩ := by kernel_rfl
@[go_sem] theorem tl62 : tl Try.prog 62 = some ⟨.struct, 2, 48, .agg #[.slice none 0 0, .slice none 0 0]⟩ := by kernel_rfl
@[go_sem] theorem flay62 : flay Try.prog 62 = some [(0, (1, false)), (1, (1, false))] := by kernel_rfl
@[go_sem] theorem tl63 : tl Try.prog 63 = some ⟨.struct, 2, 48, .agg #[.slice none 0 0, .slice none 0 0]⟩ := by kernel_rfl
@[go_sem] theorem flay63 : flay Try.prog 63 = some [(0, (1, false)), (1, (1, false))] := by kernel_rfl
@[go_sem] theorem tl64 : tl Try.prog 64 = some ⟨.other, 1, 8, .nilFunc⟩ := by kernel_rfl
@[go_sem] theorem tl65 : tl Try.prog 65 = some ⟨.other, 1, 8, .nilFunc⟩ := by kernel_rfl
@[go_sem] theorem tl66 : tl Try.prog 66 = some ⟨.other, 1, 8, .nilFunc⟩ := by kernel_rfl
@[go_sem] theorem tl67 : tl Try.prog 67 = some ⟨.other, 1, 8, .nilFunc⟩ := by kernel_rfl
@[go_sem] theorem tl68 : tl Try.prog 68 = some ⟨.struct, 3, 56, .agg #[.int .i64 0, .slice none 0 0, .slice none 0 0]⟩ := by kernel_rfl
@[go_sem] theorem flay68 : flay Try.prog 68 = some [(0, (1, false)), (1, (1, false)), (2, (1, false))] := by kernel_rfl
@[go_sem] theorem tl69 : tl Try.prog 69 = some ⟨.struct, 3, 56, .agg #[.int .i64 0, .slice none 0 0, .slice none 0 0]⟩ := by kernel_rfl
@[go_sem] theorem flay69 : flay Try.prog 69 = some [(0, (1, false)), (1, (1, false)), (2, (1, false))] := by kernel_rfl
@[go_sem] theorem tl70 : tl Try.prog 70 = some ⟨.map, 1, 8, .map none⟩ := by kernel_rfl
@[go_sem] theorem tl72 : tl Try.prog 72 = some ⟨.struct, 3, 24, .agg #[.int .i64 0, .int .i64 0, .int .i64 0]⟩ := by kernel_rfl
@[go_sem] theorem flay72 : flay Try.prog 72 = some [(0, (1, false)), (1, (1, false)), (2, (1, false))] := by kernel_rfl
@[go_sem] theorem tl73 : tl Try.prog 73 = some ⟨.struct, 3, 24, .agg #[.int .i64 0, .int .i64 0, .int .i64 0]⟩ := by kernel_rfl
@[go_sem] theorem flay73 : flay Try.prog 73 = some [(0, (1, false)), (1, (1, false)), (2, (1, false))] := by kernel_rfl
@[go_sem] theorem tl74 : tl Try.prog 74 = some ⟨.other, 1, 8, .nilFunc⟩ := by kernel_rfl
@[go_sem] theorem tl75 : tl Try.prog 75 = some ⟨.slice, 1, 24, .slice none 0 0⟩ := by kernel_rfl
@[go_sem] theorem elems75 : elems Try.prog 75 = some (Option.none, 73, 3) := by kernel_rfl
@[go_sem] theorem tl76 : tl Try.prog 76 = some ⟨.ptr, 1, 8, .pointer none⟩ := by kernel_rfl
@[go_sem] theorem tl77 : tl Try.prog 77 = some ⟨.other, 1, 8, .nilFunc⟩ := by kernel_rfl
@[go_sem] theorem tl78 : tl Try.prog 78 = some ⟨.other, 1, 8, .nilFunc⟩ := by kernel_rfl
@[go_sem] theorem tl79 : tl Try.prog 79 = some ⟨.int .u64, 1, 8, .int .u64 0⟩ := by kernel_rfl
@[go_sem] theorem tl80 : tl Try.prog 80 = some ⟨.other, 1, 8, .nilFunc⟩ := by kernel_rfl
@[go_sem] theorem tl81 : tl Try.prog 81 = some ⟨.int .i64, 1, 8, .int .i64 0⟩ := by kernel_rfl
@[go_sem] theorem tl83 : tl Try.prog 83 = some ⟨.other, 1, 8, .nilFunc⟩ := by kernel_rfl
@[go_sem] theorem tl84 : tl Try.prog 84 = some ⟨.other, 1, 8, .nilFunc⟩ := by kernel_rfl
@[go_sem] theorem tl85 : tl Try.prog 85 = some ⟨.other, 1, 8, .nilFunc⟩ := by kernel_rfl
@[go_sem] theorem tl86 : tl Try.prog 86 = some ⟨.other, 1, 8, .nilFunc⟩ := by kernel_rfl
@[go_sem] theorem tl87 : tl Try.prog 87 = some ⟨.other, 1, 8, .nilFunc⟩ := by kernel_rfl
@[go_sem] theorem tl88 : tl Try.prog 88 = some ⟨.other, 1, 8, .nilFunc⟩ := by kernel_rfl
@[go_sem] theorem tl89 : tl Try.prog 89 = some ⟨.int .u32, 1, 4, .int .u32 0⟩ := by kernel_rfl
@[go_sem] theorem tl90 : tl Try.prog 90 = some ⟨.other, 1, 8, .nilFunc⟩ := by kernel_rfl
@[go_sem] theorem tl91 : tl Try.prog 91 = some ⟨.int .u64, 1, 8, .int .u64 0⟩ := by kernel_rfl
@[go_sem] theorem tl92 : tl Try.prog 92 = some ⟨.int .u64, 1, 8, .int .u64 0⟩ := by kernel_rfl
@[go_sem] theorem tl93 : tl Try.prog 93 = some ⟨.other, 1, 8, .nilFunc⟩ := by kernel_rfl
@[go_sem] theorem tl94 : tl Try.prog 94 = some ⟨.other, 1, 8, .nilFunc⟩ := by kernel_rfl
@[go_sem] theorem tl95 : tl Try.prog 95 = some ⟨.other, 1, 8, .nilFunc⟩ := by kernel_rfl
@[go_sem] theorem tl96 : tl Try.prog 96 = some ⟨.ptr, 1, 8, .pointer none⟩ := by kernel_rfl
@[go_sem] theorem tl97 : tl Try.prog 97 = some ⟨.other, 1, 8, .nilFunc⟩ := by kernel_rfl
@[go_sem] theorem tl98 : tl Try.prog 98 = some ⟨.ptr, 1, 8, .pointer none⟩ := by kernel_rfl
@[go_sem] theorem tl100 : tl Try.prog 100 = some ⟨.other, 1, 8, .nilFunc⟩ := by kernel_rfl
@[go_sem] theorem tl101 : tl Try.prog 101 = some ⟨.other, 1, 8, .nilFunc⟩ := by kernel_rfl
@[go_sem] theorem tl102 : tl Try.prog 102 = some ⟨.struct, 4, 40, .agg #[.pointer none, .pointer none, .pointer none, .string ⟨#[]⟩]⟩ := by kernel_rfl
@[go_sem] theorem flay102 : flay Try.prog 102 = some [(0, (1, false)), (1, (1, false)), (2, (1, false)), (3, (1, false))] := by kernel_rfl
@[go_sem] theorem tl103 : tl Try.prog 103 = some ⟨.struct, 4, 40, .agg #[.pointer none, .pointer none, .pointer none, .string ⟨#[]⟩]⟩ := by kernel_rfl
@[go_sem] theorem flay103 : flay Try.prog 103 = some [(0, (1, false)), (1, (1, false)), (2, (1, false)), (3, (1, false))] := by kernel_rfl
@[go_sem] theorem tl104 : tl Try.prog 104 = some ⟨.array, 0, 0, .agg #[]⟩ := by kernel_rfl
@[go_sem] theorem elems104 : elems Try.prog 104 = some ((some 0), 16, 1) := by kernel_rfl
@[go_sem] theorem tl105 : tl Try.prog 105 = some ⟨.struct, 0, 0, .agg #[]⟩ := by kernel_rfl
@[go_sem] theorem flay105 : flay Try.prog 105 = some [(0, (0, true))] := by kernel_rfl
@[go_sem] theorem tl106 : tl Try.prog 106 = some ⟨.struct, 0, 0, .agg #[]⟩ := by kernel_rfl
@[go_sem] theorem flay106 : flay Try.prog 106 = some [(0, (0, true))] := by kernel_rfl
@[go_sem] theorem tl107 : tl Try.prog 107 = some ⟨.int .u8, 1, 1, .int .u8 0⟩ := by kernel_rfl
@[go_sem] theorem tl108 : tl Try.prog 108 = some ⟨.int .u8, 1, 1, .int .u8 0⟩ := by kernel_rfl
@[go_sem] theorem tl109 : tl Try.prog 109 = some ⟨.other, 1, 8, .nilFunc⟩ := by kernel_rfl
@[go_sem] theorem tl110 : tl Try.prog 110 = some ⟨.ptr, 1, 8, .pointer none⟩ := by kernel_rfl
@[go_sem] theorem tl111 : tl Try.prog 111 = some ⟨.int .i32, 1, 4, .int .i32 0⟩ := by kernel_rfl
@[go_sem] theorem tl112 : tl Try.prog 112 = some ⟨.int .i32, 1, 4, .int .i32 0⟩ := by kernel_rfl
@[go_sem] theorem tl113 : tl Try.prog 113 = some ⟨.struct, 11, 48, .agg #[.int .u64 0, .int .u64 0, .int .u32 0, .int .u8 0, .int .u8 0, .int .u8 0, .int .u8 0, .nilFunc, .pointer none, .int .i32 0, .int .i32 0]⟩ := by kernel_rfl
@[go_sem] theorem flay113 : flay Try.prog 113 = some [(0, (1, false)), (1, (1, false)), (2, (1, false)), (3, (1, false)), (4, (1, false)), (5, (1, false)), (6, (1, false)), (7, (1, false)), (8, (1, false)), (9, (1, false)), (10, (1, false))] := by kernel_rfl
@[go_sem] theorem tl114 : tl Try.prog 114 = some ⟨.struct, 11, 48, .agg #[.int .u64 0, .int .u64 0, .int .u32 0, .int .u8 0, .int .u8 0, .int .u8 0, .int .u8 0, .nilFunc, .pointer none, .int .i32 0, .int .i32 0]⟩ := by kernel_rfl
@[go_sem] theorem flay114 : flay Try.prog 114 = some [(0, (1, false)), (1, (1, false)), (2, (1, false)), (3, (1, false)), (4, (1, false)), (5, (1, false)), (6, (1, false)), (7, (1, false)), (8, (1, false)), (9, (1, false)), (10, (1, false))] := by kernel_rfl
@[go_sem] theorem tl115 : tl Try.prog 115 = some ⟨.other, 1, 8, .pointer none⟩ := by kernel_rfl
theorem call4 (ha : args.size ≤ 151) (h : codeX Try.prog [13] (Try.f4.body.getD .skip) (endQ Try.prog [.tmp 6] K) (Env.init args) H) : CallsH Try.prog 4 args H K :=
  callsH_of mixed [13] 151 [.tmp 6] (f := 4) (fn := Try.f4) (by kernel_rfl) (by kernel_rfl) (c := Try.f4.body.getD .skip) (by kernel_rfl) (by kernel_rfl) (by kernel_rfl) (by kernel_rfl) ha h
theorem call5 (ha : args.size ≤ 125) (h : codeX Try.prog [] (Try.f5.body.getD .skip) (endQ Try.prog [.tmp 8] K) (Env.init args) H) : CallsH Try.prog 5 args H K :=
  callsH_of mixed [] 125 [.tmp 8] (f := 5) (fn := Try.f5) (by kernel_rfl) (by kernel_rfl) (c := Try.f5.body.getD .skip) (by kernel_rfl) (by kernel_rfl) (by kernel_rfl) (by kernel_rfl) ha h
theorem call8 (ha : args.size ≤ 47) (h : codeX Try.prog [] (Try.f8.body.getD .skip) (endQ Try.prog [.tmp 0] K) (Env.init args) H) : CallsH Try.prog 8 args H K :=
  callsH_of mixed [] 47 [.tmp 0] (f := 8) (fn := Try.f8) (by kernel_rfl) (by kernel_rfl) (c := Try.f8.body.getD .skip) (by kernel_rfl) (by kernel_rfl) (by kernel_rfl) (by kernel_rfl) ha h
theorem call9 (ha : args.size ≤ 13) (h : codeX Try.prog [] (Try.f9.body.getD .skip) (endQ Try.prog [.tmp 4] K) (Env.init args) H) : CallsH Try.prog 9 args H K :=
  callsH_of mixed [] 13 [.tmp 4] (f := 9) (fn := Try.f9) (by kernel_rfl) (by kernel_rfl) (c := Try.f9.body.getD .skip) (by kernel_rfl) (by kernel_rfl) (by kernel_rfl) (by kernel_rfl) ha h
theorem call10 (ha : args.size ≤ 50) (h : codeX Try.prog [] (Try.f10.body.getD .skip) (endQ Try.prog [.tmp 6] K) (Env.init args) H) : CallsH Try.prog 10 args H K :=
  callsH_of mixed [] 50 [.tmp 6] (f := 10) (fn := Try.f10) (by kernel_rfl) (by kernel_rfl) (c := Try.f10.body.getD .skip) (by kernel_rfl) (by kernel_rfl) (by kernel_rfl) (by kernel_rfl) ha h
theorem call11 (ha : args.size ≤ 138) (h : codeX Try.prog [23] (Try.f11.body.getD .skip) (endQ Try.prog [.tmp 4, .tmp 5] K) (Env.init args) H) : CallsH Try.prog 11 args H K :=
  callsH_of mixed [23] 138 [.tmp 4, .tmp 5] (f := 11) (fn := Try.f11) (by kernel_rfl) (by kernel_rfl) (c := Try.f11.body.getD .skip) (by kernel_rfl) (by kernel_rfl) (by kernel_rfl) (by kernel_rfl) ha h
theorem call12 (ha : args.size ≤ 25) (h : codeX Try.prog [] (Try.f12.body.getD .skip) (endQ Try.prog [.tmp 4] K) (Env.init args) H) : CallsH Try.prog 12 args H K :=
  callsH_of mixed [] 25 [.tmp 4] (f := 12) (fn := Try.f12) (by kernel_rfl) (by kernel_rfl) (c := Try.f12.body.getD .skip) (by kernel_rfl) (by kernel_rfl) (by kernel_rfl) (by kernel_rfl) ha h
theorem call13 (ha : args.size ≤ 9) (h : codeX Try.prog [] (Try.f13.body.getD .skip) (endQ Try.prog [.tmp 2] K) (Env.init args) H) : CallsH Try.prog 13 args H K :=
  callsH_of mixed [] 9 [.tmp 2] (f := 13) (fn := Try.f13) (by kernel_rfl) (by kernel_rfl) (c := Try.f13.body.getD .skip) (by kernel_rfl) (by kernel_rfl) (by kernel_rfl) (by kernel_rfl) ha h
theorem call14 (ha : args.size ≤ 23) (h : codeX Try.prog [] (Try.f14.body.getD .skip) (endQ Try.prog [.tmp 2] K) (Env.init args) H) : CallsH Try.prog 14 args H K :=
  callsH_of mixed [] 23 [.tmp 2] (f := 14) (fn := Try.f14) (by kernel_rfl) (by kernel_rfl) (c := Try.f14.body.getD .skip) (by kernel_rfl) (by kernel_rfl) (by kernel_rfl) (by kernel_rfl) ha h
theorem call15 (ha : args.size ≤ 17) (h : codeX Try.prog [] (Try.f15.body.getD .skip) (endQ Try.prog [.tmp 4, .tmp 5] K) (Env.init args) H) : CallsH Try.prog 15 args H K :=
  callsH_of mixed [] 17 [.tmp 4, .tmp 5] (f := 15) (fn := Try.f15) (by kernel_rfl) (by kernel_rfl) (c := Try.f15.body.getD .skip) (by kernel_rfl) (by kernel_rfl) (by kernel_rfl) (by kernel_rfl) ha h
theorem call16 (ha : args.size ≤ 26) (h : codeX Try.prog [6] (Try.f16.body.getD .skip) (endQ Try.prog [.tmp 4] K) (Env.init args) H) : CallsH Try.prog 16 args H K :=
  callsH_of mixed [6] 26 [.tmp 4] (f := 16) (fn := Try.f16) (by kernel_rfl) (by kernel_rfl) (c := Try.f16.body.getD .skip) (by kernel_rfl) (by kernel_rfl) (by kernel_rfl) (by kernel_rfl) ha h
theorem call17 (ha : args.size ≤ 143) (h : codeX Try.prog [18, 21] (Try.f17.body.getD .skip) (endQ Try.prog [.tmp 4, .tmp 5] K) (Env.init args) H) : CallsH Try.prog 17 args H K :=
  callsH_of mixed [18, 21] 143 [.tmp 4, .tmp 5] (f := 17) (fn := Try.f17) (by kernel_rfl) (by kernel_rfl) (c := Try.f17.body.getD .skip) (by kernel_rfl) (by kernel_rfl) (by kernel_rfl) (by kernel_rfl) ha h
theorem call18 (ha : args.size ≤ 16) (h : codeX Try.prog [] (Try.f18.body.getD .skip) (endQ Try.prog [.tmp 2] K) (Env.init args) H) : CallsH Try.prog 18 args H K :=
  callsH_of mixed [] 16 [.tmp 2] (f := 18) (fn := Try.f18) (by kernel_rfl) (by kernel_rfl) (c := Try.f18.body.getD .skip) (by kernel_rfl) (by kernel_rfl) (by kernel_rfl) (by kernel_rfl) ha h
theorem call19 (ha : args.size ≤ 60) (h : codeX Try.prog [6] (Try.f19.body.getD .skip) (endQ Try.prog [.tmp 4] K) (Env.init args) H) : CallsH Try.prog 19 args H K :=
  callsH_of mixed [6] 60 [.tmp 4] (f := 19) (fn := Try.f19) (by kernel_rfl) (by kernel_rfl) (c := Try.f19.body.getD .skip) (by kernel_rfl) (by kernel_rfl) (by kernel_rfl) (by kernel_rfl) ha h
theorem call20 (ha : args.size ≤ 152) (h : codeX Try.prog [] (Try.f20.body.getD .skip) (endQ Try.prog [.tmp 4] K) (Env.init args) H) : CallsH Try.prog 20 args H K :=
  callsH_of mixed [] 152 [.tmp 4] (f := 20) (fn := Try.f20) (by kernel_rfl) (by kernel_rfl) (c := Try.f20.body.getD .skip) (by kernel_rfl) (by kernel_rfl) (by kernel_rfl) (by kernel_rfl) ha h
theorem call21 (ha : args.size ≤ 69) (h : codeX Try.prog [] (Try.f21.body.getD .skip) (endQ Try.prog [.tmp 4] K) (Env.init args) H) : CallsH Try.prog 21 args H K :=
  callsH_of mixed [] 69 [.tmp 4] (f := 21) (fn := Try.f21) (by kernel_rfl) (by kernel_rfl) (c := Try.f21.body.getD .skip) (by kernel_rfl) (by kernel_rfl) (by kernel_rfl) (by kernel_rfl) ha h
theorem call22 (ha : args.size ≤ 33) (h : codeX Try.prog [3] (Try.f22.body.getD .skip) (endQ Try.prog [.tmp 6, .tmp 7] K) (Env.init args) H) : CallsH Try.prog 22 args H K :=
  callsH_of mixed [3] 33 [.tmp 6, .tmp 7] (f := 22) (fn := Try.f22) (by kernel_rfl) (by kernel_rfl) (c := Try.f22.body.getD .skip) (by kernel_rfl) (by kernel_rfl) (by kernel_rfl) (by kernel_rfl) ha h
theorem call23 (ha : args.size ≤ 73) (h : codeX Try.prog [] (Try.f23.body.getD .skip) (endQ Try.prog [.tmp 4] K) (Env.init args) H) : CallsH Try.prog 23 args H K :=
  callsH_of mixed [] 73 [.tmp 4] (f := 23) (fn := Try.f23) (by kernel_rfl) (by kernel_rfl) (c := Try.f23.body.getD .skip) (by kernel_rfl) (by kernel_rfl) (by kernel_rfl) (by kernel_rfl) ha h
theorem call24 (ha : args.size ≤ 194) (h : codeX Try.prog [3, 4, 7, 10, 15, 16] (Try.f24.body.getD .skip) (endQ Try.prog [] K) (Env.init args) H) : CallsH Try.prog 24 args H K :=
  callsH_of mixed [3, 4, 7, 10, 15, 16] 194 [] (f := 24) (fn := Try.f24) (by kernel_rfl) (by kernel_rfl) (c := Try.f24.body.getD .skip) (by kernel_rfl) (by kernel_rfl) (by kernel_rfl) (by kernel_rfl) ha h
theorem call25 (ha : args.size ≤ 113) (h : codeX Try.prog [19] (Try.f25.body.getD .skip) (endQ Try.prog [.tmp 2] K) (Env.init args) H) : CallsH Try.prog 25 args H K :=
  callsH_of mixed [19] 113 [.tmp 2] (f := 25) (fn := Try.f25) (by kernel_rfl) (by kernel_rfl) (c := Try.f25.body.getD .skip) (by kernel_rfl) (by kernel_rfl) (by kernel_rfl) (by kernel_rfl) ha h
theorem call29 (ha : args.size ≤ 16) (h : codeX Try.prog [] (Try.f29.body.getD .skip) (endQ Try.prog [.tmp 4] K) (Env.init args) H) : CallsH Try.prog 29 args H K :=
  callsH_of mixed [] 16 [.tmp 4] (f := 29) (fn := Try.f29) (by kernel_rfl) (by kernel_rfl) (c := Try.f29.body.getD .skip) (by kernel_rfl) (by kernel_rfl) (by kernel_rfl) (by kernel_rfl) ha h
theorem call30 (ha : args.size ≤ 73) (h : codeX Try.prog [7] (Try.f30.body.getD .skip) (endQ Try.prog [.tmp 6] K) (Env.init args) H) : CallsH Try.prog 30 args H K :=
  callsH_of mixed [7] 73 [.tmp 6] (f := 30) (fn := Try.f30) (by kernel_rfl) (by kernel_rfl) (c := Try.f30.body.getD .skip) (by kernel_rfl) (by kernel_rfl) (by kernel_rfl) (by kernel_rfl) ha h
theorem call31 (ha : args.size ≤ 10) (h : codeX Try.prog [] (Try.f31.body.getD .skip) (endQ Try.prog [.tmp 2] K) (Env.init args) H) : CallsH Try.prog 31 args H K :=
  callsH_of mixed [] 10 [.tmp 2] (f := 31) (fn := Try.f31) (by kernel_rfl) (by kernel_rfl) (c := Try.f31.body.getD .skip) (by kernel_rfl) (by kernel_rfl) (by kernel_rfl) (by kernel_rfl) ha h
theorem call32 (ha : args.size ≤ 25) (h : codeX Try.prog [] (Try.f32.body.getD .skip) (endQ Try.prog [.tmp 2] K) (Env.init args) H) : CallsH Try.prog 32 args H K :=
  callsH_of mixed [] 25 [.tmp 2] (f := 32) (fn := Try.f32) (by kernel_rfl) (by kernel_rfl) (c := Try.f32.body.getD .skip) (by kernel_rfl) (by kernel_rfl) (by kernel_rfl) (by kernel_rfl) ha h
theorem call33 (ha : args.size ≤ 17) (h : codeX Try.prog [] (Try.f33.body.getD .skip) (endQ Try.prog [.tmp 4, .tmp 5] K) (Env.init args) H) : CallsH Try.prog 33 args H K :=
  callsH_of mixed [] 17 [.tmp 4, .tmp 5] (f := 33) (fn := Try.f33) (by kernel_rfl) (by kernel_rfl) (c := Try.f33.body.getD .skip) (by kernel_rfl) (by kernel_rfl) (by kernel_rfl) (by kernel_rfl) ha h
theorem call34 (ha : args.size ≤ 37) (h : codeX Try.prog [5] (Try.f34.body.getD .skip) (endQ Try.prog [.tmp 6, .tmp 7] K) (Env.init args) H) : CallsH Try.prog 34 args H K :=
  callsH_of mixed [5] 37 [.tmp 6, .tmp 7] (f := 34) (fn := Try.f34) (by kernel_rfl) (by kernel_rfl) (c := Try.f34.body.getD .skip) (by kernel_rfl) (by kernel_rfl) (by kernel_rfl) (by kernel_rfl) ha h
theorem call35 (ha : args.size ≤ 37) (h : codeX Try.prog [2] (Try.f35.body.getD .skip) (endQ Try.prog [.cell 6 73] K) (Env.init args) H) : CallsH Try.prog 35 args H K :=
  callsH_of mixed [2] 37 [.cell 6 73] (f := 35) (fn := Try.f35) (by kernel_rfl) (by kernel_rfl) (c := Try.f35.body.getD .skip) (by kernel_rfl) (by kernel_rfl) (by kernel_rfl) (by kernel_rfl) ha h
theorem call38 (ha : args.size ≤ 15) (h : codeX Try.prog [] (Try.f38.body.getD .skip) (endQ Try.prog [.tmp 4] K) (Env.init args) H) : CallsH Try.prog 38 args H K :=
  callsH_of mixed [] 15 [.tmp 4] (f := 38) (fn := Try.f38) (by kernel_rfl) (by kernel_rfl) (c := Try.f38.body.getD .skip) (by kernel_rfl) (by kernel_rfl) (by kernel_rfl) (by kernel_rfl) ha h
end Go.Proofs.Ytpeaogldojepnaa
