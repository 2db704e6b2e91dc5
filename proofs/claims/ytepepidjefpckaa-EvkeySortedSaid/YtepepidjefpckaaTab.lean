/- The type table of the translation, by program (gentab.py), and that it is the translation's own. -/
import Derived.Test.YtepepidjefpckaaC1
namespace Go.Proofs.Ytepepidjefpckaa.Abs
def ty1 : Ty := ⟨1, 8, false, [.nilFunc], .func⟩
def ty2 : Ty := ⟨1, 8, false, [.int .i64 0], (.int .i64)⟩
def ty3 : Ty := ⟨1, 8, false, [.int .i64 0], (.int .i64)⟩
def ty4 : Ty := ⟨1, 1, false, [.bool false], .bool⟩
def ty5 : Ty := ⟨1, 1, false, [.int .u8 0], (.int .u8)⟩
def ty6 : Ty := ⟨1, 1, false, [.int .u8 0], (.int .u8)⟩
def ty7 : Ty := ⟨4, 24, true, [.int .i64 0, .int .i64 0, .bool false, .int .u8 0], (.struct [(0, 2), (1, 3), (2, 4), (3, 6)])⟩
def ty8 : Ty := ⟨4, 24, true, [.int .i64 0, .int .i64 0, .bool false, .int .u8 0], (.struct [(0, 2), (1, 3), (2, 4), (3, 6)])⟩
def ty12 : Ty := ⟨1, 8, false, [.int .u64 0], (.int .u64)⟩
def ty15 : Ty := ⟨1, 8, false, [.pointer none], (.ptr 63)⟩
def ty16 : Ty := ⟨1, 8, false, [.pointer none], (.ptr 66)⟩
def ty17 : Ty := ⟨1, 8, false, [.pointer none], (.ptr 76)⟩
def ty18 : Ty := ⟨1, 8, true, [.pointer none], (.struct [(0, 17)])⟩
def ty19 : Ty := ⟨1, 8, true, [.pointer none], (.struct [(0, 17)])⟩
def ty20 : Ty := ⟨1, 16, false, [.nilIface], .iface⟩
def ty21 : Ty := ⟨1, 4, false, [.int .i32 0], (.int .i32)⟩
def ty22 : Ty := ⟨1, 8, false, [.int .u64 0], (.int .u64)⟩
def ty23 : Ty := ⟨1, 8, false, [.nilFunc], .func⟩
def ty24 : Ty := ⟨1, 8, false, [.nilFunc], .func⟩
def ty25 : Ty := ⟨1, 8, false, [.nilFunc], .func⟩
def ty26 : Ty := ⟨1, 8, false, [.nilFunc], .func⟩
def ty27 : Ty := ⟨1, 8, false, [.nilFunc], .func⟩
def ty28 : Ty := ⟨1, 8, false, [.nilFunc], .func⟩
def ty29 : Ty := ⟨1, 8, false, [.nilFunc], .func⟩
def ty30 : Ty := ⟨1, 8, false, [.nilFunc], .func⟩
def ty31 : Ty := ⟨3, 24, true, [.int .i64 0, .int .i64 0, .int .i64 0], (.struct [(0, 3), (1, 3), (2, 3)])⟩
def ty32 : Ty := ⟨3, 24, true, [.int .i64 0, .int .i64 0, .int .i64 0], (.struct [(0, 3), (1, 3), (2, 3)])⟩
def ty33 : Ty := ⟨1, 24, false, [.slice none 0 0], (.slice 3)⟩
def ty34 : Ty := ⟨1, 24, false, [.slice none 0 0], (.slice 38)⟩
def ty35 : Ty := ⟨1, 8, false, [.nilFunc], .func⟩
def ty36 : Ty := ⟨1, 8, false, [.nilFunc], .func⟩
def ty37 : Ty := ⟨6, 64, true, [.int .i64 0, .slice none 0 0, .int .i64 0, .int .i64 0, .int .i64 0, .int .i64 0], (.struct [(0, 3), (1, 33), (2, 3), (3, 3), (4, 3), (5, 3)])⟩
def ty38 : Ty := ⟨6, 64, true, [.int .i64 0, .slice none 0 0, .int .i64 0, .int .i64 0, .int .i64 0, .int .i64 0], (.struct [(0, 3), (1, 33), (2, 3), (3, 3), (4, 3), (5, 3)])⟩
def ty39 : Ty := ⟨1, 8, false, [.nilFunc], .func⟩
def ty40 : Ty := ⟨1, 8, false, [.nilFunc], .func⟩
def ty41 : Ty := ⟨1, 8, false, [.nilFunc], .func⟩
def ty42 : Ty := ⟨1, 8, false, [.nilFunc], .func⟩
def ty43 : Ty := ⟨1, 8, false, [.nilFunc], .func⟩
def ty44 : Ty := ⟨1, 8, false, [.nilFunc], .func⟩
def ty45 : Ty := ⟨1, 8, false, [.nilFunc], .func⟩
def ty46 : Ty := ⟨1, 8, false, [.nilFunc], .func⟩
def ty47 : Ty := ⟨1, 8, false, [.nilFunc], .func⟩
def ty48 : Ty := ⟨1, 8, false, [.nilFunc], .func⟩
def ty49 : Ty := ⟨1, 24, false, [.slice none 0 0], (.slice 4)⟩
def ty50 : Ty := ⟨1, 8, false, [.nilFunc], .func⟩
def ty51 : Ty := ⟨1, 8, false, [.nilFunc], .func⟩
def ty52 : Ty := ⟨1, 8, false, [.int .u64 0], (.int .u64)⟩
def ty53 : Ty := ⟨1, 8, false, [.int .i64 0], (.int .i64)⟩
def ty54 : Ty := ⟨1, 8, false, [.nilFunc], .func⟩
def ty55 : Ty := ⟨1, 8, false, [.nilFunc], .func⟩
def ty56 : Ty := ⟨1, 8, false, [.nilFunc], .func⟩
def ty57 : Ty := ⟨1, 8, false, [.nilFunc], .func⟩
def ty58 : Ty := ⟨1, 8, false, [.nilFunc], .func⟩
def ty59 : Ty := ⟨1, 8, false, [.nilFunc], .func⟩
def ty60 : Ty := ⟨1, 8, false, [.nilFunc], .func⟩
def ty61 : Ty := ⟨1, 8, false, [.nilFunc], .func⟩
def ty64 : Ty := ⟨0, 0, true, [], (.array 0 16)⟩
def ty65 : Ty := ⟨0, 0, true, [], (.struct [(0, 64)])⟩
def ty66 : Ty := ⟨0, 0, true, [], (.struct [(0, 64)])⟩
def ty67 : Ty := ⟨1, 8, false, [.nilFunc], .func⟩
def ty68 : Ty := ⟨1, 4, false, [.int .u32 0], (.int .u32)⟩
def ty69 : Ty := ⟨1, 1, false, [.int .u8 0], (.int .u8)⟩
def ty70 : Ty := ⟨1, 1, false, [.int .u8 0], (.int .u8)⟩
def ty71 : Ty := ⟨1, 8, false, [.nilFunc], .func⟩
def ty72 : Ty := ⟨1, 8, false, [.pointer none], (.ptr 5)⟩
def ty73 : Ty := ⟨1, 4, false, [.int .i32 0], (.int .i32)⟩
def ty74 : Ty := ⟨1, 4, false, [.int .i32 0], (.int .i32)⟩
def ty75 : Ty := ⟨11, 48, true, [.int .u64 0, .int .u64 0, .int .u32 0, .int .u8 0, .int .u8 0, .int .u8 0, .int .u8 0, .nilFunc, .pointer none, .int .i32 0, .int .i32 0], (.struct [(0, 12), (1, 12), (2, 68), (3, 69), (4, 5), (5, 5), (6, 70), (7, 71), (8, 72), (9, 73), (10, 74)])⟩
def ty76 : Ty := ⟨11, 48, true, [.int .u64 0, .int .u64 0, .int .u32 0, .int .u8 0, .int .u8 0, .int .u8 0, .int .u8 0, .nilFunc, .pointer none, .int .i32 0, .int .i32 0], (.struct [(0, 12), (1, 12), (2, 68), (3, 69), (4, 5), (5, 5), (6, 70), (7, 71), (8, 72), (9, 73), (10, 74)])⟩
def tabT : TT := (.node 40 ty40 (.node 23 ty23 (.node 12 ty12 (.node 5 ty5 (.node 3 ty3 (.node 2 ty2 (.node 1 ty1 .leaf .leaf) .leaf) (.node 4 ty4 .leaf .leaf)) (.node 7 ty7 (.node 6 ty6 .leaf .leaf) (.node 8 ty8 .leaf .leaf))) (.node 19 ty19 (.node 17 ty17 (.node 16 ty16 (.node 15 ty15 .leaf .leaf) .leaf) (.node 18 ty18 .leaf .leaf)) (.node 21 ty21 (.node 20 ty20 .leaf .leaf) (.node 22 ty22 .leaf .leaf)))) (.node 32 ty32 (.node 28 ty28 (.node 26 ty26 (.node 25 ty25 (.node 24 ty24 .leaf .leaf) .leaf) (.node 27 ty27 .leaf .leaf)) (.node 30 ty30 (.node 29 ty29 .leaf .leaf) (.node 31 ty31 .leaf .leaf))) (.node 36 ty36 (.node 34 ty34 (.node 33 ty33 .leaf .leaf) (.node 35 ty35 .leaf .leaf)) (.node 38 ty38 (.node 37 ty37 .leaf .leaf) (.node 39 ty39 .leaf .leaf))))) (.node 58 ty58 (.node 49 ty49 (.node 45 ty45 (.node 43 ty43 (.node 42 ty42 (.node 41 ty41 .leaf .leaf) .leaf) (.node 44 ty44 .leaf .leaf)) (.node 47 ty47 (.node 46 ty46 .leaf .leaf) (.node 48 ty48 .leaf .leaf))) (.node 54 ty54 (.node 52 ty52 (.node 51 ty51 (.node 50 ty50 .leaf .leaf) .leaf) (.node 53 ty53 .leaf .leaf)) (.node 56 ty56 (.node 55 ty55 .leaf .leaf) (.node 57 ty57 .leaf .leaf)))) (.node 69 ty69 (.node 65 ty65 (.node 61 ty61 (.node 60 ty60 (.node 59 ty59 .leaf .leaf) .leaf) (.node 64 ty64 .leaf .leaf)) (.node 67 ty67 (.node 66 ty66 .leaf .leaf) (.node 68 ty68 .leaf .leaf))) (.node 73 ty73 (.node 71 ty71 (.node 70 ty70 .leaf .leaf) (.node 72 ty72 .leaf .leaf)) (.node 75 ty75 (.node 74 ty74 .leaf .leaf) (.node 76 ty76 .leaf .leaf))))))
def tab : Tab := tabT.get
theorem tyOk1 : TyOk Try.prog 1 ty1 := TyOk.mk' (z := (.nilFunc)) (by kernel_rfl) rfl (fun h => by cases h) Try.underlying1 (.func _ _ _) rfl
theorem tyOk2 : TyOk Try.prog 2 ty2 := TyOk.mk' (z := (.int .i64 0)) (by kernel_rfl) rfl (fun h => by cases h) Try.underlying2 (.int _) rfl
theorem tyOk3 : TyOk Try.prog 3 ty3 := TyOk.mk' (z := (.int .i64 0)) (by kernel_rfl) rfl (fun h => by cases h) Try.underlying3 (.int _) rfl
theorem tyOk4 : TyOk Try.prog 4 ty4 := TyOk.mk' (z := (.bool false)) (by kernel_rfl) rfl (fun h => by cases h) Try.underlying4 (.bool) rfl
theorem tyOk5 : TyOk Try.prog 5 ty5 := TyOk.mk' (z := (.int .u8 0)) (by kernel_rfl) rfl (fun h => by cases h) Try.underlying5 (.int _) rfl
theorem tyOk6 : TyOk Try.prog 6 ty6 := TyOk.mk' (z := (.int .u8 0)) (by kernel_rfl) rfl (fun h => by cases h) Try.underlying6 (.int _) rfl
theorem tyOk7 : TyOk Try.prog 7 ty7 := TyOk.mk' (z := (.agg #[.int .i64 0, .int .i64 0, .bool false, .int .u8 0])) (by kernel_rfl) rfl (fun _ => rfl) Try.underlying7 (.struct _ _ rfl) rfl
theorem tyOk8 : TyOk Try.prog 8 ty8 := TyOk.mk' (z := (.agg #[.int .i64 0, .int .i64 0, .bool false, .int .u8 0])) (by kernel_rfl) rfl (fun _ => rfl) Try.underlying8 (.struct _ _ rfl) rfl
theorem tyOk12 : TyOk Try.prog 12 ty12 := TyOk.mk' (z := (.int .u64 0)) (by kernel_rfl) rfl (fun h => by cases h) Try.underlying12 (.int _) rfl
theorem tyOk15 : TyOk Try.prog 15 ty15 := TyOk.mk' (z := (.pointer none)) (by kernel_rfl) rfl (fun h => by cases h) Try.underlying15 (.ptr _) rfl
theorem tyOk16 : TyOk Try.prog 16 ty16 := TyOk.mk' (z := (.pointer none)) (by kernel_rfl) rfl (fun h => by cases h) Try.underlying16 (.ptr _) rfl
theorem tyOk17 : TyOk Try.prog 17 ty17 := TyOk.mk' (z := (.pointer none)) (by kernel_rfl) rfl (fun h => by cases h) Try.underlying17 (.ptr _) rfl
theorem tyOk18 : TyOk Try.prog 18 ty18 := TyOk.mk' (z := (.agg #[.pointer none])) (by kernel_rfl) rfl (fun _ => rfl) Try.underlying18 (.struct _ _ rfl) rfl
theorem tyOk19 : TyOk Try.prog 19 ty19 := TyOk.mk' (z := (.agg #[.pointer none])) (by kernel_rfl) rfl (fun _ => rfl) Try.underlying19 (.struct _ _ rfl) rfl
theorem tyOk20 : TyOk Try.prog 20 ty20 := TyOk.mk' (z := (.nilIface)) (by kernel_rfl) rfl (fun h => by cases h) Try.underlying20 (.iface _) rfl
theorem tyOk21 : TyOk Try.prog 21 ty21 := TyOk.mk' (z := (.int .i32 0)) (by kernel_rfl) rfl (fun h => by cases h) Try.underlying21 (.int _) rfl
theorem tyOk22 : TyOk Try.prog 22 ty22 := TyOk.mk' (z := (.int .u64 0)) (by kernel_rfl) rfl (fun h => by cases h) Try.underlying22 (.int _) rfl
theorem tyOk23 : TyOk Try.prog 23 ty23 := TyOk.mk' (z := (.nilFunc)) (by kernel_rfl) rfl (fun h => by cases h) Try.underlying23 (.func _ _ _) rfl
theorem tyOk24 : TyOk Try.prog 24 ty24 := TyOk.mk' (z := (.nilFunc)) (by kernel_rfl) rfl (fun h => by cases h) Try.underlying24 (.func _ _ _) rfl
theorem tyOk25 : TyOk Try.prog 25 ty25 := TyOk.mk' (z := (.nilFunc)) (by kernel_rfl) rfl (fun h => by cases h) Try.underlying25 (.func _ _ _) rfl
theorem tyOk26 : TyOk Try.prog 26 ty26 := TyOk.mk' (z := (.nilFunc)) (by kernel_rfl) rfl (fun h => by cases h) Try.underlying26 (.func _ _ _) rfl
theorem tyOk27 : TyOk Try.prog 27 ty27 := TyOk.mk' (z := (.nilFunc)) (by kernel_rfl) rfl (fun h => by cases h) Try.underlying27 (.func _ _ _) rfl
theorem tyOk28 : TyOk Try.prog 28 ty28 := TyOk.mk' (z := (.nilFunc)) (by kernel_rfl) rfl (fun h => by cases h) Try.underlying28 (.func _ _ _) rfl
theorem tyOk29 : TyOk Try.prog 29 ty29 := TyOk.mk' (z := (.nilFunc)) (by kernel_rfl) rfl (fun h => by cases h) Try.underlying29 (.func _ _ _) rfl
theorem tyOk30 : TyOk Try.prog 30 ty30 := TyOk.mk' (z := (.nilFunc)) (by kernel_rfl) rfl (fun h => by cases h) Try.underlying30 (.func _ _ _) rfl
theorem tyOk31 : TyOk Try.prog 31 ty31 := TyOk.mk' (z := (.agg #[.int .i64 0, .int .i64 0, .int .i64 0])) (by kernel_rfl) rfl (fun _ => rfl) Try.underlying31 (.struct _ _ rfl) rfl
theorem tyOk32 : TyOk Try.prog 32 ty32 := TyOk.mk' (z := (.agg #[.int .i64 0, .int .i64 0, .int .i64 0])) (by kernel_rfl) rfl (fun _ => rfl) Try.underlying32 (.struct _ _ rfl) rfl
theorem tyOk33 : TyOk Try.prog 33 ty33 := TyOk.mk' (z := (.slice none 0 0)) (by kernel_rfl) rfl (fun h => by cases h) Try.underlying33 (.slice _) rfl
theorem tyOk34 : TyOk Try.prog 34 ty34 := TyOk.mk' (z := (.slice none 0 0)) (by kernel_rfl) rfl (fun h => by cases h) Try.underlying34 (.slice _) rfl
theorem tyOk35 : TyOk Try.prog 35 ty35 := TyOk.mk' (z := (.nilFunc)) (by kernel_rfl) rfl (fun h => by cases h) Try.underlying35 (.func _ _ _) rfl
theorem tyOk36 : TyOk Try.prog 36 ty36 := TyOk.mk' (z := (.nilFunc)) (by kernel_rfl) rfl (fun h => by cases h) Try.underlying36 (.func _ _ _) rfl
theorem tyOk37 : TyOk Try.prog 37 ty37 := TyOk.mk' (z := (.agg #[.int .i64 0, .slice none 0 0, .int .i64 0, .int .i64 0, .int .i64 0, .int .i64 0])) (by kernel_rfl) rfl (fun _ => rfl) Try.underlying37 (.struct _ _ rfl) rfl
theorem tyOk38 : TyOk Try.prog 38 ty38 := TyOk.mk' (z := (.agg #[.int .i64 0, .slice none 0 0, .int .i64 0, .int .i64 0, .int .i64 0, .int .i64 0])) (by kernel_rfl) rfl (fun _ => rfl) Try.underlying38 (.struct _ _ rfl) rfl
theorem tyOk39 : TyOk Try.prog 39 ty39 := TyOk.mk' (z := (.nilFunc)) (by kernel_rfl) rfl (fun h => by cases h) Try.underlying39 (.func _ _ _) rfl
theorem tyOk40 : TyOk Try.prog 40 ty40 := TyOk.mk' (z := (.nilFunc)) (by kernel_rfl) rfl (fun h => by cases h) Try.underlying40 (.func _ _ _) rfl
theorem tyOk41 : TyOk Try.prog 41 ty41 := TyOk.mk' (z := (.nilFunc)) (by kernel_rfl) rfl (fun h => by cases h) Try.underlying41 (.func _ _ _) rfl
theorem tyOk42 : TyOk Try.prog 42 ty42 := TyOk.mk' (z := (.nilFunc)) (by kernel_rfl) rfl (fun h => by cases h) Try.underlying42 (.func _ _ _) rfl
theorem tyOk43 : TyOk Try.prog 43 ty43 := TyOk.mk' (z := (.nilFunc)) (by kernel_rfl) rfl (fun h => by cases h) Try.underlying43 (.func _ _ _) rfl
theorem tyOk44 : TyOk Try.prog 44 ty44 := TyOk.mk' (z := (.nilFunc)) (by kernel_rfl) rfl (fun h => by cases h) Try.underlying44 (.func _ _ _) rfl
theorem tyOk45 : TyOk Try.prog 45 ty45 := TyOk.mk' (z := (.nilFunc)) (by kernel_rfl) rfl (fun h => by cases h) Try.underlying45 (.func _ _ _) rfl
theorem tyOk46 : TyOk Try.prog 46 ty46 := TyOk.mk' (z := (.nilFunc)) (by kernel_rfl) rfl (fun h => by cases h) Try.underlying46 (.func _ _ _) rfl
theorem tyOk47 : TyOk Try.prog 47 ty47 := TyOk.mk' (z := (.nilFunc)) (by kernel_rfl) rfl (fun h => by cases h) Try.underlying47 (.func _ _ _) rfl
theorem tyOk48 : TyOk Try.prog 48 ty48 := TyOk.mk' (z := (.nilFunc)) (by kernel_rfl) rfl (fun h => by cases h) Try.underlying48 (.func _ _ _) rfl
theorem tyOk49 : TyOk Try.prog 49 ty49 := TyOk.mk' (z := (.slice none 0 0)) (by kernel_rfl) rfl (fun h => by cases h) Try.underlying49 (.slice _) rfl
theorem tyOk50 : TyOk Try.prog 50 ty50 := TyOk.mk' (z := (.nilFunc)) (by kernel_rfl) rfl (fun h => by cases h) Try.underlying50 (.func _ _ _) rfl
theorem tyOk51 : TyOk Try.prog 51 ty51 := TyOk.mk' (z := (.nilFunc)) (by kernel_rfl) rfl (fun h => by cases h) Try.underlying51 (.func _ _ _) rfl
theorem tyOk52 : TyOk Try.prog 52 ty52 := TyOk.mk' (z := (.int .u64 0)) (by kernel_rfl) rfl (fun h => by cases h) Try.underlying52 (.int _) rfl
theorem tyOk53 : TyOk Try.prog 53 ty53 := TyOk.mk' (z := (.int .i64 0)) (by kernel_rfl) rfl (fun h => by cases h) Try.underlying53 (.int _) rfl
theorem tyOk54 : TyOk Try.prog 54 ty54 := TyOk.mk' (z := (.nilFunc)) (by kernel_rfl) rfl (fun h => by cases h) Try.underlying54 (.func _ _ _) rfl
theorem tyOk55 : TyOk Try.prog 55 ty55 := TyOk.mk' (z := (.nilFunc)) (by kernel_rfl) rfl (fun h => by cases h) Try.underlying55 (.func _ _ _) rfl
theorem tyOk56 : TyOk Try.prog 56 ty56 := TyOk.mk' (z := (.nilFunc)) (by kernel_rfl) rfl (fun h => by cases h) Try.underlying56 (.func _ _ _) rfl
theorem tyOk57 : TyOk Try.prog 57 ty57 := TyOk.mk' (z := (.nilFunc)) (by kernel_rfl) rfl (fun h => by cases h) Try.underlying57 (.func _ _ _) rfl
theorem tyOk58 : TyOk Try.prog 58 ty58 := TyOk.mk' (z := (.nilFunc)) (by kernel_rfl) rfl (fun h => by cases h) Try.underlying58 (.func _ _ _) rfl
theorem tyOk59 : TyOk Try.prog 59 ty59 := TyOk.mk' (z := (.nilFunc)) (by kernel_rfl) rfl (fun h => by cases h) Try.underlying59 (.func _ _ _) rfl
theorem tyOk60 : TyOk Try.prog 60 ty60 := TyOk.mk' (z := (.nilFunc)) (by kernel_rfl) rfl (fun h => by cases h) Try.underlying60 (.func _ _ _) rfl
theorem tyOk61 : TyOk Try.prog 61 ty61 := TyOk.mk' (z := (.nilFunc)) (by kernel_rfl) rfl (fun h => by cases h) Try.underlying61 (.func _ _ _) rfl
theorem tyOk64 : TyOk Try.prog 64 ty64 := TyOk.mk' (z := (.agg #[])) (by kernel_rfl) rfl (fun _ => rfl) Try.underlying64 (.array _ _) rfl
theorem tyOk65 : TyOk Try.prog 65 ty65 := TyOk.mk' (z := (.agg #[])) (by kernel_rfl) rfl (fun _ => rfl) Try.underlying65 (.struct _ _ rfl) rfl
theorem tyOk66 : TyOk Try.prog 66 ty66 := TyOk.mk' (z := (.agg #[])) (by kernel_rfl) rfl (fun _ => rfl) Try.underlying66 (.struct _ _ rfl) rfl
theorem tyOk67 : TyOk Try.prog 67 ty67 := TyOk.mk' (z := (.nilFunc)) (by kernel_rfl) rfl (fun h => by cases h) Try.underlying67 (.func _ _ _) rfl
theorem tyOk68 : TyOk Try.prog 68 ty68 := TyOk.mk' (z := (.int .u32 0)) (by kernel_rfl) rfl (fun h => by cases h) Try.underlying68 (.int _) rfl
theorem tyOk69 : TyOk Try.prog 69 ty69 := TyOk.mk' (z := (.int .u8 0)) (by kernel_rfl) rfl (fun h => by cases h) Try.underlying69 (.int _) rfl
theorem tyOk70 : TyOk Try.prog 70 ty70 := TyOk.mk' (z := (.int .u8 0)) (by kernel_rfl) rfl (fun h => by cases h) Try.underlying70 (.int _) rfl
theorem tyOk71 : TyOk Try.prog 71 ty71 := TyOk.mk' (z := (.nilFunc)) (by kernel_rfl) rfl (fun h => by cases h) Try.underlying71 (.func _ _ _) rfl
theorem tyOk72 : TyOk Try.prog 72 ty72 := TyOk.mk' (z := (.pointer none)) (by kernel_rfl) rfl (fun h => by cases h) Try.underlying72 (.ptr _) rfl
theorem tyOk73 : TyOk Try.prog 73 ty73 := TyOk.mk' (z := (.int .i32 0)) (by kernel_rfl) rfl (fun h => by cases h) Try.underlying73 (.int _) rfl
theorem tyOk74 : TyOk Try.prog 74 ty74 := TyOk.mk' (z := (.int .i32 0)) (by kernel_rfl) rfl (fun h => by cases h) Try.underlying74 (.int _) rfl
theorem tyOk75 : TyOk Try.prog 75 ty75 := TyOk.mk' (z := (.agg #[.int .u64 0, .int .u64 0, .int .u32 0, .int .u8 0, .int .u8 0, .int .u8 0, .int .u8 0, .nilFunc, .pointer none, .int .i32 0, .int .i32 0])) (by kernel_rfl) rfl (fun _ => rfl) Try.underlying75 (.struct _ _ rfl) rfl
theorem tyOk76 : TyOk Try.prog 76 ty76 := TyOk.mk' (z := (.agg #[.int .u64 0, .int .u64 0, .int .u32 0, .int .u8 0, .int .u8 0, .int .u8 0, .int .u8 0, .nilFunc, .pointer none, .int .i32 0, .int .i32 0])) (by kernel_rfl) rfl (fun _ => rfl) Try.underlying76 (.struct _ _ rfl) rfl
theorem tab_ok : TabOk Try.prog tab := TT.ok (T := tabT) ⟨tyOk40, ⟨tyOk23, ⟨tyOk12, ⟨tyOk5, ⟨tyOk3, ⟨tyOk2, ⟨tyOk1, trivial, trivial⟩, trivial⟩, ⟨tyOk4, trivial, trivial⟩⟩, ⟨tyOk7, ⟨tyOk6, trivial, trivial⟩, ⟨tyOk8, trivial, trivial⟩⟩⟩, ⟨tyOk19, ⟨tyOk17, ⟨tyOk16, ⟨tyOk15, trivial, trivial⟩, trivial⟩, ⟨tyOk18, trivial, trivial⟩⟩, ⟨tyOk21, ⟨tyOk20, trivial, trivial⟩, ⟨tyOk22, trivial, trivial⟩⟩⟩⟩, ⟨tyOk32, ⟨tyOk28, ⟨tyOk26, ⟨tyOk25, ⟨tyOk24, trivial, trivial⟩, trivial⟩, ⟨tyOk27, trivial, trivial⟩⟩, ⟨tyOk30, ⟨tyOk29, trivial, trivial⟩, ⟨tyOk31, trivial, trivial⟩⟩⟩, ⟨tyOk36, ⟨tyOk34, ⟨tyOk33, trivial, trivial⟩, ⟨tyOk35, trivial, trivial⟩⟩, ⟨tyOk38, ⟨tyOk37, trivial, trivial⟩, ⟨tyOk39, trivial, trivial⟩⟩⟩⟩⟩, ⟨tyOk58, ⟨tyOk49, ⟨tyOk45, ⟨tyOk43, ⟨tyOk42, ⟨tyOk41, trivial, trivial⟩, trivial⟩, ⟨tyOk44, trivial, trivial⟩⟩, ⟨tyOk47, ⟨tyOk46, trivial, trivial⟩, ⟨tyOk48, trivial, trivial⟩⟩⟩, ⟨tyOk54, ⟨tyOk52, ⟨tyOk51, ⟨tyOk50, trivial, trivial⟩, trivial⟩, ⟨tyOk53, trivial, trivial⟩⟩, ⟨tyOk56, ⟨tyOk55, trivial, trivial⟩, ⟨tyOk57, trivial, trivial⟩⟩⟩⟩, ⟨tyOk69, ⟨tyOk65, ⟨tyOk61, ⟨tyOk60, ⟨tyOk59, trivial, trivial⟩, trivial⟩, ⟨tyOk64, trivial, trivial⟩⟩, ⟨tyOk67, ⟨tyOk66, trivial, trivial⟩, ⟨tyOk68, trivial, trivial⟩⟩⟩, ⟨tyOk73, ⟨tyOk71, ⟨tyOk70, trivial, trivial⟩, ⟨tyOk72, trivial, trivial⟩⟩, ⟨tyOk75, ⟨tyOk74, trivial, trivial⟩, ⟨tyOk76, trivial, trivial⟩⟩⟩⟩⟩⟩
theorem mix : Try.prog.follows .mixedOrders = true := by kernel_rfl
end Go.Proofs.Ytepepidjefpckaa.Abs
