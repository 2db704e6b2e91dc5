/- The type table of the translation, by program (gentab.py), and that it is the translation's own. -/
import Derived.Test.YtmihhkcbbdpnaaaC1
namespace Go.Proofs.Ytmihhkcbbdpnaaa.Abs
def ty1 : Ty := ⟨1, 8, false, [.nilFunc], .func⟩
def ty2 : Ty := ⟨1, 8, false, [.int .i64 0], (.int .i64)⟩
def ty3 : Ty := ⟨1, 8, false, [.int .i64 0], (.int .i64)⟩
def ty4 : Ty := ⟨1, 1, false, [.bool false], .bool⟩
def ty5 : Ty := ⟨1, 1, false, [.int .u8 0], (.int .u8)⟩
def ty6 : Ty := ⟨1, 1, false, [.int .u8 0], (.int .u8)⟩
def ty7 : Ty := ⟨4, 24, true, [.int .i64 0, .int .i64 0, .bool false, .int .u8 0], (.struct [(0, 2), (1, 3), (2, 4), (3, 6)])⟩
def ty8 : Ty := ⟨4, 24, true, [.int .i64 0, .int .i64 0, .bool false, .int .u8 0], (.struct [(0, 2), (1, 3), (2, 4), (3, 6)])⟩
def ty12 : Ty := ⟨1, 8, false, [.int .u64 0], (.int .u64)⟩
def ty15 : Ty := ⟨1, 8, false, [.pointer none], (.ptr 178)⟩
def ty16 : Ty := ⟨1, 8, false, [.pointer none], (.ptr 181)⟩
def ty17 : Ty := ⟨1, 8, false, [.pointer none], (.ptr 190)⟩
def ty18 : Ty := ⟨1, 8, true, [.pointer none], (.struct [(0, 17)])⟩
def ty19 : Ty := ⟨1, 8, true, [.pointer none], (.struct [(0, 17)])⟩
def ty20 : Ty := ⟨1, 16, false, [.nilIface], .iface⟩
def ty21 : Ty := ⟨1, 4, false, [.int .i32 0], (.int .i32)⟩
def ty22 : Ty := ⟨1, 24, false, [.slice none 0 0], (.slice 49)⟩
def ty23 : Ty := ⟨1, 24, false, [.slice none 0 0], (.slice 3)⟩
def ty24 : Ty := ⟨4, 64, true, [.int .i64 0, .slice none 0 0, .int .i64 0, .slice none 0 0], (.struct [(0, 3), (1, 22), (2, 3), (3, 23)])⟩
def ty25 : Ty := ⟨4, 64, true, [.int .i64 0, .slice none 0 0, .int .i64 0, .slice none 0 0], (.struct [(0, 3), (1, 22), (2, 3), (3, 23)])⟩
def ty26 : Ty := ⟨1, 24, false, [.slice none 0 0], (.slice 30)⟩
def ty27 : Ty := ⟨5, 40, true, [.int .i64 0, .int .i64 0, .int .i64 0, .int .i64 0, .int .i64 0], (.struct [(0, 3), (1, 3), (2, 3), (3, 3), (4, 3)])⟩
def ty28 : Ty := ⟨5, 40, true, [.int .i64 0, .int .i64 0, .int .i64 0, .int .i64 0, .int .i64 0], (.struct [(0, 3), (1, 3), (2, 3), (3, 3), (4, 3)])⟩
def ty29 : Ty := ⟨6, 48, true, [.int .i64 0, .int .i64 0, .int .i64 0, .int .i64 0, .int .i64 0, .int .i64 0], (.struct [(0, 28), (5, 3)])⟩
def ty30 : Ty := ⟨6, 48, true, [.int .i64 0, .int .i64 0, .int .i64 0, .int .i64 0, .int .i64 0, .int .i64 0], (.struct [(0, 28), (5, 3)])⟩
def ty31 : Ty := ⟨1, 8, false, [.int .i64 0], (.int .i64)⟩
def ty32 : Ty := ⟨1, 24, false, [.slice none 0 0], (.slice 51)⟩
def ty33 : Ty := ⟨4, 48, true, [.int .i64 0, .int .i64 0, .bool false, .slice none 0 0], (.struct [(0, 31), (1, 3), (2, 4), (3, 32)])⟩
def ty34 : Ty := ⟨4, 48, true, [.int .i64 0, .int .i64 0, .bool false, .slice none 0 0], (.struct [(0, 31), (1, 3), (2, 4), (3, 32)])⟩
def ty35 : Ty := ⟨1, 8, false, [.nilFunc], .func⟩
def ty36 : Ty := ⟨1, 8, false, [.nilFunc], .func⟩
def ty37 : Ty := ⟨1, 8, false, [.nilFunc], .func⟩
def ty39 : Ty := ⟨1, 8, false, [.nilFunc], .func⟩
def ty41 : Ty := ⟨1, 8, false, [.nilFunc], .func⟩
def ty43 : Ty := ⟨1, 8, false, [.nilFunc], .func⟩
def ty44 : Ty := ⟨1, 8, false, [.nilFunc], .func⟩
def ty45 : Ty := ⟨1, 8, false, [.nilFunc], .func⟩
def ty46 : Ty := ⟨1, 8, false, [.nilFunc], .func⟩
def ty47 : Ty := ⟨1, 8, false, [.nilFunc], .func⟩
def ty48 : Ty := ⟨4, 32, true, [.int .i64 0, .int .i64 0, .int .i64 0, .bool false], (.struct [(0, 3), (1, 3), (2, 3), (3, 4)])⟩
def ty49 : Ty := ⟨4, 32, true, [.int .i64 0, .int .i64 0, .int .i64 0, .bool false], (.struct [(0, 3), (1, 3), (2, 3), (3, 4)])⟩
def ty50 : Ty := ⟨2, 16, true, [.int .i64 0, .int .i64 0], (.struct [(0, 3), (1, 3)])⟩
def ty51 : Ty := ⟨2, 16, true, [.int .i64 0, .int .i64 0], (.struct [(0, 3), (1, 3)])⟩
def ty52 : Ty := ⟨1, 8, false, [.nilFunc], .func⟩
def ty53 : Ty := ⟨1, 8, false, [.nilFunc], .func⟩
def ty54 : Ty := ⟨1, 8, false, [.nilFunc], .func⟩
def ty55 : Ty := ⟨1, 4, false, [.int .u32 0], (.int .u32)⟩
def ty56 : Ty := ⟨1, 8, false, [.nilFunc], .func⟩
def ty57 : Ty := ⟨1, 8, false, [.nilFunc], .func⟩
def ty58 : Ty := ⟨1, 24, false, [.slice none 0 0], (.slice 71)⟩
def ty59 : Ty := ⟨1, 2, false, [.int .u16 0], (.int .u16)⟩
def ty60 : Ty := ⟨1, 8, false, [.nilFunc], .func⟩
def ty61 : Ty := ⟨1, 24, false, [.slice none 0 0], (.slice 75)⟩
def ty62 : Ty := ⟨6, 48, true, [.int .i64 0, .int .i64 0, .int .i64 0, .int .i64 0, .int .i64 0, .int .i64 0], (.struct [(0, 3), (1, 3), (2, 3), (3, 3), (4, 3), (5, 3)])⟩
def ty63 : Ty := ⟨6, 48, true, [.int .i64 0, .int .i64 0, .int .i64 0, .int .i64 0, .int .i64 0, .int .i64 0], (.struct [(0, 3), (1, 3), (2, 3), (3, 3), (4, 3), (5, 3)])⟩
def ty65 : Ty := ⟨1, 8, false, [.nilFunc], .func⟩
def ty66 : Ty := ⟨1, 8, false, [.nilFunc], .func⟩
def ty67 : Ty := ⟨1, 8, false, [.nilFunc], .func⟩
def ty68 : Ty := ⟨1, 8, false, [.nilFunc], .func⟩
def ty69 : Ty := ⟨1, 8, false, [.nilFunc], .func⟩
def ty70 : Ty := ⟨2, 16, true, [.bool false, .int .i64 0], (.struct [(0, 4), (1, 3)])⟩
def ty71 : Ty := ⟨2, 16, true, [.bool false, .int .i64 0], (.struct [(0, 4), (1, 3)])⟩
def ty72 : Ty := ⟨1, 8, false, [.nilFunc], .func⟩
def ty73 : Ty := ⟨1, 24, false, [.slice none 0 0], (.slice 4)⟩
def ty74 : Ty := ⟨3, 24, true, [.int .i64 0, .int .i64 0, .int .i64 0], (.struct [(0, 3), (1, 3), (2, 3)])⟩
def ty75 : Ty := ⟨3, 24, true, [.int .i64 0, .int .i64 0, .int .i64 0], (.struct [(0, 3), (1, 3), (2, 3)])⟩
def ty76 : Ty := ⟨1, 8, false, [.nilFunc], .func⟩
def ty77 : Ty := ⟨1, 24, false, [.slice none 0 0], (.slice 80)⟩
def ty78 : Ty := ⟨1, 8, false, [.int .u64 0], (.int .u64)⟩
def ty79 : Ty := ⟨3, 24, true, [.bool false, .int .u64 0, .bool false], (.struct [(0, 4), (1, 78), (2, 4)])⟩
def ty80 : Ty := ⟨3, 24, true, [.bool false, .int .u64 0, .bool false], (.struct [(0, 4), (1, 78), (2, 4)])⟩
def ty81 : Ty := ⟨1, 24, false, [.slice none 0 0], (.slice 102)⟩
def ty82 : Ty := ⟨6, 96, true, [.int .i64 0, .slice none 0 0, .slice none 0 0, .slice none 0 0, .int .i64 0, .int .i64 0], (.struct [(0, 3), (1, 61), (2, 81), (3, 61), (4, 3), (5, 3)])⟩
def ty83 : Ty := ⟨6, 96, true, [.int .i64 0, .slice none 0 0, .slice none 0 0, .slice none 0 0, .int .i64 0, .int .i64 0], (.struct [(0, 3), (1, 61), (2, 81), (3, 61), (4, 3), (5, 3)])⟩
def ty85 : Ty := ⟨1, 8, false, [.nilFunc], .func⟩
def ty86 : Ty := ⟨1, 8, false, [.nilFunc], .func⟩
def ty87 : Ty := ⟨1, 8, false, [.nilFunc], .func⟩
def ty88 : Ty := ⟨1, 8, false, [.nilFunc], .func⟩
def ty90 : Ty := ⟨1, 8, false, [.nilFunc], .func⟩
def ty91 : Ty := ⟨1, 8, false, [.nilFunc], .func⟩
def ty92 : Ty := ⟨1, 8, false, [.nilFunc], .func⟩
def ty93 : Ty := ⟨1, 8, false, [.nilFunc], .func⟩
def ty94 : Ty := ⟨1, 8, false, [.nilFunc], .func⟩
def ty95 : Ty := ⟨1, 8, false, [.nilFunc], .func⟩
def ty96 : Ty := ⟨1, 8, false, [.nilFunc], .func⟩
def ty97 : Ty := ⟨1, 8, false, [.nilFunc], .func⟩
def ty98 : Ty := ⟨1, 8, false, [.nilFunc], .func⟩
def ty99 : Ty := ⟨1, 8, false, [.nilFunc], .func⟩
def ty100 : Ty := ⟨1, 24, false, [.slice none 0 0], (.slice 61)⟩
def ty101 : Ty := ⟨4, 48, true, [.int .i64 0, .int .i64 0, .int .i64 0, .slice none 0 0], (.struct [(0, 3), (1, 3), (2, 3), (3, 100)])⟩
def ty102 : Ty := ⟨4, 48, true, [.int .i64 0, .int .i64 0, .int .i64 0, .slice none 0 0], (.struct [(0, 3), (1, 3), (2, 3), (3, 100)])⟩
def ty103 : Ty := ⟨1, 8, false, [.nilFunc], .func⟩
def ty104 : Ty := ⟨1, 8, false, [.nilFunc], .func⟩
def ty105 : Ty := ⟨1, 8, false, [.nilFunc], .func⟩
def ty106 : Ty := ⟨1, 8, false, [.nilFunc], .func⟩
def ty107 : Ty := ⟨1, 8, false, [.nilFunc], .func⟩
def ty108 : Ty := ⟨1, 8, false, [.nilFunc], .func⟩
def ty109 : Ty := ⟨4, 32, true, [.nilFunc, .nilFunc, .nilFunc, .nilFunc], (.array 4 39)⟩
def ty110 : Ty := ⟨1, 8, false, [.nilFunc], .func⟩
def ty111 : Ty := ⟨1, 8, false, [.nilFunc], .func⟩
def ty112 : Ty := ⟨1, 8, false, [.nilFunc], .func⟩
def ty113 : Ty := ⟨1, 8, false, [.pointer none], (.ptr 115)⟩
def ty114 : Ty := ⟨13, 168, true, [.int .i64 0, .int .i64 0, .int .i64 0, .int .i64 0, .int .i64 0, .int .i64 0, .int .i64 0, .slice none 0 0, .slice none 0 0, .slice none 0 0, .int .i64 0, .int .i64 0, .slice none 0 0], (.struct [(0, 63), (6, 83), (12, 61)])⟩
def ty115 : Ty := ⟨13, 168, true, [.int .i64 0, .int .i64 0, .int .i64 0, .int .i64 0, .int .i64 0, .int .i64 0, .int .i64 0, .slice none 0 0, .slice none 0 0, .slice none 0 0, .int .i64 0, .int .i64 0, .slice none 0 0], (.struct [(0, 63), (6, 83), (12, 61)])⟩
def ty116 : Ty := ⟨1, 8, false, [.nilFunc], .func⟩
def ty117 : Ty := ⟨1, 8, false, [.map none], (.map 4 116)⟩
def ty119 : Ty := ⟨1, 8, false, [.nilFunc], .func⟩
def ty120 : Ty := ⟨1, 8, false, [.nilFunc], .func⟩
def ty121 : Ty := ⟨1, 8, false, [.nilFunc], .func⟩
def ty123 : Ty := ⟨1, 8, false, [.nilFunc], .func⟩
def ty124 : Ty := ⟨1, 8, false, [.nilFunc], .func⟩
def ty125 : Ty := ⟨1, 8, false, [.pointer none], (.ptr 83)⟩
def ty126 : Ty := ⟨1, 8, false, [.nilFunc], .func⟩
def ty127 : Ty := ⟨1, 8, false, [.nilFunc], .func⟩
def ty128 : Ty := ⟨1, 8, false, [.nilFunc], .func⟩
def ty129 : Ty := ⟨1, 8, false, [.nilFunc], .func⟩
def ty130 : Ty := ⟨1, 8, false, [.nilFunc], .func⟩
def ty131 : Ty := ⟨1, 8, false, [.nilFunc], .func⟩
def ty132 : Ty := ⟨1, 8, false, [.nilFunc], .func⟩
def ty133 : Ty := ⟨1, 8, false, [.nilFunc], .func⟩
def ty134 : Ty := ⟨1, 8, false, [.nilFunc], .func⟩
def ty135 : Ty := ⟨1, 8, false, [.map none], (.map 3 4)⟩
def ty136 : Ty := ⟨1, 8, false, [.nilFunc], .func⟩
def ty137 : Ty := ⟨1, 8, false, [.nilFunc], .func⟩
def ty138 : Ty := ⟨1, 8, false, [.nilFunc], .func⟩
def ty139 : Ty := ⟨1, 8, false, [.nilFunc], .func⟩
def ty140 : Ty := ⟨1, 8, false, [.nilFunc], .func⟩
def ty141 : Ty := ⟨1, 8, false, [.nilFunc], .func⟩
def ty142 : Ty := ⟨1, 8, false, [.nilFunc], .func⟩
def ty143 : Ty := ⟨1, 8, false, [.nilFunc], .func⟩
def ty144 : Ty := ⟨1, 8, false, [.int .u64 0], (.int .u64)⟩
def ty145 : Ty := ⟨1, 8, false, [.nilFunc], .func⟩
def ty146 : Ty := ⟨1, 8, false, [.nilFunc], .func⟩
def ty147 : Ty := ⟨1, 8, false, [.nilFunc], .func⟩
def ty148 : Ty := ⟨1, 8, false, [.nilFunc], .func⟩
def ty150 : Ty := ⟨1, 8, false, [.nilFunc], .func⟩
def ty151 : Ty := ⟨1, 8, false, [.nilFunc], .func⟩
def ty152 : Ty := ⟨1, 8, false, [.nilFunc], .func⟩
def ty153 : Ty := ⟨1, 8, false, [.nilFunc], .func⟩
def ty154 : Ty := ⟨1, 8, false, [.nilFunc], .func⟩
def ty155 : Ty := ⟨1, 8, false, [.nilFunc], .func⟩
def ty156 : Ty := ⟨1, 8, false, [.nilFunc], .func⟩
def ty157 : Ty := ⟨1, 8, false, [.nilFunc], .func⟩
def ty158 : Ty := ⟨1, 8, false, [.nilFunc], .func⟩
def ty159 : Ty := ⟨1, 8, false, [.nilFunc], .func⟩
def ty160 : Ty := ⟨1, 8, false, [.nilFunc], .func⟩
def ty161 : Ty := ⟨1, 8, false, [.nilFunc], .func⟩
def ty162 : Ty := ⟨1, 8, false, [.nilFunc], .func⟩
def ty163 : Ty := ⟨1, 8, false, [.nilFunc], .func⟩
def ty164 : Ty := ⟨1, 8, false, [.nilFunc], .func⟩
def ty165 : Ty := ⟨1, 8, false, [.nilFunc], .func⟩
def ty166 : Ty := ⟨1, 8, false, [.nilFunc], .func⟩
def ty167 : Ty := ⟨1, 8, false, [.nilFunc], .func⟩
def ty168 : Ty := ⟨1, 8, false, [.nilFunc], .func⟩
def ty169 : Ty := ⟨1, 8, false, [.nilFunc], .func⟩
def ty170 : Ty := ⟨1, 8, false, [.nilFunc], .func⟩
def ty171 : Ty := ⟨1, 8, false, [.nilFunc], .func⟩
def ty172 : Ty := ⟨1, 8, false, [.nilFunc], .func⟩
def ty173 : Ty := ⟨1, 8, false, [.nilFunc], .func⟩
def ty174 : Ty := ⟨1, 8, false, [.nilFunc], .func⟩
def ty175 : Ty := ⟨1, 8, false, [.nilFunc], .func⟩
def ty176 : Ty := ⟨1, 8, false, [.nilFunc], .func⟩
def ty179 : Ty := ⟨0, 0, true, [], (.array 0 16)⟩
def ty180 : Ty := ⟨0, 0, true, [], (.struct [(0, 179)])⟩
def ty181 : Ty := ⟨0, 0, true, [], (.struct [(0, 179)])⟩
def ty182 : Ty := ⟨1, 8, false, [.nilFunc], .func⟩
def ty183 : Ty := ⟨1, 1, false, [.int .u8 0], (.int .u8)⟩
def ty184 : Ty := ⟨1, 1, false, [.int .u8 0], (.int .u8)⟩
def ty185 : Ty := ⟨1, 8, false, [.nilFunc], .func⟩
def ty186 : Ty := ⟨1, 8, false, [.pointer none], (.ptr 5)⟩
def ty187 : Ty := ⟨1, 4, false, [.int .i32 0], (.int .i32)⟩
def ty188 : Ty := ⟨1, 4, false, [.int .i32 0], (.int .i32)⟩
def ty189 : Ty := ⟨11, 48, true, [.int .u64 0, .int .u64 0, .int .u32 0, .int .u8 0, .int .u8 0, .int .u8 0, .int .u8 0, .nilFunc, .pointer none, .int .i32 0, .int .i32 0], (.struct [(0, 12), (1, 12), (2, 55), (3, 183), (4, 5), (5, 5), (6, 184), (7, 185), (8, 186), (9, 187), (10, 188)])⟩
def ty190 : Ty := ⟨11, 48, true, [.int .u64 0, .int .u64 0, .int .u32 0, .int .u8 0, .int .u8 0, .int .u8 0, .int .u8 0, .nilFunc, .pointer none, .int .i32 0, .int .i32 0], (.struct [(0, 12), (1, 12), (2, 55), (3, 183), (4, 5), (5, 5), (6, 184), (7, 185), (8, 186), (9, 187), (10, 188)])⟩
def tabT : TT := (.node 99 ty99 (.node 52 ty52 (.node 27 ty27 (.node 16 ty16 (.node 6 ty6 (.node 3 ty3 (.node 2 ty2 (.node 1 ty1 .leaf .leaf) .leaf) (.node 5 ty5 (.node 4 ty4 .leaf .leaf) .leaf)) (.node 12 ty12 (.node 8 ty8 (.node 7 ty7 .leaf .leaf) .leaf) (.node 15 ty15 .leaf .leaf))) (.node 22 ty22 (.node 19 ty19 (.node 18 ty18 (.node 17 ty17 .leaf .leaf) .leaf) (.node 21 ty21 (.node 20 ty20 .leaf .leaf) .leaf)) (.node 25 ty25 (.node 24 ty24 (.node 23 ty23 .leaf .leaf) .leaf) (.node 26 ty26 .leaf .leaf)))) (.node 39 ty39 (.node 33 ty33 (.node 30 ty30 (.node 29 ty29 (.node 28 ty28 .leaf .leaf) .leaf) (.node 32 ty32 (.node 31 ty31 .leaf .leaf) .leaf)) (.node 36 ty36 (.node 35 ty35 (.node 34 ty34 .leaf .leaf) .leaf) (.node 37 ty37 .leaf .leaf))) (.node 47 ty47 (.node 44 ty44 (.node 43 ty43 (.node 41 ty41 .leaf .leaf) .leaf) (.node 46 ty46 (.node 45 ty45 .leaf .leaf) .leaf)) (.node 50 ty50 (.node 49 ty49 (.node 48 ty48 .leaf .leaf) .leaf) (.node 51 ty51 .leaf .leaf))))) (.node 75 ty75 (.node 63 ty63 (.node 58 ty58 (.node 55 ty55 (.node 54 ty54 (.node 53 ty53 .leaf .leaf) .leaf) (.node 57 ty57 (.node 56 ty56 .leaf .leaf) .leaf)) (.node 61 ty61 (.node 60 ty60 (.node 59 ty59 .leaf .leaf) .leaf) (.node 62 ty62 .leaf .leaf))) (.node 70 ty70 (.node 67 ty67 (.node 66 ty66 (.node 65 ty65 .leaf .leaf) .leaf) (.node 69 ty69 (.node 68 ty68 .leaf .leaf) .leaf)) (.node 73 ty73 (.node 72 ty72 (.node 71 ty71 .leaf .leaf) .leaf) (.node 74 ty74 .leaf .leaf)))) (.node 87 ty87 (.node 81 ty81 (.node 78 ty78 (.node 77 ty77 (.node 76 ty76 .leaf .leaf) .leaf) (.node 80 ty80 (.node 79 ty79 .leaf .leaf) .leaf)) (.node 85 ty85 (.node 83 ty83 (.node 82 ty82 .leaf .leaf) .leaf) (.node 86 ty86 .leaf .leaf))) (.node 94 ty94 (.node 91 ty91 (.node 90 ty90 (.node 88 ty88 .leaf .leaf) .leaf) (.node 93 ty93 (.node 92 ty92 .leaf .leaf) .leaf)) (.node 97 ty97 (.node 96 ty96 (.node 95 ty95 .leaf .leaf) .leaf) (.node 98 ty98 .leaf .leaf)))))) (.node 145 ty145 (.node 123 ty123 (.node 110 ty110 (.node 105 ty105 (.node 102 ty102 (.node 101 ty101 (.node 100 ty100 .leaf .leaf) .leaf) (.node 104 ty104 (.node 103 ty103 .leaf .leaf) .leaf)) (.node 108 ty108 (.node 107 ty107 (.node 106 ty106 .leaf .leaf) .leaf) (.node 109 ty109 .leaf .leaf))) (.node 116 ty116 (.node 113 ty113 (.node 112 ty112 (.node 111 ty111 .leaf .leaf) .leaf) (.node 115 ty115 (.node 114 ty114 .leaf .leaf) .leaf)) (.node 120 ty120 (.node 119 ty119 (.node 117 ty117 .leaf .leaf) .leaf) (.node 121 ty121 .leaf .leaf)))) (.node 134 ty134 (.node 129 ty129 (.node 126 ty126 (.node 125 ty125 (.node 124 ty124 .leaf .leaf) .leaf) (.node 128 ty128 (.node 127 ty127 .leaf .leaf) .leaf)) (.node 132 ty132 (.node 131 ty131 (.node 130 ty130 .leaf .leaf) .leaf) (.node 133 ty133 .leaf .leaf))) (.node 140 ty140 (.node 137 ty137 (.node 136 ty136 (.node 135 ty135 .leaf .leaf) .leaf) (.node 139 ty139 (.node 138 ty138 .leaf .leaf) .leaf)) (.node 143 ty143 (.node 142 ty142 (.node 141 ty141 .leaf .leaf) .leaf) (.node 144 ty144 .leaf .leaf))))) (.node 168 ty168 (.node 157 ty157 (.node 152 ty152 (.node 148 ty148 (.node 147 ty147 (.node 146 ty146 .leaf .leaf) .leaf) (.node 151 ty151 (.node 150 ty150 .leaf .leaf) .leaf)) (.node 155 ty155 (.node 154 ty154 (.node 153 ty153 .leaf .leaf) .leaf) (.node 156 ty156 .leaf .leaf))) (.node 163 ty163 (.node 160 ty160 (.node 159 ty159 (.node 158 ty158 .leaf .leaf) .leaf) (.node 162 ty162 (.node 161 ty161 .leaf .leaf) .leaf)) (.node 166 ty166 (.node 165 ty165 (.node 164 ty164 .leaf .leaf) .leaf) (.node 167 ty167 .leaf .leaf)))) (.node 181 ty181 (.node 174 ty174 (.node 171 ty171 (.node 170 ty170 (.node 169 ty169 .leaf .leaf) .leaf) (.node 173 ty173 (.node 172 ty172 .leaf .leaf) .leaf)) (.node 179 ty179 (.node 176 ty176 (.node 175 ty175 .leaf .leaf) .leaf) (.node 180 ty180 .leaf .leaf))) (.node 186 ty186 (.node 184 ty184 (.node 183 ty183 (.node 182 ty182 .leaf .leaf) .leaf) (.node 185 ty185 .leaf .leaf)) (.node 189 ty189 (.node 188 ty188 (.node 187 ty187 .leaf .leaf) .leaf) (.node 190 ty190 .leaf .leaf)))))))
def tab : Tab := tabT.get
theorem tyOk1 : TyOk Try.prog 1 ty1 := TyOk.mk' (z := (.nilFunc)) (by kernel_rfl) rfl (fun h => by cases h) Try.underlying1 (.func _ _ _) rfl
theorem tyOk2 : TyOk Try.prog 2 ty2 := TyOk.mk' (z := (.int .i64 0)) (by kernel_rfl) rfl (fun h => by cases h) Try.underlying2 (.int _) rfl
theorem tyOk3 : TyOk Try.prog 3 ty3 := TyOk.mk' (z := (.int .i64 0)) (by kernel_rfl) rfl (fun h => by cases h) Try.underlying3 (.int _) rfl
theorem tyOk4 : TyOk Try.prog 4 ty4 := TyOk.mk' (z := (.bool false)) (by kernel_rfl) rfl (fun h => by cases h) Try.underlying4 (.bool) rfl
theorem tyOk5 : TyOk Try.prog 5 ty5 := TyOk.mk' (z := (.int .u8 0)) (by kernel_rfl) rfl (fun h => by cases h) Try.underlying5 (.int _) rfl
theorem tyOk6 : TyOk Try.prog 6 ty6 := TyOk.mk' (z := (.int .u8 0)) (by kernel_rfl) rfl (fun h => by cases h) Try.underlying6 (.int _) rfl
theorem tyOk7 : TyOk Try.prog 7 ty7 := TyOk.mk' (z := (.agg #[.int .i64 0, .int .i64 0, .bool false, .int .u8 0])) (by kernel_rfl) rfl (fun _ => rfl) Try.underlying7 (.struct _ _ rfl) rfl
theorem tyOk8 : TyOk Try.prog 8 ty8 := TyOk.mk' (z := (.agg #[.int .i64 0, .int .i64 0, .bool false, .int .u8 0])) (by kernel_rfl) rfl (fun _ => rfl) Try.underlying8 (.struct _ _ rfl) rfl
theorem tyOk12 : TyOk Try.prog 12 ty12 := TyOk.mk' (z := (.int .u64 0)) (by kernel_rfl) rfl (fun h => by cases h) Try.underlying12 (.int _) rfl
theorem tyOk15 : TyOk Try.prog 15 ty15 := TyOk.mk' (z := (.pointer none)) (by kernel_rfl) rfl (fun h => by cases h) Try.underlying15 (.ptr _) rfl
theorem tyOk16 : TyOk Try.prog 16 ty16 := TyOk.mk' (z := (.pointer none)) (by kernel_rfl) rfl (fun h => by cases h) Try.underlying16 (.ptr _) rfl
theorem tyOk17 : TyOk Try.prog 17 ty17 := TyOk.mk' (z := (.pointer none)) (by kernel_rfl) rfl (fun h => by cases h) Try.underlying17 (.ptr _) rfl
theorem tyOk18 : TyOk Try.prog 18 ty18 := TyOk.mk' (z := (.agg #[.pointer none])) (by kernel_rfl) rfl (fun _ => rfl) Try.underlying18 (.struct _ _ rfl) rfl
theorem tyOk19 : TyOk Try.prog 19 ty19 := TyOk.mk' (z := (.agg #[.pointer none])) (by kernel_rfl) rfl (fun _ => rfl) Try.underlying19 (.struct _ _ rfl) rfl
theorem tyOk20 : TyOk Try.prog 20 ty20 := TyOk.mk' (z := (.nilIface)) (by kernel_rfl) rfl (fun h => by cases h) Try.underlying20 (.iface _) rfl
theorem tyOk21 : TyOk Try.prog 21 ty21 := TyOk.mk' (z := (.int .i32 0)) (by kernel_rfl) rfl (fun h => by cases h) Try.underlying21 (.int _) rfl
theorem tyOk22 : TyOk Try.prog 22 ty22 := TyOk.mk' (z := (.slice none 0 0)) (by kernel_rfl) rfl (fun h => by cases h) Try.underlying22 (.slice _) rfl
theorem tyOk23 : TyOk Try.prog 23 ty23 := TyOk.mk' (z := (.slice none 0 0)) (by kernel_rfl) rfl (fun h => by cases h) Try.underlying23 (.slice _) rfl
theorem tyOk24 : TyOk Try.prog 24 ty24 := TyOk.mk' (z := (.agg #[.int .i64 0, .slice none 0 0, .int .i64 0, .slice none 0 0])) (by kernel_rfl) rfl (fun _ => rfl) Try.underlying24 (.struct _ _ rfl) rfl
theorem tyOk25 : TyOk Try.prog 25 ty25 := TyOk.mk' (z := (.agg #[.int .i64 0, .slice none 0 0, .int .i64 0, .slice none 0 0])) (by kernel_rfl) rfl (fun _ => rfl) Try.underlying25 (.struct _ _ rfl) rfl
theorem tyOk26 : TyOk Try.prog 26 ty26 := TyOk.mk' (z := (.slice none 0 0)) (by kernel_rfl) rfl (fun h => by cases h) Try.underlying26 (.slice _) rfl
theorem tyOk27 : TyOk Try.prog 27 ty27 := TyOk.mk' (z := (.agg #[.int .i64 0, .int .i64 0, .int .i64 0, .int .i64 0, .int .i64 0])) (by kernel_rfl) rfl (fun _ => rfl) Try.underlying27 (.struct _ _ rfl) rfl
theorem tyOk28 : TyOk Try.prog 28 ty28 := TyOk.mk' (z := (.agg #[.int .i64 0, .int .i64 0, .int .i64 0, .int .i64 0, .int .i64 0])) (by kernel_rfl) rfl (fun _ => rfl) Try.underlying28 (.struct _ _ rfl) rfl
theorem tyOk29 : TyOk Try.prog 29 ty29 := TyOk.mk' (z := (.agg #[.int .i64 0, .int .i64 0, .int .i64 0, .int .i64 0, .int .i64 0, .int .i64 0])) (by kernel_rfl) rfl (fun _ => rfl) Try.underlying29 (.struct _ _ rfl) rfl
theorem tyOk30 : TyOk Try.prog 30 ty30 := TyOk.mk' (z := (.agg #[.int .i64 0, .int .i64 0, .int .i64 0, .int .i64 0, .int .i64 0, .int .i64 0])) (by kernel_rfl) rfl (fun _ => rfl) Try.underlying30 (.struct _ _ rfl) rfl
theorem tyOk31 : TyOk Try.prog 31 ty31 := TyOk.mk' (z := (.int .i64 0)) (by kernel_rfl) rfl (fun h => by cases h) Try.underlying31 (.int _) rfl
theorem tyOk32 : TyOk Try.prog 32 ty32 := TyOk.mk' (z := (.slice none 0 0)) (by kernel_rfl) rfl (fun h => by cases h) Try.underlying32 (.slice _) rfl
theorem tyOk33 : TyOk Try.prog 33 ty33 := TyOk.mk' (z := (.agg #[.int .i64 0, .int .i64 0, .bool false, .slice none 0 0])) (by kernel_rfl) rfl (fun _ => rfl) Try.underlying33 (.struct _ _ rfl) rfl
theorem tyOk34 : TyOk Try.prog 34 ty34 := TyOk.mk' (z := (.agg #[.int .i64 0, .int .i64 0, .bool false, .slice none 0 0])) (by kernel_rfl) rfl (fun _ => rfl) Try.underlying34 (.struct _ _ rfl) rfl
theorem tyOk35 : TyOk Try.prog 35 ty35 := TyOk.mk' (z := (.nilFunc)) (by kernel_rfl) rfl (fun h => by cases h) Try.underlying35 (.func _ _ _) rfl
theorem tyOk36 : TyOk Try.prog 36 ty36 := TyOk.mk' (z := (.nilFunc)) (by kernel_rfl) rfl (fun h => by cases h) Try.underlying36 (.func _ _ _) rfl
theorem tyOk37 : TyOk Try.prog 37 ty37 := TyOk.mk' (z := (.nilFunc)) (by kernel_rfl) rfl (fun h => by cases h) Try.underlying37 (.func _ _ _) rfl
theorem tyOk39 : TyOk Try.prog 39 ty39 := TyOk.mk' (z := (.nilFunc)) (by kernel_rfl) rfl (fun h => by cases h) Try.underlying39 (.func _ _ _) rfl
theorem tyOk41 : TyOk Try.prog 41 ty41 := TyOk.mk' (z := (.nilFunc)) (by kernel_rfl) rfl (fun h => by cases h) Try.underlying41 (.func _ _ _) rfl
theorem tyOk43 : TyOk Try.prog 43 ty43 := TyOk.mk' (z := (.nilFunc)) (by kernel_rfl) rfl (fun h => by cases h) Try.underlying43 (.func _ _ _) rfl
theorem tyOk44 : TyOk Try.prog 44 ty44 := TyOk.mk' (z := (.nilFunc)) (by kernel_rfl) rfl (fun h => by cases h) Try.underlying44 (.func _ _ _) rfl
theorem tyOk45 : TyOk Try.prog 45 ty45 := TyOk.mk' (z := (.nilFunc)) (by kernel_rfl) rfl (fun h => by cases h) Try.underlying45 (.func _ _ _) rfl
theorem tyOk46 : TyOk Try.prog 46 ty46 := TyOk.mk' (z := (.nilFunc)) (by kernel_rfl) rfl (fun h => by cases h) Try.underlying46 (.func _ _ _) rfl
theorem tyOk47 : TyOk Try.prog 47 ty47 := TyOk.mk' (z := (.nilFunc)) (by kernel_rfl) rfl (fun h => by cases h) Try.underlying47 (.func _ _ _) rfl
theorem tyOk48 : TyOk Try.prog 48 ty48 := TyOk.mk' (z := (.agg #[.int .i64 0, .int .i64 0, .int .i64 0, .bool false])) (by kernel_rfl) rfl (fun _ => rfl) Try.underlying48 (.struct _ _ rfl) rfl
theorem tyOk49 : TyOk Try.prog 49 ty49 := TyOk.mk' (z := (.agg #[.int .i64 0, .int .i64 0, .int .i64 0, .bool false])) (by kernel_rfl) rfl (fun _ => rfl) Try.underlying49 (.struct _ _ rfl) rfl
theorem tyOk50 : TyOk Try.prog 50 ty50 := TyOk.mk' (z := (.agg #[.int .i64 0, .int .i64 0])) (by kernel_rfl) rfl (fun _ => rfl) Try.underlying50 (.struct _ _ rfl) rfl
theorem tyOk51 : TyOk Try.prog 51 ty51 := TyOk.mk' (z := (.agg #[.int .i64 0, .int .i64 0])) (by kernel_rfl) rfl (fun _ => rfl) Try.underlying51 (.struct _ _ rfl) rfl
theorem tyOk52 : TyOk Try.prog 52 ty52 := TyOk.mk' (z := (.nilFunc)) (by kernel_rfl) rfl (fun h => by cases h) Try.underlying52 (.func _ _ _) rfl
theorem tyOk53 : TyOk Try.prog 53 ty53 := TyOk.mk' (z := (.nilFunc)) (by kernel_rfl) rfl (fun h => by cases h) Try.underlying53 (.func _ _ _) rfl
theorem tyOk54 : TyOk Try.prog 54 ty54 := TyOk.mk' (z := (.nilFunc)) (by kernel_rfl) rfl (fun h => by cases h) Try.underlying54 (.func _ _ _) rfl
theorem tyOk55 : TyOk Try.prog 55 ty55 := TyOk.mk' (z := (.int .u32 0)) (by kernel_rfl) rfl (fun h => by cases h) Try.underlying55 (.int _) rfl
theorem tyOk56 : TyOk Try.prog 56 ty56 := TyOk.mk' (z := (.nilFunc)) (by kernel_rfl) rfl (fun h => by cases h) Try.underlying56 (.func _ _ _) rfl
theorem tyOk57 : TyOk Try.prog 57 ty57 := TyOk.mk' (z := (.nilFunc)) (by kernel_rfl) rfl (fun h => by cases h) Try.underlying57 (.func _ _ _) rfl
theorem tyOk58 : TyOk Try.prog 58 ty58 := TyOk.mk' (z := (.slice none 0 0)) (by kernel_rfl) rfl (fun h => by cases h) Try.underlying58 (.slice _) rfl
theorem tyOk59 : TyOk Try.prog 59 ty59 := TyOk.mk' (z := (.int .u16 0)) (by kernel_rfl) rfl (fun h => by cases h) Try.underlying59 (.int _) rfl
theorem tyOk60 : TyOk Try.prog 60 ty60 := TyOk.mk' (z := (.nilFunc)) (by kernel_rfl) rfl (fun h => by cases h) Try.underlying60 (.func _ _ _) rfl
theorem tyOk61 : TyOk Try.prog 61 ty61 := TyOk.mk' (z := (.slice none 0 0)) (by kernel_rfl) rfl (fun h => by cases h) Try.underlying61 (.slice _) rfl
theorem tyOk62 : TyOk Try.prog 62 ty62 := TyOk.mk' (z := (.agg #[.int .i64 0, .int .i64 0, .int .i64 0, .int .i64 0, .int .i64 0, .int .i64 0])) (by kernel_rfl) rfl (fun _ => rfl) Try.underlying62 (.struct _ _ rfl) rfl
theorem tyOk63 : TyOk Try.prog 63 ty63 := TyOk.mk' (z := (.agg #[.int .i64 0, .int .i64 0, .int .i64 0, .int .i64 0, .int .i64 0, .int .i64 0])) (by kernel_rfl) rfl (fun _ => rfl) Try.underlying63 (.struct _ _ rfl) rfl
theorem tyOk65 : TyOk Try.prog 65 ty65 := TyOk.mk' (z := (.nilFunc)) (by kernel_rfl) rfl (fun h => by cases h) Try.underlying65 (.func _ _ _) rfl
theorem tyOk66 : TyOk Try.prog 66 ty66 := TyOk.mk' (z := (.nilFunc)) (by kernel_rfl) rfl (fun h => by cases h) Try.underlying66 (.func _ _ _) rfl
theorem tyOk67 : TyOk Try.prog 67 ty67 := TyOk.mk' (z := (.nilFunc)) (by kernel_rfl) rfl (fun h => by cases h) Try.underlying67 (.func _ _ _) rfl
theorem tyOk68 : TyOk Try.prog 68 ty68 := TyOk.mk' (z := (.nilFunc)) (by kernel_rfl) rfl (fun h => by cases h) Try.underlying68 (.func _ _ _) rfl
theorem tyOk69 : TyOk Try.prog 69 ty69 := TyOk.mk' (z := (.nilFunc)) (by kernel_rfl) rfl (fun h => by cases h) Try.underlying69 (.func _ _ _) rfl
theorem tyOk70 : TyOk Try.prog 70 ty70 := TyOk.mk' (z := (.agg #[.bool false, .int .i64 0])) (by kernel_rfl) rfl (fun _ => rfl) Try.underlying70 (.struct _ _ rfl) rfl
theorem tyOk71 : TyOk Try.prog 71 ty71 := TyOk.mk' (z := (.agg #[.bool false, .int .i64 0])) (by kernel_rfl) rfl (fun _ => rfl) Try.underlying71 (.struct _ _ rfl) rfl
theorem tyOk72 : TyOk Try.prog 72 ty72 := TyOk.mk' (z := (.nilFunc)) (by kernel_rfl) rfl (fun h => by cases h) Try.underlying72 (.func _ _ _) rfl
theorem tyOk73 : TyOk Try.prog 73 ty73 := TyOk.mk' (z := (.slice none 0 0)) (by kernel_rfl) rfl (fun h => by cases h) Try.underlying73 (.slice _) rfl
theorem tyOk74 : TyOk Try.prog 74 ty74 := TyOk.mk' (z := (.agg #[.int .i64 0, .int .i64 0, .int .i64 0])) (by kernel_rfl) rfl (fun _ => rfl) Try.underlying74 (.struct _ _ rfl) rfl
theorem tyOk75 : TyOk Try.prog 75 ty75 := TyOk.mk' (z := (.agg #[.int .i64 0, .int .i64 0, .int .i64 0])) (by kernel_rfl) rfl (fun _ => rfl) Try.underlying75 (.struct _ _ rfl) rfl
theorem tyOk76 : TyOk Try.prog 76 ty76 := TyOk.mk' (z := (.nilFunc)) (by kernel_rfl) rfl (fun h => by cases h) Try.underlying76 (.func _ _ _) rfl
theorem tyOk77 : TyOk Try.prog 77 ty77 := TyOk.mk' (z := (.slice none 0 0)) (by kernel_rfl) rfl (fun h => by cases h) Try.underlying77 (.slice _) rfl
theorem tyOk78 : TyOk Try.prog 78 ty78 := TyOk.mk' (z := (.int .u64 0)) (by kernel_rfl) rfl (fun h => by cases h) Try.underlying78 (.int _) rfl
theorem tyOk79 : TyOk Try.prog 79 ty79 := TyOk.mk' (z := (.agg #[.bool false, .int .u64 0, .bool false])) (by kernel_rfl) rfl (fun _ => rfl) Try.underlying79 (.struct _ _ rfl) rfl
theorem tyOk80 : TyOk Try.prog 80 ty80 := TyOk.mk' (z := (.agg #[.bool false, .int .u64 0, .bool false])) (by kernel_rfl) rfl (fun _ => rfl) Try.underlying80 (.struct _ _ rfl) rfl
theorem tyOk81 : TyOk Try.prog 81 ty81 := TyOk.mk' (z := (.slice none 0 0)) (by kernel_rfl) rfl (fun h => by cases h) Try.underlying81 (.slice _) rfl
theorem tyOk82 : TyOk Try.prog 82 ty82 := TyOk.mk' (z := (.agg #[.int .i64 0, .slice none 0 0, .slice none 0 0, .slice none 0 0, .int .i64 0, .int .i64 0])) (by kernel_rfl) rfl (fun _ => rfl) Try.underlying82 (.struct _ _ rfl) rfl
theorem tyOk83 : TyOk Try.prog 83 ty83 := TyOk.mk' (z := (.agg #[.int .i64 0, .slice none 0 0, .slice none 0 0, .slice none 0 0, .int .i64 0, .int .i64 0])) (by kernel_rfl) rfl (fun _ => rfl) Try.underlying83 (.struct _ _ rfl) rfl
theorem tyOk85 : TyOk Try.prog 85 ty85 := TyOk.mk' (z := (.nilFunc)) (by kernel_rfl) rfl (fun h => by cases h) Try.underlying85 (.func _ _ _) rfl
theorem tyOk86 : TyOk Try.prog 86 ty86 := TyOk.mk' (z := (.nilFunc)) (by kernel_rfl) rfl (fun h => by cases h) Try.underlying86 (.func _ _ _) rfl
theorem tyOk87 : TyOk Try.prog 87 ty87 := TyOk.mk' (z := (.nilFunc)) (by kernel_rfl) rfl (fun h => by cases h) Try.underlying87 (.func _ _ _) rfl
theorem tyOk88 : TyOk Try.prog 88 ty88 := TyOk.mk' (z := (.nilFunc)) (by kernel_rfl) rfl (fun h => by cases h) Try.underlying88 (.func _ _ _) rfl
theorem tyOk90 : TyOk Try.prog 90 ty90 := TyOk.mk' (z := (.nilFunc)) (by kernel_rfl) rfl (fun h => by cases h) Try.underlying90 (.func _ _ _) rfl
theorem tyOk91 : TyOk Try.prog 91 ty91 := TyOk.mk' (z := (.nilFunc)) (by kernel_rfl) rfl (fun h => by cases h) Try.underlying91 (.func _ _ _) rfl
theorem tyOk92 : TyOk Try.prog 92 ty92 := TyOk.mk' (z := (.nilFunc)) (by kernel_rfl) rfl (fun h => by cases h) Try.underlying92 (.func _ _ _) rfl
theorem tyOk93 : TyOk Try.prog 93 ty93 := TyOk.mk' (z := (.nilFunc)) (by kernel_rfl) rfl (fun h => by cases h) Try.underlying93 (.func _ _ _) rfl
theorem tyOk94 : TyOk Try.prog 94 ty94 := TyOk.mk' (z := (.nilFunc)) (by kernel_rfl) rfl (fun h => by cases h) Try.underlying94 (.func _ _ _) rfl
theorem tyOk95 : TyOk Try.prog 95 ty95 := TyOk.mk' (z := (.nilFunc)) (by kernel_rfl) rfl (fun h => by cases h) Try.underlying95 (.func _ _ _) rfl
theorem tyOk96 : TyOk Try.prog 96 ty96 := TyOk.mk' (z := (.nilFunc)) (by kernel_rfl) rfl (fun h => by cases h) Try.underlying96 (.func _ _ _) rfl
theorem tyOk97 : TyOk Try.prog 97 ty97 := TyOk.mk' (z := (.nilFunc)) (by kernel_rfl) rfl (fun h => by cases h) Try.underlying97 (.func _ _ _) rfl
theorem tyOk98 : TyOk Try.prog 98 ty98 := TyOk.mk' (z := (.nilFunc)) (by kernel_rfl) rfl (fun h => by cases h) Try.underlying98 (.func _ _ _) rfl
theorem tyOk99 : TyOk Try.prog 99 ty99 := TyOk.mk' (z := (.nilFunc)) (by kernel_rfl) rfl (fun h => by cases h) Try.underlying99 (.func _ _ _) rfl
theorem tyOk100 : TyOk Try.prog 100 ty100 := TyOk.mk' (z := (.slice none 0 0)) (by kernel_rfl) rfl (fun h => by cases h) Try.underlying100 (.slice _) rfl
theorem tyOk101 : TyOk Try.prog 101 ty101 := TyOk.mk' (z := (.agg #[.int .i64 0, .int .i64 0, .int .i64 0, .slice none 0 0])) (by kernel_rfl) rfl (fun _ => rfl) Try.underlying101 (.struct _ _ rfl) rfl
theorem tyOk102 : TyOk Try.prog 102 ty102 := TyOk.mk' (z := (.agg #[.int .i64 0, .int .i64 0, .int .i64 0, .slice none 0 0])) (by kernel_rfl) rfl (fun _ => rfl) Try.underlying102 (.struct _ _ rfl) rfl
theorem tyOk103 : TyOk Try.prog 103 ty103 := TyOk.mk' (z := (.nilFunc)) (by kernel_rfl) rfl (fun h => by cases h) Try.underlying103 (.func _ _ _) rfl
theorem tyOk104 : TyOk Try.prog 104 ty104 := TyOk.mk' (z := (.nilFunc)) (by kernel_rfl) rfl (fun h => by cases h) Try.underlying104 (.func _ _ _) rfl
theorem tyOk105 : TyOk Try.prog 105 ty105 := TyOk.mk' (z := (.nilFunc)) (by kernel_rfl) rfl (fun h => by cases h) Try.underlying105 (.func _ _ _) rfl
theorem tyOk106 : TyOk Try.prog 106 ty106 := TyOk.mk' (z := (.nilFunc)) (by kernel_rfl) rfl (fun h => by cases h) Try.underlying106 (.func _ _ _) rfl
theorem tyOk107 : TyOk Try.prog 107 ty107 := TyOk.mk' (z := (.nilFunc)) (by kernel_rfl) rfl (fun h => by cases h) Try.underlying107 (.func _ _ _) rfl
theorem tyOk108 : TyOk Try.prog 108 ty108 := TyOk.mk' (z := (.nilFunc)) (by kernel_rfl) rfl (fun h => by cases h) Try.underlying108 (.func _ _ _) rfl
theorem tyOk109 : TyOk Try.prog 109 ty109 := TyOk.mk' (z := (.agg #[.nilFunc, .nilFunc, .nilFunc, .nilFunc])) (by kernel_rfl) rfl (fun _ => rfl) Try.underlying109 (.array _ _) rfl
theorem tyOk110 : TyOk Try.prog 110 ty110 := TyOk.mk' (z := (.nilFunc)) (by kernel_rfl) rfl (fun h => by cases h) Try.underlying110 (.func _ _ _) rfl
theorem tyOk111 : TyOk Try.prog 111 ty111 := TyOk.mk' (z := (.nilFunc)) (by kernel_rfl) rfl (fun h => by cases h) Try.underlying111 (.func _ _ _) rfl
theorem tyOk112 : TyOk Try.prog 112 ty112 := TyOk.mk' (z := (.nilFunc)) (by kernel_rfl) rfl (fun h => by cases h) Try.underlying112 (.func _ _ _) rfl
theorem tyOk113 : TyOk Try.prog 113 ty113 := TyOk.mk' (z := (.pointer none)) (by kernel_rfl) rfl (fun h => by cases h) Try.underlying113 (.ptr _) rfl
theorem tyOk114 : TyOk Try.prog 114 ty114 := TyOk.mk' (z := (.agg #[.int .i64 0, .int .i64 0, .int .i64 0, .int .i64 0, .int .i64 0, .int .i64 0, .int .i64 0, .slice none 0 0, .slice none 0 0, .slice none 0 0, .int .i64 0, .int .i64 0, .slice none 0 0])) (by kernel_rfl) rfl (fun _ => rfl) Try.underlying114 (.struct _ _ rfl) rfl
theorem tyOk115 : TyOk Try.prog 115 ty115 := TyOk.mk' (z := (.agg #[.int .i64 0, .int .i64 0, .int .i64 0, .int .i64 0, .int .i64 0, .int .i64 0, .int .i64 0, .slice none 0 0, .slice none 0 0, .slice none 0 0, .int .i64 0, .int .i64 0, .slice none 0 0])) (by kernel_rfl) rfl (fun _ => rfl) Try.underlying115 (.struct _ _ rfl) rfl
theorem tyOk116 : TyOk Try.prog 116 ty116 := TyOk.mk' (z := (.nilFunc)) (by kernel_rfl) rfl (fun h => by cases h) Try.underlying116 (.func _ _ _) rfl
theorem tyOk117 : TyOk Try.prog 117 ty117 := TyOk.mk' (z := (.map none)) (by kernel_rfl) rfl (fun h => by cases h) Try.underlying117 (.map _ _) rfl
theorem tyOk119 : TyOk Try.prog 119 ty119 := TyOk.mk' (z := (.nilFunc)) (by kernel_rfl) rfl (fun h => by cases h) Try.underlying119 (.func _ _ _) rfl
theorem tyOk120 : TyOk Try.prog 120 ty120 := TyOk.mk' (z := (.nilFunc)) (by kernel_rfl) rfl (fun h => by cases h) Try.underlying120 (.func _ _ _) rfl
theorem tyOk121 : TyOk Try.prog 121 ty121 := TyOk.mk' (z := (.nilFunc)) (by kernel_rfl) rfl (fun h => by cases h) Try.underlying121 (.func _ _ _) rfl
theorem tyOk123 : TyOk Try.prog 123 ty123 := TyOk.mk' (z := (.nilFunc)) (by kernel_rfl) rfl (fun h => by cases h) Try.underlying123 (.func _ _ _) rfl
theorem tyOk124 : TyOk Try.prog 124 ty124 := TyOk.mk' (z := (.nilFunc)) (by kernel_rfl) rfl (fun h => by cases h) Try.underlying124 (.func _ _ _) rfl
theorem tyOk125 : TyOk Try.prog 125 ty125 := TyOk.mk' (z := (.pointer none)) (by kernel_rfl) rfl (fun h => by cases h) Try.underlying125 (.ptr _) rfl
theorem tyOk126 : TyOk Try.prog 126 ty126 := TyOk.mk' (z := (.nilFunc)) (by kernel_rfl) rfl (fun h => by cases h) Try.underlying126 (.func _ _ _) rfl
theorem tyOk127 : TyOk Try.prog 127 ty127 := TyOk.mk' (z := (.nilFunc)) (by kernel_rfl) rfl (fun h => by cases h) Try.underlying127 (.func _ _ _) rfl
theorem tyOk128 : TyOk Try.prog 128 ty128 := TyOk.mk' (z := (.nilFunc)) (by kernel_rfl) rfl (fun h => by cases h) Try.underlying128 (.func _ _ _) rfl
theorem tyOk129 : TyOk Try.prog 129 ty129 := TyOk.mk' (z := (.nilFunc)) (by kernel_rfl) rfl (fun h => by cases h) Try.underlying129 (.func _ _ _) rfl
theorem tyOk130 : TyOk Try.prog 130 ty130 := TyOk.mk' (z := (.nilFunc)) (by kernel_rfl) rfl (fun h => by cases h) Try.underlying130 (.func _ _ _) rfl
theorem tyOk131 : TyOk Try.prog 131 ty131 := TyOk.mk' (z := (.nilFunc)) (by kernel_rfl) rfl (fun h => by cases h) Try.underlying131 (.func _ _ _) rfl
theorem tyOk132 : TyOk Try.prog 132 ty132 := TyOk.mk' (z := (.nilFunc)) (by kernel_rfl) rfl (fun h => by cases h) Try.underlying132 (.func _ _ _) rfl
theorem tyOk133 : TyOk Try.prog 133 ty133 := TyOk.mk' (z := (.nilFunc)) (by kernel_rfl) rfl (fun h => by cases h) Try.underlying133 (.func _ _ _) rfl
theorem tyOk134 : TyOk Try.prog 134 ty134 := TyOk.mk' (z := (.nilFunc)) (by kernel_rfl) rfl (fun h => by cases h) Try.underlying134 (.func _ _ _) rfl
theorem tyOk135 : TyOk Try.prog 135 ty135 := TyOk.mk' (z := (.map none)) (by kernel_rfl) rfl (fun h => by cases h) Try.underlying135 (.map _ _) rfl
theorem tyOk136 : TyOk Try.prog 136 ty136 := TyOk.mk' (z := (.nilFunc)) (by kernel_rfl) rfl (fun h => by cases h) Try.underlying136 (.func _ _ _) rfl
theorem tyOk137 : TyOk Try.prog 137 ty137 := TyOk.mk' (z := (.nilFunc)) (by kernel_rfl) rfl (fun h => by cases h) Try.underlying137 (.func _ _ _) rfl
theorem tyOk138 : TyOk Try.prog 138 ty138 := TyOk.mk' (z := (.nilFunc)) (by kernel_rfl) rfl (fun h => by cases h) Try.underlying138 (.func _ _ _) rfl
theorem tyOk139 : TyOk Try.prog 139 ty139 := TyOk.mk' (z := (.nilFunc)) (by kernel_rfl) rfl (fun h => by cases h) Try.underlying139 (.func _ _ _) rfl
theorem tyOk140 : TyOk Try.prog 140 ty140 := TyOk.mk' (z := (.nilFunc)) (by kernel_rfl) rfl (fun h => by cases h) Try.underlying140 (.func _ _ _) rfl
theorem tyOk141 : TyOk Try.prog 141 ty141 := TyOk.mk' (z := (.nilFunc)) (by kernel_rfl) rfl (fun h => by cases h) Try.underlying141 (.func _ _ _) rfl
theorem tyOk142 : TyOk Try.prog 142 ty142 := TyOk.mk' (z := (.nilFunc)) (by kernel_rfl) rfl (fun h => by cases h) Try.underlying142 (.func _ _ _) rfl
theorem tyOk143 : TyOk Try.prog 143 ty143 := TyOk.mk' (z := (.nilFunc)) (by kernel_rfl) rfl (fun h => by cases h) Try.underlying143 (.func _ _ _) rfl
theorem tyOk144 : TyOk Try.prog 144 ty144 := TyOk.mk' (z := (.int .u64 0)) (by kernel_rfl) rfl (fun h => by cases h) Try.underlying144 (.int _) rfl
theorem tyOk145 : TyOk Try.prog 145 ty145 := TyOk.mk' (z := (.nilFunc)) (by kernel_rfl) rfl (fun h => by cases h) Try.underlying145 (.func _ _ _) rfl
theorem tyOk146 : TyOk Try.prog 146 ty146 := TyOk.mk' (z := (.nilFunc)) (by kernel_rfl) rfl (fun h => by cases h) Try.underlying146 (.func _ _ _) rfl
theorem tyOk147 : TyOk Try.prog 147 ty147 := TyOk.mk' (z := (.nilFunc)) (by kernel_rfl) rfl (fun h => by cases h) Try.underlying147 (.func _ _ _) rfl
theorem tyOk148 : TyOk Try.prog 148 ty148 := TyOk.mk' (z := (.nilFunc)) (by kernel_rfl) rfl (fun h => by cases h) Try.underlying148 (.func _ _ _) rfl
theorem tyOk150 : TyOk Try.prog 150 ty150 := TyOk.mk' (z := (.nilFunc)) (by kernel_rfl) rfl (fun h => by cases h) Try.underlying150 (.func _ _ _) rfl
theorem tyOk151 : TyOk Try.prog 151 ty151 := TyOk.mk' (z := (.nilFunc)) (by kernel_rfl) rfl (fun h => by cases h) Try.underlying151 (.func _ _ _) rfl
theorem tyOk152 : TyOk Try.prog 152 ty152 := TyOk.mk' (z := (.nilFunc)) (by kernel_rfl) rfl (fun h => by cases h) Try.underlying152 (.func _ _ _) rfl
theorem tyOk153 : TyOk Try.prog 153 ty153 := TyOk.mk' (z := (.nilFunc)) (by kernel_rfl) rfl (fun h => by cases h) Try.underlying153 (.func _ _ _) rfl
theorem tyOk154 : TyOk Try.prog 154 ty154 := TyOk.mk' (z := (.nilFunc)) (by kernel_rfl) rfl (fun h => by cases h) Try.underlying154 (.func _ _ _) rfl
theorem tyOk155 : TyOk Try.prog 155 ty155 := TyOk.mk' (z := (.nilFunc)) (by kernel_rfl) rfl (fun h => by cases h) Try.underlying155 (.func _ _ _) rfl
theorem tyOk156 : TyOk Try.prog 156 ty156 := TyOk.mk' (z := (.nilFunc)) (by kernel_rfl) rfl (fun h => by cases h) Try.underlying156 (.func _ _ _) rfl
theorem tyOk157 : TyOk Try.prog 157 ty157 := TyOk.mk' (z := (.nilFunc)) (by kernel_rfl) rfl (fun h => by cases h) Try.underlying157 (.func _ _ _) rfl
theorem tyOk158 : TyOk Try.prog 158 ty158 := TyOk.mk' (z := (.nilFunc)) (by kernel_rfl) rfl (fun h => by cases h) Try.underlying158 (.func _ _ _) rfl
theorem tyOk159 : TyOk Try.prog 159 ty159 := TyOk.mk' (z := (.nilFunc)) (by kernel_rfl) rfl (fun h => by cases h) Try.underlying159 (.func _ _ _) rfl
theorem tyOk160 : TyOk Try.prog 160 ty160 := TyOk.mk' (z := (.nilFunc)) (by kernel_rfl) rfl (fun h => by cases h) Try.underlying160 (.func _ _ _) rfl
theorem tyOk161 : TyOk Try.prog 161 ty161 := TyOk.mk' (z := (.nilFunc)) (by kernel_rfl) rfl (fun h => by cases h) Try.underlying161 (.func _ _ _) rfl
theorem tyOk162 : TyOk Try.prog 162 ty162 := TyOk.mk' (z := (.nilFunc)) (by kernel_rfl) rfl (fun h => by cases h) Try.underlying162 (.func _ _ _) rfl
theorem tyOk163 : TyOk Try.prog 163 ty163 := TyOk.mk' (z := (.nilFunc)) (by kernel_rfl) rfl (fun h => by cases h) Try.underlying163 (.func _ _ _) rfl
theorem tyOk164 : TyOk Try.prog 164 ty164 := TyOk.mk' (z := (.nilFunc)) (by kernel_rfl) rfl (fun h => by cases h) Try.underlying164 (.func _ _ _) rfl
theorem tyOk165 : TyOk Try.prog 165 ty165 := TyOk.mk' (z := (.nilFunc)) (by kernel_rfl) rfl (fun h => by cases h) Try.underlying165 (.func _ _ _) rfl
theorem tyOk166 : TyOk Try.prog 166 ty166 := TyOk.mk' (z := (.nilFunc)) (by kernel_rfl) rfl (fun h => by cases h) Try.underlying166 (.func _ _ _) rfl
theorem tyOk167 : TyOk Try.prog 167 ty167 := TyOk.mk' (z := (.nilFunc)) (by kernel_rfl) rfl (fun h => by cases h) Try.underlying167 (.func _ _ _) rfl
theorem tyOk168 : TyOk Try.prog 168 ty168 := TyOk.mk' (z := (.nilFunc)) (by kernel_rfl) rfl (fun h => by cases h) Try.underlying168 (.func _ _ _) rfl
theorem tyOk169 : TyOk Try.prog 169 ty169 := TyOk.mk' (z := (.nilFunc)) (by kernel_rfl) rfl (fun h => by cases h) Try.underlying169 (.func _ _ _) rfl
theorem tyOk170 : TyOk Try.prog 170 ty170 := TyOk.mk' (z := (.nilFunc)) (by kernel_rfl) rfl (fun h => by cases h) Try.underlying170 (.func _ _ _) rfl
theorem tyOk171 : TyOk Try.prog 171 ty171 := TyOk.mk' (z := (.nilFunc)) (by kernel_rfl) rfl (fun h => by cases h) Try.underlying171 (.func _ _ _) rfl
theorem tyOk172 : TyOk Try.prog 172 ty172 := TyOk.mk' (z := (.nilFunc)) (by kernel_rfl) rfl (fun h => by cases h) Try.underlying172 (.func _ _ _) rfl
theorem tyOk173 : TyOk Try.prog 173 ty173 := TyOk.mk' (z := (.nilFunc)) (by kernel_rfl) rfl (fun h => by cases h) Try.underlying173 (.func _ _ _) rfl
theorem tyOk174 : TyOk Try.prog 174 ty174 := TyOk.mk' (z := (.nilFunc)) (by kernel_rfl) rfl (fun h => by cases h) Try.underlying174 (.func _ _ _) rfl
theorem tyOk175 : TyOk Try.prog 175 ty175 := TyOk.mk' (z := (.nilFunc)) (by kernel_rfl) rfl (fun h => by cases h) Try.underlying175 (.func _ _ _) rfl
theorem tyOk176 : TyOk Try.prog 176 ty176 := TyOk.mk' (z := (.nilFunc)) (by kernel_rfl) rfl (fun h => by cases h) Try.underlying176 (.func _ _ _) rfl
theorem tyOk179 : TyOk Try.prog 179 ty179 := TyOk.mk' (z := (.agg #[])) (by kernel_rfl) rfl (fun _ => rfl) Try.underlying179 (.array _ _) rfl
theorem tyOk180 : TyOk Try.prog 180 ty180 := TyOk.mk' (z := (.agg #[])) (by kernel_rfl) rfl (fun _ => rfl) Try.underlying180 (.struct _ _ rfl) rfl
theorem tyOk181 : TyOk Try.prog 181 ty181 := TyOk.mk' (z := (.agg #[])) (by kernel_rfl) rfl (fun _ => rfl) Try.underlying181 (.struct _ _ rfl) rfl
theorem tyOk182 : TyOk Try.prog 182 ty182 := TyOk.mk' (z := (.nilFunc)) (by kernel_rfl) rfl (fun h => by cases h) Try.underlying182 (.func _ _ _) rfl
theorem tyOk183 : TyOk Try.prog 183 ty183 := TyOk.mk' (z := (.int .u8 0)) (by kernel_rfl) rfl (fun h => by cases h) Try.underlying183 (.int _) rfl
theorem tyOk184 : TyOk Try.prog 184 ty184 := TyOk.mk' (z := (.int .u8 0)) (by kernel_rfl) rfl (fun h => by cases h) Try.underlying184 (.int _) rfl
theorem tyOk185 : TyOk Try.prog 185 ty185 := TyOk.mk' (z := (.nilFunc)) (by kernel_rfl) rfl (fun h => by cases h) Try.underlying185 (.func _ _ _) rfl
theorem tyOk186 : TyOk Try.prog 186 ty186 := TyOk.mk' (z := (.pointer none)) (by kernel_rfl) rfl (fun h => by cases h) Try.underlying186 (.ptr _) rfl
theorem tyOk187 : TyOk Try.prog 187 ty187 := TyOk.mk' (z := (.int .i32 0)) (by kernel_rfl) rfl (fun h => by cases h) Try.underlying187 (.int _) rfl
theorem tyOk188 : TyOk Try.prog 188 ty188 := TyOk.mk' (z := (.int .i32 0)) (by kernel_rfl) rfl (fun h => by cases h) Try.underlying188 (.int _) rfl
theorem tyOk189 : TyOk Try.prog 189 ty189 := TyOk.mk' (z := (.agg #[.int .u64 0, .int .u64 0, .int .u32 0, .int .u8 0, .int .u8 0, .int .u8 0, .int .u8 0, .nilFunc, .pointer none, .int .i32 0, .int .i32 0])) (by kernel_rfl) rfl (fun _ => rfl) Try.underlying189 (.struct _ _ rfl) rfl
theorem tyOk190 : TyOk Try.prog 190 ty190 := TyOk.mk' (z := (.agg #[.int .u64 0, .int .u64 0, .int .u32 0, .int .u8 0, .int .u8 0, .int .u8 0, .int .u8 0, .nilFunc, .pointer none, .int .i32 0, .int .i32 0])) (by kernel_rfl) rfl (fun _ => rfl) Try.underlying190 (.struct _ _ rfl) rfl
theorem tab_ok : TabOk Try.prog tab := TT.ok (T := tabT) ⟨tyOk99, ⟨tyOk52, ⟨tyOk27, ⟨tyOk16, ⟨tyOk6, ⟨tyOk3, ⟨tyOk2, ⟨tyOk1, trivial, trivial⟩, trivial⟩, ⟨tyOk5, ⟨tyOk4, trivial, trivial⟩, trivial⟩⟩, ⟨tyOk12, ⟨tyOk8, ⟨tyOk7, trivial, trivial⟩, trivial⟩, ⟨tyOk15, trivial, trivial⟩⟩⟩, ⟨tyOk22, ⟨tyOk19, ⟨tyOk18, ⟨tyOk17, trivial, trivial⟩, trivial⟩, ⟨tyOk21, ⟨tyOk20, trivial, trivial⟩, trivial⟩⟩, ⟨tyOk25, ⟨tyOk24, ⟨tyOk23, trivial, trivial⟩, trivial⟩, ⟨tyOk26, trivial, trivial⟩⟩⟩⟩, ⟨tyOk39, ⟨tyOk33, ⟨tyOk30, ⟨tyOk29, ⟨tyOk28, trivial, trivial⟩, trivial⟩, ⟨tyOk32, ⟨tyOk31, trivial, trivial⟩, trivial⟩⟩, ⟨tyOk36, ⟨tyOk35, ⟨tyOk34, trivial, trivial⟩, trivial⟩, ⟨tyOk37, trivial, trivial⟩⟩⟩, ⟨tyOk47, ⟨tyOk44, ⟨tyOk43, ⟨tyOk41, trivial, trivial⟩, trivial⟩, ⟨tyOk46, ⟨tyOk45, trivial, trivial⟩, trivial⟩⟩, ⟨tyOk50, ⟨tyOk49, ⟨tyOk48, trivial, trivial⟩, trivial⟩, ⟨tyOk51, trivial, trivial⟩⟩⟩⟩⟩, ⟨tyOk75, ⟨tyOk63, ⟨tyOk58, ⟨tyOk55, ⟨tyOk54, ⟨tyOk53, trivial, trivial⟩, trivial⟩, ⟨tyOk57, ⟨tyOk56, trivial, trivial⟩, trivial⟩⟩, ⟨tyOk61, ⟨tyOk60, ⟨tyOk59, trivial, trivial⟩, trivial⟩, ⟨tyOk62, trivial, trivial⟩⟩⟩, ⟨tyOk70, ⟨tyOk67, ⟨tyOk66, ⟨tyOk65, trivial, trivial⟩, trivial⟩, ⟨tyOk69, ⟨tyOk68, trivial, trivial⟩, trivial⟩⟩, ⟨tyOk73, ⟨tyOk72, ⟨tyOk71, trivial, trivial⟩, trivial⟩, ⟨tyOk74, trivial, trivial⟩⟩⟩⟩, ⟨tyOk87, ⟨tyOk81, ⟨tyOk78, ⟨tyOk77, ⟨tyOk76, trivial, trivial⟩, trivial⟩, ⟨tyOk80, ⟨tyOk79, trivial, trivial⟩, trivial⟩⟩, ⟨tyOk85, ⟨tyOk83, ⟨tyOk82, trivial, trivial⟩, trivial⟩, ⟨tyOk86, trivial, trivial⟩⟩⟩, ⟨tyOk94, ⟨tyOk91, ⟨tyOk90, ⟨tyOk88, trivial, trivial⟩, trivial⟩, ⟨tyOk93, ⟨tyOk92, trivial, trivial⟩, trivial⟩⟩, ⟨tyOk97, ⟨tyOk96, ⟨tyOk95, trivial, trivial⟩, trivial⟩, ⟨tyOk98, trivial, trivial⟩⟩⟩⟩⟩⟩, ⟨tyOk145, ⟨tyOk123, ⟨tyOk110, ⟨tyOk105, ⟨tyOk102, ⟨tyOk101, ⟨tyOk100, trivial, trivial⟩, trivial⟩, ⟨tyOk104, ⟨tyOk103, trivial, trivial⟩, trivial⟩⟩, ⟨tyOk108, ⟨tyOk107, ⟨tyOk106, trivial, trivial⟩, trivial⟩, ⟨tyOk109, trivial, trivial⟩⟩⟩, ⟨tyOk116, ⟨tyOk113, ⟨tyOk112, ⟨tyOk111, trivial, trivial⟩, trivial⟩, ⟨tyOk115, ⟨tyOk114, trivial, trivial⟩, trivial⟩⟩, ⟨tyOk120, ⟨tyOk119, ⟨tyOk117, trivial, trivial⟩, trivial⟩, ⟨tyOk121, trivial, trivial⟩⟩⟩⟩, ⟨tyOk134, ⟨tyOk129, ⟨tyOk126, ⟨tyOk125, ⟨tyOk124, trivial, trivial⟩, trivial⟩, ⟨tyOk128, ⟨tyOk127, trivial, trivial⟩, trivial⟩⟩, ⟨tyOk132, ⟨tyOk131, ⟨tyOk130, trivial, trivial⟩, trivial⟩, ⟨tyOk133, trivial, trivial⟩⟩⟩, ⟨tyOk140, ⟨tyOk137, ⟨tyOk136, ⟨tyOk135, trivial, trivial⟩, trivial⟩, ⟨tyOk139, ⟨tyOk138, trivial, trivial⟩, trivial⟩⟩, ⟨tyOk143, ⟨tyOk142, ⟨tyOk141, trivial, trivial⟩, trivial⟩, ⟨tyOk144, trivial, trivial⟩⟩⟩⟩⟩, ⟨tyOk168, ⟨tyOk157, ⟨tyOk152, ⟨tyOk148, ⟨tyOk147, ⟨tyOk146, trivial, trivial⟩, trivial⟩, ⟨tyOk151, ⟨tyOk150, trivial, trivial⟩, trivial⟩⟩, ⟨tyOk155, ⟨tyOk154, ⟨tyOk153, trivial, trivial⟩, trivial⟩, ⟨tyOk156, trivial, trivial⟩⟩⟩, ⟨tyOk163, ⟨tyOk160, ⟨tyOk159, ⟨tyOk158, trivial, trivial⟩, trivial⟩, ⟨tyOk162, ⟨tyOk161, trivial, trivial⟩, trivial⟩⟩, ⟨tyOk166, ⟨tyOk165, ⟨tyOk164, trivial, trivial⟩, trivial⟩, ⟨tyOk167, trivial, trivial⟩⟩⟩⟩, ⟨tyOk181, ⟨tyOk174, ⟨tyOk171, ⟨tyOk170, ⟨tyOk169, trivial, trivial⟩, trivial⟩, ⟨tyOk173, ⟨tyOk172, trivial, trivial⟩, trivial⟩⟩, ⟨tyOk179, ⟨tyOk176, ⟨tyOk175, trivial, trivial⟩, trivial⟩, ⟨tyOk180, trivial, trivial⟩⟩⟩, ⟨tyOk186, ⟨tyOk184, ⟨tyOk183, ⟨tyOk182, trivial, trivial⟩, trivial⟩, ⟨tyOk185, trivial, trivial⟩⟩, ⟨tyOk189, ⟨tyOk188, ⟨tyOk187, trivial, trivial⟩, trivial⟩, ⟨tyOk190, trivial, trivial⟩⟩⟩⟩⟩⟩⟩
theorem mix : Try.prog.follows .mixedOrders = true := by kernel_rfl
end Go.Proofs.Ytmihhkcbbdpnaaa.Abs
