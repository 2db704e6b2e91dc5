/- The type table of the translation, by program (gentab.py), and that it is the translation's own. -/
import Derived.Test.YtajgcanfngcfhaaGreatC1
namespace Go.Proofs.YtajgcanfngcfhaaGreat.Abs
def ty1 : Ty := ⟨1, 8, false, [.nilFunc], .func⟩
def ty2 : Ty := ⟨1, 8, false, [.int .i64 0], (.int .i64)⟩
def ty3 : Ty := ⟨1, 8, false, [.int .i64 0], (.int .i64)⟩
def ty4 : Ty := ⟨1, 1, false, [.bool false], .bool⟩
def ty5 : Ty := ⟨1, 1, false, [.int .u8 0], (.int .u8)⟩
def ty6 : Ty := ⟨1, 1, false, [.int .u8 0], (.int .u8)⟩
def ty7 : Ty := ⟨4, 24, true, [.int .i64 0, .int .i64 0, .bool false, .int .u8 0], (.struct [(0, 2), (1, 3), (2, 4), (3, 6)])⟩
def ty8 : Ty := ⟨4, 24, true, [.int .i64 0, .int .i64 0, .bool false, .int .u8 0], (.struct [(0, 2), (1, 3), (2, 4), (3, 6)])⟩
def ty12 : Ty := ⟨1, 8, false, [.int .u64 0], (.int .u64)⟩
def ty15 : Ty := ⟨1, 8, false, [.pointer none], (.ptr 256)⟩
def ty16 : Ty := ⟨1, 8, false, [.pointer none], (.ptr 259)⟩
def ty17 : Ty := ⟨1, 8, false, [.pointer none], (.ptr 267)⟩
def ty18 : Ty := ⟨1, 8, true, [.pointer none], (.struct [(0, 17)])⟩
def ty19 : Ty := ⟨1, 8, true, [.pointer none], (.struct [(0, 17)])⟩
def ty20 : Ty := ⟨1, 16, false, [.nilIface], .iface⟩
def ty21 : Ty := ⟨1, 4, false, [.int .i32 0], (.int .i32)⟩
def ty22 : Ty := ⟨1, 24, false, [.slice none 0 0], (.slice 30)⟩
def ty23 : Ty := ⟨1, 4, false, [.int .u32 0], (.int .u32)⟩
def ty24 : Ty := ⟨1, 8, false, [.nilFunc], .func⟩
def ty25 : Ty := ⟨1, 8, false, [.pointer none], (.ptr 120)⟩
def ty26 : Ty := ⟨1, 8, false, [.nilFunc], .func⟩
def ty27 : Ty := ⟨1, 8, false, [.nilFunc], .func⟩
def ty28 : Ty := ⟨1, 8, false, [.int .u64 0], (.int .u64)⟩
def ty29 : Ty := ⟨3, 24, true, [.int .u8 0, .int .u64 0, .bool false], (.struct [(0, 5), (1, 28), (2, 4)])⟩
def ty30 : Ty := ⟨3, 24, true, [.int .u8 0, .int .u64 0, .bool false], (.struct [(0, 5), (1, 28), (2, 4)])⟩
def ty31 : Ty := ⟨1, 8, false, [.pointer none], (.ptr 129)⟩
def ty32 : Ty := ⟨1, 8, false, [.nilFunc], .func⟩
def ty33 : Ty := ⟨1, 8, false, [.nilFunc], .func⟩
def ty34 : Ty := ⟨1, 8, false, [.nilFunc], .func⟩
def ty35 : Ty := ⟨3, 24, true, [.int .i64 0, .int .i64 0, .int .i64 0], (.struct [(0, 3), (1, 3), (2, 3)])⟩
def ty36 : Ty := ⟨3, 24, true, [.int .i64 0, .int .i64 0, .int .i64 0], (.struct [(0, 3), (1, 3), (2, 3)])⟩
def ty38 : Ty := ⟨1, 8, false, [.nilFunc], .func⟩
def ty40 : Ty := ⟨1, 8, false, [.nilFunc], .func⟩
def ty41 : Ty := ⟨1, 8, false, [.nilFunc], .func⟩
def ty42 : Ty := ⟨1, 24, false, [.slice none 0 0], (.slice 52)⟩
def ty43 : Ty := ⟨1, 24, false, [.slice none 0 0], (.slice 3)⟩
def ty44 : Ty := ⟨3, 56, true, [.slice none 0 0, .slice none 0 0, .int .i64 0], (.struct [(0, 42), (1, 43), (2, 3)])⟩
def ty45 : Ty := ⟨3, 56, true, [.slice none 0 0, .slice none 0 0, .int .i64 0], (.struct [(0, 42), (1, 43), (2, 3)])⟩
def ty46 : Ty := ⟨1, 8, false, [.nilFunc], .func⟩
def ty47 : Ty := ⟨1, 24, false, [.slice none 0 0], (.slice 36)⟩
def ty48 : Ty := ⟨1, 8, false, [.nilFunc], .func⟩
def ty49 : Ty := ⟨1, 8, false, [.nilFunc], .func⟩
def ty50 : Ty := ⟨1, 8, false, [.nilFunc], .func⟩
def ty51 : Ty := ⟨4, 32, true, [.int .i64 0, .int .i64 0, .int .i64 0, .int .i64 0], (.struct [(0, 3), (1, 3), (2, 3), (3, 3)])⟩
def ty52 : Ty := ⟨4, 32, true, [.int .i64 0, .int .i64 0, .int .i64 0, .int .i64 0], (.struct [(0, 3), (1, 3), (2, 3), (3, 3)])⟩
def ty53 : Ty := ⟨1, 8, false, [.nilFunc], .func⟩
def ty54 : Ty := ⟨1, 2, false, [.int .u16 0], (.int .u16)⟩
def ty55 : Ty := ⟨1, 8, false, [.nilFunc], .func⟩
def ty56 : Ty := ⟨1, 8, false, [.nilFunc], .func⟩
def ty57 : Ty := ⟨1, 8, false, [.nilFunc], .func⟩
def ty58 : Ty := ⟨1, 8, false, [.nilFunc], .func⟩
def ty59 : Ty := ⟨1, 8, false, [.nilFunc], .func⟩
def ty60 : Ty := ⟨1, 8, false, [.nilFunc], .func⟩
def ty61 : Ty := ⟨1, 8, false, [.nilFunc], .func⟩
def ty62 : Ty := ⟨1, 24, false, [.slice none 0 0], (.slice 5)⟩
def ty63 : Ty := ⟨1, 8, false, [.pointer none], (.ptr 151)⟩
def ty65 : Ty := ⟨1, 8, false, [.nilFunc], .func⟩
def ty66 : Ty := ⟨1, 8, false, [.nilFunc], .func⟩
def ty67 : Ty := ⟨1, 8, false, [.nilFunc], .func⟩
def ty69 : Ty := ⟨1, 8, false, [.nilFunc], .func⟩
def ty70 : Ty := ⟨1, 8, false, [.pointer none], (.ptr 160)⟩
def ty71 : Ty := ⟨4, 32, true, [.pointer none, .pointer none, .pointer none, .pointer none], (.array 4 70)⟩
def ty72 : Ty := ⟨4, 4, true, [.bool false, .bool false, .bool false, .bool false], (.array 4 4)⟩
def ty73 : Ty := ⟨1, 8, false, [.nilFunc], .func⟩
def ty74 : Ty := ⟨5, 40, true, [.int .i64 0, .int .i64 0, .int .i64 0, .int .i64 0, .int .i64 0], (.struct [(0, 3), (1, 3), (2, 3), (3, 3), (4, 3)])⟩
def ty75 : Ty := ⟨5, 40, true, [.int .i64 0, .int .i64 0, .int .i64 0, .int .i64 0, .int .i64 0], (.struct [(0, 3), (1, 3), (2, 3), (3, 3), (4, 3)])⟩
def ty76 : Ty := ⟨1, 8, false, [.int .i64 0], (.int .i64)⟩
def ty77 : Ty := ⟨1, 24, false, [.slice none 0 0], (.slice 168)⟩
def ty78 : Ty := ⟨4, 48, true, [.int .i64 0, .int .i64 0, .bool false, .slice none 0 0], (.struct [(0, 76), (1, 3), (2, 4), (3, 77)])⟩
def ty79 : Ty := ⟨4, 48, true, [.int .i64 0, .int .i64 0, .bool false, .slice none 0 0], (.struct [(0, 76), (1, 3), (2, 4), (3, 77)])⟩
def ty80 : Ty := ⟨1, 8, false, [.nilFunc], .func⟩
def ty81 : Ty := ⟨1, 8, false, [.nilFunc], .func⟩
def ty83 : Ty := ⟨1, 8, false, [.nilFunc], .func⟩
def ty84 : Ty := ⟨1, 8, false, [.nilFunc], .func⟩
def ty85 : Ty := ⟨1, 8, false, [.nilFunc], .func⟩
def ty86 : Ty := ⟨1, 8, false, [.nilFunc], .func⟩
def ty87 : Ty := ⟨1, 24, false, [.slice none 0 0], (.slice 92)⟩
def ty88 : Ty := ⟨1, 8, false, [.nilFunc], .func⟩
def ty89 : Ty := ⟨1, 24, false, [.slice none 0 0], (.slice 70)⟩
def ty90 : Ty := ⟨1, 24, false, [.slice none 0 0], (.slice 4)⟩
def ty91 : Ty := ⟨6, 48, true, [.int .i64 0, .int .i64 0, .int .i64 0, .int .i64 0, .int .i64 0, .bool false], (.struct [(0, 3), (1, 3), (2, 3), (3, 3), (4, 3), (5, 4)])⟩
def ty92 : Ty := ⟨6, 48, true, [.int .i64 0, .int .i64 0, .int .i64 0, .int .i64 0, .int .i64 0, .bool false], (.struct [(0, 3), (1, 3), (2, 3), (3, 3), (4, 3), (5, 4)])⟩
def ty93 : Ty := ⟨1, 8, false, [.nilFunc], .func⟩
def ty94 : Ty := ⟨1, 8, false, [.pointer none], (.ptr 98)⟩
def ty95 : Ty := ⟨4, 32, true, [.pointer none, .pointer none, .pointer none, .pointer none], (.array 4 94)⟩
def ty96 : Ty := ⟨1, 8, false, [.nilFunc], .func⟩
def ty97 : Ty := ⟨15, 128, true, [.pointer none, .int .i64 0, .int .i64 0, .int .i64 0, .int .i64 0, .int .i64 0, .int .i64 0, .bool false, .int .i64 0, .int .i64 0, .int .i64 0, .bool false, .slice none 0 0, .bool false, .bool false], (.struct [(0, 63), (1, 3), (2, 75), (7, 4), (8, 3), (9, 79), (13, 4), (14, 4)])⟩
def ty98 : Ty := ⟨15, 128, true, [.pointer none, .int .i64 0, .int .i64 0, .int .i64 0, .int .i64 0, .int .i64 0, .int .i64 0, .bool false, .int .i64 0, .int .i64 0, .int .i64 0, .bool false, .slice none 0 0, .bool false, .bool false], (.struct [(0, 63), (1, 3), (2, 75), (7, 4), (8, 3), (9, 79), (13, 4), (14, 4)])⟩
def ty99 : Ty := ⟨1, 8, false, [.nilFunc], .func⟩
def ty100 : Ty := ⟨1, 8, false, [.nilFunc], .func⟩
def ty101 : Ty := ⟨1, 24, false, [.slice none 0 0], (.slice 79)⟩
def ty103 : Ty := ⟨1, 8, false, [.nilFunc], .func⟩
def ty104 : Ty := ⟨16, 16, true, [.bool false, .bool false, .bool false, .bool false, .bool false, .bool false, .bool false, .bool false, .bool false, .bool false, .bool false, .bool false, .bool false, .bool false, .bool false, .bool false], (.array 4 72)⟩
def ty105 : Ty := ⟨1, 8, false, [.pointer none], (.ptr 181)⟩
def ty106 : Ty := ⟨1, 8, false, [.nilFunc], .func⟩
def ty107 : Ty := ⟨4, 32, true, [.pointer none, .pointer none, .pointer none, .pointer none], (.array 4 105)⟩
def ty108 : Ty := ⟨1, 8, false, [.pointer none], (.ptr 113)⟩
def ty109 : Ty := ⟨4, 32, true, [.pointer none, .pointer none, .pointer none, .pointer none], (.array 4 108)⟩
def ty110 : Ty := ⟨1, 8, false, [.nilFunc], .func⟩
def ty111 : Ty := ⟨3, 3, true, [.bool false, .bool false, .bool false], (.array 3 4)⟩
def ty112 : Ty := ⟨20, 128, true, [.pointer none, .int .i64 0, .int .i64 0, .int .i64 0, .int .i64 0, .int .i64 0, .int .i64 0, .int .i64 0, .bool false, .bool false, .bool false, .int .i64 0, .int .i64 0, .bool false, .slice none 0 0, .bool false, .bool false, .bool false, .bool false, .bool false], (.struct [(0, 63), (1, 3), (2, 75), (7, 3), (8, 111), (11, 79), (15, 4), (16, 4), (17, 4), (18, 4), (19, 4)])⟩
def ty113 : Ty := ⟨20, 128, true, [.pointer none, .int .i64 0, .int .i64 0, .int .i64 0, .int .i64 0, .int .i64 0, .int .i64 0, .int .i64 0, .bool false, .bool false, .bool false, .int .i64 0, .int .i64 0, .bool false, .slice none 0 0, .bool false, .bool false, .bool false, .bool false, .bool false], (.struct [(0, 63), (1, 3), (2, 75), (7, 3), (8, 111), (11, 79), (15, 4), (16, 4), (17, 4), (18, 4), (19, 4)])⟩
def ty114 : Ty := ⟨1, 8, false, [.nilFunc], .func⟩
def ty115 : Ty := ⟨1, 8, false, [.nilFunc], .func⟩
def ty116 : Ty := ⟨1, 24, false, [.slice none 0 0], (.slice 140)⟩
def ty117 : Ty := ⟨6, 96, true, [.int .i64 0, .slice none 0 0, .slice none 0 0, .slice none 0 0, .int .i64 0, .int .i64 0], (.struct [(0, 3), (1, 47), (2, 116), (3, 47), (4, 3), (5, 3)])⟩
def ty118 : Ty := ⟨6, 96, true, [.int .i64 0, .slice none 0 0, .slice none 0 0, .slice none 0 0, .int .i64 0, .int .i64 0], (.struct [(0, 3), (1, 47), (2, 116), (3, 47), (4, 3), (5, 3)])⟩
def ty119 : Ty := ⟨10, 160, true, [.pointer none, .slice none 0 0, .slice none 0 0, .int .i64 0, .int .i64 0, .slice none 0 0, .slice none 0 0, .slice none 0 0, .int .i64 0, .int .i64 0], (.struct [(0, 31), (1, 45), (4, 118)])⟩
def ty120 : Ty := ⟨10, 160, true, [.pointer none, .slice none 0 0, .slice none 0 0, .int .i64 0, .int .i64 0, .slice none 0 0, .slice none 0 0, .slice none 0 0, .int .i64 0, .int .i64 0], (.struct [(0, 31), (1, 45), (4, 118)])⟩
def ty121 : Ty := ⟨2, 32, true, [.slice none 0 0, .int .i64 0], (.struct [(0, 87), (1, 3)])⟩
def ty122 : Ty := ⟨2, 32, true, [.slice none 0 0, .int .i64 0], (.struct [(0, 87), (1, 3)])⟩
def ty123 : Ty := ⟨1, 24, true, [.slice none 0 0], (.struct [(0, 43)])⟩
def ty124 : Ty := ⟨1, 24, true, [.slice none 0 0], (.struct [(0, 43)])⟩
def ty125 : Ty := ⟨1, 24, false, [.slice none 0 0], (.slice 177)⟩
def ty126 : Ty := ⟨1, 24, true, [.slice none 0 0], (.struct [(0, 125)])⟩
def ty127 : Ty := ⟨1, 24, true, [.slice none 0 0], (.struct [(0, 125)])⟩
def ty128 : Ty := ⟨4, 80, true, [.slice none 0 0, .int .i64 0, .slice none 0 0, .slice none 0 0], (.struct [(0, 122), (2, 124), (3, 127)])⟩
def ty129 : Ty := ⟨4, 80, true, [.slice none 0 0, .int .i64 0, .slice none 0 0, .slice none 0 0], (.struct [(0, 122), (2, 124), (3, 127)])⟩
def ty130 : Ty := ⟨1, 8, false, [.nilFunc], .func⟩
def ty131 : Ty := ⟨1, 8, false, [.nilFunc], .func⟩
def ty132 : Ty := ⟨1, 8, false, [.nilFunc], .func⟩
def ty133 : Ty := ⟨1, 8, false, [.nilFunc], .func⟩
def ty134 : Ty := ⟨1, 8, false, [.nilFunc], .func⟩
def ty135 : Ty := ⟨1, 8, false, [.nilFunc], .func⟩
def ty136 : Ty := ⟨1, 8, false, [.nilFunc], .func⟩
def ty137 : Ty := ⟨1, 8, false, [.nilFunc], .func⟩
def ty138 : Ty := ⟨1, 24, false, [.slice none 0 0], (.slice 47)⟩
def ty139 : Ty := ⟨4, 48, true, [.int .i64 0, .int .i64 0, .int .i64 0, .slice none 0 0], (.struct [(0, 3), (1, 3), (2, 3), (3, 138)])⟩
def ty140 : Ty := ⟨4, 48, true, [.int .i64 0, .int .i64 0, .int .i64 0, .slice none 0 0], (.struct [(0, 3), (1, 3), (2, 3), (3, 138)])⟩
def ty141 : Ty := ⟨1, 8, false, [.nilFunc], .func⟩
def ty142 : Ty := ⟨1, 8, false, [.nilFunc], .func⟩
def ty143 : Ty := ⟨1, 8, false, [.nilFunc], .func⟩
def ty144 : Ty := ⟨1, 8, false, [.nilFunc], .func⟩
def ty145 : Ty := ⟨1, 8, false, [.pointer none], (.ptr 3)⟩
def ty146 : Ty := ⟨1, 8, false, [.nilFunc], .func⟩
def ty147 : Ty := ⟨1, 8, false, [.nilFunc], .func⟩
def ty148 : Ty := ⟨1, 8, false, [.nilFunc], .func⟩
def ty149 : Ty := ⟨1, 8, false, [.pointer none], (.ptr 171)⟩
def ty150 : Ty := ⟨10, 160, true, [.pointer none, .slice none 0 0, .slice none 0 0, .int .i64 0, .int .i64 0, .slice none 0 0, .slice none 0 0, .slice none 0 0, .int .i64 0, .int .i64 0], (.struct [(0, 149), (1, 45), (4, 118)])⟩
def ty151 : Ty := ⟨10, 160, true, [.pointer none, .slice none 0 0, .slice none 0 0, .int .i64 0, .int .i64 0, .slice none 0 0, .slice none 0 0, .slice none 0 0, .int .i64 0, .int .i64 0], (.struct [(0, 149), (1, 45), (4, 118)])⟩
def ty152 : Ty := ⟨1, 8, false, [.nilFunc], .func⟩
def ty153 : Ty := ⟨5, 40, true, [.int .i64 0, .int .i64 0, .int .i64 0, .int .i64 0, .int .i64 0], (.struct [(0, 3), (1, 3), (2, 3), (3, 3), (4, 3)])⟩
def ty154 : Ty := ⟨5, 40, true, [.int .i64 0, .int .i64 0, .int .i64 0, .int .i64 0, .int .i64 0], (.struct [(0, 3), (1, 3), (2, 3), (3, 3), (4, 3)])⟩
def ty155 : Ty := ⟨1, 8, false, [.nilFunc], .func⟩
def ty156 : Ty := ⟨1, 8, false, [.nilFunc], .func⟩
def ty157 : Ty := ⟨1, 8, false, [.int .i64 0], (.int .i64)⟩
def ty158 : Ty := ⟨1, 8, false, [.int .i64 0], (.int .i64)⟩
def ty159 : Ty := ⟨10, 96, true, [.pointer none, .int .i64 0, .int .i64 0, .int .i64 0, .int .i64 0, .int .i64 0, .int .i64 0, .bool false, .slice none 0 0, .bool false], (.struct [(0, 25), (1, 3), (2, 3), (3, 157), (4, 158), (5, 79), (9, 4)])⟩
def ty160 : Ty := ⟨10, 96, true, [.pointer none, .int .i64 0, .int .i64 0, .int .i64 0, .int .i64 0, .int .i64 0, .int .i64 0, .bool false, .slice none 0 0, .bool false], (.struct [(0, 25), (1, 3), (2, 3), (3, 157), (4, 158), (5, 79), (9, 4)])⟩
def ty161 : Ty := ⟨1, 8, false, [.nilFunc], .func⟩
def ty162 : Ty := ⟨1, 8, false, [.nilFunc], .func⟩
def ty163 : Ty := ⟨1, 8, false, [.nilFunc], .func⟩
def ty164 : Ty := ⟨1, 8, false, [.nilFunc], .func⟩
def ty165 : Ty := ⟨1, 8, false, [.nilFunc], .func⟩
def ty166 : Ty := ⟨1, 8, false, [.nilFunc], .func⟩
def ty167 : Ty := ⟨2, 16, true, [.int .i64 0, .int .i64 0], (.struct [(0, 3), (1, 3)])⟩
def ty168 : Ty := ⟨2, 16, true, [.int .i64 0, .int .i64 0], (.struct [(0, 3), (1, 3)])⟩
def ty169 : Ty := ⟨1, 8, false, [.nilFunc], .func⟩
def ty170 : Ty := ⟨4, 80, true, [.slice none 0 0, .slice none 0 0, .slice none 0 0, .int .i64 0], (.struct [(0, 43), (1, 43), (2, 87), (3, 3)])⟩
def ty171 : Ty := ⟨4, 80, true, [.slice none 0 0, .slice none 0 0, .slice none 0 0, .int .i64 0], (.struct [(0, 43), (1, 43), (2, 87), (3, 3)])⟩
def ty172 : Ty := ⟨1, 8, false, [.nilFunc], .func⟩
def ty173 : Ty := ⟨4, 32, true, [.int .i64 0, .int .i64 0, .int .i64 0, .int .i64 0], (.array 4 3)⟩
def ty174 : Ty := ⟨1, 8, false, [.pointer none], (.ptr 177)⟩
def ty175 : Ty := ⟨1, 8, false, [.nilFunc], .func⟩
def ty176 : Ty := ⟨2, 16, true, [.bool false, .int .i64 0], (.struct [(0, 4), (1, 3)])⟩
def ty177 : Ty := ⟨2, 16, true, [.bool false, .int .i64 0], (.struct [(0, 4), (1, 3)])⟩
def ty178 : Ty := ⟨1, 8, false, [.nilFunc], .func⟩
def ty179 : Ty := ⟨1, 8, false, [.nilFunc], .func⟩
def ty180 : Ty := ⟨16, 168, true, [.pointer none, .int .i64 0, .int .i64 0, .nilFunc, .slice none 0 0, .nilFunc, .int .i64 0, .int .i64 0, .bool false, .slice none 0 0, .int .i64 0, .int .i64 0, .bool false, .slice none 0 0, .bool false, .bool false], (.struct [(0, 25), (1, 3), (2, 3), (3, 179), (4, 43), (5, 1), (6, 79), (10, 79), (14, 4), (15, 4)])⟩
def ty181 : Ty := ⟨16, 168, true, [.pointer none, .int .i64 0, .int .i64 0, .nilFunc, .slice none 0 0, .nilFunc, .int .i64 0, .int .i64 0, .bool false, .slice none 0 0, .int .i64 0, .int .i64 0, .bool false, .slice none 0 0, .bool false, .bool false], (.struct [(0, 25), (1, 3), (2, 3), (3, 179), (4, 43), (5, 1), (6, 79), (10, 79), (14, 4), (15, 4)])⟩
def ty183 : Ty := ⟨1, 8, false, [.nilFunc], .func⟩
def ty184 : Ty := ⟨1, 8, false, [.nilFunc], .func⟩
def ty185 : Ty := ⟨1, 8, false, [.nilFunc], .func⟩
def ty186 : Ty := ⟨1, 8, false, [.nilFunc], .func⟩
def ty187 : Ty := ⟨1, 8, false, [.nilFunc], .func⟩
def ty188 : Ty := ⟨1, 8, false, [.nilFunc], .func⟩
def ty189 : Ty := ⟨1, 8, false, [.nilFunc], .func⟩
def ty190 : Ty := ⟨1, 8, false, [.nilFunc], .func⟩
def ty192 : Ty := ⟨1, 8, false, [.nilFunc], .func⟩
def ty193 : Ty := ⟨1, 8, false, [.nilFunc], .func⟩
def ty194 : Ty := ⟨1, 8, false, [.pointer none], (.ptr 118)⟩
def ty195 : Ty := ⟨1, 8, false, [.int .u64 0], (.int .u64)⟩
def ty196 : Ty := ⟨1, 8, false, [.int .i64 0], (.int .i64)⟩
def ty197 : Ty := ⟨1, 8, false, [.nilFunc], .func⟩
def ty198 : Ty := ⟨1, 8, false, [.nilFunc], .func⟩
def ty199 : Ty := ⟨1, 8, false, [.nilFunc], .func⟩
def ty200 : Ty := ⟨1, 8, false, [.nilFunc], .func⟩
def ty201 : Ty := ⟨1, 8, false, [.pointer none], (.ptr 124)⟩
def ty202 : Ty := ⟨1, 8, false, [.nilFunc], .func⟩
def ty203 : Ty := ⟨1, 8, false, [.nilFunc], .func⟩
def ty205 : Ty := ⟨1, 8, false, [.nilFunc], .func⟩
def ty206 : Ty := ⟨1, 8, false, [.nilFunc], .func⟩
def ty207 : Ty := ⟨1, 8, false, [.nilFunc], .func⟩
def ty208 : Ty := ⟨1, 8, false, [.nilFunc], .func⟩
def ty209 : Ty := ⟨1, 8, false, [.nilFunc], .func⟩
def ty210 : Ty := ⟨1, 8, false, [.nilFunc], .func⟩
def ty211 : Ty := ⟨1, 8, false, [.pointer none], (.ptr 127)⟩
def ty212 : Ty := ⟨1, 8, false, [.nilFunc], .func⟩
def ty213 : Ty := ⟨1, 8, false, [.nilFunc], .func⟩
def ty214 : Ty := ⟨1, 8, false, [.pointer none], (.ptr 122)⟩
def ty215 : Ty := ⟨1, 8, false, [.nilFunc], .func⟩
def ty216 : Ty := ⟨1, 8, false, [.nilFunc], .func⟩
def ty218 : Ty := ⟨1, 8, false, [.nilFunc], .func⟩
def ty219 : Ty := ⟨1, 8, false, [.nilFunc], .func⟩
def ty220 : Ty := ⟨1, 8, false, [.nilFunc], .func⟩
def ty221 : Ty := ⟨1, 8, false, [.nilFunc], .func⟩
def ty222 : Ty := ⟨1, 8, false, [.int .i64 0], (.int .i64)⟩
def ty224 : Ty := ⟨1, 8, false, [.nilFunc], .func⟩
def ty225 : Ty := ⟨1, 8, false, [.nilFunc], .func⟩
def ty226 : Ty := ⟨1, 8, false, [.nilFunc], .func⟩
def ty227 : Ty := ⟨1, 8, false, [.nilFunc], .func⟩
def ty228 : Ty := ⟨1, 8, false, [.nilFunc], .func⟩
def ty229 : Ty := ⟨1, 8, false, [.nilFunc], .func⟩
def ty230 : Ty := ⟨1, 8, false, [.nilFunc], .func⟩
def ty231 : Ty := ⟨1, 8, false, [.nilFunc], .func⟩
def ty232 : Ty := ⟨1, 8, false, [.nilFunc], .func⟩
def ty233 : Ty := ⟨1, 8, false, [.nilFunc], .func⟩
def ty234 : Ty := ⟨1, 8, false, [.nilFunc], .func⟩
def ty235 : Ty := ⟨1, 8, false, [.nilFunc], .func⟩
def ty236 : Ty := ⟨1, 8, false, [.nilFunc], .func⟩
def ty237 : Ty := ⟨1, 8, false, [.nilFunc], .func⟩
def ty238 : Ty := ⟨1, 8, false, [.nilFunc], .func⟩
def ty239 : Ty := ⟨1, 8, false, [.int .u64 0], (.int .u64)⟩
def ty240 : Ty := ⟨1, 8, false, [.nilFunc], .func⟩
def ty241 : Ty := ⟨1, 8, false, [.nilFunc], .func⟩
def ty242 : Ty := ⟨1, 8, false, [.nilFunc], .func⟩
def ty243 : Ty := ⟨1, 8, false, [.nilFunc], .func⟩
def ty244 : Ty := ⟨1, 8, false, [.nilFunc], .func⟩
def ty245 : Ty := ⟨1, 8, false, [.nilFunc], .func⟩
def ty246 : Ty := ⟨1, 8, false, [.nilFunc], .func⟩
def ty247 : Ty := ⟨1, 8, false, [.nilFunc], .func⟩
def ty248 : Ty := ⟨1, 8, false, [.pointer none], (.ptr 239)⟩
def ty250 : Ty := ⟨1, 8, false, [.nilFunc], .func⟩
def ty251 : Ty := ⟨1, 8, false, [.nilFunc], .func⟩
def ty252 : Ty := ⟨1, 8, false, [.nilFunc], .func⟩
def ty253 : Ty := ⟨1, 8, false, [.nilFunc], .func⟩
def ty254 : Ty := ⟨1, 8, false, [.nilFunc], .func⟩
def ty257 : Ty := ⟨0, 0, true, [], (.array 0 16)⟩
def ty258 : Ty := ⟨0, 0, true, [], (.struct [(0, 257)])⟩
def ty259 : Ty := ⟨0, 0, true, [], (.struct [(0, 257)])⟩
def ty260 : Ty := ⟨1, 1, false, [.int .u8 0], (.int .u8)⟩
def ty261 : Ty := ⟨1, 1, false, [.int .u8 0], (.int .u8)⟩
def ty262 : Ty := ⟨1, 8, false, [.nilFunc], .func⟩
def ty263 : Ty := ⟨1, 8, false, [.pointer none], (.ptr 5)⟩
def ty264 : Ty := ⟨1, 4, false, [.int .i32 0], (.int .i32)⟩
def ty265 : Ty := ⟨1, 4, false, [.int .i32 0], (.int .i32)⟩
def ty266 : Ty := ⟨11, 48, true, [.int .u64 0, .int .u64 0, .int .u32 0, .int .u8 0, .int .u8 0, .int .u8 0, .int .u8 0, .nilFunc, .pointer none, .int .i32 0, .int .i32 0], (.struct [(0, 12), (1, 12), (2, 23), (3, 260), (4, 5), (5, 5), (6, 261), (7, 262), (8, 263), (9, 264), (10, 265)])⟩
def ty267 : Ty := ⟨11, 48, true, [.int .u64 0, .int .u64 0, .int .u32 0, .int .u8 0, .int .u8 0, .int .u8 0, .int .u8 0, .nilFunc, .pointer none, .int .i32 0, .int .i32 0], (.struct [(0, 12), (1, 12), (2, 23), (3, 260), (4, 5), (5, 5), (6, 261), (7, 262), (8, 263), (9, 264), (10, 265)])⟩
def tabT : TT := (.node 136 ty136 (.node 72 ty72 (.node 38 ty38 (.node 21 ty21 (.node 8 ty8 (.node 4 ty4 (.node 2 ty2 (.node 1 ty1 .leaf .leaf) (.node 3 ty3 .leaf .leaf)) (.node 6 ty6 (.node 5 ty5 .leaf .leaf) (.node 7 ty7 .leaf .leaf))) (.node 17 ty17 (.node 15 ty15 (.node 12 ty12 .leaf .leaf) (.node 16 ty16 .leaf .leaf)) (.node 19 ty19 (.node 18 ty18 .leaf .leaf) (.node 20 ty20 .leaf .leaf)))) (.node 29 ty29 (.node 25 ty25 (.node 23 ty23 (.node 22 ty22 .leaf .leaf) (.node 24 ty24 .leaf .leaf)) (.node 27 ty27 (.node 26 ty26 .leaf .leaf) (.node 28 ty28 .leaf .leaf))) (.node 33 ty33 (.node 31 ty31 (.node 30 ty30 .leaf .leaf) (.node 32 ty32 .leaf .leaf)) (.node 35 ty35 (.node 34 ty34 .leaf .leaf) (.node 36 ty36 .leaf .leaf))))) (.node 55 ty55 (.node 47 ty47 (.node 43 ty43 (.node 41 ty41 (.node 40 ty40 .leaf .leaf) (.node 42 ty42 .leaf .leaf)) (.node 45 ty45 (.node 44 ty44 .leaf .leaf) (.node 46 ty46 .leaf .leaf))) (.node 51 ty51 (.node 49 ty49 (.node 48 ty48 .leaf .leaf) (.node 50 ty50 .leaf .leaf)) (.node 53 ty53 (.node 52 ty52 .leaf .leaf) (.node 54 ty54 .leaf .leaf)))) (.node 63 ty63 (.node 59 ty59 (.node 57 ty57 (.node 56 ty56 .leaf .leaf) (.node 58 ty58 .leaf .leaf)) (.node 61 ty61 (.node 60 ty60 .leaf .leaf) (.node 62 ty62 .leaf .leaf))) (.node 69 ty69 (.node 66 ty66 (.node 65 ty65 .leaf .leaf) (.node 67 ty67 .leaf .leaf)) (.node 71 ty71 (.node 70 ty70 .leaf .leaf) .leaf))))) (.node 105 ty105 (.node 89 ty89 (.node 80 ty80 (.node 76 ty76 (.node 74 ty74 (.node 73 ty73 .leaf .leaf) (.node 75 ty75 .leaf .leaf)) (.node 78 ty78 (.node 77 ty77 .leaf .leaf) (.node 79 ty79 .leaf .leaf))) (.node 85 ty85 (.node 83 ty83 (.node 81 ty81 .leaf .leaf) (.node 84 ty84 .leaf .leaf)) (.node 87 ty87 (.node 86 ty86 .leaf .leaf) (.node 88 ty88 .leaf .leaf)))) (.node 97 ty97 (.node 93 ty93 (.node 91 ty91 (.node 90 ty90 .leaf .leaf) (.node 92 ty92 .leaf .leaf)) (.node 95 ty95 (.node 94 ty94 .leaf .leaf) (.node 96 ty96 .leaf .leaf))) (.node 101 ty101 (.node 99 ty99 (.node 98 ty98 .leaf .leaf) (.node 100 ty100 .leaf .leaf)) (.node 104 ty104 (.node 103 ty103 .leaf .leaf) .leaf)))) (.node 121 ty121 (.node 113 ty113 (.node 109 ty109 (.node 107 ty107 (.node 106 ty106 .leaf .leaf) (.node 108 ty108 .leaf .leaf)) (.node 111 ty111 (.node 110 ty110 .leaf .leaf) (.node 112 ty112 .leaf .leaf))) (.node 117 ty117 (.node 115 ty115 (.node 114 ty114 .leaf .leaf) (.node 116 ty116 .leaf .leaf)) (.node 119 ty119 (.node 118 ty118 .leaf .leaf) (.node 120 ty120 .leaf .leaf)))) (.node 129 ty129 (.node 125 ty125 (.node 123 ty123 (.node 122 ty122 .leaf .leaf) (.node 124 ty124 .leaf .leaf)) (.node 127 ty127 (.node 126 ty126 .leaf .leaf) (.node 128 ty128 .leaf .leaf))) (.node 133 ty133 (.node 131 ty131 (.node 130 ty130 .leaf .leaf) (.node 132 ty132 .leaf .leaf)) (.node 135 ty135 (.node 134 ty134 .leaf .leaf) .leaf)))))) (.node 200 ty200 (.node 167 ty167 (.node 152 ty152 (.node 144 ty144 (.node 140 ty140 (.node 138 ty138 (.node 137 ty137 .leaf .leaf) (.node 139 ty139 .leaf .leaf)) (.node 142 ty142 (.node 141 ty141 .leaf .leaf) (.node 143 ty143 .leaf .leaf))) (.node 148 ty148 (.node 146 ty146 (.node 145 ty145 .leaf .leaf) (.node 147 ty147 .leaf .leaf)) (.node 150 ty150 (.node 149 ty149 .leaf .leaf) (.node 151 ty151 .leaf .leaf)))) (.node 160 ty160 (.node 156 ty156 (.node 154 ty154 (.node 153 ty153 .leaf .leaf) (.node 155 ty155 .leaf .leaf)) (.node 158 ty158 (.node 157 ty157 .leaf .leaf) (.node 159 ty159 .leaf .leaf))) (.node 164 ty164 (.node 162 ty162 (.node 161 ty161 .leaf .leaf) (.node 163 ty163 .leaf .leaf)) (.node 166 ty166 (.node 165 ty165 .leaf .leaf) .leaf)))) (.node 184 ty184 (.node 175 ty175 (.node 171 ty171 (.node 169 ty169 (.node 168 ty168 .leaf .leaf) (.node 170 ty170 .leaf .leaf)) (.node 173 ty173 (.node 172 ty172 .leaf .leaf) (.node 174 ty174 .leaf .leaf))) (.node 179 ty179 (.node 177 ty177 (.node 176 ty176 .leaf .leaf) (.node 178 ty178 .leaf .leaf)) (.node 181 ty181 (.node 180 ty180 .leaf .leaf) (.node 183 ty183 .leaf .leaf)))) (.node 193 ty193 (.node 188 ty188 (.node 186 ty186 (.node 185 ty185 .leaf .leaf) (.node 187 ty187 .leaf .leaf)) (.node 190 ty190 (.node 189 ty189 .leaf .leaf) (.node 192 ty192 .leaf .leaf))) (.node 197 ty197 (.node 195 ty195 (.node 194 ty194 .leaf .leaf) (.node 196 ty196 .leaf .leaf)) (.node 199 ty199 (.node 198 ty198 .leaf .leaf) .leaf))))) (.node 234 ty234 (.node 218 ty218 (.node 209 ty209 (.node 205 ty205 (.node 202 ty202 (.node 201 ty201 .leaf .leaf) (.node 203 ty203 .leaf .leaf)) (.node 207 ty207 (.node 206 ty206 .leaf .leaf) (.node 208 ty208 .leaf .leaf))) (.node 213 ty213 (.node 211 ty211 (.node 210 ty210 .leaf .leaf) (.node 212 ty212 .leaf .leaf)) (.node 215 ty215 (.node 214 ty214 .leaf .leaf) (.node 216 ty216 .leaf .leaf)))) (.node 227 ty227 (.node 222 ty222 (.node 220 ty220 (.node 219 ty219 .leaf .leaf) (.node 221 ty221 .leaf .leaf)) (.node 225 ty225 (.node 224 ty224 .leaf .leaf) (.node 226 ty226 .leaf .leaf))) (.node 231 ty231 (.node 229 ty229 (.node 228 ty228 .leaf .leaf) (.node 230 ty230 .leaf .leaf)) (.node 233 ty233 (.node 232 ty232 .leaf .leaf) .leaf)))) (.node 251 ty251 (.node 242 ty242 (.node 238 ty238 (.node 236 ty236 (.node 235 ty235 .leaf .leaf) (.node 237 ty237 .leaf .leaf)) (.node 240 ty240 (.node 239 ty239 .leaf .leaf) (.node 241 ty241 .leaf .leaf))) (.node 246 ty246 (.node 244 ty244 (.node 243 ty243 .leaf .leaf) (.node 245 ty245 .leaf .leaf)) (.node 248 ty248 (.node 247 ty247 .leaf .leaf) (.node 250 ty250 .leaf .leaf)))) (.node 261 ty261 (.node 257 ty257 (.node 253 ty253 (.node 252 ty252 .leaf .leaf) (.node 254 ty254 .leaf .leaf)) (.node 259 ty259 (.node 258 ty258 .leaf .leaf) (.node 260 ty260 .leaf .leaf))) (.node 265 ty265 (.node 263 ty263 (.node 262 ty262 .leaf .leaf) (.node 264 ty264 .leaf .leaf)) (.node 267 ty267 (.node 266 ty266 .leaf .leaf) .leaf)))))))
def tab : Tab := tabT.get
theorem tyOk1 : TyOk Tryz.prog 1 ty1 := TyOk.mk' (z := (.nilFunc)) (by kernel_rfl) rfl (fun h => by cases h) Tryz.underlying1 (.func _ _ _) rfl
theorem tyOk2 : TyOk Tryz.prog 2 ty2 := TyOk.mk' (z := (.int .i64 0)) (by kernel_rfl) rfl (fun h => by cases h) Tryz.underlying2 (.int _) rfl
theorem tyOk3 : TyOk Tryz.prog 3 ty3 := TyOk.mk' (z := (.int .i64 0)) (by kernel_rfl) rfl (fun h => by cases h) Tryz.underlying3 (.int _) rfl
theorem tyOk4 : TyOk Tryz.prog 4 ty4 := TyOk.mk' (z := (.bool false)) (by kernel_rfl) rfl (fun h => by cases h) Tryz.underlying4 (.bool) rfl
theorem tyOk5 : TyOk Tryz.prog 5 ty5 := TyOk.mk' (z := (.int .u8 0)) (by kernel_rfl) rfl (fun h => by cases h) Tryz.underlying5 (.int _) rfl
theorem tyOk6 : TyOk Tryz.prog 6 ty6 := TyOk.mk' (z := (.int .u8 0)) (by kernel_rfl) rfl (fun h => by cases h) Tryz.underlying6 (.int _) rfl
theorem tyOk7 : TyOk Tryz.prog 7 ty7 := TyOk.mk' (z := (.agg #[.int .i64 0, .int .i64 0, .bool false, .int .u8 0])) (by kernel_rfl) rfl (fun _ => rfl) Tryz.underlying7 (.struct _ _ rfl) rfl
theorem tyOk8 : TyOk Tryz.prog 8 ty8 := TyOk.mk' (z := (.agg #[.int .i64 0, .int .i64 0, .bool false, .int .u8 0])) (by kernel_rfl) rfl (fun _ => rfl) Tryz.underlying8 (.struct _ _ rfl) rfl
theorem tyOk12 : TyOk Tryz.prog 12 ty12 := TyOk.mk' (z := (.int .u64 0)) (by kernel_rfl) rfl (fun h => by cases h) Tryz.underlying12 (.int _) rfl
theorem tyOk15 : TyOk Tryz.prog 15 ty15 := TyOk.mk' (z := (.pointer none)) (by kernel_rfl) rfl (fun h => by cases h) Tryz.underlying15 (.ptr _) rfl
theorem tyOk16 : TyOk Tryz.prog 16 ty16 := TyOk.mk' (z := (.pointer none)) (by kernel_rfl) rfl (fun h => by cases h) Tryz.underlying16 (.ptr _) rfl
theorem tyOk17 : TyOk Tryz.prog 17 ty17 := TyOk.mk' (z := (.pointer none)) (by kernel_rfl) rfl (fun h => by cases h) Tryz.underlying17 (.ptr _) rfl
theorem tyOk18 : TyOk Tryz.prog 18 ty18 := TyOk.mk' (z := (.agg #[.pointer none])) (by kernel_rfl) rfl (fun _ => rfl) Tryz.underlying18 (.struct _ _ rfl) rfl
theorem tyOk19 : TyOk Tryz.prog 19 ty19 := TyOk.mk' (z := (.agg #[.pointer none])) (by kernel_rfl) rfl (fun _ => rfl) Tryz.underlying19 (.struct _ _ rfl) rfl
theorem tyOk20 : TyOk Tryz.prog 20 ty20 := TyOk.mk' (z := (.nilIface)) (by kernel_rfl) rfl (fun h => by cases h) Tryz.underlying20 (.iface _) rfl
theorem tyOk21 : TyOk Tryz.prog 21 ty21 := TyOk.mk' (z := (.int .i32 0)) (by kernel_rfl) rfl (fun h => by cases h) Tryz.underlying21 (.int _) rfl
theorem tyOk22 : TyOk Tryz.prog 22 ty22 := TyOk.mk' (z := (.slice none 0 0)) (by kernel_rfl) rfl (fun h => by cases h) Tryz.underlying22 (.slice _) rfl
theorem tyOk23 : TyOk Tryz.prog 23 ty23 := TyOk.mk' (z := (.int .u32 0)) (by kernel_rfl) rfl (fun h => by cases h) Tryz.underlying23 (.int _) rfl
theorem tyOk24 : TyOk Tryz.prog 24 ty24 := TyOk.mk' (z := (.nilFunc)) (by kernel_rfl) rfl (fun h => by cases h) Tryz.underlying24 (.func _ _ _) rfl
theorem tyOk25 : TyOk Tryz.prog 25 ty25 := TyOk.mk' (z := (.pointer none)) (by kernel_rfl) rfl (fun h => by cases h) Tryz.underlying25 (.ptr _) rfl
theorem tyOk26 : TyOk Tryz.prog 26 ty26 := TyOk.mk' (z := (.nilFunc)) (by kernel_rfl) rfl (fun h => by cases h) Tryz.underlying26 (.func _ _ _) rfl
theorem tyOk27 : TyOk Tryz.prog 27 ty27 := TyOk.mk' (z := (.nilFunc)) (by kernel_rfl) rfl (fun h => by cases h) Tryz.underlying27 (.func _ _ _) rfl
theorem tyOk28 : TyOk Tryz.prog 28 ty28 := TyOk.mk' (z := (.int .u64 0)) (by kernel_rfl) rfl (fun h => by cases h) Tryz.underlying28 (.int _) rfl
theorem tyOk29 : TyOk Tryz.prog 29 ty29 := TyOk.mk' (z := (.agg #[.int .u8 0, .int .u64 0, .bool false])) (by kernel_rfl) rfl (fun _ => rfl) Tryz.underlying29 (.struct _ _ rfl) rfl
theorem tyOk30 : TyOk Tryz.prog 30 ty30 := TyOk.mk' (z := (.agg #[.int .u8 0, .int .u64 0, .bool false])) (by kernel_rfl) rfl (fun _ => rfl) Tryz.underlying30 (.struct _ _ rfl) rfl
theorem tyOk31 : TyOk Tryz.prog 31 ty31 := TyOk.mk' (z := (.pointer none)) (by kernel_rfl) rfl (fun h => by cases h) Tryz.underlying31 (.ptr _) rfl
theorem tyOk32 : TyOk Tryz.prog 32 ty32 := TyOk.mk' (z := (.nilFunc)) (by kernel_rfl) rfl (fun h => by cases h) Tryz.underlying32 (.func _ _ _) rfl
theorem tyOk33 : TyOk Tryz.prog 33 ty33 := TyOk.mk' (z := (.nilFunc)) (by kernel_rfl) rfl (fun h => by cases h) Tryz.underlying33 (.func _ _ _) rfl
theorem tyOk34 : TyOk Tryz.prog 34 ty34 := TyOk.mk' (z := (.nilFunc)) (by kernel_rfl) rfl (fun h => by cases h) Tryz.underlying34 (.func _ _ _) rfl
theorem tyOk35 : TyOk Tryz.prog 35 ty35 := TyOk.mk' (z := (.agg #[.int .i64 0, .int .i64 0, .int .i64 0])) (by kernel_rfl) rfl (fun _ => rfl) Tryz.underlying35 (.struct _ _ rfl) rfl
theorem tyOk36 : TyOk Tryz.prog 36 ty36 := TyOk.mk' (z := (.agg #[.int .i64 0, .int .i64 0, .int .i64 0])) (by kernel_rfl) rfl (fun _ => rfl) Tryz.underlying36 (.struct _ _ rfl) rfl
theorem tyOk38 : TyOk Tryz.prog 38 ty38 := TyOk.mk' (z := (.nilFunc)) (by kernel_rfl) rfl (fun h => by cases h) Tryz.underlying38 (.func _ _ _) rfl
theorem tyOk40 : TyOk Tryz.prog 40 ty40 := TyOk.mk' (z := (.nilFunc)) (by kernel_rfl) rfl (fun h => by cases h) Tryz.underlying40 (.func _ _ _) rfl
theorem tyOk41 : TyOk Tryz.prog 41 ty41 := TyOk.mk' (z := (.nilFunc)) (by kernel_rfl) rfl (fun h => by cases h) Tryz.underlying41 (.func _ _ _) rfl
theorem tyOk42 : TyOk Tryz.prog 42 ty42 := TyOk.mk' (z := (.slice none 0 0)) (by kernel_rfl) rfl (fun h => by cases h) Tryz.underlying42 (.slice _) rfl
theorem tyOk43 : TyOk Tryz.prog 43 ty43 := TyOk.mk' (z := (.slice none 0 0)) (by kernel_rfl) rfl (fun h => by cases h) Tryz.underlying43 (.slice _) rfl
theorem tyOk44 : TyOk Tryz.prog 44 ty44 := TyOk.mk' (z := (.agg #[.slice none 0 0, .slice none 0 0, .int .i64 0])) (by kernel_rfl) rfl (fun _ => rfl) Tryz.underlying44 (.struct _ _ rfl) rfl
theorem tyOk45 : TyOk Tryz.prog 45 ty45 := TyOk.mk' (z := (.agg #[.slice none 0 0, .slice none 0 0, .int .i64 0])) (by kernel_rfl) rfl (fun _ => rfl) Tryz.underlying45 (.struct _ _ rfl) rfl
theorem tyOk46 : TyOk Tryz.prog 46 ty46 := TyOk.mk' (z := (.nilFunc)) (by kernel_rfl) rfl (fun h => by cases h) Tryz.underlying46 (.func _ _ _) rfl
theorem tyOk47 : TyOk Tryz.prog 47 ty47 := TyOk.mk' (z := (.slice none 0 0)) (by kernel_rfl) rfl (fun h => by cases h) Tryz.underlying47 (.slice _) rfl
theorem tyOk48 : TyOk Tryz.prog 48 ty48 := TyOk.mk' (z := (.nilFunc)) (by kernel_rfl) rfl (fun h => by cases h) Tryz.underlying48 (.func _ _ _) rfl
theorem tyOk49 : TyOk Tryz.prog 49 ty49 := TyOk.mk' (z := (.nilFunc)) (by kernel_rfl) rfl (fun h => by cases h) Tryz.underlying49 (.func _ _ _) rfl
theorem tyOk50 : TyOk Tryz.prog 50 ty50 := TyOk.mk' (z := (.nilFunc)) (by kernel_rfl) rfl (fun h => by cases h) Tryz.underlying50 (.func _ _ _) rfl
theorem tyOk51 : TyOk Tryz.prog 51 ty51 := TyOk.mk' (z := (.agg #[.int .i64 0, .int .i64 0, .int .i64 0, .int .i64 0])) (by kernel_rfl) rfl (fun _ => rfl) Tryz.underlying51 (.struct _ _ rfl) rfl
theorem tyOk52 : TyOk Tryz.prog 52 ty52 := TyOk.mk' (z := (.agg #[.int .i64 0, .int .i64 0, .int .i64 0, .int .i64 0])) (by kernel_rfl) rfl (fun _ => rfl) Tryz.underlying52 (.struct _ _ rfl) rfl
theorem tyOk53 : TyOk Tryz.prog 53 ty53 := TyOk.mk' (z := (.nilFunc)) (by kernel_rfl) rfl (fun h => by cases h) Tryz.underlying53 (.func _ _ _) rfl
theorem tyOk54 : TyOk Tryz.prog 54 ty54 := TyOk.mk' (z := (.int .u16 0)) (by kernel_rfl) rfl (fun h => by cases h) Tryz.underlying54 (.int _) rfl
theorem tyOk55 : TyOk Tryz.prog 55 ty55 := TyOk.mk' (z := (.nilFunc)) (by kernel_rfl) rfl (fun h => by cases h) Tryz.underlying55 (.func _ _ _) rfl
theorem tyOk56 : TyOk Tryz.prog 56 ty56 := TyOk.mk' (z := (.nilFunc)) (by kernel_rfl) rfl (fun h => by cases h) Tryz.underlying56 (.func _ _ _) rfl
theorem tyOk57 : TyOk Tryz.prog 57 ty57 := TyOk.mk' (z := (.nilFunc)) (by kernel_rfl) rfl (fun h => by cases h) Tryz.underlying57 (.func _ _ _) rfl
theorem tyOk58 : TyOk Tryz.prog 58 ty58 := TyOk.mk' (z := (.nilFunc)) (by kernel_rfl) rfl (fun h => by cases h) Tryz.underlying58 (.func _ _ _) rfl
theorem tyOk59 : TyOk Tryz.prog 59 ty59 := TyOk.mk' (z := (.nilFunc)) (by kernel_rfl) rfl (fun h => by cases h) Tryz.underlying59 (.func _ _ _) rfl
theorem tyOk60 : TyOk Tryz.prog 60 ty60 := TyOk.mk' (z := (.nilFunc)) (by kernel_rfl) rfl (fun h => by cases h) Tryz.underlying60 (.func _ _ _) rfl
theorem tyOk61 : TyOk Tryz.prog 61 ty61 := TyOk.mk' (z := (.nilFunc)) (by kernel_rfl) rfl (fun h => by cases h) Tryz.underlying61 (.func _ _ _) rfl
theorem tyOk62 : TyOk Tryz.prog 62 ty62 := TyOk.mk' (z := (.slice none 0 0)) (by kernel_rfl) rfl (fun h => by cases h) Tryz.underlying62 (.slice _) rfl
theorem tyOk63 : TyOk Tryz.prog 63 ty63 := TyOk.mk' (z := (.pointer none)) (by kernel_rfl) rfl (fun h => by cases h) Tryz.underlying63 (.ptr _) rfl
theorem tyOk65 : TyOk Tryz.prog 65 ty65 := TyOk.mk' (z := (.nilFunc)) (by kernel_rfl) rfl (fun h => by cases h) Tryz.underlying65 (.func _ _ _) rfl
theorem tyOk66 : TyOk Tryz.prog 66 ty66 := TyOk.mk' (z := (.nilFunc)) (by kernel_rfl) rfl (fun h => by cases h) Tryz.underlying66 (.func _ _ _) rfl
theorem tyOk67 : TyOk Tryz.prog 67 ty67 := TyOk.mk' (z := (.nilFunc)) (by kernel_rfl) rfl (fun h => by cases h) Tryz.underlying67 (.func _ _ _) rfl
theorem tyOk69 : TyOk Tryz.prog 69 ty69 := TyOk.mk' (z := (.nilFunc)) (by kernel_rfl) rfl (fun h => by cases h) Tryz.underlying69 (.func _ _ _) rfl
theorem tyOk70 : TyOk Tryz.prog 70 ty70 := TyOk.mk' (z := (.pointer none)) (by kernel_rfl) rfl (fun h => by cases h) Tryz.underlying70 (.ptr _) rfl
theorem tyOk71 : TyOk Tryz.prog 71 ty71 := TyOk.mk' (z := (.agg #[.pointer none, .pointer none, .pointer none, .pointer none])) (by kernel_rfl) rfl (fun _ => rfl) Tryz.underlying71 (.array _ _) rfl
theorem tyOk72 : TyOk Tryz.prog 72 ty72 := TyOk.mk' (z := (.agg #[.bool false, .bool false, .bool false, .bool false])) (by kernel_rfl) rfl (fun _ => rfl) Tryz.underlying72 (.array _ _) rfl
theorem tyOk73 : TyOk Tryz.prog 73 ty73 := TyOk.mk' (z := (.nilFunc)) (by kernel_rfl) rfl (fun h => by cases h) Tryz.underlying73 (.func _ _ _) rfl
theorem tyOk74 : TyOk Tryz.prog 74 ty74 := TyOk.mk' (z := (.agg #[.int .i64 0, .int .i64 0, .int .i64 0, .int .i64 0, .int .i64 0])) (by kernel_rfl) rfl (fun _ => rfl) Tryz.underlying74 (.struct _ _ rfl) rfl
theorem tyOk75 : TyOk Tryz.prog 75 ty75 := TyOk.mk' (z := (.agg #[.int .i64 0, .int .i64 0, .int .i64 0, .int .i64 0, .int .i64 0])) (by kernel_rfl) rfl (fun _ => rfl) Tryz.underlying75 (.struct _ _ rfl) rfl
theorem tyOk76 : TyOk Tryz.prog 76 ty76 := TyOk.mk' (z := (.int .i64 0)) (by kernel_rfl) rfl (fun h => by cases h) Tryz.underlying76 (.int _) rfl
theorem tyOk77 : TyOk Tryz.prog 77 ty77 := TyOk.mk' (z := (.slice none 0 0)) (by kernel_rfl) rfl (fun h => by cases h) Tryz.underlying77 (.slice _) rfl
theorem tyOk78 : TyOk Tryz.prog 78 ty78 := TyOk.mk' (z := (.agg #[.int .i64 0, .int .i64 0, .bool false, .slice none 0 0])) (by kernel_rfl) rfl (fun _ => rfl) Tryz.underlying78 (.struct _ _ rfl) rfl
theorem tyOk79 : TyOk Tryz.prog 79 ty79 := TyOk.mk' (z := (.agg #[.int .i64 0, .int .i64 0, .bool false, .slice none 0 0])) (by kernel_rfl) rfl (fun _ => rfl) Tryz.underlying79 (.struct _ _ rfl) rfl
theorem tyOk80 : TyOk Tryz.prog 80 ty80 := TyOk.mk' (z := (.nilFunc)) (by kernel_rfl) rfl (fun h => by cases h) Tryz.underlying80 (.func _ _ _) rfl
theorem tyOk81 : TyOk Tryz.prog 81 ty81 := TyOk.mk' (z := (.nilFunc)) (by kernel_rfl) rfl (fun h => by cases h) Tryz.underlying81 (.func _ _ _) rfl
theorem tyOk83 : TyOk Tryz.prog 83 ty83 := TyOk.mk' (z := (.nilFunc)) (by kernel_rfl) rfl (fun h => by cases h) Tryz.underlying83 (.func _ _ _) rfl
theorem tyOk84 : TyOk Tryz.prog 84 ty84 := TyOk.mk' (z := (.nilFunc)) (by kernel_rfl) rfl (fun h => by cases h) Tryz.underlying84 (.func _ _ _) rfl
theorem tyOk85 : TyOk Tryz.prog 85 ty85 := TyOk.mk' (z := (.nilFunc)) (by kernel_rfl) rfl (fun h => by cases h) Tryz.underlying85 (.func _ _ _) rfl
theorem tyOk86 : TyOk Tryz.prog 86 ty86 := TyOk.mk' (z := (.nilFunc)) (by kernel_rfl) rfl (fun h => by cases h) Tryz.underlying86 (.func _ _ _) rfl
theorem tyOk87 : TyOk Tryz.prog 87 ty87 := TyOk.mk' (z := (.slice none 0 0)) (by kernel_rfl) rfl (fun h => by cases h) Tryz.underlying87 (.slice _) rfl
theorem tyOk88 : TyOk Tryz.prog 88 ty88 := TyOk.mk' (z := (.nilFunc)) (by kernel_rfl) rfl (fun h => by cases h) Tryz.underlying88 (.func _ _ _) rfl
theorem tyOk89 : TyOk Tryz.prog 89 ty89 := TyOk.mk' (z := (.slice none 0 0)) (by kernel_rfl) rfl (fun h => by cases h) Tryz.underlying89 (.slice _) rfl
theorem tyOk90 : TyOk Tryz.prog 90 ty90 := TyOk.mk' (z := (.slice none 0 0)) (by kernel_rfl) rfl (fun h => by cases h) Tryz.underlying90 (.slice _) rfl
theorem tyOk91 : TyOk Tryz.prog 91 ty91 := TyOk.mk' (z := (.agg #[.int .i64 0, .int .i64 0, .int .i64 0, .int .i64 0, .int .i64 0, .bool false])) (by kernel_rfl) rfl (fun _ => rfl) Tryz.underlying91 (.struct _ _ rfl) rfl
theorem tyOk92 : TyOk Tryz.prog 92 ty92 := TyOk.mk' (z := (.agg #[.int .i64 0, .int .i64 0, .int .i64 0, .int .i64 0, .int .i64 0, .bool false])) (by kernel_rfl) rfl (fun _ => rfl) Tryz.underlying92 (.struct _ _ rfl) rfl
theorem tyOk93 : TyOk Tryz.prog 93 ty93 := TyOk.mk' (z := (.nilFunc)) (by kernel_rfl) rfl (fun h => by cases h) Tryz.underlying93 (.func _ _ _) rfl
theorem tyOk94 : TyOk Tryz.prog 94 ty94 := TyOk.mk' (z := (.pointer none)) (by kernel_rfl) rfl (fun h => by cases h) Tryz.underlying94 (.ptr _) rfl
theorem tyOk95 : TyOk Tryz.prog 95 ty95 := TyOk.mk' (z := (.agg #[.pointer none, .pointer none, .pointer none, .pointer none])) (by kernel_rfl) rfl (fun _ => rfl) Tryz.underlying95 (.array _ _) rfl
theorem tyOk96 : TyOk Tryz.prog 96 ty96 := TyOk.mk' (z := (.nilFunc)) (by kernel_rfl) rfl (fun h => by cases h) Tryz.underlying96 (.func _ _ _) rfl
theorem tyOk97 : TyOk Tryz.prog 97 ty97 := TyOk.mk' (z := (.agg #[.pointer none, .int .i64 0, .int .i64 0, .int .i64 0, .int .i64 0, .int .i64 0, .int .i64 0, .bool false, .int .i64 0, .int .i64 0, .int .i64 0, .bool false, .slice none 0 0, .bool false, .bool false])) (by kernel_rfl) rfl (fun _ => rfl) Tryz.underlying97 (.struct _ _ rfl) rfl
theorem tyOk98 : TyOk Tryz.prog 98 ty98 := TyOk.mk' (z := (.agg #[.pointer none, .int .i64 0, .int .i64 0, .int .i64 0, .int .i64 0, .int .i64 0, .int .i64 0, .bool false, .int .i64 0, .int .i64 0, .int .i64 0, .bool false, .slice none 0 0, .bool false, .bool false])) (by kernel_rfl) rfl (fun _ => rfl) Tryz.underlying98 (.struct _ _ rfl) rfl
theorem tyOk99 : TyOk Tryz.prog 99 ty99 := TyOk.mk' (z := (.nilFunc)) (by kernel_rfl) rfl (fun h => by cases h) Tryz.underlying99 (.func _ _ _) rfl
theorem tyOk100 : TyOk Tryz.prog 100 ty100 := TyOk.mk' (z := (.nilFunc)) (by kernel_rfl) rfl (fun h => by cases h) Tryz.underlying100 (.func _ _ _) rfl
theorem tyOk101 : TyOk Tryz.prog 101 ty101 := TyOk.mk' (z := (.slice none 0 0)) (by kernel_rfl) rfl (fun h => by cases h) Tryz.underlying101 (.slice _) rfl
theorem tyOk103 : TyOk Tryz.prog 103 ty103 := TyOk.mk' (z := (.nilFunc)) (by kernel_rfl) rfl (fun h => by cases h) Tryz.underlying103 (.func _ _ _) rfl
theorem tyOk104 : TyOk Tryz.prog 104 ty104 := TyOk.mk' (z := (.agg #[.bool false, .bool false, .bool false, .bool false, .bool false, .bool false, .bool false, .bool false, .bool false, .bool false, .bool false, .bool false, .bool false, .bool false, .bool false, .bool false])) (by kernel_rfl) rfl (fun _ => rfl) Tryz.underlying104 (.array _ _) rfl
theorem tyOk105 : TyOk Tryz.prog 105 ty105 := TyOk.mk' (z := (.pointer none)) (by kernel_rfl) rfl (fun h => by cases h) Tryz.underlying105 (.ptr _) rfl
theorem tyOk106 : TyOk Tryz.prog 106 ty106 := TyOk.mk' (z := (.nilFunc)) (by kernel_rfl) rfl (fun h => by cases h) Tryz.underlying106 (.func _ _ _) rfl
theorem tyOk107 : TyOk Tryz.prog 107 ty107 := TyOk.mk' (z := (.agg #[.pointer none, .pointer none, .pointer none, .pointer none])) (by kernel_rfl) rfl (fun _ => rfl) Tryz.underlying107 (.array _ _) rfl
theorem tyOk108 : TyOk Tryz.prog 108 ty108 := TyOk.mk' (z := (.pointer none)) (by kernel_rfl) rfl (fun h => by cases h) Tryz.underlying108 (.ptr _) rfl
theorem tyOk109 : TyOk Tryz.prog 109 ty109 := TyOk.mk' (z := (.agg #[.pointer none, .pointer none, .pointer none, .pointer none])) (by kernel_rfl) rfl (fun _ => rfl) Tryz.underlying109 (.array _ _) rfl
theorem tyOk110 : TyOk Tryz.prog 110 ty110 := TyOk.mk' (z := (.nilFunc)) (by kernel_rfl) rfl (fun h => by cases h) Tryz.underlying110 (.func _ _ _) rfl
theorem tyOk111 : TyOk Tryz.prog 111 ty111 := TyOk.mk' (z := (.agg #[.bool false, .bool false, .bool false])) (by kernel_rfl) rfl (fun _ => rfl) Tryz.underlying111 (.array _ _) rfl
theorem tyOk112 : TyOk Tryz.prog 112 ty112 := TyOk.mk' (z := (.agg #[.pointer none, .int .i64 0, .int .i64 0, .int .i64 0, .int .i64 0, .int .i64 0, .int .i64 0, .int .i64 0, .bool false, .bool false, .bool false, .int .i64 0, .int .i64 0, .bool false, .slice none 0 0, .bool false, .bool false, .bool false, .bool false, .bool false])) (by kernel_rfl) rfl (fun _ => rfl) Tryz.underlying112 (.struct _ _ rfl) rfl
theorem tyOk113 : TyOk Tryz.prog 113 ty113 := TyOk.mk' (z := (.agg #[.pointer none, .int .i64 0, .int .i64 0, .int .i64 0, .int .i64 0, .int .i64 0, .int .i64 0, .int .i64 0, .bool false, .bool false, .bool false, .int .i64 0, .int .i64 0, .bool false, .slice none 0 0, .bool false, .bool false, .bool false, .bool false, .bool false])) (by kernel_rfl) rfl (fun _ => rfl) Tryz.underlying113 (.struct _ _ rfl) rfl
theorem tyOk114 : TyOk Tryz.prog 114 ty114 := TyOk.mk' (z := (.nilFunc)) (by kernel_rfl) rfl (fun h => by cases h) Tryz.underlying114 (.func _ _ _) rfl
theorem tyOk115 : TyOk Tryz.prog 115 ty115 := TyOk.mk' (z := (.nilFunc)) (by kernel_rfl) rfl (fun h => by cases h) Tryz.underlying115 (.func _ _ _) rfl
theorem tyOk116 : TyOk Tryz.prog 116 ty116 := TyOk.mk' (z := (.slice none 0 0)) (by kernel_rfl) rfl (fun h => by cases h) Tryz.underlying116 (.slice _) rfl
theorem tyOk117 : TyOk Tryz.prog 117 ty117 := TyOk.mk' (z := (.agg #[.int .i64 0, .slice none 0 0, .slice none 0 0, .slice none 0 0, .int .i64 0, .int .i64 0])) (by kernel_rfl) rfl (fun _ => rfl) Tryz.underlying117 (.struct _ _ rfl) rfl
theorem tyOk118 : TyOk Tryz.prog 118 ty118 := TyOk.mk' (z := (.agg #[.int .i64 0, .slice none 0 0, .slice none 0 0, .slice none 0 0, .int .i64 0, .int .i64 0])) (by kernel_rfl) rfl (fun _ => rfl) Tryz.underlying118 (.struct _ _ rfl) rfl
theorem tyOk119 : TyOk Tryz.prog 119 ty119 := TyOk.mk' (z := (.agg #[.pointer none, .slice none 0 0, .slice none 0 0, .int .i64 0, .int .i64 0, .slice none 0 0, .slice none 0 0, .slice none 0 0, .int .i64 0, .int .i64 0])) (by kernel_rfl) rfl (fun _ => rfl) Tryz.underlying119 (.struct _ _ rfl) rfl
theorem tyOk120 : TyOk Tryz.prog 120 ty120 := TyOk.mk' (z := (.agg #[.pointer none, .slice none 0 0, .slice none 0 0, .int .i64 0, .int .i64 0, .slice none 0 0, .slice none 0 0, .slice none 0 0, .int .i64 0, .int .i64 0])) (by kernel_rfl) rfl (fun _ => rfl) Tryz.underlying120 (.struct _ _ rfl) rfl
theorem tyOk121 : TyOk Tryz.prog 121 ty121 := TyOk.mk' (z := (.agg #[.slice none 0 0, .int .i64 0])) (by kernel_rfl) rfl (fun _ => rfl) Tryz.underlying121 (.struct _ _ rfl) rfl
theorem tyOk122 : TyOk Tryz.prog 122 ty122 := TyOk.mk' (z := (.agg #[.slice none 0 0, .int .i64 0])) (by kernel_rfl) rfl (fun _ => rfl) Tryz.underlying122 (.struct _ _ rfl) rfl
theorem tyOk123 : TyOk Tryz.prog 123 ty123 := TyOk.mk' (z := (.agg #[.slice none 0 0])) (by kernel_rfl) rfl (fun _ => rfl) Tryz.underlying123 (.struct _ _ rfl) rfl
theorem tyOk124 : TyOk Tryz.prog 124 ty124 := TyOk.mk' (z := (.agg #[.slice none 0 0])) (by kernel_rfl) rfl (fun _ => rfl) Tryz.underlying124 (.struct _ _ rfl) rfl
theorem tyOk125 : TyOk Tryz.prog 125 ty125 := TyOk.mk' (z := (.slice none 0 0)) (by kernel_rfl) rfl (fun h => by cases h) Tryz.underlying125 (.slice _) rfl
theorem tyOk126 : TyOk Tryz.prog 126 ty126 := TyOk.mk' (z := (.agg #[.slice none 0 0])) (by kernel_rfl) rfl (fun _ => rfl) Tryz.underlying126 (.struct _ _ rfl) rfl
theorem tyOk127 : TyOk Tryz.prog 127 ty127 := TyOk.mk' (z := (.agg #[.slice none 0 0])) (by kernel_rfl) rfl (fun _ => rfl) Tryz.underlying127 (.struct _ _ rfl) rfl
theorem tyOk128 : TyOk Tryz.prog 128 ty128 := TyOk.mk' (z := (.agg #[.slice none 0 0, .int .i64 0, .slice none 0 0, .slice none 0 0])) (by kernel_rfl) rfl (fun _ => rfl) Tryz.underlying128 (.struct _ _ rfl) rfl
theorem tyOk129 : TyOk Tryz.prog 129 ty129 := TyOk.mk' (z := (.agg #[.slice none 0 0, .int .i64 0, .slice none 0 0, .slice none 0 0])) (by kernel_rfl) rfl (fun _ => rfl) Tryz.underlying129 (.struct _ _ rfl) rfl
theorem tyOk130 : TyOk Tryz.prog 130 ty130 := TyOk.mk' (z := (.nilFunc)) (by kernel_rfl) rfl (fun h => by cases h) Tryz.underlying130 (.func _ _ _) rfl
theorem tyOk131 : TyOk Tryz.prog 131 ty131 := TyOk.mk' (z := (.nilFunc)) (by kernel_rfl) rfl (fun h => by cases h) Tryz.underlying131 (.func _ _ _) rfl
theorem tyOk132 : TyOk Tryz.prog 132 ty132 := TyOk.mk' (z := (.nilFunc)) (by kernel_rfl) rfl (fun h => by cases h) Tryz.underlying132 (.func _ _ _) rfl
theorem tyOk133 : TyOk Tryz.prog 133 ty133 := TyOk.mk' (z := (.nilFunc)) (by kernel_rfl) rfl (fun h => by cases h) Tryz.underlying133 (.func _ _ _) rfl
theorem tyOk134 : TyOk Tryz.prog 134 ty134 := TyOk.mk' (z := (.nilFunc)) (by kernel_rfl) rfl (fun h => by cases h) Tryz.underlying134 (.func _ _ _) rfl
theorem tyOk135 : TyOk Tryz.prog 135 ty135 := TyOk.mk' (z := (.nilFunc)) (by kernel_rfl) rfl (fun h => by cases h) Tryz.underlying135 (.func _ _ _) rfl
theorem tyOk136 : TyOk Tryz.prog 136 ty136 := TyOk.mk' (z := (.nilFunc)) (by kernel_rfl) rfl (fun h => by cases h) Tryz.underlying136 (.func _ _ _) rfl
theorem tyOk137 : TyOk Tryz.prog 137 ty137 := TyOk.mk' (z := (.nilFunc)) (by kernel_rfl) rfl (fun h => by cases h) Tryz.underlying137 (.func _ _ _) rfl
theorem tyOk138 : TyOk Tryz.prog 138 ty138 := TyOk.mk' (z := (.slice none 0 0)) (by kernel_rfl) rfl (fun h => by cases h) Tryz.underlying138 (.slice _) rfl
theorem tyOk139 : TyOk Tryz.prog 139 ty139 := TyOk.mk' (z := (.agg #[.int .i64 0, .int .i64 0, .int .i64 0, .slice none 0 0])) (by kernel_rfl) rfl (fun _ => rfl) Tryz.underlying139 (.struct _ _ rfl) rfl
theorem tyOk140 : TyOk Tryz.prog 140 ty140 := TyOk.mk' (z := (.agg #[.int .i64 0, .int .i64 0, .int .i64 0, .slice none 0 0])) (by kernel_rfl) rfl (fun _ => rfl) Tryz.underlying140 (.struct _ _ rfl) rfl
theorem tyOk141 : TyOk Tryz.prog 141 ty141 := TyOk.mk' (z := (.nilFunc)) (by kernel_rfl) rfl (fun h => by cases h) Tryz.underlying141 (.func _ _ _) rfl
theorem tyOk142 : TyOk Tryz.prog 142 ty142 := TyOk.mk' (z := (.nilFunc)) (by kernel_rfl) rfl (fun h => by cases h) Tryz.underlying142 (.func _ _ _) rfl
theorem tyOk143 : TyOk Tryz.prog 143 ty143 := TyOk.mk' (z := (.nilFunc)) (by kernel_rfl) rfl (fun h => by cases h) Tryz.underlying143 (.func _ _ _) rfl
theorem tyOk144 : TyOk Tryz.prog 144 ty144 := TyOk.mk' (z := (.nilFunc)) (by kernel_rfl) rfl (fun h => by cases h) Tryz.underlying144 (.func _ _ _) rfl
theorem tyOk145 : TyOk Tryz.prog 145 ty145 := TyOk.mk' (z := (.pointer none)) (by kernel_rfl) rfl (fun h => by cases h) Tryz.underlying145 (.ptr _) rfl
theorem tyOk146 : TyOk Tryz.prog 146 ty146 := TyOk.mk' (z := (.nilFunc)) (by kernel_rfl) rfl (fun h => by cases h) Tryz.underlying146 (.func _ _ _) rfl
theorem tyOk147 : TyOk Tryz.prog 147 ty147 := TyOk.mk' (z := (.nilFunc)) (by kernel_rfl) rfl (fun h => by cases h) Tryz.underlying147 (.func _ _ _) rfl
theorem tyOk148 : TyOk Tryz.prog 148 ty148 := TyOk.mk' (z := (.nilFunc)) (by kernel_rfl) rfl (fun h => by cases h) Tryz.underlying148 (.func _ _ _) rfl
theorem tyOk149 : TyOk Tryz.prog 149 ty149 := TyOk.mk' (z := (.pointer none)) (by kernel_rfl) rfl (fun h => by cases h) Tryz.underlying149 (.ptr _) rfl
theorem tyOk150 : TyOk Tryz.prog 150 ty150 := TyOk.mk' (z := (.agg #[.pointer none, .slice none 0 0, .slice none 0 0, .int .i64 0, .int .i64 0, .slice none 0 0, .slice none 0 0, .slice none 0 0, .int .i64 0, .int .i64 0])) (by kernel_rfl) rfl (fun _ => rfl) Tryz.underlying150 (.struct _ _ rfl) rfl
theorem tyOk151 : TyOk Tryz.prog 151 ty151 := TyOk.mk' (z := (.agg #[.pointer none, .slice none 0 0, .slice none 0 0, .int .i64 0, .int .i64 0, .slice none 0 0, .slice none 0 0, .slice none 0 0, .int .i64 0, .int .i64 0])) (by kernel_rfl) rfl (fun _ => rfl) Tryz.underlying151 (.struct _ _ rfl) rfl
theorem tyOk152 : TyOk Tryz.prog 152 ty152 := TyOk.mk' (z := (.nilFunc)) (by kernel_rfl) rfl (fun h => by cases h) Tryz.underlying152 (.func _ _ _) rfl
theorem tyOk153 : TyOk Tryz.prog 153 ty153 := TyOk.mk' (z := (.agg #[.int .i64 0, .int .i64 0, .int .i64 0, .int .i64 0, .int .i64 0])) (by kernel_rfl) rfl (fun _ => rfl) Tryz.underlying153 (.struct _ _ rfl) rfl
theorem tyOk154 : TyOk Tryz.prog 154 ty154 := TyOk.mk' (z := (.agg #[.int .i64 0, .int .i64 0, .int .i64 0, .int .i64 0, .int .i64 0])) (by kernel_rfl) rfl (fun _ => rfl) Tryz.underlying154 (.struct _ _ rfl) rfl
theorem tyOk155 : TyOk Tryz.prog 155 ty155 := TyOk.mk' (z := (.nilFunc)) (by kernel_rfl) rfl (fun h => by cases h) Tryz.underlying155 (.func _ _ _) rfl
theorem tyOk156 : TyOk Tryz.prog 156 ty156 := TyOk.mk' (z := (.nilFunc)) (by kernel_rfl) rfl (fun h => by cases h) Tryz.underlying156 (.func _ _ _) rfl
theorem tyOk157 : TyOk Tryz.prog 157 ty157 := TyOk.mk' (z := (.int .i64 0)) (by kernel_rfl) rfl (fun h => by cases h) Tryz.underlying157 (.int _) rfl
theorem tyOk158 : TyOk Tryz.prog 158 ty158 := TyOk.mk' (z := (.int .i64 0)) (by kernel_rfl) rfl (fun h => by cases h) Tryz.underlying158 (.int _) rfl
theorem tyOk159 : TyOk Tryz.prog 159 ty159 := TyOk.mk' (z := (.agg #[.pointer none, .int .i64 0, .int .i64 0, .int .i64 0, .int .i64 0, .int .i64 0, .int .i64 0, .bool false, .slice none 0 0, .bool false])) (by kernel_rfl) rfl (fun _ => rfl) Tryz.underlying159 (.struct _ _ rfl) rfl
theorem tyOk160 : TyOk Tryz.prog 160 ty160 := TyOk.mk' (z := (.agg #[.pointer none, .int .i64 0, .int .i64 0, .int .i64 0, .int .i64 0, .int .i64 0, .int .i64 0, .bool false, .slice none 0 0, .bool false])) (by kernel_rfl) rfl (fun _ => rfl) Tryz.underlying160 (.struct _ _ rfl) rfl
theorem tyOk161 : TyOk Tryz.prog 161 ty161 := TyOk.mk' (z := (.nilFunc)) (by kernel_rfl) rfl (fun h => by cases h) Tryz.underlying161 (.func _ _ _) rfl
theorem tyOk162 : TyOk Tryz.prog 162 ty162 := TyOk.mk' (z := (.nilFunc)) (by kernel_rfl) rfl (fun h => by cases h) Tryz.underlying162 (.func _ _ _) rfl
theorem tyOk163 : TyOk Tryz.prog 163 ty163 := TyOk.mk' (z := (.nilFunc)) (by kernel_rfl) rfl (fun h => by cases h) Tryz.underlying163 (.func _ _ _) rfl
theorem tyOk164 : TyOk Tryz.prog 164 ty164 := TyOk.mk' (z := (.nilFunc)) (by kernel_rfl) rfl (fun h => by cases h) Tryz.underlying164 (.func _ _ _) rfl
theorem tyOk165 : TyOk Tryz.prog 165 ty165 := TyOk.mk' (z := (.nilFunc)) (by kernel_rfl) rfl (fun h => by cases h) Tryz.underlying165 (.func _ _ _) rfl
theorem tyOk166 : TyOk Tryz.prog 166 ty166 := TyOk.mk' (z := (.nilFunc)) (by kernel_rfl) rfl (fun h => by cases h) Tryz.underlying166 (.func _ _ _) rfl
theorem tyOk167 : TyOk Tryz.prog 167 ty167 := TyOk.mk' (z := (.agg #[.int .i64 0, .int .i64 0])) (by kernel_rfl) rfl (fun _ => rfl) Tryz.underlying167 (.struct _ _ rfl) rfl
theorem tyOk168 : TyOk Tryz.prog 168 ty168 := TyOk.mk' (z := (.agg #[.int .i64 0, .int .i64 0])) (by kernel_rfl) rfl (fun _ => rfl) Tryz.underlying168 (.struct _ _ rfl) rfl
theorem tyOk169 : TyOk Tryz.prog 169 ty169 := TyOk.mk' (z := (.nilFunc)) (by kernel_rfl) rfl (fun h => by cases h) Tryz.underlying169 (.func _ _ _) rfl
theorem tyOk170 : TyOk Tryz.prog 170 ty170 := TyOk.mk' (z := (.agg #[.slice none 0 0, .slice none 0 0, .slice none 0 0, .int .i64 0])) (by kernel_rfl) rfl (fun _ => rfl) Tryz.underlying170 (.struct _ _ rfl) rfl
theorem tyOk171 : TyOk Tryz.prog 171 ty171 := TyOk.mk' (z := (.agg #[.slice none 0 0, .slice none 0 0, .slice none 0 0, .int .i64 0])) (by kernel_rfl) rfl (fun _ => rfl) Tryz.underlying171 (.struct _ _ rfl) rfl
theorem tyOk172 : TyOk Tryz.prog 172 ty172 := TyOk.mk' (z := (.nilFunc)) (by kernel_rfl) rfl (fun h => by cases h) Tryz.underlying172 (.func _ _ _) rfl
theorem tyOk173 : TyOk Tryz.prog 173 ty173 := TyOk.mk' (z := (.agg #[.int .i64 0, .int .i64 0, .int .i64 0, .int .i64 0])) (by kernel_rfl) rfl (fun _ => rfl) Tryz.underlying173 (.array _ _) rfl
theorem tyOk174 : TyOk Tryz.prog 174 ty174 := TyOk.mk' (z := (.pointer none)) (by kernel_rfl) rfl (fun h => by cases h) Tryz.underlying174 (.ptr _) rfl
theorem tyOk175 : TyOk Tryz.prog 175 ty175 := TyOk.mk' (z := (.nilFunc)) (by kernel_rfl) rfl (fun h => by cases h) Tryz.underlying175 (.func _ _ _) rfl
theorem tyOk176 : TyOk Tryz.prog 176 ty176 := TyOk.mk' (z := (.agg #[.bool false, .int .i64 0])) (by kernel_rfl) rfl (fun _ => rfl) Tryz.underlying176 (.struct _ _ rfl) rfl
theorem tyOk177 : TyOk Tryz.prog 177 ty177 := TyOk.mk' (z := (.agg #[.bool false, .int .i64 0])) (by kernel_rfl) rfl (fun _ => rfl) Tryz.underlying177 (.struct _ _ rfl) rfl
theorem tyOk178 : TyOk Tryz.prog 178 ty178 := TyOk.mk' (z := (.nilFunc)) (by kernel_rfl) rfl (fun h => by cases h) Tryz.underlying178 (.func _ _ _) rfl
theorem tyOk179 : TyOk Tryz.prog 179 ty179 := TyOk.mk' (z := (.nilFunc)) (by kernel_rfl) rfl (fun h => by cases h) Tryz.underlying179 (.func _ _ _) rfl
theorem tyOk180 : TyOk Tryz.prog 180 ty180 := TyOk.mk' (z := (.agg #[.pointer none, .int .i64 0, .int .i64 0, .nilFunc, .slice none 0 0, .nilFunc, .int .i64 0, .int .i64 0, .bool false, .slice none 0 0, .int .i64 0, .int .i64 0, .bool false, .slice none 0 0, .bool false, .bool false])) (by kernel_rfl) rfl (fun _ => rfl) Tryz.underlying180 (.struct _ _ rfl) rfl
theorem tyOk181 : TyOk Tryz.prog 181 ty181 := TyOk.mk' (z := (.agg #[.pointer none, .int .i64 0, .int .i64 0, .nilFunc, .slice none 0 0, .nilFunc, .int .i64 0, .int .i64 0, .bool false, .slice none 0 0, .int .i64 0, .int .i64 0, .bool false, .slice none 0 0, .bool false, .bool false])) (by kernel_rfl) rfl (fun _ => rfl) Tryz.underlying181 (.struct _ _ rfl) rfl
theorem tyOk183 : TyOk Tryz.prog 183 ty183 := TyOk.mk' (z := (.nilFunc)) (by kernel_rfl) rfl (fun h => by cases h) Tryz.underlying183 (.func _ _ _) rfl
theorem tyOk184 : TyOk Tryz.prog 184 ty184 := TyOk.mk' (z := (.nilFunc)) (by kernel_rfl) rfl (fun h => by cases h) Tryz.underlying184 (.func _ _ _) rfl
theorem tyOk185 : TyOk Tryz.prog 185 ty185 := TyOk.mk' (z := (.nilFunc)) (by kernel_rfl) rfl (fun h => by cases h) Tryz.underlying185 (.func _ _ _) rfl
theorem tyOk186 : TyOk Tryz.prog 186 ty186 := TyOk.mk' (z := (.nilFunc)) (by kernel_rfl) rfl (fun h => by cases h) Tryz.underlying186 (.func _ _ _) rfl
theorem tyOk187 : TyOk Tryz.prog 187 ty187 := TyOk.mk' (z := (.nilFunc)) (by kernel_rfl) rfl (fun h => by cases h) Tryz.underlying187 (.func _ _ _) rfl
theorem tyOk188 : TyOk Tryz.prog 188 ty188 := TyOk.mk' (z := (.nilFunc)) (by kernel_rfl) rfl (fun h => by cases h) Tryz.underlying188 (.func _ _ _) rfl
theorem tyOk189 : TyOk Tryz.prog 189 ty189 := TyOk.mk' (z := (.nilFunc)) (by kernel_rfl) rfl (fun h => by cases h) Tryz.underlying189 (.func _ _ _) rfl
theorem tyOk190 : TyOk Tryz.prog 190 ty190 := TyOk.mk' (z := (.nilFunc)) (by kernel_rfl) rfl (fun h => by cases h) Tryz.underlying190 (.func _ _ _) rfl
theorem tyOk192 : TyOk Tryz.prog 192 ty192 := TyOk.mk' (z := (.nilFunc)) (by kernel_rfl) rfl (fun h => by cases h) Tryz.underlying192 (.func _ _ _) rfl
theorem tyOk193 : TyOk Tryz.prog 193 ty193 := TyOk.mk' (z := (.nilFunc)) (by kernel_rfl) rfl (fun h => by cases h) Tryz.underlying193 (.func _ _ _) rfl
theorem tyOk194 : TyOk Tryz.prog 194 ty194 := TyOk.mk' (z := (.pointer none)) (by kernel_rfl) rfl (fun h => by cases h) Tryz.underlying194 (.ptr _) rfl
theorem tyOk195 : TyOk Tryz.prog 195 ty195 := TyOk.mk' (z := (.int .u64 0)) (by kernel_rfl) rfl (fun h => by cases h) Tryz.underlying195 (.int _) rfl
theorem tyOk196 : TyOk Tryz.prog 196 ty196 := TyOk.mk' (z := (.int .i64 0)) (by kernel_rfl) rfl (fun h => by cases h) Tryz.underlying196 (.int _) rfl
theorem tyOk197 : TyOk Tryz.prog 197 ty197 := TyOk.mk' (z := (.nilFunc)) (by kernel_rfl) rfl (fun h => by cases h) Tryz.underlying197 (.func _ _ _) rfl
theorem tyOk198 : TyOk Tryz.prog 198 ty198 := TyOk.mk' (z := (.nilFunc)) (by kernel_rfl) rfl (fun h => by cases h) Tryz.underlying198 (.func _ _ _) rfl
theorem tyOk199 : TyOk Tryz.prog 199 ty199 := TyOk.mk' (z := (.nilFunc)) (by kernel_rfl) rfl (fun h => by cases h) Tryz.underlying199 (.func _ _ _) rfl
theorem tyOk200 : TyOk Tryz.prog 200 ty200 := TyOk.mk' (z := (.nilFunc)) (by kernel_rfl) rfl (fun h => by cases h) Tryz.underlying200 (.func _ _ _) rfl
theorem tyOk201 : TyOk Tryz.prog 201 ty201 := TyOk.mk' (z := (.pointer none)) (by kernel_rfl) rfl (fun h => by cases h) Tryz.underlying201 (.ptr _) rfl
theorem tyOk202 : TyOk Tryz.prog 202 ty202 := TyOk.mk' (z := (.nilFunc)) (by kernel_rfl) rfl (fun h => by cases h) Tryz.underlying202 (.func _ _ _) rfl
theorem tyOk203 : TyOk Tryz.prog 203 ty203 := TyOk.mk' (z := (.nilFunc)) (by kernel_rfl) rfl (fun h => by cases h) Tryz.underlying203 (.func _ _ _) rfl
theorem tyOk205 : TyOk Tryz.prog 205 ty205 := TyOk.mk' (z := (.nilFunc)) (by kernel_rfl) rfl (fun h => by cases h) Tryz.underlying205 (.func _ _ _) rfl
theorem tyOk206 : TyOk Tryz.prog 206 ty206 := TyOk.mk' (z := (.nilFunc)) (by kernel_rfl) rfl (fun h => by cases h) Tryz.underlying206 (.func _ _ _) rfl
theorem tyOk207 : TyOk Tryz.prog 207 ty207 := TyOk.mk' (z := (.nilFunc)) (by kernel_rfl) rfl (fun h => by cases h) Tryz.underlying207 (.func _ _ _) rfl
theorem tyOk208 : TyOk Tryz.prog 208 ty208 := TyOk.mk' (z := (.nilFunc)) (by kernel_rfl) rfl (fun h => by cases h) Tryz.underlying208 (.func _ _ _) rfl
theorem tyOk209 : TyOk Tryz.prog 209 ty209 := TyOk.mk' (z := (.nilFunc)) (by kernel_rfl) rfl (fun h => by cases h) Tryz.underlying209 (.func _ _ _) rfl
theorem tyOk210 : TyOk Tryz.prog 210 ty210 := TyOk.mk' (z := (.nilFunc)) (by kernel_rfl) rfl (fun h => by cases h) Tryz.underlying210 (.func _ _ _) rfl
theorem tyOk211 : TyOk Tryz.prog 211 ty211 := TyOk.mk' (z := (.pointer none)) (by kernel_rfl) rfl (fun h => by cases h) Tryz.underlying211 (.ptr _) rfl
theorem tyOk212 : TyOk Tryz.prog 212 ty212 := TyOk.mk' (z := (.nilFunc)) (by kernel_rfl) rfl (fun h => by cases h) Tryz.underlying212 (.func _ _ _) rfl
theorem tyOk213 : TyOk Tryz.prog 213 ty213 := TyOk.mk' (z := (.nilFunc)) (by kernel_rfl) rfl (fun h => by cases h) Tryz.underlying213 (.func _ _ _) rfl
theorem tyOk214 : TyOk Tryz.prog 214 ty214 := TyOk.mk' (z := (.pointer none)) (by kernel_rfl) rfl (fun h => by cases h) Tryz.underlying214 (.ptr _) rfl
theorem tyOk215 : TyOk Tryz.prog 215 ty215 := TyOk.mk' (z := (.nilFunc)) (by kernel_rfl) rfl (fun h => by cases h) Tryz.underlying215 (.func _ _ _) rfl
theorem tyOk216 : TyOk Tryz.prog 216 ty216 := TyOk.mk' (z := (.nilFunc)) (by kernel_rfl) rfl (fun h => by cases h) Tryz.underlying216 (.func _ _ _) rfl
theorem tyOk218 : TyOk Tryz.prog 218 ty218 := TyOk.mk' (z := (.nilFunc)) (by kernel_rfl) rfl (fun h => by cases h) Tryz.underlying218 (.func _ _ _) rfl
theorem tyOk219 : TyOk Tryz.prog 219 ty219 := TyOk.mk' (z := (.nilFunc)) (by kernel_rfl) rfl (fun h => by cases h) Tryz.underlying219 (.func _ _ _) rfl
theorem tyOk220 : TyOk Tryz.prog 220 ty220 := TyOk.mk' (z := (.nilFunc)) (by kernel_rfl) rfl (fun h => by cases h) Tryz.underlying220 (.func _ _ _) rfl
theorem tyOk221 : TyOk Tryz.prog 221 ty221 := TyOk.mk' (z := (.nilFunc)) (by kernel_rfl) rfl (fun h => by cases h) Tryz.underlying221 (.func _ _ _) rfl
theorem tyOk222 : TyOk Tryz.prog 222 ty222 := TyOk.mk' (z := (.int .i64 0)) (by kernel_rfl) rfl (fun h => by cases h) Tryz.underlying222 (.int _) rfl
theorem tyOk224 : TyOk Tryz.prog 224 ty224 := TyOk.mk' (z := (.nilFunc)) (by kernel_rfl) rfl (fun h => by cases h) Tryz.underlying224 (.func _ _ _) rfl
theorem tyOk225 : TyOk Tryz.prog 225 ty225 := TyOk.mk' (z := (.nilFunc)) (by kernel_rfl) rfl (fun h => by cases h) Tryz.underlying225 (.func _ _ _) rfl
theorem tyOk226 : TyOk Tryz.prog 226 ty226 := TyOk.mk' (z := (.nilFunc)) (by kernel_rfl) rfl (fun h => by cases h) Tryz.underlying226 (.func _ _ _) rfl
theorem tyOk227 : TyOk Tryz.prog 227 ty227 := TyOk.mk' (z := (.nilFunc)) (by kernel_rfl) rfl (fun h => by cases h) Tryz.underlying227 (.func _ _ _) rfl
theorem tyOk228 : TyOk Tryz.prog 228 ty228 := TyOk.mk' (z := (.nilFunc)) (by kernel_rfl) rfl (fun h => by cases h) Tryz.underlying228 (.func _ _ _) rfl
theorem tyOk229 : TyOk Tryz.prog 229 ty229 := TyOk.mk' (z := (.nilFunc)) (by kernel_rfl) rfl (fun h => by cases h) Tryz.underlying229 (.func _ _ _) rfl
theorem tyOk230 : TyOk Tryz.prog 230 ty230 := TyOk.mk' (z := (.nilFunc)) (by kernel_rfl) rfl (fun h => by cases h) Tryz.underlying230 (.func _ _ _) rfl
theorem tyOk231 : TyOk Tryz.prog 231 ty231 := TyOk.mk' (z := (.nilFunc)) (by kernel_rfl) rfl (fun h => by cases h) Tryz.underlying231 (.func _ _ _) rfl
theorem tyOk232 : TyOk Tryz.prog 232 ty232 := TyOk.mk' (z := (.nilFunc)) (by kernel_rfl) rfl (fun h => by cases h) Tryz.underlying232 (.func _ _ _) rfl
theorem tyOk233 : TyOk Tryz.prog 233 ty233 := TyOk.mk' (z := (.nilFunc)) (by kernel_rfl) rfl (fun h => by cases h) Tryz.underlying233 (.func _ _ _) rfl
theorem tyOk234 : TyOk Tryz.prog 234 ty234 := TyOk.mk' (z := (.nilFunc)) (by kernel_rfl) rfl (fun h => by cases h) Tryz.underlying234 (.func _ _ _) rfl
theorem tyOk235 : TyOk Tryz.prog 235 ty235 := TyOk.mk' (z := (.nilFunc)) (by kernel_rfl) rfl (fun h => by cases h) Tryz.underlying235 (.func _ _ _) rfl
theorem tyOk236 : TyOk Tryz.prog 236 ty236 := TyOk.mk' (z := (.nilFunc)) (by kernel_rfl) rfl (fun h => by cases h) Tryz.underlying236 (.func _ _ _) rfl
theorem tyOk237 : TyOk Tryz.prog 237 ty237 := TyOk.mk' (z := (.nilFunc)) (by kernel_rfl) rfl (fun h => by cases h) Tryz.underlying237 (.func _ _ _) rfl
theorem tyOk238 : TyOk Tryz.prog 238 ty238 := TyOk.mk' (z := (.nilFunc)) (by kernel_rfl) rfl (fun h => by cases h) Tryz.underlying238 (.func _ _ _) rfl
theorem tyOk239 : TyOk Tryz.prog 239 ty239 := TyOk.mk' (z := (.int .u64 0)) (by kernel_rfl) rfl (fun h => by cases h) Tryz.underlying239 (.int _) rfl
theorem tyOk240 : TyOk Tryz.prog 240 ty240 := TyOk.mk' (z := (.nilFunc)) (by kernel_rfl) rfl (fun h => by cases h) Tryz.underlying240 (.func _ _ _) rfl
theorem tyOk241 : TyOk Tryz.prog 241 ty241 := TyOk.mk' (z := (.nilFunc)) (by kernel_rfl) rfl (fun h => by cases h) Tryz.underlying241 (.func _ _ _) rfl
theorem tyOk242 : TyOk Tryz.prog 242 ty242 := TyOk.mk' (z := (.nilFunc)) (by kernel_rfl) rfl (fun h => by cases h) Tryz.underlying242 (.func _ _ _) rfl
theorem tyOk243 : TyOk Tryz.prog 243 ty243 := TyOk.mk' (z := (.nilFunc)) (by kernel_rfl) rfl (fun h => by cases h) Tryz.underlying243 (.func _ _ _) rfl
theorem tyOk244 : TyOk Tryz.prog 244 ty244 := TyOk.mk' (z := (.nilFunc)) (by kernel_rfl) rfl (fun h => by cases h) Tryz.underlying244 (.func _ _ _) rfl
theorem tyOk245 : TyOk Tryz.prog 245 ty245 := TyOk.mk' (z := (.nilFunc)) (by kernel_rfl) rfl (fun h => by cases h) Tryz.underlying245 (.func _ _ _) rfl
theorem tyOk246 : TyOk Tryz.prog 246 ty246 := TyOk.mk' (z := (.nilFunc)) (by kernel_rfl) rfl (fun h => by cases h) Tryz.underlying246 (.func _ _ _) rfl
theorem tyOk247 : TyOk Tryz.prog 247 ty247 := TyOk.mk' (z := (.nilFunc)) (by kernel_rfl) rfl (fun h => by cases h) Tryz.underlying247 (.func _ _ _) rfl
theorem tyOk248 : TyOk Tryz.prog 248 ty248 := TyOk.mk' (z := (.pointer none)) (by kernel_rfl) rfl (fun h => by cases h) Tryz.underlying248 (.ptr _) rfl
theorem tyOk250 : TyOk Tryz.prog 250 ty250 := TyOk.mk' (z := (.nilFunc)) (by kernel_rfl) rfl (fun h => by cases h) Tryz.underlying250 (.func _ _ _) rfl
theorem tyOk251 : TyOk Tryz.prog 251 ty251 := TyOk.mk' (z := (.nilFunc)) (by kernel_rfl) rfl (fun h => by cases h) Tryz.underlying251 (.func _ _ _) rfl
theorem tyOk252 : TyOk Tryz.prog 252 ty252 := TyOk.mk' (z := (.nilFunc)) (by kernel_rfl) rfl (fun h => by cases h) Tryz.underlying252 (.func _ _ _) rfl
theorem tyOk253 : TyOk Tryz.prog 253 ty253 := TyOk.mk' (z := (.nilFunc)) (by kernel_rfl) rfl (fun h => by cases h) Tryz.underlying253 (.func _ _ _) rfl
theorem tyOk254 : TyOk Tryz.prog 254 ty254 := TyOk.mk' (z := (.nilFunc)) (by kernel_rfl) rfl (fun h => by cases h) Tryz.underlying254 (.func _ _ _) rfl
theorem tyOk257 : TyOk Tryz.prog 257 ty257 := TyOk.mk' (z := (.agg #[])) (by kernel_rfl) rfl (fun _ => rfl) Tryz.underlying257 (.array _ _) rfl
theorem tyOk258 : TyOk Tryz.prog 258 ty258 := TyOk.mk' (z := (.agg #[])) (by kernel_rfl) rfl (fun _ => rfl) Tryz.underlying258 (.struct _ _ rfl) rfl
theorem tyOk259 : TyOk Tryz.prog 259 ty259 := TyOk.mk' (z := (.agg #[])) (by kernel_rfl) rfl (fun _ => rfl) Tryz.underlying259 (.struct _ _ rfl) rfl
theorem tyOk260 : TyOk Tryz.prog 260 ty260 := TyOk.mk' (z := (.int .u8 0)) (by kernel_rfl) rfl (fun h => by cases h) Tryz.underlying260 (.int _) rfl
theorem tyOk261 : TyOk Tryz.prog 261 ty261 := TyOk.mk' (z := (.int .u8 0)) (by kernel_rfl) rfl (fun h => by cases h) Tryz.underlying261 (.int _) rfl
theorem tyOk262 : TyOk Tryz.prog 262 ty262 := TyOk.mk' (z := (.nilFunc)) (by kernel_rfl) rfl (fun h => by cases h) Tryz.underlying262 (.func _ _ _) rfl
theorem tyOk263 : TyOk Tryz.prog 263 ty263 := TyOk.mk' (z := (.pointer none)) (by kernel_rfl) rfl (fun h => by cases h) Tryz.underlying263 (.ptr _) rfl
theorem tyOk264 : TyOk Tryz.prog 264 ty264 := TyOk.mk' (z := (.int .i32 0)) (by kernel_rfl) rfl (fun h => by cases h) Tryz.underlying264 (.int _) rfl
theorem tyOk265 : TyOk Tryz.prog 265 ty265 := TyOk.mk' (z := (.int .i32 0)) (by kernel_rfl) rfl (fun h => by cases h) Tryz.underlying265 (.int _) rfl
theorem tyOk266 : TyOk Tryz.prog 266 ty266 := TyOk.mk' (z := (.agg #[.int .u64 0, .int .u64 0, .int .u32 0, .int .u8 0, .int .u8 0, .int .u8 0, .int .u8 0, .nilFunc, .pointer none, .int .i32 0, .int .i32 0])) (by kernel_rfl) rfl (fun _ => rfl) Tryz.underlying266 (.struct _ _ rfl) rfl
theorem tyOk267 : TyOk Tryz.prog 267 ty267 := TyOk.mk' (z := (.agg #[.int .u64 0, .int .u64 0, .int .u32 0, .int .u8 0, .int .u8 0, .int .u8 0, .int .u8 0, .nilFunc, .pointer none, .int .i32 0, .int .i32 0])) (by kernel_rfl) rfl (fun _ => rfl) Tryz.underlying267 (.struct _ _ rfl) rfl
theorem tab_ok : TabOk Tryz.prog tab := TT.ok (T := tabT) ⟨tyOk136, ⟨tyOk72, ⟨tyOk38, ⟨tyOk21, ⟨tyOk8, ⟨tyOk4, ⟨tyOk2, ⟨tyOk1, trivial, trivial⟩, ⟨tyOk3, trivial, trivial⟩⟩, ⟨tyOk6, ⟨tyOk5, trivial, trivial⟩, ⟨tyOk7, trivial, trivial⟩⟩⟩, ⟨tyOk17, ⟨tyOk15, ⟨tyOk12, trivial, trivial⟩, ⟨tyOk16, trivial, trivial⟩⟩, ⟨tyOk19, ⟨tyOk18, trivial, trivial⟩, ⟨tyOk20, trivial, trivial⟩⟩⟩⟩, ⟨tyOk29, ⟨tyOk25, ⟨tyOk23, ⟨tyOk22, trivial, trivial⟩, ⟨tyOk24, trivial, trivial⟩⟩, ⟨tyOk27, ⟨tyOk26, trivial, trivial⟩, ⟨tyOk28, trivial, trivial⟩⟩⟩, ⟨tyOk33, ⟨tyOk31, ⟨tyOk30, trivial, trivial⟩, ⟨tyOk32, trivial, trivial⟩⟩, ⟨tyOk35, ⟨tyOk34, trivial, trivial⟩, ⟨tyOk36, trivial, trivial⟩⟩⟩⟩⟩, ⟨tyOk55, ⟨tyOk47, ⟨tyOk43, ⟨tyOk41, ⟨tyOk40, trivial, trivial⟩, ⟨tyOk42, trivial, trivial⟩⟩, ⟨tyOk45, ⟨tyOk44, trivial, trivial⟩, ⟨tyOk46, trivial, trivial⟩⟩⟩, ⟨tyOk51, ⟨tyOk49, ⟨tyOk48, trivial, trivial⟩, ⟨tyOk50, trivial, trivial⟩⟩, ⟨tyOk53, ⟨tyOk52, trivial, trivial⟩, ⟨tyOk54, trivial, trivial⟩⟩⟩⟩, ⟨tyOk63, ⟨tyOk59, ⟨tyOk57, ⟨tyOk56, trivial, trivial⟩, ⟨tyOk58, trivial, trivial⟩⟩, ⟨tyOk61, ⟨tyOk60, trivial, trivial⟩, ⟨tyOk62, trivial, trivial⟩⟩⟩, ⟨tyOk69, ⟨tyOk66, ⟨tyOk65, trivial, trivial⟩, ⟨tyOk67, trivial, trivial⟩⟩, ⟨tyOk71, ⟨tyOk70, trivial, trivial⟩, trivial⟩⟩⟩⟩⟩, ⟨tyOk105, ⟨tyOk89, ⟨tyOk80, ⟨tyOk76, ⟨tyOk74, ⟨tyOk73, trivial, trivial⟩, ⟨tyOk75, trivial, trivial⟩⟩, ⟨tyOk78, ⟨tyOk77, trivial, trivial⟩, ⟨tyOk79, trivial, trivial⟩⟩⟩, ⟨tyOk85, ⟨tyOk83, ⟨tyOk81, trivial, trivial⟩, ⟨tyOk84, trivial, trivial⟩⟩, ⟨tyOk87, ⟨tyOk86, trivial, trivial⟩, ⟨tyOk88, trivial, trivial⟩⟩⟩⟩, ⟨tyOk97, ⟨tyOk93, ⟨tyOk91, ⟨tyOk90, trivial, trivial⟩, ⟨tyOk92, trivial, trivial⟩⟩, ⟨tyOk95, ⟨tyOk94, trivial, trivial⟩, ⟨tyOk96, trivial, trivial⟩⟩⟩, ⟨tyOk101, ⟨tyOk99, ⟨tyOk98, trivial, trivial⟩, ⟨tyOk100, trivial, trivial⟩⟩, ⟨tyOk104, ⟨tyOk103, trivial, trivial⟩, trivial⟩⟩⟩⟩, ⟨tyOk121, ⟨tyOk113, ⟨tyOk109, ⟨tyOk107, ⟨tyOk106, trivial, trivial⟩, ⟨tyOk108, trivial, trivial⟩⟩, ⟨tyOk111, ⟨tyOk110, trivial, trivial⟩, ⟨tyOk112, trivial, trivial⟩⟩⟩, ⟨tyOk117, ⟨tyOk115, ⟨tyOk114, trivial, trivial⟩, ⟨tyOk116, trivial, trivial⟩⟩, ⟨tyOk119, ⟨tyOk118, trivial, trivial⟩, ⟨tyOk120, trivial, trivial⟩⟩⟩⟩, ⟨tyOk129, ⟨tyOk125, ⟨tyOk123, ⟨tyOk122, trivial, trivial⟩, ⟨tyOk124, trivial, trivial⟩⟩, ⟨tyOk127, ⟨tyOk126, trivial, trivial⟩, ⟨tyOk128, trivial, trivial⟩⟩⟩, ⟨tyOk133, ⟨tyOk131, ⟨tyOk130, trivial, trivial⟩, ⟨tyOk132, trivial, trivial⟩⟩, ⟨tyOk135, ⟨tyOk134, trivial, trivial⟩, trivial⟩⟩⟩⟩⟩⟩, ⟨tyOk200, ⟨tyOk167, ⟨tyOk152, ⟨tyOk144, ⟨tyOk140, ⟨tyOk138, ⟨tyOk137, trivial, trivial⟩, ⟨tyOk139, trivial, trivial⟩⟩, ⟨tyOk142, ⟨tyOk141, trivial, trivial⟩, ⟨tyOk143, trivial, trivial⟩⟩⟩, ⟨tyOk148, ⟨tyOk146, ⟨tyOk145, trivial, trivial⟩, ⟨tyOk147, trivial, trivial⟩⟩, ⟨tyOk150, ⟨tyOk149, trivial, trivial⟩, ⟨tyOk151, trivial, trivial⟩⟩⟩⟩, ⟨tyOk160, ⟨tyOk156, ⟨tyOk154, ⟨tyOk153, trivial, trivial⟩, ⟨tyOk155, trivial, trivial⟩⟩, ⟨tyOk158, ⟨tyOk157, trivial, trivial⟩, ⟨tyOk159, trivial, trivial⟩⟩⟩, ⟨tyOk164, ⟨tyOk162, ⟨tyOk161, trivial, trivial⟩, ⟨tyOk163, trivial, trivial⟩⟩, ⟨tyOk166, ⟨tyOk165, trivial, trivial⟩, trivial⟩⟩⟩⟩, ⟨tyOk184, ⟨tyOk175, ⟨tyOk171, ⟨tyOk169, ⟨tyOk168, trivial, trivial⟩, ⟨tyOk170, trivial, trivial⟩⟩, ⟨tyOk173, ⟨tyOk172, trivial, trivial⟩, ⟨tyOk174, trivial, trivial⟩⟩⟩, ⟨tyOk179, ⟨tyOk177, ⟨tyOk176, trivial, trivial⟩, ⟨tyOk178, trivial, trivial⟩⟩, ⟨tyOk181, ⟨tyOk180, trivial, trivial⟩, ⟨tyOk183, trivial, trivial⟩⟩⟩⟩, ⟨tyOk193, ⟨tyOk188, ⟨tyOk186, ⟨tyOk185, trivial, trivial⟩, ⟨tyOk187, trivial, trivial⟩⟩, ⟨tyOk190, ⟨tyOk189, trivial, trivial⟩, ⟨tyOk192, trivial, trivial⟩⟩⟩, ⟨tyOk197, ⟨tyOk195, ⟨tyOk194, trivial, trivial⟩, ⟨tyOk196, trivial, trivial⟩⟩, ⟨tyOk199, ⟨tyOk198, trivial, trivial⟩, trivial⟩⟩⟩⟩⟩, ⟨tyOk234, ⟨tyOk218, ⟨tyOk209, ⟨tyOk205, ⟨tyOk202, ⟨tyOk201, trivial, trivial⟩, ⟨tyOk203, trivial, trivial⟩⟩, ⟨tyOk207, ⟨tyOk206, trivial, trivial⟩, ⟨tyOk208, trivial, trivial⟩⟩⟩, ⟨tyOk213, ⟨tyOk211, ⟨tyOk210, trivial, trivial⟩, ⟨tyOk212, trivial, trivial⟩⟩, ⟨tyOk215, ⟨tyOk214, trivial, trivial⟩, ⟨tyOk216, trivial, trivial⟩⟩⟩⟩, ⟨tyOk227, ⟨tyOk222, ⟨tyOk220, ⟨tyOk219, trivial, trivial⟩, ⟨tyOk221, trivial, trivial⟩⟩, ⟨tyOk225, ⟨tyOk224, trivial, trivial⟩, ⟨tyOk226, trivial, trivial⟩⟩⟩, ⟨tyOk231, ⟨tyOk229, ⟨tyOk228, trivial, trivial⟩, ⟨tyOk230, trivial, trivial⟩⟩, ⟨tyOk233, ⟨tyOk232, trivial, trivial⟩, trivial⟩⟩⟩⟩, ⟨tyOk251, ⟨tyOk242, ⟨tyOk238, ⟨tyOk236, ⟨tyOk235, trivial, trivial⟩, ⟨tyOk237, trivial, trivial⟩⟩, ⟨tyOk240, ⟨tyOk239, trivial, trivial⟩, ⟨tyOk241, trivial, trivial⟩⟩⟩, ⟨tyOk246, ⟨tyOk244, ⟨tyOk243, trivial, trivial⟩, ⟨tyOk245, trivial, trivial⟩⟩, ⟨tyOk248, ⟨tyOk247, trivial, trivial⟩, ⟨tyOk250, trivial, trivial⟩⟩⟩⟩, ⟨tyOk261, ⟨tyOk257, ⟨tyOk253, ⟨tyOk252, trivial, trivial⟩, ⟨tyOk254, trivial, trivial⟩⟩, ⟨tyOk259, ⟨tyOk258, trivial, trivial⟩, ⟨tyOk260, trivial, trivial⟩⟩⟩, ⟨tyOk265, ⟨tyOk263, ⟨tyOk262, trivial, trivial⟩, ⟨tyOk264, trivial, trivial⟩⟩, ⟨tyOk267, ⟨tyOk266, trivial, trivial⟩, trivial⟩⟩⟩⟩⟩⟩⟩
theorem mix : Tryz.prog.follows .mixedOrders = true := by kernel_rfl
end Go.Proofs.YtajgcanfngcfhaaGreat.Abs
