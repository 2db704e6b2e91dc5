/- The type table of the translation, by program (gentab.py), and that it is the translation's own. -/
import Derived.Test.YtcffiehcdadimaaGreatC1
namespace Go.Proofs.YtcffiehcdadimaaGreat.Abs
def ty1 : Ty:=⟨1,8,false,[.nilFunc],.func⟩
def ty2 : Ty:=⟨1,8,false,[.int .i64 0],(.int .i64)⟩
def ty3 : Ty:=⟨1,8,false,[.int .i64 0],(.int .i64)⟩
def ty4 : Ty:=⟨1,1,false,[.bool false],.bool⟩
def ty5 : Ty:=⟨1,1,false,[.int .u8 0],(.int .u8)⟩
def ty6 : Ty:=⟨1,1,false,[.int .u8 0],(.int .u8)⟩
def ty7 : Ty:=⟨4,24,true,[.int .i64 0,.int .i64 0,.bool false,.int .u8 0],(.struct [(0,2),(1,3),(2,4),(3,6)])⟩
def ty8 : Ty:=⟨4,24,true,[.int .i64 0,.int .i64 0,.bool false,.int .u8 0],(.struct [(0,2),(1,3),(2,4),(3,6)])⟩
def ty12 : Ty:=⟨1,8,false,[.int .u64 0],(.int .u64)⟩
def ty15 : Ty:=⟨1,8,false,[.pointer none],(.ptr 252)⟩
def ty16 : Ty:=⟨1,8,false,[.pointer none],(.ptr 255)⟩
def ty17 : Ty:=⟨1,8,false,[.pointer none],(.ptr 263)⟩
def ty18 : Ty:=⟨1,8,true,[.pointer none],(.struct [(0,17)])⟩
def ty19 : Ty:=⟨1,8,true,[.pointer none],(.struct [(0,17)])⟩
def ty20 : Ty:=⟨1,16,false,[.nilIface],.iface⟩
def ty21 : Ty:=⟨1,4,false,[.int .i32 0],(.int .i32)⟩
def ty22 : Ty:=⟨1,24,false,[.slice none 0 0],(.slice 96)⟩
def ty23 : Ty:=⟨1,24,false,[.slice none 0 0],(.slice 5)⟩
def ty24 : Ty:=⟨1,8,false,[.nilFunc],.func⟩
def ty25 : Ty:=⟨1,8,false,[.pointer none],(.ptr 114)⟩
def ty26 : Ty:=⟨1,8,false,[.pointer none],(.ptr 105)⟩
def ty28 : Ty:=⟨1,8,false,[.nilFunc],.func⟩
def ty29 : Ty:=⟨1,8,false,[.nilFunc],.func⟩
def ty30 : Ty:=⟨1,8,false,[.nilFunc],.func⟩
def ty31 : Ty:=⟨4,32,true,[.int .i64 0,.int .i64 0,.int .i64 0,.int .i64 0],(.struct [(0,3),(1,3),(2,3),(3,3)])⟩
def ty32 : Ty:=⟨4,32,true,[.int .i64 0,.int .i64 0,.int .i64 0,.int .i64 0],(.struct [(0,3),(1,3),(2,3),(3,3)])⟩
def ty34 : Ty:=⟨1,8,false,[.nilFunc],.func⟩
def ty35 : Ty:=⟨1,24,false,[.slice none 0 0],(.slice 32)⟩
def ty36 : Ty:=⟨1,24,false,[.slice none 0 0],(.slice 3)⟩
def ty37 : Ty:=⟨3,56,true,[.slice none 0 0,.slice none 0 0,.int .i64 0],(.struct [(0,35),(1,36),(2,3)])⟩
def ty38 : Ty:=⟨3,56,true,[.slice none 0 0,.slice none 0 0,.int .i64 0],(.struct [(0,35),(1,36),(2,3)])⟩
def ty39 : Ty:=⟨1,8,false,[.nilFunc],.func⟩
def ty40 : Ty:=⟨1,8,false,[.pointer none],(.ptr 119)⟩
def ty41 : Ty:=⟨4,32,true,[.pointer none,.pointer none,.pointer none,.pointer none],(.array 4 40)⟩
def ty42 : Ty:=⟨4,4,true,[.bool false,.bool false,.bool false,.bool false],(.array 4 4)⟩
def ty43 : Ty:=⟨1,8,false,[.nilFunc],.func⟩
def ty44 : Ty:=⟨5,40,true,[.int .i64 0,.int .i64 0,.int .i64 0,.int .i64 0,.int .i64 0],(.struct [(0,3),(1,3),(2,3),(3,3),(4,3)])⟩
def ty45 : Ty:=⟨5,40,true,[.int .i64 0,.int .i64 0,.int .i64 0,.int .i64 0,.int .i64 0],(.struct [(0,3),(1,3),(2,3),(3,3),(4,3)])⟩
def ty46 : Ty:=⟨1,8,false,[.int .i64 0],(.int .i64)⟩
def ty47 : Ty:=⟨1,24,false,[.slice none 0 0],(.slice 147)⟩
def ty48 : Ty:=⟨4,48,true,[.int .i64 0,.int .i64 0,.bool false,.slice none 0 0],(.struct [(0,46),(1,3),(2,4),(3,47)])⟩
def ty49 : Ty:=⟨4,48,true,[.int .i64 0,.int .i64 0,.bool false,.slice none 0 0],(.struct [(0,46),(1,3),(2,4),(3,47)])⟩
def ty50 : Ty:=⟨1,8,false,[.nilFunc],.func⟩
def ty51 : Ty:=⟨1,8,false,[.nilFunc],.func⟩
def ty52 : Ty:=⟨1,24,false,[.slice none 0 0],(.slice 124)⟩
def ty53 : Ty:=⟨1,8,false,[.nilFunc],.func⟩
def ty55 : Ty:=⟨1,8,false,[.nilFunc],.func⟩
def ty56 : Ty:=⟨1,8,false,[.nilFunc],.func⟩
def ty57 : Ty:=⟨1,8,false,[.nilFunc],.func⟩
def ty58 : Ty:=⟨1,8,false,[.pointer none],(.ptr 142)⟩
def ty59 : Ty:=⟨1,8,false,[.nilFunc],.func⟩
def ty60 : Ty:=⟨1,8,false,[.nilFunc],.func⟩
def ty61 : Ty:=⟨1,8,false,[.nilFunc],.func⟩
def ty62 : Ty:=⟨1,8,false,[.nilFunc],.func⟩
def ty63 : Ty:=⟨1,24,false,[.slice none 0 0],(.slice 69)⟩
def ty64 : Ty:=⟨1,8,false,[.nilFunc],.func⟩
def ty65 : Ty:=⟨1,8,false,[.nilFunc],.func⟩
def ty66 : Ty:=⟨1,24,false,[.slice none 0 0],(.slice 40)⟩
def ty67 : Ty:=⟨1,24,false,[.slice none 0 0],(.slice 4)⟩
def ty68 : Ty:=⟨6,48,true,[.int .i64 0,.int .i64 0,.int .i64 0,.int .i64 0,.int .i64 0,.bool false],(.struct [(0,3),(1,3),(2,3),(3,3),(4,3),(5,4)])⟩
def ty69 : Ty:=⟨6,48,true,[.int .i64 0,.int .i64 0,.int .i64 0,.int .i64 0,.int .i64 0,.bool false],(.struct [(0,3),(1,3),(2,3),(3,3),(4,3),(5,4)])⟩
def ty70 : Ty:=⟨1,8,false,[.nilFunc],.func⟩
def ty71 : Ty:=⟨1,8,false,[.nilFunc],.func⟩
def ty72 : Ty:=⟨1,8,false,[.pointer none],(.ptr 76)⟩
def ty73 : Ty:=⟨4,32,true,[.pointer none,.pointer none,.pointer none,.pointer none],(.array 4 72)⟩
def ty74 : Ty:=⟨1,8,false,[.nilFunc],.func⟩
def ty75 : Ty:=⟨15,128,true,[.pointer none,.int .i64 0,.int .i64 0,.int .i64 0,.int .i64 0,.int .i64 0,.int .i64 0,.bool false,.int .i64 0,.int .i64 0,.int .i64 0,.bool false,.slice none 0 0,.bool false,.bool false],(.struct [(0,26),(1,3),(2,45),(7,4),(8,3),(9,49),(13,4),(14,4)])⟩
def ty76 : Ty:=⟨15,128,true,[.pointer none,.int .i64 0,.int .i64 0,.int .i64 0,.int .i64 0,.int .i64 0,.int .i64 0,.bool false,.int .i64 0,.int .i64 0,.int .i64 0,.bool false,.slice none 0 0,.bool false,.bool false],(.struct [(0,26),(1,3),(2,45),(7,4),(8,3),(9,49),(13,4),(14,4)])⟩
def ty77 : Ty:=⟨1,8,false,[.nilFunc],.func⟩
def ty78 : Ty:=⟨1,8,false,[.nilFunc],.func⟩
def ty79 : Ty:=⟨1,24,false,[.slice none 0 0],(.slice 49)⟩
def ty81 : Ty:=⟨1,8,false,[.nilFunc],.func⟩
def ty82 : Ty:=⟨16,16,true,[.bool false,.bool false,.bool false,.bool false,.bool false,.bool false,.bool false,.bool false,.bool false,.bool false,.bool false,.bool false,.bool false,.bool false,.bool false,.bool false],(.array 4 42)⟩
def ty83 : Ty:=⟨1,8,false,[.pointer none],(.ptr 161)⟩
def ty84 : Ty:=⟨1,8,false,[.nilFunc],.func⟩
def ty85 : Ty:=⟨1,8,false,[.nilFunc],.func⟩
def ty86 : Ty:=⟨4,32,true,[.pointer none,.pointer none,.pointer none,.pointer none],(.array 4 83)⟩
def ty87 : Ty:=⟨1,8,false,[.pointer none],(.ptr 92)⟩
def ty88 : Ty:=⟨4,32,true,[.pointer none,.pointer none,.pointer none,.pointer none],(.array 4 87)⟩
def ty89 : Ty:=⟨1,8,false,[.nilFunc],.func⟩
def ty90 : Ty:=⟨3,3,true,[.bool false,.bool false,.bool false],(.array 3 4)⟩
def ty91 : Ty:=⟨20,128,true,[.pointer none,.int .i64 0,.int .i64 0,.int .i64 0,.int .i64 0,.int .i64 0,.int .i64 0,.int .i64 0,.bool false,.bool false,.bool false,.int .i64 0,.int .i64 0,.bool false,.slice none 0 0,.bool false,.bool false,.bool false,.bool false,.bool false],(.struct [(0,26),(1,3),(2,45),(7,3),(8,90),(11,49),(15,4),(16,4),(17,4),(18,4),(19,4)])⟩
def ty92 : Ty:=⟨20,128,true,[.pointer none,.int .i64 0,.int .i64 0,.int .i64 0,.int .i64 0,.int .i64 0,.int .i64 0,.int .i64 0,.bool false,.bool false,.bool false,.int .i64 0,.int .i64 0,.bool false,.slice none 0 0,.bool false,.bool false,.bool false,.bool false,.bool false],(.struct [(0,26),(1,3),(2,45),(7,3),(8,90),(11,49),(15,4),(16,4),(17,4),(18,4),(19,4)])⟩
def ty93 : Ty:=⟨1,8,false,[.nilFunc],.func⟩
def ty94 : Ty:=⟨1,8,false,[.int .u64 0],(.int .u64)⟩
def ty95 : Ty:=⟨3,24,true,[.int .u8 0,.int .u64 0,.bool false],(.struct [(0,5),(1,94),(2,4)])⟩
def ty96 : Ty:=⟨3,24,true,[.int .u8 0,.int .u64 0,.bool false],(.struct [(0,5),(1,94),(2,4)])⟩
def ty97 : Ty:=⟨1,8,false,[.nilFunc],.func⟩
def ty98 : Ty:=⟨1,8,false,[.nilFunc],.func⟩
def ty100 : Ty:=⟨1,8,false,[.pointer none],(.ptr 151)⟩
def ty101 : Ty:=⟨1,24,false,[.slice none 0 0],(.slice 127)⟩
def ty102 : Ty:=⟨6,96,true,[.int .i64 0,.slice none 0 0,.slice none 0 0,.slice none 0 0,.int .i64 0,.int .i64 0],(.struct [(0,3),(1,52),(2,101),(3,52),(4,3),(5,3)])⟩
def ty103 : Ty:=⟨6,96,true,[.int .i64 0,.slice none 0 0,.slice none 0 0,.slice none 0 0,.int .i64 0,.int .i64 0],(.struct [(0,3),(1,52),(2,101),(3,52),(4,3),(5,3)])⟩
def ty104 : Ty:=⟨10,160,true,[.pointer none,.slice none 0 0,.slice none 0 0,.int .i64 0,.int .i64 0,.slice none 0 0,.slice none 0 0,.slice none 0 0,.int .i64 0,.int .i64 0],(.struct [(0,100),(1,38),(4,103)])⟩
def ty105 : Ty:=⟨10,160,true,[.pointer none,.slice none 0 0,.slice none 0 0,.int .i64 0,.int .i64 0,.slice none 0 0,.slice none 0 0,.slice none 0 0,.int .i64 0,.int .i64 0],(.struct [(0,100),(1,38),(4,103)])⟩
def ty106 : Ty:=⟨1,8,false,[.nilFunc],.func⟩
def ty107 : Ty:=⟨5,40,true,[.int .i64 0,.int .i64 0,.int .i64 0,.int .i64 0,.int .i64 0],(.struct [(0,3),(1,3),(2,3),(3,3),(4,3)])⟩
def ty108 : Ty:=⟨5,40,true,[.int .i64 0,.int .i64 0,.int .i64 0,.int .i64 0,.int .i64 0],(.struct [(0,3),(1,3),(2,3),(3,3),(4,3)])⟩
def ty109 : Ty:=⟨1,8,false,[.nilFunc],.func⟩
def ty110 : Ty:=⟨1,8,false,[.nilFunc],.func⟩
def ty111 : Ty:=⟨1,8,false,[.nilFunc],.func⟩
def ty112 : Ty:=⟨1,8,false,[.nilFunc],.func⟩
def ty113 : Ty:=⟨10,160,true,[.pointer none,.slice none 0 0,.slice none 0 0,.int .i64 0,.int .i64 0,.slice none 0 0,.slice none 0 0,.slice none 0 0,.int .i64 0,.int .i64 0],(.struct [(0,58),(1,38),(4,103)])⟩
def ty114 : Ty:=⟨10,160,true,[.pointer none,.slice none 0 0,.slice none 0 0,.int .i64 0,.int .i64 0,.slice none 0 0,.slice none 0 0,.slice none 0 0,.int .i64 0,.int .i64 0],(.struct [(0,58),(1,38),(4,103)])⟩
def ty115 : Ty:=⟨1,8,false,[.nilFunc],.func⟩
def ty116 : Ty:=⟨1,8,false,[.int .i64 0],(.int .i64)⟩
def ty117 : Ty:=⟨1,8,false,[.int .i64 0],(.int .i64)⟩
def ty118 : Ty:=⟨10,96,true,[.pointer none,.int .i64 0,.int .i64 0,.int .i64 0,.int .i64 0,.int .i64 0,.int .i64 0,.bool false,.slice none 0 0,.bool false],(.struct [(0,25),(1,3),(2,3),(3,116),(4,117),(5,49),(9,4)])⟩
def ty119 : Ty:=⟨10,96,true,[.pointer none,.int .i64 0,.int .i64 0,.int .i64 0,.int .i64 0,.int .i64 0,.int .i64 0,.bool false,.slice none 0 0,.bool false],(.struct [(0,25),(1,3),(2,3),(3,116),(4,117),(5,49),(9,4)])⟩
def ty120 : Ty:=⟨1,8,false,[.nilFunc],.func⟩
def ty121 : Ty:=⟨1,8,false,[.nilFunc],.func⟩
def ty122 : Ty:=⟨1,8,false,[.nilFunc],.func⟩
def ty123 : Ty:=⟨3,24,true,[.int .i64 0,.int .i64 0,.int .i64 0],(.struct [(0,3),(1,3),(2,3)])⟩
def ty124 : Ty:=⟨3,24,true,[.int .i64 0,.int .i64 0,.int .i64 0],(.struct [(0,3),(1,3),(2,3)])⟩
def ty125 : Ty:=⟨1,24,false,[.slice none 0 0],(.slice 52)⟩
def ty126 : Ty:=⟨4,48,true,[.int .i64 0,.int .i64 0,.int .i64 0,.slice none 0 0],(.struct [(0,3),(1,3),(2,3),(3,125)])⟩
def ty127 : Ty:=⟨4,48,true,[.int .i64 0,.int .i64 0,.int .i64 0,.slice none 0 0],(.struct [(0,3),(1,3),(2,3),(3,125)])⟩
def ty128 : Ty:=⟨1,8,false,[.nilFunc],.func⟩
def ty129 : Ty:=⟨1,8,false,[.nilFunc],.func⟩
def ty130 : Ty:=⟨1,8,false,[.nilFunc],.func⟩
def ty131 : Ty:=⟨1,8,false,[.nilFunc],.func⟩
def ty132 : Ty:=⟨1,8,false,[.nilFunc],.func⟩
def ty133 : Ty:=⟨1,8,false,[.nilFunc],.func⟩
def ty134 : Ty:=⟨2,32,true,[.slice none 0 0,.int .i64 0],(.struct [(0,63),(1,3)])⟩
def ty135 : Ty:=⟨2,32,true,[.slice none 0 0,.int .i64 0],(.struct [(0,63),(1,3)])⟩
def ty136 : Ty:=⟨1,24,true,[.slice none 0 0],(.struct [(0,36)])⟩
def ty137 : Ty:=⟨1,24,true,[.slice none 0 0],(.struct [(0,36)])⟩
def ty138 : Ty:=⟨1,24,false,[.slice none 0 0],(.slice 157)⟩
def ty139 : Ty:=⟨1,24,true,[.slice none 0 0],(.struct [(0,138)])⟩
def ty140 : Ty:=⟨1,24,true,[.slice none 0 0],(.struct [(0,138)])⟩
def ty141 : Ty:=⟨4,80,true,[.slice none 0 0,.int .i64 0,.slice none 0 0,.slice none 0 0],(.struct [(0,135),(2,137),(3,140)])⟩
def ty142 : Ty:=⟨4,80,true,[.slice none 0 0,.int .i64 0,.slice none 0 0,.slice none 0 0],(.struct [(0,135),(2,137),(3,140)])⟩
def ty143 : Ty:=⟨1,8,false,[.pointer none],(.ptr 3)⟩
def ty144 : Ty:=⟨1,8,false,[.nilFunc],.func⟩
def ty145 : Ty:=⟨1,8,false,[.nilFunc],.func⟩
def ty146 : Ty:=⟨2,16,true,[.int .i64 0,.int .i64 0],(.struct [(0,3),(1,3)])⟩
def ty147 : Ty:=⟨2,16,true,[.int .i64 0,.int .i64 0],(.struct [(0,3),(1,3)])⟩
def ty148 : Ty:=⟨1,8,false,[.nilFunc],.func⟩
def ty149 : Ty:=⟨1,8,false,[.nilFunc],.func⟩
def ty150 : Ty:=⟨4,80,true,[.slice none 0 0,.slice none 0 0,.slice none 0 0,.int .i64 0],(.struct [(0,36),(1,36),(2,63),(3,3)])⟩
def ty151 : Ty:=⟨4,80,true,[.slice none 0 0,.slice none 0 0,.slice none 0 0,.int .i64 0],(.struct [(0,36),(1,36),(2,63),(3,3)])⟩
def ty152 : Ty:=⟨1,8,false,[.nilFunc],.func⟩
def ty153 : Ty:=⟨4,32,true,[.int .i64 0,.int .i64 0,.int .i64 0,.int .i64 0],(.array 4 3)⟩
def ty154 : Ty:=⟨1,8,false,[.pointer none],(.ptr 157)⟩
def ty155 : Ty:=⟨1,8,false,[.nilFunc],.func⟩
def ty156 : Ty:=⟨2,16,true,[.bool false,.int .i64 0],(.struct [(0,4),(1,3)])⟩
def ty157 : Ty:=⟨2,16,true,[.bool false,.int .i64 0],(.struct [(0,4),(1,3)])⟩
def ty158 : Ty:=⟨1,8,false,[.nilFunc],.func⟩
def ty159 : Ty:=⟨1,8,false,[.nilFunc],.func⟩
def ty160 : Ty:=⟨16,168,true,[.pointer none,.int .i64 0,.int .i64 0,.nilFunc,.slice none 0 0,.nilFunc,.int .i64 0,.int .i64 0,.bool false,.slice none 0 0,.int .i64 0,.int .i64 0,.bool false,.slice none 0 0,.bool false,.bool false],(.struct [(0,25),(1,3),(2,3),(3,159),(4,36),(5,1),(6,49),(10,49),(14,4),(15,4)])⟩
def ty161 : Ty:=⟨16,168,true,[.pointer none,.int .i64 0,.int .i64 0,.nilFunc,.slice none 0 0,.nilFunc,.int .i64 0,.int .i64 0,.bool false,.slice none 0 0,.int .i64 0,.int .i64 0,.bool false,.slice none 0 0,.bool false,.bool false],(.struct [(0,25),(1,3),(2,3),(3,159),(4,36),(5,1),(6,49),(10,49),(14,4),(15,4)])⟩
def ty162 : Ty:=⟨1,8,false,[.nilFunc],.func⟩
def ty163 : Ty:=⟨1,8,false,[.nilFunc],.func⟩
def ty164 : Ty:=⟨1,8,false,[.nilFunc],.func⟩
def ty165 : Ty:=⟨1,8,false,[.nilFunc],.func⟩
def ty167 : Ty:=⟨1,8,false,[.nilFunc],.func⟩
def ty168 : Ty:=⟨1,8,false,[.nilFunc],.func⟩
def ty169 : Ty:=⟨1,8,false,[.nilFunc],.func⟩
def ty170 : Ty:=⟨1,8,false,[.nilFunc],.func⟩
def ty171 : Ty:=⟨1,8,false,[.nilFunc],.func⟩
def ty173 : Ty:=⟨1,8,false,[.nilFunc],.func⟩
def ty174 : Ty:=⟨1,8,false,[.nilFunc],.func⟩
def ty175 : Ty:=⟨1,8,false,[.nilFunc],.func⟩
def ty176 : Ty:=⟨1,8,false,[.nilFunc],.func⟩
def ty177 : Ty:=⟨1,8,false,[.int .i64 0],(.int .i64)⟩
def ty178 : Ty:=⟨1,8,false,[.nilFunc],.func⟩
def ty179 : Ty:=⟨1,8,false,[.nilFunc],.func⟩
def ty180 : Ty:=⟨1,8,false,[.nilFunc],.func⟩
def ty181 : Ty:=⟨1,8,false,[.int .u64 0],(.int .u64)⟩
def ty182 : Ty:=⟨1,8,false,[.nilFunc],.func⟩
def ty183 : Ty:=⟨1,8,false,[.pointer none],(.ptr 137)⟩
def ty184 : Ty:=⟨1,8,false,[.nilFunc],.func⟩
def ty185 : Ty:=⟨1,8,false,[.nilFunc],.func⟩
def ty186 : Ty:=⟨1,8,false,[.nilFunc],.func⟩
def ty187 : Ty:=⟨1,8,false,[.nilFunc],.func⟩
def ty188 : Ty:=⟨1,8,false,[.pointer none],(.ptr 140)⟩
def ty189 : Ty:=⟨1,8,false,[.nilFunc],.func⟩
def ty190 : Ty:=⟨1,8,false,[.nilFunc],.func⟩
def ty191 : Ty:=⟨1,8,false,[.nilFunc],.func⟩
def ty192 : Ty:=⟨1,8,false,[.nilFunc],.func⟩
def ty193 : Ty:=⟨1,8,false,[.nilFunc],.func⟩
def ty194 : Ty:=⟨1,8,false,[.nilFunc],.func⟩
def ty195 : Ty:=⟨1,8,false,[.nilFunc],.func⟩
def ty196 : Ty:=⟨1,8,false,[.nilFunc],.func⟩
def ty198 : Ty:=⟨1,8,false,[.nilFunc],.func⟩
def ty199 : Ty:=⟨1,8,false,[.pointer none],(.ptr 135)⟩
def ty200 : Ty:=⟨1,8,false,[.nilFunc],.func⟩
def ty201 : Ty:=⟨1,8,false,[.nilFunc],.func⟩
def ty202 : Ty:=⟨1,8,false,[.int .i64 0],(.int .i64)⟩
def ty204 : Ty:=⟨1,8,false,[.nilFunc],.func⟩
def ty205 : Ty:=⟨1,8,false,[.nilFunc],.func⟩
def ty206 : Ty:=⟨1,8,false,[.nilFunc],.func⟩
def ty207 : Ty:=⟨1,8,false,[.nilFunc],.func⟩
def ty208 : Ty:=⟨1,8,false,[.nilFunc],.func⟩
def ty209 : Ty:=⟨1,4,false,[.int .u32 0],(.int .u32)⟩
def ty210 : Ty:=⟨1,8,false,[.nilFunc],.func⟩
def ty211 : Ty:=⟨1,8,false,[.nilFunc],.func⟩
def ty212 : Ty:=⟨1,8,false,[.nilFunc],.func⟩
def ty213 : Ty:=⟨1,8,false,[.nilFunc],.func⟩
def ty214 : Ty:=⟨1,8,false,[.nilFunc],.func⟩
def ty215 : Ty:=⟨1,8,false,[.nilFunc],.func⟩
def ty216 : Ty:=⟨1,8,false,[.nilFunc],.func⟩
def ty218 : Ty:=⟨1,8,false,[.nilFunc],.func⟩
def ty219 : Ty:=⟨1,8,false,[.nilFunc],.func⟩
def ty220 : Ty:=⟨1,8,false,[.nilFunc],.func⟩
def ty221 : Ty:=⟨1,8,false,[.nilFunc],.func⟩
def ty222 : Ty:=⟨1,8,false,[.pointer none],(.ptr 103)⟩
def ty223 : Ty:=⟨1,8,false,[.nilFunc],.func⟩
def ty224 : Ty:=⟨1,8,false,[.nilFunc],.func⟩
def ty225 : Ty:=⟨1,8,false,[.int .u64 0],(.int .u64)⟩
def ty226 : Ty:=⟨1,8,false,[.nilFunc],.func⟩
def ty227 : Ty:=⟨1,8,false,[.nilFunc],.func⟩
def ty228 : Ty:=⟨1,8,false,[.nilFunc],.func⟩
def ty229 : Ty:=⟨1,8,false,[.nilFunc],.func⟩
def ty230 : Ty:=⟨1,8,false,[.nilFunc],.func⟩
def ty231 : Ty:=⟨1,8,false,[.nilFunc],.func⟩
def ty232 : Ty:=⟨1,8,false,[.nilFunc],.func⟩
def ty233 : Ty:=⟨1,8,false,[.nilFunc],.func⟩
def ty234 : Ty:=⟨1,8,false,[.nilFunc],.func⟩
def ty236 : Ty:=⟨1,8,false,[.nilFunc],.func⟩
def ty237 : Ty:=⟨1,8,false,[.nilFunc],.func⟩
def ty238 : Ty:=⟨1,8,false,[.nilFunc],.func⟩
def ty239 : Ty:=⟨1,8,false,[.nilFunc],.func⟩
def ty240 : Ty:=⟨1,8,false,[.pointer none],(.ptr 225)⟩
def ty242 : Ty:=⟨1,8,false,[.nilFunc],.func⟩
def ty243 : Ty:=⟨1,8,false,[.nilFunc],.func⟩
def ty244 : Ty:=⟨1,8,false,[.nilFunc],.func⟩
def ty245 : Ty:=⟨1,8,false,[.nilFunc],.func⟩
def ty246 : Ty:=⟨1,8,false,[.nilFunc],.func⟩
def ty247 : Ty:=⟨1,8,false,[.nilFunc],.func⟩
def ty248 : Ty:=⟨1,8,false,[.nilFunc],.func⟩
def ty249 : Ty:=⟨1,8,false,[.nilFunc],.func⟩
def ty250 : Ty:=⟨1,8,false,[.nilFunc],.func⟩
def ty253 : Ty:=⟨0,0,true,[],(.array 0 16)⟩
def ty254 : Ty:=⟨0,0,true,[],(.struct [(0,253)])⟩
def ty255 : Ty:=⟨0,0,true,[],(.struct [(0,253)])⟩
def ty256 : Ty:=⟨1,1,false,[.int .u8 0],(.int .u8)⟩
def ty257 : Ty:=⟨1,1,false,[.int .u8 0],(.int .u8)⟩
def ty258 : Ty:=⟨1,8,false,[.nilFunc],.func⟩
def ty259 : Ty:=⟨1,8,false,[.pointer none],(.ptr 5)⟩
def ty260 : Ty:=⟨1,4,false,[.int .i32 0],(.int .i32)⟩
def ty261 : Ty:=⟨1,4,false,[.int .i32 0],(.int .i32)⟩
def ty262 : Ty:=⟨11,48,true,[.int .u64 0,.int .u64 0,.int .u32 0,.int .u8 0,.int .u8 0,.int .u8 0,.int .u8 0,.nilFunc,.pointer none,.int .i32 0,.int .i32 0],(.struct [(0,12),(1,12),(2,209),(3,256),(4,5),(5,5),(6,257),(7,258),(8,259),(9,260),(10,261)])⟩
def ty263 : Ty:=⟨11,48,true,[.int .u64 0,.int .u64 0,.int .u32 0,.int .u8 0,.int .u8 0,.int .u8 0,.int .u8 0,.nilFunc,.pointer none,.int .i32 0,.int .i32 0],(.struct [(0,12),(1,12),(2,209),(3,256),(4,5),(5,5),(6,257),(7,258),(8,259),(9,260),(10,261)])⟩
def tabT : TT:=(.node 133 ty133 (.node 70 ty70 (.node 38 ty38 (.node 21 ty21 (.node 8 ty8 (.node 4 ty4 (.node 2 ty2 (.node 1 ty1 .leaf .leaf) (.node 3 ty3 .leaf .leaf)) (.node 6 ty6 (.node 5 ty5 .leaf .leaf) (.node 7 ty7 .leaf .leaf))) (.node 17 ty17 (.node 15 ty15 (.node 12 ty12 .leaf .leaf) (.node 16 ty16 .leaf .leaf)) (.node 19 ty19 (.node 18 ty18 .leaf .leaf) (.node 20 ty20 .leaf .leaf)))) (.node 30 ty30 (.node 25 ty25 (.node 23 ty23 (.node 22 ty22 .leaf .leaf) (.node 24 ty24 .leaf .leaf)) (.node 28 ty28 (.node 26 ty26 .leaf .leaf) (.node 29 ty29 .leaf .leaf))) (.node 35 ty35 (.node 32 ty32 (.node 31 ty31 .leaf .leaf) (.node 34 ty34 .leaf .leaf)) (.node 37 ty37 (.node 36 ty36 .leaf .leaf) .leaf)))) (.node 55 ty55 (.node 46 ty46 (.node 42 ty42 (.node 40 ty40 (.node 39 ty39 .leaf .leaf) (.node 41 ty41 .leaf .leaf)) (.node 44 ty44 (.node 43 ty43 .leaf .leaf) (.node 45 ty45 .leaf .leaf))) (.node 50 ty50 (.node 48 ty48 (.node 47 ty47 .leaf .leaf) (.node 49 ty49 .leaf .leaf)) (.node 52 ty52 (.node 51 ty51 .leaf .leaf) (.node 53 ty53 .leaf .leaf)))) (.node 63 ty63 (.node 59 ty59 (.node 57 ty57 (.node 56 ty56 .leaf .leaf) (.node 58 ty58 .leaf .leaf)) (.node 61 ty61 (.node 60 ty60 .leaf .leaf) (.node 62 ty62 .leaf .leaf))) (.node 67 ty67 (.node 65 ty65 (.node 64 ty64 .leaf .leaf) (.node 66 ty66 .leaf .leaf)) (.node 69 ty69 (.node 68 ty68 .leaf .leaf) .leaf))))) (.node 103 ty103 (.node 87 ty87 (.node 78 ty78 (.node 74 ty74 (.node 72 ty72 (.node 71 ty71 .leaf .leaf) (.node 73 ty73 .leaf .leaf)) (.node 76 ty76 (.node 75 ty75 .leaf .leaf) (.node 77 ty77 .leaf .leaf))) (.node 83 ty83 (.node 81 ty81 (.node 79 ty79 .leaf .leaf) (.node 82 ty82 .leaf .leaf)) (.node 85 ty85 (.node 84 ty84 .leaf .leaf) (.node 86 ty86 .leaf .leaf)))) (.node 95 ty95 (.node 91 ty91 (.node 89 ty89 (.node 88 ty88 .leaf .leaf) (.node 90 ty90 .leaf .leaf)) (.node 93 ty93 (.node 92 ty92 .leaf .leaf) (.node 94 ty94 .leaf .leaf))) (.node 100 ty100 (.node 97 ty97 (.node 96 ty96 .leaf .leaf) (.node 98 ty98 .leaf .leaf)) (.node 102 ty102 (.node 101 ty101 .leaf .leaf) .leaf)))) (.node 118 ty118 (.node 111 ty111 (.node 107 ty107 (.node 105 ty105 (.node 104 ty104 .leaf .leaf) (.node 106 ty106 .leaf .leaf)) (.node 109 ty109 (.node 108 ty108 .leaf .leaf) (.node 110 ty110 .leaf .leaf))) (.node 115 ty115 (.node 113 ty113 (.node 112 ty112 .leaf .leaf) (.node 114 ty114 .leaf .leaf)) (.node 117 ty117 (.node 116 ty116 .leaf .leaf) .leaf))) (.node 126 ty126 (.node 122 ty122 (.node 120 ty120 (.node 119 ty119 .leaf .leaf) (.node 121 ty121 .leaf .leaf)) (.node 124 ty124 (.node 123 ty123 .leaf .leaf) (.node 125 ty125 .leaf .leaf))) (.node 130 ty130 (.node 128 ty128 (.node 127 ty127 .leaf .leaf) (.node 129 ty129 .leaf .leaf)) (.node 132 ty132 (.node 131 ty131 .leaf .leaf) .leaf)))))) (.node 196 ty196 (.node 164 ty164 (.node 149 ty149 (.node 141 ty141 (.node 137 ty137 (.node 135 ty135 (.node 134 ty134 .leaf .leaf) (.node 136 ty136 .leaf .leaf)) (.node 139 ty139 (.node 138 ty138 .leaf .leaf) (.node 140 ty140 .leaf .leaf))) (.node 145 ty145 (.node 143 ty143 (.node 142 ty142 .leaf .leaf) (.node 144 ty144 .leaf .leaf)) (.node 147 ty147 (.node 146 ty146 .leaf .leaf) (.node 148 ty148 .leaf .leaf)))) (.node 157 ty157 (.node 153 ty153 (.node 151 ty151 (.node 150 ty150 .leaf .leaf) (.node 152 ty152 .leaf .leaf)) (.node 155 ty155 (.node 154 ty154 .leaf .leaf) (.node 156 ty156 .leaf .leaf))) (.node 161 ty161 (.node 159 ty159 (.node 158 ty158 .leaf .leaf) (.node 160 ty160 .leaf .leaf)) (.node 163 ty163 (.node 162 ty162 .leaf .leaf) .leaf)))) (.node 181 ty181 (.node 174 ty174 (.node 169 ty169 (.node 167 ty167 (.node 165 ty165 .leaf .leaf) (.node 168 ty168 .leaf .leaf)) (.node 171 ty171 (.node 170 ty170 .leaf .leaf) (.node 173 ty173 .leaf .leaf))) (.node 178 ty178 (.node 176 ty176 (.node 175 ty175 .leaf .leaf) (.node 177 ty177 .leaf .leaf)) (.node 180 ty180 (.node 179 ty179 .leaf .leaf) .leaf))) (.node 189 ty189 (.node 185 ty185 (.node 183 ty183 (.node 182 ty182 .leaf .leaf) (.node 184 ty184 .leaf .leaf)) (.node 187 ty187 (.node 186 ty186 .leaf .leaf) (.node 188 ty188 .leaf .leaf))) (.node 193 ty193 (.node 191 ty191 (.node 190 ty190 .leaf .leaf) (.node 192 ty192 .leaf .leaf)) (.node 195 ty195 (.node 194 ty194 .leaf .leaf) .leaf))))) (.node 230 ty230 (.node 214 ty214 (.node 206 ty206 (.node 201 ty201 (.node 199 ty199 (.node 198 ty198 .leaf .leaf) (.node 200 ty200 .leaf .leaf)) (.node 204 ty204 (.node 202 ty202 .leaf .leaf) (.node 205 ty205 .leaf .leaf))) (.node 210 ty210 (.node 208 ty208 (.node 207 ty207 .leaf .leaf) (.node 209 ty209 .leaf .leaf)) (.node 212 ty212 (.node 211 ty211 .leaf .leaf) (.node 213 ty213 .leaf .leaf)))) (.node 223 ty223 (.node 219 ty219 (.node 216 ty216 (.node 215 ty215 .leaf .leaf) (.node 218 ty218 .leaf .leaf)) (.node 221 ty221 (.node 220 ty220 .leaf .leaf) (.node 222 ty222 .leaf .leaf))) (.node 227 ty227 (.node 225 ty225 (.node 224 ty224 .leaf .leaf) (.node 226 ty226 .leaf .leaf)) (.node 229 ty229 (.node 228 ty228 .leaf .leaf) .leaf)))) (.node 247 ty247 (.node 239 ty239 (.node 234 ty234 (.node 232 ty232 (.node 231 ty231 .leaf .leaf) (.node 233 ty233 .leaf .leaf)) (.node 237 ty237 (.node 236 ty236 .leaf .leaf) (.node 238 ty238 .leaf .leaf))) (.node 244 ty244 (.node 242 ty242 (.node 240 ty240 .leaf .leaf) (.node 243 ty243 .leaf .leaf)) (.node 246 ty246 (.node 245 ty245 .leaf .leaf) .leaf))) (.node 257 ty257 (.node 253 ty253 (.node 249 ty249 (.node 248 ty248 .leaf .leaf) (.node 250 ty250 .leaf .leaf)) (.node 255 ty255 (.node 254 ty254 .leaf .leaf) (.node 256 ty256 .leaf .leaf))) (.node 261 ty261 (.node 259 ty259 (.node 258 ty258 .leaf .leaf) (.node 260 ty260 .leaf .leaf)) (.node 263 ty263 (.node 262 ty262 .leaf .leaf) .leaf)))))))
def tab : Tab:=tabT.get
theorem tyOk1 : TyOk Tryz.prog 1 ty1:=TyOk.mk' (z:=(.nilFunc)) (by kernel_rfl) rfl (fun h=>by cases h) Tryz.underlying1 (.func _ _ _) rfl
theorem tyOk2 : TyOk Tryz.prog 2 ty2:=TyOk.mk' (z:=(.int .i64 0)) (by kernel_rfl) rfl (fun h=>by cases h) Tryz.underlying2 (.int _) rfl
theorem tyOk3 : TyOk Tryz.prog 3 ty3:=TyOk.mk' (z:=(.int .i64 0)) (by kernel_rfl) rfl (fun h=>by cases h) Tryz.underlying3 (.int _) rfl
theorem tyOk4 : TyOk Tryz.prog 4 ty4:=TyOk.mk' (z:=(.bool false)) (by kernel_rfl) rfl (fun h=>by cases h) Tryz.underlying4 (.bool) rfl
theorem tyOk5 : TyOk Tryz.prog 5 ty5:=TyOk.mk' (z:=(.int .u8 0)) (by kernel_rfl) rfl (fun h=>by cases h) Tryz.underlying5 (.int _) rfl
theorem tyOk6 : TyOk Tryz.prog 6 ty6:=TyOk.mk' (z:=(.int .u8 0)) (by kernel_rfl) rfl (fun h=>by cases h) Tryz.underlying6 (.int _) rfl
theorem tyOk7 : TyOk Tryz.prog 7 ty7:=TyOk.mk' (z:=(.agg #[.int .i64 0,.int .i64 0,.bool false,.int .u8 0])) (by kernel_rfl) rfl (fun _=>rfl) Tryz.underlying7 (.struct _ _ rfl) rfl
theorem tyOk8 : TyOk Tryz.prog 8 ty8:=TyOk.mk' (z:=(.agg #[.int .i64 0,.int .i64 0,.bool false,.int .u8 0])) (by kernel_rfl) rfl (fun _=>rfl) Tryz.underlying8 (.struct _ _ rfl) rfl
theorem tyOk12 : TyOk Tryz.prog 12 ty12:=TyOk.mk' (z:=(.int .u64 0)) (by kernel_rfl) rfl (fun h=>by cases h) Tryz.underlying12 (.int _) rfl
theorem tyOk15 : TyOk Tryz.prog 15 ty15:=TyOk.mk' (z:=(.pointer none)) (by kernel_rfl) rfl (fun h=>by cases h) Tryz.underlying15 (.ptr _) rfl
theorem tyOk16 : TyOk Tryz.prog 16 ty16:=TyOk.mk' (z:=(.pointer none)) (by kernel_rfl) rfl (fun h=>by cases h) Tryz.underlying16 (.ptr _) rfl
theorem tyOk17 : TyOk Tryz.prog 17 ty17:=TyOk.mk' (z:=(.pointer none)) (by kernel_rfl) rfl (fun h=>by cases h) Tryz.underlying17 (.ptr _) rfl
theorem tyOk18 : TyOk Tryz.prog 18 ty18:=TyOk.mk' (z:=(.agg #[.pointer none])) (by kernel_rfl) rfl (fun _=>rfl) Tryz.underlying18 (.struct _ _ rfl) rfl
theorem tyOk19 : TyOk Tryz.prog 19 ty19:=TyOk.mk' (z:=(.agg #[.pointer none])) (by kernel_rfl) rfl (fun _=>rfl) Tryz.underlying19 (.struct _ _ rfl) rfl
theorem tyOk20 : TyOk Tryz.prog 20 ty20:=TyOk.mk' (z:=(.nilIface)) (by kernel_rfl) rfl (fun h=>by cases h) Tryz.underlying20 (.iface _) rfl
theorem tyOk21 : TyOk Tryz.prog 21 ty21:=TyOk.mk' (z:=(.int .i32 0)) (by kernel_rfl) rfl (fun h=>by cases h) Tryz.underlying21 (.int _) rfl
theorem tyOk22 : TyOk Tryz.prog 22 ty22:=TyOk.mk' (z:=(.slice none 0 0)) (by kernel_rfl) rfl (fun h=>by cases h) Tryz.underlying22 (.slice _) rfl
theorem tyOk23 : TyOk Tryz.prog 23 ty23:=TyOk.mk' (z:=(.slice none 0 0)) (by kernel_rfl) rfl (fun h=>by cases h) Tryz.underlying23 (.slice _) rfl
theorem tyOk24 : TyOk Tryz.prog 24 ty24:=TyOk.mk' (z:=(.nilFunc)) (by kernel_rfl) rfl (fun h=>by cases h) Tryz.underlying24 (.func _ _ _) rfl
theorem tyOk25 : TyOk Tryz.prog 25 ty25:=TyOk.mk' (z:=(.pointer none)) (by kernel_rfl) rfl (fun h=>by cases h) Tryz.underlying25 (.ptr _) rfl
theorem tyOk26 : TyOk Tryz.prog 26 ty26:=TyOk.mk' (z:=(.pointer none)) (by kernel_rfl) rfl (fun h=>by cases h) Tryz.underlying26 (.ptr _) rfl
theorem tyOk28 : TyOk Tryz.prog 28 ty28:=TyOk.mk' (z:=(.nilFunc)) (by kernel_rfl) rfl (fun h=>by cases h) Tryz.underlying28 (.func _ _ _) rfl
theorem tyOk29 : TyOk Tryz.prog 29 ty29:=TyOk.mk' (z:=(.nilFunc)) (by kernel_rfl) rfl (fun h=>by cases h) Tryz.underlying29 (.func _ _ _) rfl
theorem tyOk30 : TyOk Tryz.prog 30 ty30:=TyOk.mk' (z:=(.nilFunc)) (by kernel_rfl) rfl (fun h=>by cases h) Tryz.underlying30 (.func _ _ _) rfl
theorem tyOk31 : TyOk Tryz.prog 31 ty31:=TyOk.mk' (z:=(.agg #[.int .i64 0,.int .i64 0,.int .i64 0,.int .i64 0])) (by kernel_rfl) rfl (fun _=>rfl) Tryz.underlying31 (.struct _ _ rfl) rfl
theorem tyOk32 : TyOk Tryz.prog 32 ty32:=TyOk.mk' (z:=(.agg #[.int .i64 0,.int .i64 0,.int .i64 0,.int .i64 0])) (by kernel_rfl) rfl (fun _=>rfl) Tryz.underlying32 (.struct _ _ rfl) rfl
theorem tyOk34 : TyOk Tryz.prog 34 ty34:=TyOk.mk' (z:=(.nilFunc)) (by kernel_rfl) rfl (fun h=>by cases h) Tryz.underlying34 (.func _ _ _) rfl
theorem tyOk35 : TyOk Tryz.prog 35 ty35:=TyOk.mk' (z:=(.slice none 0 0)) (by kernel_rfl) rfl (fun h=>by cases h) Tryz.underlying35 (.slice _) rfl
theorem tyOk36 : TyOk Tryz.prog 36 ty36:=TyOk.mk' (z:=(.slice none 0 0)) (by kernel_rfl) rfl (fun h=>by cases h) Tryz.underlying36 (.slice _) rfl
theorem tyOk37 : TyOk Tryz.prog 37 ty37:=TyOk.mk' (z:=(.agg #[.slice none 0 0,.slice none 0 0,.int .i64 0])) (by kernel_rfl) rfl (fun _=>rfl) Tryz.underlying37 (.struct _ _ rfl) rfl
theorem tyOk38 : TyOk Tryz.prog 38 ty38:=TyOk.mk' (z:=(.agg #[.slice none 0 0,.slice none 0 0,.int .i64 0])) (by kernel_rfl) rfl (fun _=>rfl) Tryz.underlying38 (.struct _ _ rfl) rfl
theorem tyOk39 : TyOk Tryz.prog 39 ty39:=TyOk.mk' (z:=(.nilFunc)) (by kernel_rfl) rfl (fun h=>by cases h) Tryz.underlying39 (.func _ _ _) rfl
theorem tyOk40 : TyOk Tryz.prog 40 ty40:=TyOk.mk' (z:=(.pointer none)) (by kernel_rfl) rfl (fun h=>by cases h) Tryz.underlying40 (.ptr _) rfl
theorem tyOk41 : TyOk Tryz.prog 41 ty41:=TyOk.mk' (z:=(.agg #[.pointer none,.pointer none,.pointer none,.pointer none])) (by kernel_rfl) rfl (fun _=>rfl) Tryz.underlying41 (.array _ _) rfl
theorem tyOk42 : TyOk Tryz.prog 42 ty42:=TyOk.mk' (z:=(.agg #[.bool false,.bool false,.bool false,.bool false])) (by kernel_rfl) rfl (fun _=>rfl) Tryz.underlying42 (.array _ _) rfl
theorem tyOk43 : TyOk Tryz.prog 43 ty43:=TyOk.mk' (z:=(.nilFunc)) (by kernel_rfl) rfl (fun h=>by cases h) Tryz.underlying43 (.func _ _ _) rfl
theorem tyOk44 : TyOk Tryz.prog 44 ty44:=TyOk.mk' (z:=(.agg #[.int .i64 0,.int .i64 0,.int .i64 0,.int .i64 0,.int .i64 0])) (by kernel_rfl) rfl (fun _=>rfl) Tryz.underlying44 (.struct _ _ rfl) rfl
theorem tyOk45 : TyOk Tryz.prog 45 ty45:=TyOk.mk' (z:=(.agg #[.int .i64 0,.int .i64 0,.int .i64 0,.int .i64 0,.int .i64 0])) (by kernel_rfl) rfl (fun _=>rfl) Tryz.underlying45 (.struct _ _ rfl) rfl
theorem tyOk46 : TyOk Tryz.prog 46 ty46:=TyOk.mk' (z:=(.int .i64 0)) (by kernel_rfl) rfl (fun h=>by cases h) Tryz.underlying46 (.int _) rfl
theorem tyOk47 : TyOk Tryz.prog 47 ty47:=TyOk.mk' (z:=(.slice none 0 0)) (by kernel_rfl) rfl (fun h=>by cases h) Tryz.underlying47 (.slice _) rfl
theorem tyOk48 : TyOk Tryz.prog 48 ty48:=TyOk.mk' (z:=(.agg #[.int .i64 0,.int .i64 0,.bool false,.slice none 0 0])) (by kernel_rfl) rfl (fun _=>rfl) Tryz.underlying48 (.struct _ _ rfl) rfl
theorem tyOk49 : TyOk Tryz.prog 49 ty49:=TyOk.mk' (z:=(.agg #[.int .i64 0,.int .i64 0,.bool false,.slice none 0 0])) (by kernel_rfl) rfl (fun _=>rfl) Tryz.underlying49 (.struct _ _ rfl) rfl
theorem tyOk50 : TyOk Tryz.prog 50 ty50:=TyOk.mk' (z:=(.nilFunc)) (by kernel_rfl) rfl (fun h=>by cases h) Tryz.underlying50 (.func _ _ _) rfl
theorem tyOk51 : TyOk Tryz.prog 51 ty51:=TyOk.mk' (z:=(.nilFunc)) (by kernel_rfl) rfl (fun h=>by cases h) Tryz.underlying51 (.func _ _ _) rfl
theorem tyOk52 : TyOk Tryz.prog 52 ty52:=TyOk.mk' (z:=(.slice none 0 0)) (by kernel_rfl) rfl (fun h=>by cases h) Tryz.underlying52 (.slice _) rfl
theorem tyOk53 : TyOk Tryz.prog 53 ty53:=TyOk.mk' (z:=(.nilFunc)) (by kernel_rfl) rfl (fun h=>by cases h) Tryz.underlying53 (.func _ _ _) rfl
theorem tyOk55 : TyOk Tryz.prog 55 ty55:=TyOk.mk' (z:=(.nilFunc)) (by kernel_rfl) rfl (fun h=>by cases h) Tryz.underlying55 (.func _ _ _) rfl
theorem tyOk56 : TyOk Tryz.prog 56 ty56:=TyOk.mk' (z:=(.nilFunc)) (by kernel_rfl) rfl (fun h=>by cases h) Tryz.underlying56 (.func _ _ _) rfl
theorem tyOk57 : TyOk Tryz.prog 57 ty57:=TyOk.mk' (z:=(.nilFunc)) (by kernel_rfl) rfl (fun h=>by cases h) Tryz.underlying57 (.func _ _ _) rfl
theorem tyOk58 : TyOk Tryz.prog 58 ty58:=TyOk.mk' (z:=(.pointer none)) (by kernel_rfl) rfl (fun h=>by cases h) Tryz.underlying58 (.ptr _) rfl
theorem tyOk59 : TyOk Tryz.prog 59 ty59:=TyOk.mk' (z:=(.nilFunc)) (by kernel_rfl) rfl (fun h=>by cases h) Tryz.underlying59 (.func _ _ _) rfl
theorem tyOk60 : TyOk Tryz.prog 60 ty60:=TyOk.mk' (z:=(.nilFunc)) (by kernel_rfl) rfl (fun h=>by cases h) Tryz.underlying60 (.func _ _ _) rfl
theorem tyOk61 : TyOk Tryz.prog 61 ty61:=TyOk.mk' (z:=(.nilFunc)) (by kernel_rfl) rfl (fun h=>by cases h) Tryz.underlying61 (.func _ _ _) rfl
theorem tyOk62 : TyOk Tryz.prog 62 ty62:=TyOk.mk' (z:=(.nilFunc)) (by kernel_rfl) rfl (fun h=>by cases h) Tryz.underlying62 (.func _ _ _) rfl
theorem tyOk63 : TyOk Tryz.prog 63 ty63:=TyOk.mk' (z:=(.slice none 0 0)) (by kernel_rfl) rfl (fun h=>by cases h) Tryz.underlying63 (.slice _) rfl
theorem tyOk64 : TyOk Tryz.prog 64 ty64:=TyOk.mk' (z:=(.nilFunc)) (by kernel_rfl) rfl (fun h=>by cases h) Tryz.underlying64 (.func _ _ _) rfl
theorem tyOk65 : TyOk Tryz.prog 65 ty65:=TyOk.mk' (z:=(.nilFunc)) (by kernel_rfl) rfl (fun h=>by cases h) Tryz.underlying65 (.func _ _ _) rfl
theorem tyOk66 : TyOk Tryz.prog 66 ty66:=TyOk.mk' (z:=(.slice none 0 0)) (by kernel_rfl) rfl (fun h=>by cases h) Tryz.underlying66 (.slice _) rfl
theorem tyOk67 : TyOk Tryz.prog 67 ty67:=TyOk.mk' (z:=(.slice none 0 0)) (by kernel_rfl) rfl (fun h=>by cases h) Tryz.underlying67 (.slice _) rfl
theorem tyOk68 : TyOk Tryz.prog 68 ty68:=TyOk.mk' (z:=(.agg #[.int .i64 0,.int .i64 0,.int .i64 0,.int .i64 0,.int .i64 0,.bool false])) (by kernel_rfl) rfl (fun _=>rfl) Tryz.underlying68 (.struct _ _ rfl) rfl
theorem tyOk69 : TyOk Tryz.prog 69 ty69:=TyOk.mk' (z:=(.agg #[.int .i64 0,.int .i64 0,.int .i64 0,.int .i64 0,.int .i64 0,.bool false])) (by kernel_rfl) rfl (fun _=>rfl) Tryz.underlying69 (.struct _ _ rfl) rfl
theorem tyOk70 : TyOk Tryz.prog 70 ty70:=TyOk.mk' (z:=(.nilFunc)) (by kernel_rfl) rfl (fun h=>by cases h) Tryz.underlying70 (.func _ _ _) rfl
theorem tyOk71 : TyOk Tryz.prog 71 ty71:=TyOk.mk' (z:=(.nilFunc)) (by kernel_rfl) rfl (fun h=>by cases h) Tryz.underlying71 (.func _ _ _) rfl
theorem tyOk72 : TyOk Tryz.prog 72 ty72:=TyOk.mk' (z:=(.pointer none)) (by kernel_rfl) rfl (fun h=>by cases h) Tryz.underlying72 (.ptr _) rfl
theorem tyOk73 : TyOk Tryz.prog 73 ty73:=TyOk.mk' (z:=(.agg #[.pointer none,.pointer none,.pointer none,.pointer none])) (by kernel_rfl) rfl (fun _=>rfl) Tryz.underlying73 (.array _ _) rfl
theorem tyOk74 : TyOk Tryz.prog 74 ty74:=TyOk.mk' (z:=(.nilFunc)) (by kernel_rfl) rfl (fun h=>by cases h) Tryz.underlying74 (.func _ _ _) rfl
theorem tyOk75 : TyOk Tryz.prog 75 ty75:=TyOk.mk' (z:=(.agg #[.pointer none,.int .i64 0,.int .i64 0,.int .i64 0,.int .i64 0,.int .i64 0,.int .i64 0,.bool false,.int .i64 0,.int .i64 0,.int .i64 0,.bool false,.slice none 0 0,.bool false,.bool false])) (by kernel_rfl) rfl (fun _=>rfl) Tryz.underlying75 (.struct _ _ rfl) rfl
theorem tyOk76 : TyOk Tryz.prog 76 ty76:=TyOk.mk' (z:=(.agg #[.pointer none,.int .i64 0,.int .i64 0,.int .i64 0,.int .i64 0,.int .i64 0,.int .i64 0,.bool false,.int .i64 0,.int .i64 0,.int .i64 0,.bool false,.slice none 0 0,.bool false,.bool false])) (by kernel_rfl) rfl (fun _=>rfl) Tryz.underlying76 (.struct _ _ rfl) rfl
theorem tyOk77 : TyOk Tryz.prog 77 ty77:=TyOk.mk' (z:=(.nilFunc)) (by kernel_rfl) rfl (fun h=>by cases h) Tryz.underlying77 (.func _ _ _) rfl
theorem tyOk78 : TyOk Tryz.prog 78 ty78:=TyOk.mk' (z:=(.nilFunc)) (by kernel_rfl) rfl (fun h=>by cases h) Tryz.underlying78 (.func _ _ _) rfl
theorem tyOk79 : TyOk Tryz.prog 79 ty79:=TyOk.mk' (z:=(.slice none 0 0)) (by kernel_rfl) rfl (fun h=>by cases h) Tryz.underlying79 (.slice _) rfl
theorem tyOk81 : TyOk Tryz.prog 81 ty81:=TyOk.mk' (z:=(.nilFunc)) (by kernel_rfl) rfl (fun h=>by cases h) Tryz.underlying81 (.func _ _ _) rfl
theorem tyOk82 : TyOk Tryz.prog 82 ty82:=TyOk.mk' (z:=(.agg #[.bool false,.bool false,.bool false,.bool false,.bool false,.bool false,.bool false,.bool false,.bool false,.bool false,.bool false,.bool false,.bool false,.bool false,.bool false,.bool false])) (by kernel_rfl) rfl (fun _=>rfl) Tryz.underlying82 (.array _ _) rfl
theorem tyOk83 : TyOk Tryz.prog 83 ty83:=TyOk.mk' (z:=(.pointer none)) (by kernel_rfl) rfl (fun h=>by cases h) Tryz.underlying83 (.ptr _) rfl
theorem tyOk84 : TyOk Tryz.prog 84 ty84:=TyOk.mk' (z:=(.nilFunc)) (by kernel_rfl) rfl (fun h=>by cases h) Tryz.underlying84 (.func _ _ _) rfl
theorem tyOk85 : TyOk Tryz.prog 85 ty85:=TyOk.mk' (z:=(.nilFunc)) (by kernel_rfl) rfl (fun h=>by cases h) Tryz.underlying85 (.func _ _ _) rfl
theorem tyOk86 : TyOk Tryz.prog 86 ty86:=TyOk.mk' (z:=(.agg #[.pointer none,.pointer none,.pointer none,.pointer none])) (by kernel_rfl) rfl (fun _=>rfl) Tryz.underlying86 (.array _ _) rfl
theorem tyOk87 : TyOk Tryz.prog 87 ty87:=TyOk.mk' (z:=(.pointer none)) (by kernel_rfl) rfl (fun h=>by cases h) Tryz.underlying87 (.ptr _) rfl
theorem tyOk88 : TyOk Tryz.prog 88 ty88:=TyOk.mk' (z:=(.agg #[.pointer none,.pointer none,.pointer none,.pointer none])) (by kernel_rfl) rfl (fun _=>rfl) Tryz.underlying88 (.array _ _) rfl
theorem tyOk89 : TyOk Tryz.prog 89 ty89:=TyOk.mk' (z:=(.nilFunc)) (by kernel_rfl) rfl (fun h=>by cases h) Tryz.underlying89 (.func _ _ _) rfl
theorem tyOk90 : TyOk Tryz.prog 90 ty90:=TyOk.mk' (z:=(.agg #[.bool false,.bool false,.bool false])) (by kernel_rfl) rfl (fun _=>rfl) Tryz.underlying90 (.array _ _) rfl
theorem tyOk91 : TyOk Tryz.prog 91 ty91:=TyOk.mk' (z:=(.agg #[.pointer none,.int .i64 0,.int .i64 0,.int .i64 0,.int .i64 0,.int .i64 0,.int .i64 0,.int .i64 0,.bool false,.bool false,.bool false,.int .i64 0,.int .i64 0,.bool false,.slice none 0 0,.bool false,.bool false,.bool false,.bool false,.bool false])) (by kernel_rfl) rfl (fun _=>rfl) Tryz.underlying91 (.struct _ _ rfl) rfl
theorem tyOk92 : TyOk Tryz.prog 92 ty92:=TyOk.mk' (z:=(.agg #[.pointer none,.int .i64 0,.int .i64 0,.int .i64 0,.int .i64 0,.int .i64 0,.int .i64 0,.int .i64 0,.bool false,.bool false,.bool false,.int .i64 0,.int .i64 0,.bool false,.slice none 0 0,.bool false,.bool false,.bool false,.bool false,.bool false])) (by kernel_rfl) rfl (fun _=>rfl) Tryz.underlying92 (.struct _ _ rfl) rfl
theorem tyOk93 : TyOk Tryz.prog 93 ty93:=TyOk.mk' (z:=(.nilFunc)) (by kernel_rfl) rfl (fun h=>by cases h) Tryz.underlying93 (.func _ _ _) rfl
theorem tyOk94 : TyOk Tryz.prog 94 ty94:=TyOk.mk' (z:=(.int .u64 0)) (by kernel_rfl) rfl (fun h=>by cases h) Tryz.underlying94 (.int _) rfl
theorem tyOk95 : TyOk Tryz.prog 95 ty95:=TyOk.mk' (z:=(.agg #[.int .u8 0,.int .u64 0,.bool false])) (by kernel_rfl) rfl (fun _=>rfl) Tryz.underlying95 (.struct _ _ rfl) rfl
theorem tyOk96 : TyOk Tryz.prog 96 ty96:=TyOk.mk' (z:=(.agg #[.int .u8 0,.int .u64 0,.bool false])) (by kernel_rfl) rfl (fun _=>rfl) Tryz.underlying96 (.struct _ _ rfl) rfl
theorem tyOk97 : TyOk Tryz.prog 97 ty97:=TyOk.mk' (z:=(.nilFunc)) (by kernel_rfl) rfl (fun h=>by cases h) Tryz.underlying97 (.func _ _ _) rfl
theorem tyOk98 : TyOk Tryz.prog 98 ty98:=TyOk.mk' (z:=(.nilFunc)) (by kernel_rfl) rfl (fun h=>by cases h) Tryz.underlying98 (.func _ _ _) rfl
theorem tyOk100 : TyOk Tryz.prog 100 ty100:=TyOk.mk' (z:=(.pointer none)) (by kernel_rfl) rfl (fun h=>by cases h) Tryz.underlying100 (.ptr _) rfl
theorem tyOk101 : TyOk Tryz.prog 101 ty101:=TyOk.mk' (z:=(.slice none 0 0)) (by kernel_rfl) rfl (fun h=>by cases h) Tryz.underlying101 (.slice _) rfl
theorem tyOk102 : TyOk Tryz.prog 102 ty102:=TyOk.mk' (z:=(.agg #[.int .i64 0,.slice none 0 0,.slice none 0 0,.slice none 0 0,.int .i64 0,.int .i64 0])) (by kernel_rfl) rfl (fun _=>rfl) Tryz.underlying102 (.struct _ _ rfl) rfl
theorem tyOk103 : TyOk Tryz.prog 103 ty103:=TyOk.mk' (z:=(.agg #[.int .i64 0,.slice none 0 0,.slice none 0 0,.slice none 0 0,.int .i64 0,.int .i64 0])) (by kernel_rfl) rfl (fun _=>rfl) Tryz.underlying103 (.struct _ _ rfl) rfl
theorem tyOk104 : TyOk Tryz.prog 104 ty104:=TyOk.mk' (z:=(.agg #[.pointer none,.slice none 0 0,.slice none 0 0,.int .i64 0,.int .i64 0,.slice none 0 0,.slice none 0 0,.slice none 0 0,.int .i64 0,.int .i64 0])) (by kernel_rfl) rfl (fun _=>rfl) Tryz.underlying104 (.struct _ _ rfl) rfl
theorem tyOk105 : TyOk Tryz.prog 105 ty105:=TyOk.mk' (z:=(.agg #[.pointer none,.slice none 0 0,.slice none 0 0,.int .i64 0,.int .i64 0,.slice none 0 0,.slice none 0 0,.slice none 0 0,.int .i64 0,.int .i64 0])) (by kernel_rfl) rfl (fun _=>rfl) Tryz.underlying105 (.struct _ _ rfl) rfl
theorem tyOk106 : TyOk Tryz.prog 106 ty106:=TyOk.mk' (z:=(.nilFunc)) (by kernel_rfl) rfl (fun h=>by cases h) Tryz.underlying106 (.func _ _ _) rfl
theorem tyOk107 : TyOk Tryz.prog 107 ty107:=TyOk.mk' (z:=(.agg #[.int .i64 0,.int .i64 0,.int .i64 0,.int .i64 0,.int .i64 0])) (by kernel_rfl) rfl (fun _=>rfl) Tryz.underlying107 (.struct _ _ rfl) rfl
theorem tyOk108 : TyOk Tryz.prog 108 ty108:=TyOk.mk' (z:=(.agg #[.int .i64 0,.int .i64 0,.int .i64 0,.int .i64 0,.int .i64 0])) (by kernel_rfl) rfl (fun _=>rfl) Tryz.underlying108 (.struct _ _ rfl) rfl
theorem tyOk109 : TyOk Tryz.prog 109 ty109:=TyOk.mk' (z:=(.nilFunc)) (by kernel_rfl) rfl (fun h=>by cases h) Tryz.underlying109 (.func _ _ _) rfl
theorem tyOk110 : TyOk Tryz.prog 110 ty110:=TyOk.mk' (z:=(.nilFunc)) (by kernel_rfl) rfl (fun h=>by cases h) Tryz.underlying110 (.func _ _ _) rfl
theorem tyOk111 : TyOk Tryz.prog 111 ty111:=TyOk.mk' (z:=(.nilFunc)) (by kernel_rfl) rfl (fun h=>by cases h) Tryz.underlying111 (.func _ _ _) rfl
theorem tyOk112 : TyOk Tryz.prog 112 ty112:=TyOk.mk' (z:=(.nilFunc)) (by kernel_rfl) rfl (fun h=>by cases h) Tryz.underlying112 (.func _ _ _) rfl
theorem tyOk113 : TyOk Tryz.prog 113 ty113:=TyOk.mk' (z:=(.agg #[.pointer none,.slice none 0 0,.slice none 0 0,.int .i64 0,.int .i64 0,.slice none 0 0,.slice none 0 0,.slice none 0 0,.int .i64 0,.int .i64 0])) (by kernel_rfl) rfl (fun _=>rfl) Tryz.underlying113 (.struct _ _ rfl) rfl
theorem tyOk114 : TyOk Tryz.prog 114 ty114:=TyOk.mk' (z:=(.agg #[.pointer none,.slice none 0 0,.slice none 0 0,.int .i64 0,.int .i64 0,.slice none 0 0,.slice none 0 0,.slice none 0 0,.int .i64 0,.int .i64 0])) (by kernel_rfl) rfl (fun _=>rfl) Tryz.underlying114 (.struct _ _ rfl) rfl
theorem tyOk115 : TyOk Tryz.prog 115 ty115:=TyOk.mk' (z:=(.nilFunc)) (by kernel_rfl) rfl (fun h=>by cases h) Tryz.underlying115 (.func _ _ _) rfl
theorem tyOk116 : TyOk Tryz.prog 116 ty116:=TyOk.mk' (z:=(.int .i64 0)) (by kernel_rfl) rfl (fun h=>by cases h) Tryz.underlying116 (.int _) rfl
theorem tyOk117 : TyOk Tryz.prog 117 ty117:=TyOk.mk' (z:=(.int .i64 0)) (by kernel_rfl) rfl (fun h=>by cases h) Tryz.underlying117 (.int _) rfl
theorem tyOk118 : TyOk Tryz.prog 118 ty118:=TyOk.mk' (z:=(.agg #[.pointer none,.int .i64 0,.int .i64 0,.int .i64 0,.int .i64 0,.int .i64 0,.int .i64 0,.bool false,.slice none 0 0,.bool false])) (by kernel_rfl) rfl (fun _=>rfl) Tryz.underlying118 (.struct _ _ rfl) rfl
theorem tyOk119 : TyOk Tryz.prog 119 ty119:=TyOk.mk' (z:=(.agg #[.pointer none,.int .i64 0,.int .i64 0,.int .i64 0,.int .i64 0,.int .i64 0,.int .i64 0,.bool false,.slice none 0 0,.bool false])) (by kernel_rfl) rfl (fun _=>rfl) Tryz.underlying119 (.struct _ _ rfl) rfl
theorem tyOk120 : TyOk Tryz.prog 120 ty120:=TyOk.mk' (z:=(.nilFunc)) (by kernel_rfl) rfl (fun h=>by cases h) Tryz.underlying120 (.func _ _ _) rfl
theorem tyOk121 : TyOk Tryz.prog 121 ty121:=TyOk.mk' (z:=(.nilFunc)) (by kernel_rfl) rfl (fun h=>by cases h) Tryz.underlying121 (.func _ _ _) rfl
theorem tyOk122 : TyOk Tryz.prog 122 ty122:=TyOk.mk' (z:=(.nilFunc)) (by kernel_rfl) rfl (fun h=>by cases h) Tryz.underlying122 (.func _ _ _) rfl
theorem tyOk123 : TyOk Tryz.prog 123 ty123:=TyOk.mk' (z:=(.agg #[.int .i64 0,.int .i64 0,.int .i64 0])) (by kernel_rfl) rfl (fun _=>rfl) Tryz.underlying123 (.struct _ _ rfl) rfl
theorem tyOk124 : TyOk Tryz.prog 124 ty124:=TyOk.mk' (z:=(.agg #[.int .i64 0,.int .i64 0,.int .i64 0])) (by kernel_rfl) rfl (fun _=>rfl) Tryz.underlying124 (.struct _ _ rfl) rfl
theorem tyOk125 : TyOk Tryz.prog 125 ty125:=TyOk.mk' (z:=(.slice none 0 0)) (by kernel_rfl) rfl (fun h=>by cases h) Tryz.underlying125 (.slice _) rfl
theorem tyOk126 : TyOk Tryz.prog 126 ty126:=TyOk.mk' (z:=(.agg #[.int .i64 0,.int .i64 0,.int .i64 0,.slice none 0 0])) (by kernel_rfl) rfl (fun _=>rfl) Tryz.underlying126 (.struct _ _ rfl) rfl
theorem tyOk127 : TyOk Tryz.prog 127 ty127:=TyOk.mk' (z:=(.agg #[.int .i64 0,.int .i64 0,.int .i64 0,.slice none 0 0])) (by kernel_rfl) rfl (fun _=>rfl) Tryz.underlying127 (.struct _ _ rfl) rfl
theorem tyOk128 : TyOk Tryz.prog 128 ty128:=TyOk.mk' (z:=(.nilFunc)) (by kernel_rfl) rfl (fun h=>by cases h) Tryz.underlying128 (.func _ _ _) rfl
theorem tyOk129 : TyOk Tryz.prog 129 ty129:=TyOk.mk' (z:=(.nilFunc)) (by kernel_rfl) rfl (fun h=>by cases h) Tryz.underlying129 (.func _ _ _) rfl
theorem tyOk130 : TyOk Tryz.prog 130 ty130:=TyOk.mk' (z:=(.nilFunc)) (by kernel_rfl) rfl (fun h=>by cases h) Tryz.underlying130 (.func _ _ _) rfl
theorem tyOk131 : TyOk Tryz.prog 131 ty131:=TyOk.mk' (z:=(.nilFunc)) (by kernel_rfl) rfl (fun h=>by cases h) Tryz.underlying131 (.func _ _ _) rfl
theorem tyOk132 : TyOk Tryz.prog 132 ty132:=TyOk.mk' (z:=(.nilFunc)) (by kernel_rfl) rfl (fun h=>by cases h) Tryz.underlying132 (.func _ _ _) rfl
theorem tyOk133 : TyOk Tryz.prog 133 ty133:=TyOk.mk' (z:=(.nilFunc)) (by kernel_rfl) rfl (fun h=>by cases h) Tryz.underlying133 (.func _ _ _) rfl
theorem tyOk134 : TyOk Tryz.prog 134 ty134:=TyOk.mk' (z:=(.agg #[.slice none 0 0,.int .i64 0])) (by kernel_rfl) rfl (fun _=>rfl) Tryz.underlying134 (.struct _ _ rfl) rfl
theorem tyOk135 : TyOk Tryz.prog 135 ty135:=TyOk.mk' (z:=(.agg #[.slice none 0 0,.int .i64 0])) (by kernel_rfl) rfl (fun _=>rfl) Tryz.underlying135 (.struct _ _ rfl) rfl
theorem tyOk136 : TyOk Tryz.prog 136 ty136:=TyOk.mk' (z:=(.agg #[.slice none 0 0])) (by kernel_rfl) rfl (fun _=>rfl) Tryz.underlying136 (.struct _ _ rfl) rfl
theorem tyOk137 : TyOk Tryz.prog 137 ty137:=TyOk.mk' (z:=(.agg #[.slice none 0 0])) (by kernel_rfl) rfl (fun _=>rfl) Tryz.underlying137 (.struct _ _ rfl) rfl
theorem tyOk138 : TyOk Tryz.prog 138 ty138:=TyOk.mk' (z:=(.slice none 0 0)) (by kernel_rfl) rfl (fun h=>by cases h) Tryz.underlying138 (.slice _) rfl
theorem tyOk139 : TyOk Tryz.prog 139 ty139:=TyOk.mk' (z:=(.agg #[.slice none 0 0])) (by kernel_rfl) rfl (fun _=>rfl) Tryz.underlying139 (.struct _ _ rfl) rfl
theorem tyOk140 : TyOk Tryz.prog 140 ty140:=TyOk.mk' (z:=(.agg #[.slice none 0 0])) (by kernel_rfl) rfl (fun _=>rfl) Tryz.underlying140 (.struct _ _ rfl) rfl
theorem tyOk141 : TyOk Tryz.prog 141 ty141:=TyOk.mk' (z:=(.agg #[.slice none 0 0,.int .i64 0,.slice none 0 0,.slice none 0 0])) (by kernel_rfl) rfl (fun _=>rfl) Tryz.underlying141 (.struct _ _ rfl) rfl
theorem tyOk142 : TyOk Tryz.prog 142 ty142:=TyOk.mk' (z:=(.agg #[.slice none 0 0,.int .i64 0,.slice none 0 0,.slice none 0 0])) (by kernel_rfl) rfl (fun _=>rfl) Tryz.underlying142 (.struct _ _ rfl) rfl
theorem tyOk143 : TyOk Tryz.prog 143 ty143:=TyOk.mk' (z:=(.pointer none)) (by kernel_rfl) rfl (fun h=>by cases h) Tryz.underlying143 (.ptr _) rfl
theorem tyOk144 : TyOk Tryz.prog 144 ty144:=TyOk.mk' (z:=(.nilFunc)) (by kernel_rfl) rfl (fun h=>by cases h) Tryz.underlying144 (.func _ _ _) rfl
theorem tyOk145 : TyOk Tryz.prog 145 ty145:=TyOk.mk' (z:=(.nilFunc)) (by kernel_rfl) rfl (fun h=>by cases h) Tryz.underlying145 (.func _ _ _) rfl
theorem tyOk146 : TyOk Tryz.prog 146 ty146:=TyOk.mk' (z:=(.agg #[.int .i64 0,.int .i64 0])) (by kernel_rfl) rfl (fun _=>rfl) Tryz.underlying146 (.struct _ _ rfl) rfl
theorem tyOk147 : TyOk Tryz.prog 147 ty147:=TyOk.mk' (z:=(.agg #[.int .i64 0,.int .i64 0])) (by kernel_rfl) rfl (fun _=>rfl) Tryz.underlying147 (.struct _ _ rfl) rfl
theorem tyOk148 : TyOk Tryz.prog 148 ty148:=TyOk.mk' (z:=(.nilFunc)) (by kernel_rfl) rfl (fun h=>by cases h) Tryz.underlying148 (.func _ _ _) rfl
theorem tyOk149 : TyOk Tryz.prog 149 ty149:=TyOk.mk' (z:=(.nilFunc)) (by kernel_rfl) rfl (fun h=>by cases h) Tryz.underlying149 (.func _ _ _) rfl
theorem tyOk150 : TyOk Tryz.prog 150 ty150:=TyOk.mk' (z:=(.agg #[.slice none 0 0,.slice none 0 0,.slice none 0 0,.int .i64 0])) (by kernel_rfl) rfl (fun _=>rfl) Tryz.underlying150 (.struct _ _ rfl) rfl
theorem tyOk151 : TyOk Tryz.prog 151 ty151:=TyOk.mk' (z:=(.agg #[.slice none 0 0,.slice none 0 0,.slice none 0 0,.int .i64 0])) (by kernel_rfl) rfl (fun _=>rfl) Tryz.underlying151 (.struct _ _ rfl) rfl
theorem tyOk152 : TyOk Tryz.prog 152 ty152:=TyOk.mk' (z:=(.nilFunc)) (by kernel_rfl) rfl (fun h=>by cases h) Tryz.underlying152 (.func _ _ _) rfl
theorem tyOk153 : TyOk Tryz.prog 153 ty153:=TyOk.mk' (z:=(.agg #[.int .i64 0,.int .i64 0,.int .i64 0,.int .i64 0])) (by kernel_rfl) rfl (fun _=>rfl) Tryz.underlying153 (.array _ _) rfl
theorem tyOk154 : TyOk Tryz.prog 154 ty154:=TyOk.mk' (z:=(.pointer none)) (by kernel_rfl) rfl (fun h=>by cases h) Tryz.underlying154 (.ptr _) rfl
theorem tyOk155 : TyOk Tryz.prog 155 ty155:=TyOk.mk' (z:=(.nilFunc)) (by kernel_rfl) rfl (fun h=>by cases h) Tryz.underlying155 (.func _ _ _) rfl
theorem tyOk156 : TyOk Tryz.prog 156 ty156:=TyOk.mk' (z:=(.agg #[.bool false,.int .i64 0])) (by kernel_rfl) rfl (fun _=>rfl) Tryz.underlying156 (.struct _ _ rfl) rfl
theorem tyOk157 : TyOk Tryz.prog 157 ty157:=TyOk.mk' (z:=(.agg #[.bool false,.int .i64 0])) (by kernel_rfl) rfl (fun _=>rfl) Tryz.underlying157 (.struct _ _ rfl) rfl
theorem tyOk158 : TyOk Tryz.prog 158 ty158:=TyOk.mk' (z:=(.nilFunc)) (by kernel_rfl) rfl (fun h=>by cases h) Tryz.underlying158 (.func _ _ _) rfl
theorem tyOk159 : TyOk Tryz.prog 159 ty159:=TyOk.mk' (z:=(.nilFunc)) (by kernel_rfl) rfl (fun h=>by cases h) Tryz.underlying159 (.func _ _ _) rfl
theorem tyOk160 : TyOk Tryz.prog 160 ty160:=TyOk.mk' (z:=(.agg #[.pointer none,.int .i64 0,.int .i64 0,.nilFunc,.slice none 0 0,.nilFunc,.int .i64 0,.int .i64 0,.bool false,.slice none 0 0,.int .i64 0,.int .i64 0,.bool false,.slice none 0 0,.bool false,.bool false])) (by kernel_rfl) rfl (fun _=>rfl) Tryz.underlying160 (.struct _ _ rfl) rfl
theorem tyOk161 : TyOk Tryz.prog 161 ty161:=TyOk.mk' (z:=(.agg #[.pointer none,.int .i64 0,.int .i64 0,.nilFunc,.slice none 0 0,.nilFunc,.int .i64 0,.int .i64 0,.bool false,.slice none 0 0,.int .i64 0,.int .i64 0,.bool false,.slice none 0 0,.bool false,.bool false])) (by kernel_rfl) rfl (fun _=>rfl) Tryz.underlying161 (.struct _ _ rfl) rfl
theorem tyOk162 : TyOk Tryz.prog 162 ty162:=TyOk.mk' (z:=(.nilFunc)) (by kernel_rfl) rfl (fun h=>by cases h) Tryz.underlying162 (.func _ _ _) rfl
theorem tyOk163 : TyOk Tryz.prog 163 ty163:=TyOk.mk' (z:=(.nilFunc)) (by kernel_rfl) rfl (fun h=>by cases h) Tryz.underlying163 (.func _ _ _) rfl
theorem tyOk164 : TyOk Tryz.prog 164 ty164:=TyOk.mk' (z:=(.nilFunc)) (by kernel_rfl) rfl (fun h=>by cases h) Tryz.underlying164 (.func _ _ _) rfl
theorem tyOk165 : TyOk Tryz.prog 165 ty165:=TyOk.mk' (z:=(.nilFunc)) (by kernel_rfl) rfl (fun h=>by cases h) Tryz.underlying165 (.func _ _ _) rfl
theorem tyOk167 : TyOk Tryz.prog 167 ty167:=TyOk.mk' (z:=(.nilFunc)) (by kernel_rfl) rfl (fun h=>by cases h) Tryz.underlying167 (.func _ _ _) rfl
theorem tyOk168 : TyOk Tryz.prog 168 ty168:=TyOk.mk' (z:=(.nilFunc)) (by kernel_rfl) rfl (fun h=>by cases h) Tryz.underlying168 (.func _ _ _) rfl
theorem tyOk169 : TyOk Tryz.prog 169 ty169:=TyOk.mk' (z:=(.nilFunc)) (by kernel_rfl) rfl (fun h=>by cases h) Tryz.underlying169 (.func _ _ _) rfl
theorem tyOk170 : TyOk Tryz.prog 170 ty170:=TyOk.mk' (z:=(.nilFunc)) (by kernel_rfl) rfl (fun h=>by cases h) Tryz.underlying170 (.func _ _ _) rfl
theorem tyOk171 : TyOk Tryz.prog 171 ty171:=TyOk.mk' (z:=(.nilFunc)) (by kernel_rfl) rfl (fun h=>by cases h) Tryz.underlying171 (.func _ _ _) rfl
theorem tyOk173 : TyOk Tryz.prog 173 ty173:=TyOk.mk' (z:=(.nilFunc)) (by kernel_rfl) rfl (fun h=>by cases h) Tryz.underlying173 (.func _ _ _) rfl
theorem tyOk174 : TyOk Tryz.prog 174 ty174:=TyOk.mk' (z:=(.nilFunc)) (by kernel_rfl) rfl (fun h=>by cases h) Tryz.underlying174 (.func _ _ _) rfl
theorem tyOk175 : TyOk Tryz.prog 175 ty175:=TyOk.mk' (z:=(.nilFunc)) (by kernel_rfl) rfl (fun h=>by cases h) Tryz.underlying175 (.func _ _ _) rfl
theorem tyOk176 : TyOk Tryz.prog 176 ty176:=TyOk.mk' (z:=(.nilFunc)) (by kernel_rfl) rfl (fun h=>by cases h) Tryz.underlying176 (.func _ _ _) rfl
theorem tyOk177 : TyOk Tryz.prog 177 ty177:=TyOk.mk' (z:=(.int .i64 0)) (by kernel_rfl) rfl (fun h=>by cases h) Tryz.underlying177 (.int _) rfl
theorem tyOk178 : TyOk Tryz.prog 178 ty178:=TyOk.mk' (z:=(.nilFunc)) (by kernel_rfl) rfl (fun h=>by cases h) Tryz.underlying178 (.func _ _ _) rfl
theorem tyOk179 : TyOk Tryz.prog 179 ty179:=TyOk.mk' (z:=(.nilFunc)) (by kernel_rfl) rfl (fun h=>by cases h) Tryz.underlying179 (.func _ _ _) rfl
theorem tyOk180 : TyOk Tryz.prog 180 ty180:=TyOk.mk' (z:=(.nilFunc)) (by kernel_rfl) rfl (fun h=>by cases h) Tryz.underlying180 (.func _ _ _) rfl
theorem tyOk181 : TyOk Tryz.prog 181 ty181:=TyOk.mk' (z:=(.int .u64 0)) (by kernel_rfl) rfl (fun h=>by cases h) Tryz.underlying181 (.int _) rfl
theorem tyOk182 : TyOk Tryz.prog 182 ty182:=TyOk.mk' (z:=(.nilFunc)) (by kernel_rfl) rfl (fun h=>by cases h) Tryz.underlying182 (.func _ _ _) rfl
theorem tyOk183 : TyOk Tryz.prog 183 ty183:=TyOk.mk' (z:=(.pointer none)) (by kernel_rfl) rfl (fun h=>by cases h) Tryz.underlying183 (.ptr _) rfl
theorem tyOk184 : TyOk Tryz.prog 184 ty184:=TyOk.mk' (z:=(.nilFunc)) (by kernel_rfl) rfl (fun h=>by cases h) Tryz.underlying184 (.func _ _ _) rfl
theorem tyOk185 : TyOk Tryz.prog 185 ty185:=TyOk.mk' (z:=(.nilFunc)) (by kernel_rfl) rfl (fun h=>by cases h) Tryz.underlying185 (.func _ _ _) rfl
theorem tyOk186 : TyOk Tryz.prog 186 ty186:=TyOk.mk' (z:=(.nilFunc)) (by kernel_rfl) rfl (fun h=>by cases h) Tryz.underlying186 (.func _ _ _) rfl
theorem tyOk187 : TyOk Tryz.prog 187 ty187:=TyOk.mk' (z:=(.nilFunc)) (by kernel_rfl) rfl (fun h=>by cases h) Tryz.underlying187 (.func _ _ _) rfl
theorem tyOk188 : TyOk Tryz.prog 188 ty188:=TyOk.mk' (z:=(.pointer none)) (by kernel_rfl) rfl (fun h=>by cases h) Tryz.underlying188 (.ptr _) rfl
theorem tyOk189 : TyOk Tryz.prog 189 ty189:=TyOk.mk' (z:=(.nilFunc)) (by kernel_rfl) rfl (fun h=>by cases h) Tryz.underlying189 (.func _ _ _) rfl
theorem tyOk190 : TyOk Tryz.prog 190 ty190:=TyOk.mk' (z:=(.nilFunc)) (by kernel_rfl) rfl (fun h=>by cases h) Tryz.underlying190 (.func _ _ _) rfl
theorem tyOk191 : TyOk Tryz.prog 191 ty191:=TyOk.mk' (z:=(.nilFunc)) (by kernel_rfl) rfl (fun h=>by cases h) Tryz.underlying191 (.func _ _ _) rfl
theorem tyOk192 : TyOk Tryz.prog 192 ty192:=TyOk.mk' (z:=(.nilFunc)) (by kernel_rfl) rfl (fun h=>by cases h) Tryz.underlying192 (.func _ _ _) rfl
theorem tyOk193 : TyOk Tryz.prog 193 ty193:=TyOk.mk' (z:=(.nilFunc)) (by kernel_rfl) rfl (fun h=>by cases h) Tryz.underlying193 (.func _ _ _) rfl
theorem tyOk194 : TyOk Tryz.prog 194 ty194:=TyOk.mk' (z:=(.nilFunc)) (by kernel_rfl) rfl (fun h=>by cases h) Tryz.underlying194 (.func _ _ _) rfl
theorem tyOk195 : TyOk Tryz.prog 195 ty195:=TyOk.mk' (z:=(.nilFunc)) (by kernel_rfl) rfl (fun h=>by cases h) Tryz.underlying195 (.func _ _ _) rfl
theorem tyOk196 : TyOk Tryz.prog 196 ty196:=TyOk.mk' (z:=(.nilFunc)) (by kernel_rfl) rfl (fun h=>by cases h) Tryz.underlying196 (.func _ _ _) rfl
theorem tyOk198 : TyOk Tryz.prog 198 ty198:=TyOk.mk' (z:=(.nilFunc)) (by kernel_rfl) rfl (fun h=>by cases h) Tryz.underlying198 (.func _ _ _) rfl
theorem tyOk199 : TyOk Tryz.prog 199 ty199:=TyOk.mk' (z:=(.pointer none)) (by kernel_rfl) rfl (fun h=>by cases h) Tryz.underlying199 (.ptr _) rfl
theorem tyOk200 : TyOk Tryz.prog 200 ty200:=TyOk.mk' (z:=(.nilFunc)) (by kernel_rfl) rfl (fun h=>by cases h) Tryz.underlying200 (.func _ _ _) rfl
theorem tyOk201 : TyOk Tryz.prog 201 ty201:=TyOk.mk' (z:=(.nilFunc)) (by kernel_rfl) rfl (fun h=>by cases h) Tryz.underlying201 (.func _ _ _) rfl
theorem tyOk202 : TyOk Tryz.prog 202 ty202:=TyOk.mk' (z:=(.int .i64 0)) (by kernel_rfl) rfl (fun h=>by cases h) Tryz.underlying202 (.int _) rfl
theorem tyOk204 : TyOk Tryz.prog 204 ty204:=TyOk.mk' (z:=(.nilFunc)) (by kernel_rfl) rfl (fun h=>by cases h) Tryz.underlying204 (.func _ _ _) rfl
theorem tyOk205 : TyOk Tryz.prog 205 ty205:=TyOk.mk' (z:=(.nilFunc)) (by kernel_rfl) rfl (fun h=>by cases h) Tryz.underlying205 (.func _ _ _) rfl
theorem tyOk206 : TyOk Tryz.prog 206 ty206:=TyOk.mk' (z:=(.nilFunc)) (by kernel_rfl) rfl (fun h=>by cases h) Tryz.underlying206 (.func _ _ _) rfl
theorem tyOk207 : TyOk Tryz.prog 207 ty207:=TyOk.mk' (z:=(.nilFunc)) (by kernel_rfl) rfl (fun h=>by cases h) Tryz.underlying207 (.func _ _ _) rfl
theorem tyOk208 : TyOk Tryz.prog 208 ty208:=TyOk.mk' (z:=(.nilFunc)) (by kernel_rfl) rfl (fun h=>by cases h) Tryz.underlying208 (.func _ _ _) rfl
theorem tyOk209 : TyOk Tryz.prog 209 ty209:=TyOk.mk' (z:=(.int .u32 0)) (by kernel_rfl) rfl (fun h=>by cases h) Tryz.underlying209 (.int _) rfl
theorem tyOk210 : TyOk Tryz.prog 210 ty210:=TyOk.mk' (z:=(.nilFunc)) (by kernel_rfl) rfl (fun h=>by cases h) Tryz.underlying210 (.func _ _ _) rfl
theorem tyOk211 : TyOk Tryz.prog 211 ty211:=TyOk.mk' (z:=(.nilFunc)) (by kernel_rfl) rfl (fun h=>by cases h) Tryz.underlying211 (.func _ _ _) rfl
theorem tyOk212 : TyOk Tryz.prog 212 ty212:=TyOk.mk' (z:=(.nilFunc)) (by kernel_rfl) rfl (fun h=>by cases h) Tryz.underlying212 (.func _ _ _) rfl
theorem tyOk213 : TyOk Tryz.prog 213 ty213:=TyOk.mk' (z:=(.nilFunc)) (by kernel_rfl) rfl (fun h=>by cases h) Tryz.underlying213 (.func _ _ _) rfl
theorem tyOk214 : TyOk Tryz.prog 214 ty214:=TyOk.mk' (z:=(.nilFunc)) (by kernel_rfl) rfl (fun h=>by cases h) Tryz.underlying214 (.func _ _ _) rfl
theorem tyOk215 : TyOk Tryz.prog 215 ty215:=TyOk.mk' (z:=(.nilFunc)) (by kernel_rfl) rfl (fun h=>by cases h) Tryz.underlying215 (.func _ _ _) rfl
theorem tyOk216 : TyOk Tryz.prog 216 ty216:=TyOk.mk' (z:=(.nilFunc)) (by kernel_rfl) rfl (fun h=>by cases h) Tryz.underlying216 (.func _ _ _) rfl
theorem tyOk218 : TyOk Tryz.prog 218 ty218:=TyOk.mk' (z:=(.nilFunc)) (by kernel_rfl) rfl (fun h=>by cases h) Tryz.underlying218 (.func _ _ _) rfl
theorem tyOk219 : TyOk Tryz.prog 219 ty219:=TyOk.mk' (z:=(.nilFunc)) (by kernel_rfl) rfl (fun h=>by cases h) Tryz.underlying219 (.func _ _ _) rfl
theorem tyOk220 : TyOk Tryz.prog 220 ty220:=TyOk.mk' (z:=(.nilFunc)) (by kernel_rfl) rfl (fun h=>by cases h) Tryz.underlying220 (.func _ _ _) rfl
theorem tyOk221 : TyOk Tryz.prog 221 ty221:=TyOk.mk' (z:=(.nilFunc)) (by kernel_rfl) rfl (fun h=>by cases h) Tryz.underlying221 (.func _ _ _) rfl
theorem tyOk222 : TyOk Tryz.prog 222 ty222:=TyOk.mk' (z:=(.pointer none)) (by kernel_rfl) rfl (fun h=>by cases h) Tryz.underlying222 (.ptr _) rfl
theorem tyOk223 : TyOk Tryz.prog 223 ty223:=TyOk.mk' (z:=(.nilFunc)) (by kernel_rfl) rfl (fun h=>by cases h) Tryz.underlying223 (.func _ _ _) rfl
theorem tyOk224 : TyOk Tryz.prog 224 ty224:=TyOk.mk' (z:=(.nilFunc)) (by kernel_rfl) rfl (fun h=>by cases h) Tryz.underlying224 (.func _ _ _) rfl
theorem tyOk225 : TyOk Tryz.prog 225 ty225:=TyOk.mk' (z:=(.int .u64 0)) (by kernel_rfl) rfl (fun h=>by cases h) Tryz.underlying225 (.int _) rfl
theorem tyOk226 : TyOk Tryz.prog 226 ty226:=TyOk.mk' (z:=(.nilFunc)) (by kernel_rfl) rfl (fun h=>by cases h) Tryz.underlying226 (.func _ _ _) rfl
theorem tyOk227 : TyOk Tryz.prog 227 ty227:=TyOk.mk' (z:=(.nilFunc)) (by kernel_rfl) rfl (fun h=>by cases h) Tryz.underlying227 (.func _ _ _) rfl
theorem tyOk228 : TyOk Tryz.prog 228 ty228:=TyOk.mk' (z:=(.nilFunc)) (by kernel_rfl) rfl (fun h=>by cases h) Tryz.underlying228 (.func _ _ _) rfl
theorem tyOk229 : TyOk Tryz.prog 229 ty229:=TyOk.mk' (z:=(.nilFunc)) (by kernel_rfl) rfl (fun h=>by cases h) Tryz.underlying229 (.func _ _ _) rfl
theorem tyOk230 : TyOk Tryz.prog 230 ty230:=TyOk.mk' (z:=(.nilFunc)) (by kernel_rfl) rfl (fun h=>by cases h) Tryz.underlying230 (.func _ _ _) rfl
theorem tyOk231 : TyOk Tryz.prog 231 ty231:=TyOk.mk' (z:=(.nilFunc)) (by kernel_rfl) rfl (fun h=>by cases h) Tryz.underlying231 (.func _ _ _) rfl
theorem tyOk232 : TyOk Tryz.prog 232 ty232:=TyOk.mk' (z:=(.nilFunc)) (by kernel_rfl) rfl (fun h=>by cases h) Tryz.underlying232 (.func _ _ _) rfl
theorem tyOk233 : TyOk Tryz.prog 233 ty233:=TyOk.mk' (z:=(.nilFunc)) (by kernel_rfl) rfl (fun h=>by cases h) Tryz.underlying233 (.func _ _ _) rfl
theorem tyOk234 : TyOk Tryz.prog 234 ty234:=TyOk.mk' (z:=(.nilFunc)) (by kernel_rfl) rfl (fun h=>by cases h) Tryz.underlying234 (.func _ _ _) rfl
theorem tyOk236 : TyOk Tryz.prog 236 ty236:=TyOk.mk' (z:=(.nilFunc)) (by kernel_rfl) rfl (fun h=>by cases h) Tryz.underlying236 (.func _ _ _) rfl
theorem tyOk237 : TyOk Tryz.prog 237 ty237:=TyOk.mk' (z:=(.nilFunc)) (by kernel_rfl) rfl (fun h=>by cases h) Tryz.underlying237 (.func _ _ _) rfl
theorem tyOk238 : TyOk Tryz.prog 238 ty238:=TyOk.mk' (z:=(.nilFunc)) (by kernel_rfl) rfl (fun h=>by cases h) Tryz.underlying238 (.func _ _ _) rfl
theorem tyOk239 : TyOk Tryz.prog 239 ty239:=TyOk.mk' (z:=(.nilFunc)) (by kernel_rfl) rfl (fun h=>by cases h) Tryz.underlying239 (.func _ _ _) rfl
theorem tyOk240 : TyOk Tryz.prog 240 ty240:=TyOk.mk' (z:=(.pointer none)) (by kernel_rfl) rfl (fun h=>by cases h) Tryz.underlying240 (.ptr _) rfl
theorem tyOk242 : TyOk Tryz.prog 242 ty242:=TyOk.mk' (z:=(.nilFunc)) (by kernel_rfl) rfl (fun h=>by cases h) Tryz.underlying242 (.func _ _ _) rfl
theorem tyOk243 : TyOk Tryz.prog 243 ty243:=TyOk.mk' (z:=(.nilFunc)) (by kernel_rfl) rfl (fun h=>by cases h) Tryz.underlying243 (.func _ _ _) rfl
theorem tyOk244 : TyOk Tryz.prog 244 ty244:=TyOk.mk' (z:=(.nilFunc)) (by kernel_rfl) rfl (fun h=>by cases h) Tryz.underlying244 (.func _ _ _) rfl
theorem tyOk245 : TyOk Tryz.prog 245 ty245:=TyOk.mk' (z:=(.nilFunc)) (by kernel_rfl) rfl (fun h=>by cases h) Tryz.underlying245 (.func _ _ _) rfl
theorem tyOk246 : TyOk Tryz.prog 246 ty246:=TyOk.mk' (z:=(.nilFunc)) (by kernel_rfl) rfl (fun h=>by cases h) Tryz.underlying246 (.func _ _ _) rfl
theorem tyOk247 : TyOk Tryz.prog 247 ty247:=TyOk.mk' (z:=(.nilFunc)) (by kernel_rfl) rfl (fun h=>by cases h) Tryz.underlying247 (.func _ _ _) rfl
theorem tyOk248 : TyOk Tryz.prog 248 ty248:=TyOk.mk' (z:=(.nilFunc)) (by kernel_rfl) rfl (fun h=>by cases h) Tryz.underlying248 (.func _ _ _) rfl
theorem tyOk249 : TyOk Tryz.prog 249 ty249:=TyOk.mk' (z:=(.nilFunc)) (by kernel_rfl) rfl (fun h=>by cases h) Tryz.underlying249 (.func _ _ _) rfl
theorem tyOk250 : TyOk Tryz.prog 250 ty250:=TyOk.mk' (z:=(.nilFunc)) (by kernel_rfl) rfl (fun h=>by cases h) Tryz.underlying250 (.func _ _ _) rfl
theorem tyOk253 : TyOk Tryz.prog 253 ty253:=TyOk.mk' (z:=(.agg #[])) (by kernel_rfl) rfl (fun _=>rfl) Tryz.underlying253 (.array _ _) rfl
theorem tyOk254 : TyOk Tryz.prog 254 ty254:=TyOk.mk' (z:=(.agg #[])) (by kernel_rfl) rfl (fun _=>rfl) Tryz.underlying254 (.struct _ _ rfl) rfl
theorem tyOk255 : TyOk Tryz.prog 255 ty255:=TyOk.mk' (z:=(.agg #[])) (by kernel_rfl) rfl (fun _=>rfl) Tryz.underlying255 (.struct _ _ rfl) rfl
theorem tyOk256 : TyOk Tryz.prog 256 ty256:=TyOk.mk' (z:=(.int .u8 0)) (by kernel_rfl) rfl (fun h=>by cases h) Tryz.underlying256 (.int _) rfl
theorem tyOk257 : TyOk Tryz.prog 257 ty257:=TyOk.mk' (z:=(.int .u8 0)) (by kernel_rfl) rfl (fun h=>by cases h) Tryz.underlying257 (.int _) rfl
theorem tyOk258 : TyOk Tryz.prog 258 ty258:=TyOk.mk' (z:=(.nilFunc)) (by kernel_rfl) rfl (fun h=>by cases h) Tryz.underlying258 (.func _ _ _) rfl
theorem tyOk259 : TyOk Tryz.prog 259 ty259:=TyOk.mk' (z:=(.pointer none)) (by kernel_rfl) rfl (fun h=>by cases h) Tryz.underlying259 (.ptr _) rfl
theorem tyOk260 : TyOk Tryz.prog 260 ty260:=TyOk.mk' (z:=(.int .i32 0)) (by kernel_rfl) rfl (fun h=>by cases h) Tryz.underlying260 (.int _) rfl
theorem tyOk261 : TyOk Tryz.prog 261 ty261:=TyOk.mk' (z:=(.int .i32 0)) (by kernel_rfl) rfl (fun h=>by cases h) Tryz.underlying261 (.int _) rfl
theorem tyOk262 : TyOk Tryz.prog 262 ty262:=TyOk.mk' (z:=(.agg #[.int .u64 0,.int .u64 0,.int .u32 0,.int .u8 0,.int .u8 0,.int .u8 0,.int .u8 0,.nilFunc,.pointer none,.int .i32 0,.int .i32 0])) (by kernel_rfl) rfl (fun _=>rfl) Tryz.underlying262 (.struct _ _ rfl) rfl
theorem tyOk263 : TyOk Tryz.prog 263 ty263:=TyOk.mk' (z:=(.agg #[.int .u64 0,.int .u64 0,.int .u32 0,.int .u8 0,.int .u8 0,.int .u8 0,.int .u8 0,.nilFunc,.pointer none,.int .i32 0,.int .i32 0])) (by kernel_rfl) rfl (fun _=>rfl) Tryz.underlying263 (.struct _ _ rfl) rfl
theorem tab_ok : TabOk Tryz.prog tab:=TT.ok (T:=tabT) ⟨tyOk133,⟨tyOk70,⟨tyOk38,⟨tyOk21,⟨tyOk8,⟨tyOk4,⟨tyOk2,⟨tyOk1,trivial,trivial⟩,⟨tyOk3,trivial,trivial⟩⟩,⟨tyOk6,⟨tyOk5,trivial,trivial⟩,⟨tyOk7,trivial,trivial⟩⟩⟩,⟨tyOk17,⟨tyOk15,⟨tyOk12,trivial,trivial⟩,⟨tyOk16,trivial,trivial⟩⟩,⟨tyOk19,⟨tyOk18,trivial,trivial⟩,⟨tyOk20,trivial,trivial⟩⟩⟩⟩,⟨tyOk30,⟨tyOk25,⟨tyOk23,⟨tyOk22,trivial,trivial⟩,⟨tyOk24,trivial,trivial⟩⟩,⟨tyOk28,⟨tyOk26,trivial,trivial⟩,⟨tyOk29,trivial,trivial⟩⟩⟩,⟨tyOk35,⟨tyOk32,⟨tyOk31,trivial,trivial⟩,⟨tyOk34,trivial,trivial⟩⟩,⟨tyOk37,⟨tyOk36,trivial,trivial⟩,trivial⟩⟩⟩⟩,⟨tyOk55,⟨tyOk46,⟨tyOk42,⟨tyOk40,⟨tyOk39,trivial,trivial⟩,⟨tyOk41,trivial,trivial⟩⟩,⟨tyOk44,⟨tyOk43,trivial,trivial⟩,⟨tyOk45,trivial,trivial⟩⟩⟩,⟨tyOk50,⟨tyOk48,⟨tyOk47,trivial,trivial⟩,⟨tyOk49,trivial,trivial⟩⟩,⟨tyOk52,⟨tyOk51,trivial,trivial⟩,⟨tyOk53,trivial,trivial⟩⟩⟩⟩,⟨tyOk63,⟨tyOk59,⟨tyOk57,⟨tyOk56,trivial,trivial⟩,⟨tyOk58,trivial,trivial⟩⟩,⟨tyOk61,⟨tyOk60,trivial,trivial⟩,⟨tyOk62,trivial,trivial⟩⟩⟩,⟨tyOk67,⟨tyOk65,⟨tyOk64,trivial,trivial⟩,⟨tyOk66,trivial,trivial⟩⟩,⟨tyOk69,⟨tyOk68,trivial,trivial⟩,trivial⟩⟩⟩⟩⟩,⟨tyOk103,⟨tyOk87,⟨tyOk78,⟨tyOk74,⟨tyOk72,⟨tyOk71,trivial,trivial⟩,⟨tyOk73,trivial,trivial⟩⟩,⟨tyOk76,⟨tyOk75,trivial,trivial⟩,⟨tyOk77,trivial,trivial⟩⟩⟩,⟨tyOk83,⟨tyOk81,⟨tyOk79,trivial,trivial⟩,⟨tyOk82,trivial,trivial⟩⟩,⟨tyOk85,⟨tyOk84,trivial,trivial⟩,⟨tyOk86,trivial,trivial⟩⟩⟩⟩,⟨tyOk95,⟨tyOk91,⟨tyOk89,⟨tyOk88,trivial,trivial⟩,⟨tyOk90,trivial,trivial⟩⟩,⟨tyOk93,⟨tyOk92,trivial,trivial⟩,⟨tyOk94,trivial,trivial⟩⟩⟩,⟨tyOk100,⟨tyOk97,⟨tyOk96,trivial,trivial⟩,⟨tyOk98,trivial,trivial⟩⟩,⟨tyOk102,⟨tyOk101,trivial,trivial⟩,trivial⟩⟩⟩⟩,⟨tyOk118,⟨tyOk111,⟨tyOk107,⟨tyOk105,⟨tyOk104,trivial,trivial⟩,⟨tyOk106,trivial,trivial⟩⟩,⟨tyOk109,⟨tyOk108,trivial,trivial⟩,⟨tyOk110,trivial,trivial⟩⟩⟩,⟨tyOk115,⟨tyOk113,⟨tyOk112,trivial,trivial⟩,⟨tyOk114,trivial,trivial⟩⟩,⟨tyOk117,⟨tyOk116,trivial,trivial⟩,trivial⟩⟩⟩,⟨tyOk126,⟨tyOk122,⟨tyOk120,⟨tyOk119,trivial,trivial⟩,⟨tyOk121,trivial,trivial⟩⟩,⟨tyOk124,⟨tyOk123,trivial,trivial⟩,⟨tyOk125,trivial,trivial⟩⟩⟩,⟨tyOk130,⟨tyOk128,⟨tyOk127,trivial,trivial⟩,⟨tyOk129,trivial,trivial⟩⟩,⟨tyOk132,⟨tyOk131,trivial,trivial⟩,trivial⟩⟩⟩⟩⟩⟩,⟨tyOk196,⟨tyOk164,⟨tyOk149,⟨tyOk141,⟨tyOk137,⟨tyOk135,⟨tyOk134,trivial,trivial⟩,⟨tyOk136,trivial,trivial⟩⟩,⟨tyOk139,⟨tyOk138,trivial,trivial⟩,⟨tyOk140,trivial,trivial⟩⟩⟩,⟨tyOk145,⟨tyOk143,⟨tyOk142,trivial,trivial⟩,⟨tyOk144,trivial,trivial⟩⟩,⟨tyOk147,⟨tyOk146,trivial,trivial⟩,⟨tyOk148,trivial,trivial⟩⟩⟩⟩,⟨tyOk157,⟨tyOk153,⟨tyOk151,⟨tyOk150,trivial,trivial⟩,⟨tyOk152,trivial,trivial⟩⟩,⟨tyOk155,⟨tyOk154,trivial,trivial⟩,⟨tyOk156,trivial,trivial⟩⟩⟩,⟨tyOk161,⟨tyOk159,⟨tyOk158,trivial,trivial⟩,⟨tyOk160,trivial,trivial⟩⟩,⟨tyOk163,⟨tyOk162,trivial,trivial⟩,trivial⟩⟩⟩⟩,⟨tyOk181,⟨tyOk174,⟨tyOk169,⟨tyOk167,⟨tyOk165,trivial,trivial⟩,⟨tyOk168,trivial,trivial⟩⟩,⟨tyOk171,⟨tyOk170,trivial,trivial⟩,⟨tyOk173,trivial,trivial⟩⟩⟩,⟨tyOk178,⟨tyOk176,⟨tyOk175,trivial,trivial⟩,⟨tyOk177,trivial,trivial⟩⟩,⟨tyOk180,⟨tyOk179,trivial,trivial⟩,trivial⟩⟩⟩,⟨tyOk189,⟨tyOk185,⟨tyOk183,⟨tyOk182,trivial,trivial⟩,⟨tyOk184,trivial,trivial⟩⟩,⟨tyOk187,⟨tyOk186,trivial,trivial⟩,⟨tyOk188,trivial,trivial⟩⟩⟩,⟨tyOk193,⟨tyOk191,⟨tyOk190,trivial,trivial⟩,⟨tyOk192,trivial,trivial⟩⟩,⟨tyOk195,⟨tyOk194,trivial,trivial⟩,trivial⟩⟩⟩⟩⟩,⟨tyOk230,⟨tyOk214,⟨tyOk206,⟨tyOk201,⟨tyOk199,⟨tyOk198,trivial,trivial⟩,⟨tyOk200,trivial,trivial⟩⟩,⟨tyOk204,⟨tyOk202,trivial,trivial⟩,⟨tyOk205,trivial,trivial⟩⟩⟩,⟨tyOk210,⟨tyOk208,⟨tyOk207,trivial,trivial⟩,⟨tyOk209,trivial,trivial⟩⟩,⟨tyOk212,⟨tyOk211,trivial,trivial⟩,⟨tyOk213,trivial,trivial⟩⟩⟩⟩,⟨tyOk223,⟨tyOk219,⟨tyOk216,⟨tyOk215,trivial,trivial⟩,⟨tyOk218,trivial,trivial⟩⟩,⟨tyOk221,⟨tyOk220,trivial,trivial⟩,⟨tyOk222,trivial,trivial⟩⟩⟩,⟨tyOk227,⟨tyOk225,⟨tyOk224,trivial,trivial⟩,⟨tyOk226,trivial,trivial⟩⟩,⟨tyOk229,⟨tyOk228,trivial,trivial⟩,trivial⟩⟩⟩⟩,⟨tyOk247,⟨tyOk239,⟨tyOk234,⟨tyOk232,⟨tyOk231,trivial,trivial⟩,⟨tyOk233,trivial,trivial⟩⟩,⟨tyOk237,⟨tyOk236,trivial,trivial⟩,⟨tyOk238,trivial,trivial⟩⟩⟩,⟨tyOk244,⟨tyOk242,⟨tyOk240,trivial,trivial⟩,⟨tyOk243,trivial,trivial⟩⟩,⟨tyOk246,⟨tyOk245,trivial,trivial⟩,trivial⟩⟩⟩,⟨tyOk257,⟨tyOk253,⟨tyOk249,⟨tyOk248,trivial,trivial⟩,⟨tyOk250,trivial,trivial⟩⟩,⟨tyOk255,⟨tyOk254,trivial,trivial⟩,⟨tyOk256,trivial,trivial⟩⟩⟩,⟨tyOk261,⟨tyOk259,⟨tyOk258,trivial,trivial⟩,⟨tyOk260,trivial,trivial⟩⟩,⟨tyOk263,⟨tyOk262,trivial,trivial⟩,trivial⟩⟩⟩⟩⟩⟩⟩
theorem mix : Tryz.prog.follows .mixedOrders = true:=by kernel_rfl
end Go.Proofs.YtcffiehcdadimaaGreat.Abs
