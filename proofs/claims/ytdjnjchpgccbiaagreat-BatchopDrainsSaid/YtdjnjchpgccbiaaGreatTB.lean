/- The type table of the translation, by program (gentab.py), and that it is the translation's own. -/
import Derived.Test.YtdjnjchpgccbiaaGreatC1
namespace Go.Proofs.YtdjnjchpgccbiaaGreat.Abs
def ty1 : Ty:=⟨1,8,false,[.nilFunc],.func⟩
def ty2 : Ty:=⟨1,8,false,[.int .i64 0],(.int .i64)⟩
def ty3 : Ty:=⟨1,8,false,[.int .i64 0],(.int .i64)⟩
def ty4 : Ty:=⟨1,1,false,[.bool false],.bool⟩
def ty5 : Ty:=⟨1,1,false,[.int .u8 0],(.int .u8)⟩
def ty6 : Ty:=⟨1,1,false,[.int .u8 0],(.int .u8)⟩
def ty7 : Ty:=⟨4,24,true,[.int .i64 0,.int .i64 0,.bool false,.int .u8 0],(.struct [(0,2),(1,3),(2,4),(3,6)])⟩
def ty8 : Ty:=⟨4,24,true,[.int .i64 0,.int .i64 0,.bool false,.int .u8 0],(.struct [(0,2),(1,3),(2,4),(3,6)])⟩
def ty12 : Ty:=⟨1,8,false,[.int .u64 0],(.int .u64)⟩
def ty15 : Ty:=⟨1,8,false,[.pointer none],(.ptr 309)⟩
def ty16 : Ty:=⟨1,8,false,[.pointer none],(.ptr 312)⟩
def ty17 : Ty:=⟨1,8,false,[.pointer none],(.ptr 320)⟩
def ty18 : Ty:=⟨1,8,true,[.pointer none],(.struct [(0,17)])⟩
def ty19 : Ty:=⟨1,8,true,[.pointer none],(.struct [(0,17)])⟩
def ty20 : Ty:=⟨1,16,false,[.nilIface],.iface⟩
def ty21 : Ty:=⟨1,4,false,[.int .i32 0],(.int .i32)⟩
def ty22 : Ty:=⟨1,24,false,[.slice none 0 0],(.slice 134)⟩
def ty23 : Ty:=⟨5,40,true,[.int .i64 0,.int .i64 0,.int .i64 0,.int .i64 0,.int .i64 0],(.struct [(0,3),(1,3),(2,3),(3,3),(4,3)])⟩
def ty24 : Ty:=⟨5,40,true,[.int .i64 0,.int .i64 0,.int .i64 0,.int .i64 0,.int .i64 0],(.struct [(0,3),(1,3),(2,3),(3,3),(4,3)])⟩
def ty25 : Ty:=⟨1,8,false,[.nilFunc],.func⟩
def ty26 : Ty:=⟨1,8,false,[.pointer none],(.ptr 138)⟩
def ty27 : Ty:=⟨1,8,false,[.pointer none],(.ptr 127)⟩
def ty29 : Ty:=⟨1,8,false,[.nilFunc],.func⟩
def ty30 : Ty:=⟨1,8,false,[.nilFunc],.func⟩
def ty31 : Ty:=⟨1,24,false,[.slice none 0 0],(.slice 141)⟩
def ty32 : Ty:=⟨1,8,false,[.pointer none],(.ptr 150)⟩
def ty33 : Ty:=⟨1,8,false,[.nilFunc],.func⟩
def ty34 : Ty:=⟨1,8,false,[.nilFunc],.func⟩
def ty35 : Ty:=⟨1,8,false,[.pointer none],(.ptr 40)⟩
def ty36 : Ty:=⟨1,8,false,[.nilFunc],.func⟩
def ty37 : Ty:=⟨1,16,false,[.nilIface],.iface⟩
def ty38 : Ty:=⟨1,16,false,[.nilIface],.iface⟩
def ty39 : Ty:=⟨2,24,true,[.nilIface,.int .i64 0],(.struct [(0,38),(1,3)])⟩
def ty40 : Ty:=⟨2,24,true,[.nilIface,.int .i64 0],(.struct [(0,38),(1,3)])⟩
def ty41 : Ty:=⟨1,8,false,[.nilFunc],.func⟩
def ty42 : Ty:=⟨1,8,false,[.nilFunc],.func⟩
def ty43 : Ty:=⟨1,8,false,[.int .i64 0],(.int .i64)⟩
def ty44 : Ty:=⟨1,24,false,[.slice none 0 0],(.slice 83)⟩
def ty45 : Ty:=⟨4,48,true,[.int .i64 0,.int .i64 0,.bool false,.slice none 0 0],(.struct [(0,43),(1,3),(2,4),(3,44)])⟩
def ty46 : Ty:=⟨4,48,true,[.int .i64 0,.int .i64 0,.bool false,.slice none 0 0],(.struct [(0,43),(1,3),(2,4),(3,44)])⟩
def ty47 : Ty:=⟨1,8,false,[.nilFunc],.func⟩
def ty48 : Ty:=⟨1,8,false,[.nilFunc],.func⟩
def ty49 : Ty:=⟨1,24,false,[.slice none 0 0],(.slice 24)⟩
def ty50 : Ty:=⟨1,8,false,[.nilFunc],.func⟩
def ty51 : Ty:=⟨1,8,false,[.nilFunc],.func⟩
def ty52 : Ty:=⟨1,8,false,[.nilFunc],.func⟩
def ty53 : Ty:=⟨1,24,false,[.slice none 0 0],(.slice 85)⟩
def ty54 : Ty:=⟨1,24,false,[.slice none 0 0],(.slice 3)⟩
def ty55 : Ty:=⟨3,56,true,[.slice none 0 0,.slice none 0 0,.int .i64 0],(.struct [(0,53),(1,54),(2,3)])⟩
def ty56 : Ty:=⟨3,56,true,[.slice none 0 0,.slice none 0 0,.int .i64 0],(.struct [(0,53),(1,54),(2,3)])⟩
def ty57 : Ty:=⟨1,8,false,[.nilFunc],.func⟩
def ty58 : Ty:=⟨1,8,false,[.nilFunc],.func⟩
def ty59 : Ty:=⟨1,24,false,[.slice none 0 0],(.slice 64)⟩
def ty60 : Ty:=⟨4,64,true,[.int .i64 0,.slice none 0 0,.int .i64 0,.slice none 0 0],(.struct [(0,3),(1,59),(2,3),(3,54)])⟩
def ty61 : Ty:=⟨4,64,true,[.int .i64 0,.slice none 0 0,.int .i64 0,.slice none 0 0],(.struct [(0,3),(1,59),(2,3),(3,54)])⟩
def ty62 : Ty:=⟨1,8,false,[.nilFunc],.func⟩
def ty63 : Ty:=⟨4,32,true,[.int .i64 0,.int .i64 0,.int .i64 0,.bool false],(.struct [(0,3),(1,3),(2,3),(3,4)])⟩
def ty64 : Ty:=⟨4,32,true,[.int .i64 0,.int .i64 0,.int .i64 0,.bool false],(.struct [(0,3),(1,3),(2,3),(3,4)])⟩
def ty65 : Ty:=⟨1,8,false,[.pointer none],(.ptr 161)⟩
def ty66 : Ty:=⟨1,8,false,[.nilFunc],.func⟩
def ty67 : Ty:=⟨1,8,false,[.nilFunc],.func⟩
def ty68 : Ty:=⟨1,24,false,[.slice none 0 0],(.slice 97)⟩
def ty69 : Ty:=⟨1,8,false,[.nilFunc],.func⟩
def ty70 : Ty:=⟨1,8,false,[.nilFunc],.func⟩
def ty71 : Ty:=⟨1,8,false,[.nilFunc],.func⟩
def ty72 : Ty:=⟨1,8,false,[.nilFunc],.func⟩
def ty74 : Ty:=⟨1,8,false,[.nilFunc],.func⟩
def ty75 : Ty:=⟨1,8,false,[.nilFunc],.func⟩
def ty76 : Ty:=⟨1,8,false,[.nilFunc],.func⟩
def ty77 : Ty:=⟨1,24,false,[.slice none 0 0],(.slice 5)⟩
def ty78 : Ty:=⟨1,24,false,[.slice none 0 0],(.slice 80)⟩
def ty79 : Ty:=⟨1,24,false,[.slice none 0 0],(.slice 4)⟩
def ty80 : Ty:=⟨1,8,false,[.pointer none],(.ptr 175)⟩
def ty81 : Ty:=⟨1,8,false,[.nilFunc],.func⟩
def ty82 : Ty:=⟨2,16,true,[.int .i64 0,.int .i64 0],(.struct [(0,3),(1,3)])⟩
def ty83 : Ty:=⟨2,16,true,[.int .i64 0,.int .i64 0],(.struct [(0,3),(1,3)])⟩
def ty84 : Ty:=⟨4,32,true,[.int .i64 0,.int .i64 0,.int .i64 0,.int .i64 0],(.struct [(0,3),(1,3),(2,3),(3,3)])⟩
def ty85 : Ty:=⟨4,32,true,[.int .i64 0,.int .i64 0,.int .i64 0,.int .i64 0],(.struct [(0,3),(1,3),(2,3),(3,3)])⟩
def ty87 : Ty:=⟨1,8,false,[.nilFunc],.func⟩
def ty88 : Ty:=⟨1,8,false,[.nilFunc],.func⟩
def ty89 : Ty:=⟨2,16,true,[.pointer none,.pointer none],(.array 2 65)⟩
def ty90 : Ty:=⟨1,8,false,[.pointer none],(.ptr 99)⟩
def ty91 : Ty:=⟨2,16,true,[.pointer none,.pointer none],(.array 2 90)⟩
def ty92 : Ty:=⟨1,8,false,[.pointer none],(.ptr 182)⟩
def ty93 : Ty:=⟨1,8,false,[.pointer none],(.ptr 185)⟩
def ty94 : Ty:=⟨1,8,false,[.pointer none],(.ptr 188)⟩
def ty95 : Ty:=⟨1,8,false,[.nilFunc],.func⟩
def ty96 : Ty:=⟨3,24,true,[.int .i64 0,.int .i64 0,.int .i64 0],(.struct [(0,3),(1,3),(2,3)])⟩
def ty97 : Ty:=⟨3,24,true,[.int .i64 0,.int .i64 0,.int .i64 0],(.struct [(0,3),(1,3),(2,3)])⟩
def ty98 : Ty:=⟨21,208,true,[.pointer none,.int .i64 0,.int .i64 0,.int .i64 0,.int .i64 0,.int .i64 0,.int .i64 0,.int .i64 0,.int .i64 0,.int .i64 0,.int .i64 0,.int .i64 0,.int .i64 0,.slice none 0 0,.slice none 0 0,.int .i64 0,.int .i64 0,.bool false,.slice none 0 0,.bool false,.bool false],(.struct [(0,27),(1,3),(2,24),(7,3),(8,3),(9,97),(12,3),(13,54),(14,44),(15,46),(19,4),(20,4)])⟩
def ty99 : Ty:=⟨21,208,true,[.pointer none,.int .i64 0,.int .i64 0,.int .i64 0,.int .i64 0,.int .i64 0,.int .i64 0,.int .i64 0,.int .i64 0,.int .i64 0,.int .i64 0,.int .i64 0,.int .i64 0,.slice none 0 0,.slice none 0 0,.int .i64 0,.int .i64 0,.bool false,.slice none 0 0,.bool false,.bool false],(.struct [(0,27),(1,3),(2,24),(7,3),(8,3),(9,97),(12,3),(13,54),(14,44),(15,46),(19,4),(20,4)])⟩
def ty100 : Ty:=⟨1,8,false,[.nilFunc],.func⟩
def ty101 : Ty:=⟨1,8,false,[.nilFunc],.func⟩
def ty102 : Ty:=⟨1,8,false,[.nilFunc],.func⟩
def ty103 : Ty:=⟨1,8,false,[.nilFunc],.func⟩
def ty104 : Ty:=⟨1,8,false,[.nilFunc],.func⟩
def ty105 : Ty:=⟨4,32,true,[.pointer none,.pointer none,.pointer none,.pointer none],(.array 4 35)⟩
def ty106 : Ty:=⟨1,8,false,[.pointer none],(.ptr 110)⟩
def ty107 : Ty:=⟨4,32,true,[.pointer none,.pointer none,.pointer none,.pointer none],(.array 4 106)⟩
def ty108 : Ty:=⟨1,8,false,[.nilFunc],.func⟩
def ty109 : Ty:=⟨6,48,true,[.int .i64 0,.pointer none,.pointer none,.pointer none,.bool false,.int .i64 0],(.struct [(0,3),(1,93),(2,94),(3,90),(4,4),(5,3)])⟩
def ty110 : Ty:=⟨6,48,true,[.int .i64 0,.pointer none,.pointer none,.pointer none,.bool false,.int .i64 0],(.struct [(0,3),(1,93),(2,94),(3,90),(4,4),(5,3)])⟩
def ty111 : Ty:=⟨1,8,false,[.nilFunc],.func⟩
def ty112 : Ty:=⟨1,8,false,[.nilFunc],.func⟩
def ty114 : Ty:=⟨1,8,false,[.nilFunc],.func⟩
def ty115 : Ty:=⟨1,8,false,[.nilFunc],.func⟩
def ty117 : Ty:=⟨1,8,false,[.nilFunc],.func⟩
def ty118 : Ty:=⟨1,8,false,[.nilFunc],.func⟩
def ty119 : Ty:=⟨1,8,false,[.nilFunc],.func⟩
def ty120 : Ty:=⟨1,8,false,[.nilFunc],.func⟩
def ty122 : Ty:=⟨1,8,false,[.pointer none],(.ptr 194)⟩
def ty123 : Ty:=⟨1,24,false,[.slice none 0 0],(.slice 165)⟩
def ty124 : Ty:=⟨6,96,true,[.int .i64 0,.slice none 0 0,.slice none 0 0,.slice none 0 0,.int .i64 0,.int .i64 0],(.struct [(0,3),(1,68),(2,123),(3,68),(4,3),(5,3)])⟩
def ty125 : Ty:=⟨6,96,true,[.int .i64 0,.slice none 0 0,.slice none 0 0,.slice none 0 0,.int .i64 0,.int .i64 0],(.struct [(0,3),(1,68),(2,123),(3,68),(4,3),(5,3)])⟩
def ty126 : Ty:=⟨10,160,true,[.pointer none,.slice none 0 0,.slice none 0 0,.int .i64 0,.int .i64 0,.slice none 0 0,.slice none 0 0,.slice none 0 0,.int .i64 0,.int .i64 0],(.struct [(0,122),(1,56),(4,125)])⟩
def ty127 : Ty:=⟨10,160,true,[.pointer none,.slice none 0 0,.slice none 0 0,.int .i64 0,.int .i64 0,.slice none 0 0,.slice none 0 0,.slice none 0 0,.int .i64 0,.int .i64 0],(.struct [(0,122),(1,56),(4,125)])⟩
def ty128 : Ty:=⟨1,8,false,[.nilFunc],.func⟩
def ty129 : Ty:=⟨5,40,true,[.int .i64 0,.int .i64 0,.int .i64 0,.int .i64 0,.int .i64 0],(.struct [(0,3),(1,3),(2,3),(3,3),(4,3)])⟩
def ty130 : Ty:=⟨5,40,true,[.int .i64 0,.int .i64 0,.int .i64 0,.int .i64 0,.int .i64 0],(.struct [(0,3),(1,3),(2,3),(3,3),(4,3)])⟩
def ty131 : Ty:=⟨1,8,false,[.nilFunc],.func⟩
def ty132 : Ty:=⟨1,8,false,[.int .u64 0],(.int .u64)⟩
def ty133 : Ty:=⟨3,24,true,[.int .u8 0,.int .u64 0,.bool false],(.struct [(0,5),(1,132),(2,4)])⟩
def ty134 : Ty:=⟨3,24,true,[.int .u8 0,.int .u64 0,.bool false],(.struct [(0,5),(1,132),(2,4)])⟩
def ty135 : Ty:=⟨1,8,false,[.nilFunc],.func⟩
def ty136 : Ty:=⟨1,8,false,[.nilFunc],.func⟩
def ty137 : Ty:=⟨10,160,true,[.pointer none,.slice none 0 0,.slice none 0 0,.int .i64 0,.int .i64 0,.slice none 0 0,.slice none 0 0,.slice none 0 0,.int .i64 0,.int .i64 0],(.struct [(0,32),(1,56),(4,125)])⟩
def ty138 : Ty:=⟨10,160,true,[.pointer none,.slice none 0 0,.slice none 0 0,.int .i64 0,.int .i64 0,.slice none 0 0,.slice none 0 0,.slice none 0 0,.int .i64 0,.int .i64 0],(.struct [(0,32),(1,56),(4,125)])⟩
def ty139 : Ty:=⟨1,8,false,[.nilFunc],.func⟩
def ty140 : Ty:=⟨6,48,true,[.int .i64 0,.int .i64 0,.int .i64 0,.int .i64 0,.int .i64 0,.bool false],(.struct [(0,3),(1,3),(2,3),(3,3),(4,3),(5,4)])⟩
def ty141 : Ty:=⟨6,48,true,[.int .i64 0,.int .i64 0,.int .i64 0,.int .i64 0,.int .i64 0,.bool false],(.struct [(0,3),(1,3),(2,3),(3,3),(4,3),(5,4)])⟩
def ty142 : Ty:=⟨2,32,true,[.slice none 0 0,.int .i64 0],(.struct [(0,31),(1,3)])⟩
def ty143 : Ty:=⟨2,32,true,[.slice none 0 0,.int .i64 0],(.struct [(0,31),(1,3)])⟩
def ty144 : Ty:=⟨1,24,true,[.slice none 0 0],(.struct [(0,54)])⟩
def ty145 : Ty:=⟨1,24,true,[.slice none 0 0],(.struct [(0,54)])⟩
def ty146 : Ty:=⟨1,24,false,[.slice none 0 0],(.slice 198)⟩
def ty147 : Ty:=⟨1,24,true,[.slice none 0 0],(.struct [(0,146)])⟩
def ty148 : Ty:=⟨1,24,true,[.slice none 0 0],(.struct [(0,146)])⟩
def ty149 : Ty:=⟨4,80,true,[.slice none 0 0,.int .i64 0,.slice none 0 0,.slice none 0 0],(.struct [(0,143),(2,145),(3,148)])⟩
def ty150 : Ty:=⟨4,80,true,[.slice none 0 0,.int .i64 0,.slice none 0 0,.slice none 0 0],(.struct [(0,143),(2,145),(3,148)])⟩
def ty151 : Ty:=⟨1,8,false,[.nilFunc],.func⟩
def ty152 : Ty:=⟨1,8,false,[.map none],(.map 3 151)⟩
def ty154 : Ty:=⟨1,8,false,[.pointer none],(.ptr 155)⟩
def ty155 : Ty:=⟨1,1,false,[.bool false],.bool⟩
def ty156 : Ty:=⟨1,8,false,[.nilFunc],.func⟩
def ty157 : Ty:=⟨1,8,false,[.nilFunc],.func⟩
def ty158 : Ty:=⟨1,8,false,[.nilFunc],.func⟩
def ty159 : Ty:=⟨1,8,false,[.nilFunc],.func⟩
def ty160 : Ty:=⟨22,216,true,[.pointer none,.int .i64 0,.int .i64 0,.int .i64 0,.int .i64 0,.int .i64 0,.int .i64 0,.int .i64 0,.bool false,.int .i64 0,.int .i64 0,.int .i64 0,.int .i64 0,.bool false,.slice none 0 0,.slice none 0 0,.int .i64 0,.int .i64 0,.bool false,.slice none 0 0,.bool false,.bool false],(.struct [(0,26),(1,3),(2,24),(7,3),(8,4),(9,97),(12,3),(13,4),(14,54),(15,44),(16,46),(20,4),(21,4)])⟩
def ty161 : Ty:=⟨22,216,true,[.pointer none,.int .i64 0,.int .i64 0,.int .i64 0,.int .i64 0,.int .i64 0,.int .i64 0,.int .i64 0,.bool false,.int .i64 0,.int .i64 0,.int .i64 0,.int .i64 0,.bool false,.slice none 0 0,.slice none 0 0,.int .i64 0,.int .i64 0,.bool false,.slice none 0 0,.bool false,.bool false],(.struct [(0,26),(1,3),(2,24),(7,3),(8,4),(9,97),(12,3),(13,4),(14,54),(15,44),(16,46),(20,4),(21,4)])⟩
def ty162 : Ty:=⟨1,8,false,[.nilFunc],.func⟩
def ty163 : Ty:=⟨1,24,false,[.slice none 0 0],(.slice 68)⟩
def ty164 : Ty:=⟨4,48,true,[.int .i64 0,.int .i64 0,.int .i64 0,.slice none 0 0],(.struct [(0,3),(1,3),(2,3),(3,163)])⟩
def ty165 : Ty:=⟨4,48,true,[.int .i64 0,.int .i64 0,.int .i64 0,.slice none 0 0],(.struct [(0,3),(1,3),(2,3),(3,163)])⟩
def ty166 : Ty:=⟨1,8,false,[.nilFunc],.func⟩
def ty167 : Ty:=⟨1,8,false,[.nilFunc],.func⟩
def ty168 : Ty:=⟨4,32,true,[.int .i64 0,.int .i64 0,.int .i64 0,.int .i64 0],(.array 4 3)⟩
def ty169 : Ty:=⟨1,8,false,[.nilFunc],.func⟩
def ty170 : Ty:=⟨1,8,false,[.nilFunc],.func⟩
def ty171 : Ty:=⟨1,8,false,[.nilFunc],.func⟩
def ty172 : Ty:=⟨1,8,false,[.int .i64 0],(.int .i64)⟩
def ty173 : Ty:=⟨1,8,false,[.int .i64 0],(.int .i64)⟩
def ty174 : Ty:=⟨10,96,true,[.pointer none,.int .i64 0,.int .i64 0,.int .i64 0,.int .i64 0,.int .i64 0,.int .i64 0,.bool false,.slice none 0 0,.bool false],(.struct [(0,26),(1,3),(2,3),(3,172),(4,173),(5,46),(9,4)])⟩
def ty175 : Ty:=⟨10,96,true,[.pointer none,.int .i64 0,.int .i64 0,.int .i64 0,.int .i64 0,.int .i64 0,.int .i64 0,.bool false,.slice none 0 0,.bool false],(.struct [(0,26),(1,3),(2,3),(3,172),(4,173),(5,46),(9,4)])⟩
def ty176 : Ty:=⟨1,8,false,[.nilFunc],.func⟩
def ty177 : Ty:=⟨1,8,false,[.nilFunc],.func⟩
def ty178 : Ty:=⟨1,8,false,[.nilFunc],.func⟩
def ty179 : Ty:=⟨1,8,false,[.nilFunc],.func⟩
def ty180 : Ty:=⟨1,8,false,[.nilFunc],.func⟩
def ty181 : Ty:=⟨16,168,true,[.pointer none,.int .i64 0,.int .i64 0,.nilFunc,.slice none 0 0,.nilFunc,.int .i64 0,.int .i64 0,.bool false,.slice none 0 0,.int .i64 0,.int .i64 0,.bool false,.slice none 0 0,.bool false,.bool false],(.struct [(0,26),(1,3),(2,3),(3,180),(4,54),(5,1),(6,46),(10,46),(14,4),(15,4)])⟩
def ty182 : Ty:=⟨16,168,true,[.pointer none,.int .i64 0,.int .i64 0,.nilFunc,.slice none 0 0,.nilFunc,.int .i64 0,.int .i64 0,.bool false,.slice none 0 0,.int .i64 0,.int .i64 0,.bool false,.slice none 0 0,.bool false,.bool false],(.struct [(0,26),(1,3),(2,3),(3,180),(4,54),(5,1),(6,46),(10,46),(14,4),(15,4)])⟩
def ty183 : Ty:=⟨3,3,true,[.bool false,.bool false,.bool false],(.array 3 4)⟩
def ty184 : Ty:=⟨20,128,true,[.pointer none,.int .i64 0,.int .i64 0,.int .i64 0,.int .i64 0,.int .i64 0,.int .i64 0,.int .i64 0,.bool false,.bool false,.bool false,.int .i64 0,.int .i64 0,.bool false,.slice none 0 0,.bool false,.bool false,.bool false,.bool false,.bool false],(.struct [(0,27),(1,3),(2,24),(7,3),(8,183),(11,46),(15,4),(16,4),(17,4),(18,4),(19,4)])⟩
def ty185 : Ty:=⟨20,128,true,[.pointer none,.int .i64 0,.int .i64 0,.int .i64 0,.int .i64 0,.int .i64 0,.int .i64 0,.int .i64 0,.bool false,.bool false,.bool false,.int .i64 0,.int .i64 0,.bool false,.slice none 0 0,.bool false,.bool false,.bool false,.bool false,.bool false],(.struct [(0,27),(1,3),(2,24),(7,3),(8,183),(11,46),(15,4),(16,4),(17,4),(18,4),(19,4)])⟩
def ty186 : Ty:=⟨1,8,false,[.nilFunc],.func⟩
def ty187 : Ty:=⟨15,128,true,[.pointer none,.int .i64 0,.int .i64 0,.int .i64 0,.int .i64 0,.int .i64 0,.int .i64 0,.bool false,.int .i64 0,.int .i64 0,.int .i64 0,.bool false,.slice none 0 0,.bool false,.bool false],(.struct [(0,27),(1,3),(2,24),(7,4),(8,3),(9,46),(13,4),(14,4)])⟩
def ty188 : Ty:=⟨15,128,true,[.pointer none,.int .i64 0,.int .i64 0,.int .i64 0,.int .i64 0,.int .i64 0,.int .i64 0,.bool false,.int .i64 0,.int .i64 0,.int .i64 0,.bool false,.slice none 0 0,.bool false,.bool false],(.struct [(0,27),(1,3),(2,24),(7,4),(8,3),(9,46),(13,4),(14,4)])⟩
def ty189 : Ty:=⟨1,8,false,[.nilFunc],.func⟩
def ty190 : Ty:=⟨1,8,false,[.nilFunc],.func⟩
def ty191 : Ty:=⟨1,8,false,[.nilFunc],.func⟩
def ty192 : Ty:=⟨1,8,false,[.nilFunc],.func⟩
def ty193 : Ty:=⟨4,80,true,[.slice none 0 0,.slice none 0 0,.slice none 0 0,.int .i64 0],(.struct [(0,54),(1,54),(2,31),(3,3)])⟩
def ty194 : Ty:=⟨4,80,true,[.slice none 0 0,.slice none 0 0,.slice none 0 0,.int .i64 0],(.struct [(0,54),(1,54),(2,31),(3,3)])⟩
def ty195 : Ty:=⟨1,8,false,[.pointer none],(.ptr 198)⟩
def ty196 : Ty:=⟨1,8,false,[.nilFunc],.func⟩
def ty197 : Ty:=⟨2,16,true,[.bool false,.int .i64 0],(.struct [(0,4),(1,3)])⟩
def ty198 : Ty:=⟨2,16,true,[.bool false,.int .i64 0],(.struct [(0,4),(1,3)])⟩
def ty200 : Ty:=⟨1,8,false,[.nilFunc],.func⟩
def ty201 : Ty:=⟨1,8,false,[.nilFunc],.func⟩
def ty202 : Ty:=⟨1,8,false,[.nilFunc],.func⟩
def ty203 : Ty:=⟨1,8,false,[.nilFunc],.func⟩
def ty204 : Ty:=⟨1,8,false,[.nilFunc],.func⟩
def ty205 : Ty:=⟨1,8,false,[.nilFunc],.func⟩
def ty206 : Ty:=⟨1,8,false,[.nilFunc],.func⟩
def ty207 : Ty:=⟨1,8,false,[.nilFunc],.func⟩
def ty208 : Ty:=⟨1,8,false,[.nilFunc],.func⟩
def ty209 : Ty:=⟨1,8,false,[.nilFunc],.func⟩
def ty210 : Ty:=⟨1,8,false,[.nilFunc],.func⟩
def ty211 : Ty:=⟨1,8,false,[.nilFunc],.func⟩
def ty213 : Ty:=⟨1,8,false,[.nilFunc],.func⟩
def ty214 : Ty:=⟨1,8,false,[.nilFunc],.func⟩
def ty215 : Ty:=⟨1,8,false,[.nilFunc],.func⟩
def ty216 : Ty:=⟨1,8,false,[.nilFunc],.func⟩
def ty217 : Ty:=⟨1,8,false,[.pointer none],(.ptr 3)⟩
def ty218 : Ty:=⟨1,8,false,[.nilFunc],.func⟩
def ty219 : Ty:=⟨1,8,false,[.int .i64 0],(.int .i64)⟩
def ty220 : Ty:=⟨1,8,false,[.nilFunc],.func⟩
def ty221 : Ty:=⟨1,8,false,[.nilFunc],.func⟩
def ty222 : Ty:=⟨1,8,false,[.nilFunc],.func⟩
def ty223 : Ty:=⟨1,8,false,[.int .u64 0],(.int .u64)⟩
def ty224 : Ty:=⟨1,8,false,[.nilFunc],.func⟩
def ty225 : Ty:=⟨1,8,false,[.nilFunc],.func⟩
def ty226 : Ty:=⟨1,8,false,[.nilFunc],.func⟩
def ty227 : Ty:=⟨1,8,false,[.nilFunc],.func⟩
def ty228 : Ty:=⟨1,8,false,[.nilFunc],.func⟩
def ty229 : Ty:=⟨1,8,false,[.nilFunc],.func⟩
def ty230 : Ty:=⟨1,8,false,[.nilFunc],.func⟩
def ty231 : Ty:=⟨1,8,false,[.nilFunc],.func⟩
def ty232 : Ty:=⟨1,8,false,[.pointer none],(.ptr 148)⟩
def ty233 : Ty:=⟨1,8,false,[.nilFunc],.func⟩
def ty234 : Ty:=⟨4,32,true,[.nilFunc,.nilFunc,.nilFunc,.nilFunc],(.array 4 74)⟩
def ty235 : Ty:=⟨1,8,false,[.nilFunc],.func⟩
def ty236 : Ty:=⟨1,8,false,[.nilFunc],.func⟩
def ty237 : Ty:=⟨1,8,false,[.nilFunc],.func⟩
def ty238 : Ty:=⟨1,8,false,[.map none],(.map 3 4)⟩
def ty239 : Ty:=⟨1,8,false,[.nilFunc],.func⟩
def ty240 : Ty:=⟨1,8,false,[.nilFunc],.func⟩
def ty241 : Ty:=⟨1,8,false,[.nilFunc],.func⟩
def ty242 : Ty:=⟨1,8,false,[.nilFunc],.func⟩
def ty243 : Ty:=⟨1,8,false,[.nilFunc],.func⟩
def ty244 : Ty:=⟨1,8,false,[.nilFunc],.func⟩
def ty245 : Ty:=⟨1,8,false,[.nilFunc],.func⟩
def ty247 : Ty:=⟨1,8,false,[.nilFunc],.func⟩
def ty248 : Ty:=⟨1,8,false,[.pointer none],(.ptr 143)⟩
def ty249 : Ty:=⟨1,8,false,[.pointer none],(.ptr 145)⟩
def ty250 : Ty:=⟨1,8,false,[.nilFunc],.func⟩
def ty251 : Ty:=⟨1,8,false,[.int .i64 0],(.int .i64)⟩
def ty253 : Ty:=⟨1,8,false,[.nilFunc],.func⟩
def ty254 : Ty:=⟨1,8,false,[.nilFunc],.func⟩
def ty255 : Ty:=⟨1,8,false,[.nilFunc],.func⟩
def ty256 : Ty:=⟨1,8,false,[.nilFunc],.func⟩
def ty257 : Ty:=⟨1,8,false,[.nilFunc],.func⟩
def ty258 : Ty:=⟨1,4,false,[.int .u32 0],(.int .u32)⟩
def ty259 : Ty:=⟨1,8,false,[.nilFunc],.func⟩
def ty260 : Ty:=⟨1,8,false,[.nilFunc],.func⟩
def ty261 : Ty:=⟨1,8,false,[.nilFunc],.func⟩
def ty262 : Ty:=⟨1,8,false,[.nilFunc],.func⟩
def ty263 : Ty:=⟨1,8,false,[.nilFunc],.func⟩
def ty264 : Ty:=⟨1,8,false,[.nilFunc],.func⟩
def ty265 : Ty:=⟨1,8,false,[.nilFunc],.func⟩
def ty266 : Ty:=⟨1,8,false,[.nilFunc],.func⟩
def ty267 : Ty:=⟨1,8,false,[.nilFunc],.func⟩
def ty268 : Ty:=⟨1,8,false,[.nilFunc],.func⟩
def ty269 : Ty:=⟨1,8,false,[.nilFunc],.func⟩
def ty270 : Ty:=⟨1,8,false,[.nilFunc],.func⟩
def ty272 : Ty:=⟨1,8,false,[.nilFunc],.func⟩
def ty273 : Ty:=⟨1,8,false,[.nilFunc],.func⟩
def ty274 : Ty:=⟨1,8,false,[.nilFunc],.func⟩
def ty275 : Ty:=⟨1,8,false,[.nilFunc],.func⟩
def ty276 : Ty:=⟨1,8,false,[.pointer none],(.ptr 125)⟩
def ty277 : Ty:=⟨1,8,false,[.nilFunc],.func⟩
def ty278 : Ty:=⟨1,8,false,[.nilFunc],.func⟩
def ty279 : Ty:=⟨1,8,false,[.int .u64 0],(.int .u64)⟩
def ty280 : Ty:=⟨1,8,false,[.nilFunc],.func⟩
def ty281 : Ty:=⟨1,8,false,[.nilFunc],.func⟩
def ty282 : Ty:=⟨1,8,false,[.nilFunc],.func⟩
def ty283 : Ty:=⟨1,8,false,[.nilFunc],.func⟩
def ty284 : Ty:=⟨1,8,false,[.nilFunc],.func⟩
def ty285 : Ty:=⟨1,8,false,[.nilFunc],.func⟩
def ty286 : Ty:=⟨1,8,false,[.nilFunc],.func⟩
def ty287 : Ty:=⟨1,8,false,[.nilFunc],.func⟩
def ty288 : Ty:=⟨1,8,false,[.nilFunc],.func⟩
def ty289 : Ty:=⟨1,8,false,[.nilFunc],.func⟩
def ty290 : Ty:=⟨1,8,false,[.nilFunc],.func⟩
def ty292 : Ty:=⟨1,8,false,[.nilFunc],.func⟩
def ty293 : Ty:=⟨1,8,false,[.nilFunc],.func⟩
def ty294 : Ty:=⟨1,8,false,[.nilFunc],.func⟩
def ty295 : Ty:=⟨1,8,false,[.nilFunc],.func⟩
def ty296 : Ty:=⟨1,8,false,[.pointer none],(.ptr 279)⟩
def ty298 : Ty:=⟨1,8,false,[.nilFunc],.func⟩
def ty299 : Ty:=⟨1,8,false,[.nilFunc],.func⟩
def ty300 : Ty:=⟨1,8,false,[.nilFunc],.func⟩
def ty301 : Ty:=⟨1,8,false,[.nilFunc],.func⟩
def ty302 : Ty:=⟨1,8,false,[.nilFunc],.func⟩
def ty303 : Ty:=⟨1,8,false,[.nilFunc],.func⟩
def ty304 : Ty:=⟨1,8,false,[.nilFunc],.func⟩
def ty305 : Ty:=⟨1,8,false,[.nilFunc],.func⟩
def ty306 : Ty:=⟨1,8,false,[.nilFunc],.func⟩
def ty307 : Ty:=⟨1,8,false,[.nilFunc],.func⟩
def ty310 : Ty:=⟨0,0,true,[],(.array 0 16)⟩
def ty311 : Ty:=⟨0,0,true,[],(.struct [(0,310)])⟩
def ty312 : Ty:=⟨0,0,true,[],(.struct [(0,310)])⟩
def ty313 : Ty:=⟨1,1,false,[.int .u8 0],(.int .u8)⟩
def ty314 : Ty:=⟨1,1,false,[.int .u8 0],(.int .u8)⟩
def ty315 : Ty:=⟨1,8,false,[.nilFunc],.func⟩
def ty316 : Ty:=⟨1,8,false,[.pointer none],(.ptr 5)⟩
def ty317 : Ty:=⟨1,4,false,[.int .i32 0],(.int .i32)⟩
def ty318 : Ty:=⟨1,4,false,[.int .i32 0],(.int .i32)⟩
def ty319 : Ty:=⟨11,48,true,[.int .u64 0,.int .u64 0,.int .u32 0,.int .u8 0,.int .u8 0,.int .u8 0,.int .u8 0,.nilFunc,.pointer none,.int .i32 0,.int .i32 0],(.struct [(0,12),(1,12),(2,258),(3,313),(4,5),(5,5),(6,314),(7,315),(8,316),(9,317),(10,318)])⟩
def ty320 : Ty:=⟨11,48,true,[.int .u64 0,.int .u64 0,.int .u32 0,.int .u8 0,.int .u8 0,.int .u8 0,.int .u8 0,.nilFunc,.pointer none,.int .i32 0,.int .i32 0],(.struct [(0,12),(1,12),(2,258),(3,313),(4,5),(5,5),(6,314),(7,315),(8,316),(9,317),(10,318)])⟩
def tabT : TT:=(.node 162 ty162 (.node 82 ty82 (.node 44 ty44 (.node 24 ty24 (.node 15 ty15 (.node 5 ty5 (.node 3 ty3 (.node 2 ty2 (.node 1 ty1 .leaf .leaf) .leaf) (.node 4 ty4 .leaf .leaf)) (.node 8 ty8 (.node 7 ty7 (.node 6 ty6 .leaf .leaf) .leaf) (.node 12 ty12 .leaf .leaf))) (.node 20 ty20 (.node 18 ty18 (.node 17 ty17 (.node 16 ty16 .leaf .leaf) .leaf) (.node 19 ty19 .leaf .leaf)) (.node 22 ty22 (.node 21 ty21 .leaf .leaf) (.node 23 ty23 .leaf .leaf)))) (.node 35 ty35 (.node 30 ty30 (.node 27 ty27 (.node 26 ty26 (.node 25 ty25 .leaf .leaf) .leaf) (.node 29 ty29 .leaf .leaf)) (.node 33 ty33 (.node 32 ty32 (.node 31 ty31 .leaf .leaf) .leaf) (.node 34 ty34 .leaf .leaf))) (.node 40 ty40 (.node 38 ty38 (.node 37 ty37 (.node 36 ty36 .leaf .leaf) .leaf) (.node 39 ty39 .leaf .leaf)) (.node 42 ty42 (.node 41 ty41 .leaf .leaf) (.node 43 ty43 .leaf .leaf))))) (.node 63 ty63 (.node 54 ty54 (.node 49 ty49 (.node 47 ty47 (.node 46 ty46 (.node 45 ty45 .leaf .leaf) .leaf) (.node 48 ty48 .leaf .leaf)) (.node 52 ty52 (.node 51 ty51 (.node 50 ty50 .leaf .leaf) .leaf) (.node 53 ty53 .leaf .leaf))) (.node 59 ty59 (.node 57 ty57 (.node 56 ty56 (.node 55 ty55 .leaf .leaf) .leaf) (.node 58 ty58 .leaf .leaf)) (.node 61 ty61 (.node 60 ty60 .leaf .leaf) (.node 62 ty62 .leaf .leaf)))) (.node 72 ty72 (.node 68 ty68 (.node 66 ty66 (.node 65 ty65 (.node 64 ty64 .leaf .leaf) .leaf) (.node 67 ty67 .leaf .leaf)) (.node 70 ty70 (.node 69 ty69 .leaf .leaf) (.node 71 ty71 .leaf .leaf))) (.node 78 ty78 (.node 76 ty76 (.node 75 ty75 (.node 74 ty74 .leaf .leaf) .leaf) (.node 77 ty77 .leaf .leaf)) (.node 80 ty80 (.node 79 ty79 .leaf .leaf) (.node 81 ty81 .leaf .leaf)))))) (.node 124 ty124 (.node 102 ty102 (.node 93 ty93 (.node 88 ty88 (.node 85 ty85 (.node 84 ty84 (.node 83 ty83 .leaf .leaf) .leaf) (.node 87 ty87 .leaf .leaf)) (.node 91 ty91 (.node 90 ty90 (.node 89 ty89 .leaf .leaf) .leaf) (.node 92 ty92 .leaf .leaf))) (.node 98 ty98 (.node 96 ty96 (.node 95 ty95 (.node 94 ty94 .leaf .leaf) .leaf) (.node 97 ty97 .leaf .leaf)) (.node 100 ty100 (.node 99 ty99 .leaf .leaf) (.node 101 ty101 .leaf .leaf)))) (.node 112 ty112 (.node 107 ty107 (.node 105 ty105 (.node 104 ty104 (.node 103 ty103 .leaf .leaf) .leaf) (.node 106 ty106 .leaf .leaf)) (.node 110 ty110 (.node 109 ty109 (.node 108 ty108 .leaf .leaf) .leaf) (.node 111 ty111 .leaf .leaf))) (.node 119 ty119 (.node 117 ty117 (.node 115 ty115 (.node 114 ty114 .leaf .leaf) .leaf) (.node 118 ty118 .leaf .leaf)) (.node 122 ty122 (.node 120 ty120 .leaf .leaf) (.node 123 ty123 .leaf .leaf))))) (.node 143 ty143 (.node 134 ty134 (.node 129 ty129 (.node 127 ty127 (.node 126 ty126 (.node 125 ty125 .leaf .leaf) .leaf) (.node 128 ty128 .leaf .leaf)) (.node 132 ty132 (.node 131 ty131 (.node 130 ty130 .leaf .leaf) .leaf) (.node 133 ty133 .leaf .leaf))) (.node 139 ty139 (.node 137 ty137 (.node 136 ty136 (.node 135 ty135 .leaf .leaf) .leaf) (.node 138 ty138 .leaf .leaf)) (.node 141 ty141 (.node 140 ty140 .leaf .leaf) (.node 142 ty142 .leaf .leaf)))) (.node 152 ty152 (.node 148 ty148 (.node 146 ty146 (.node 145 ty145 (.node 144 ty144 .leaf .leaf) .leaf) (.node 147 ty147 .leaf .leaf)) (.node 150 ty150 (.node 149 ty149 .leaf .leaf) (.node 151 ty151 .leaf .leaf))) (.node 158 ty158 (.node 156 ty156 (.node 155 ty155 (.node 154 ty154 .leaf .leaf) .leaf) (.node 157 ty157 .leaf .leaf)) (.node 160 ty160 (.node 159 ty159 .leaf .leaf) (.node 161 ty161 .leaf .leaf))))))) (.node 239 ty239 (.node 201 ty201 (.node 181 ty181 (.node 172 ty172 (.node 167 ty167 (.node 165 ty165 (.node 164 ty164 (.node 163 ty163 .leaf .leaf) .leaf) (.node 166 ty166 .leaf .leaf)) (.node 170 ty170 (.node 169 ty169 (.node 168 ty168 .leaf .leaf) .leaf) (.node 171 ty171 .leaf .leaf))) (.node 177 ty177 (.node 175 ty175 (.node 174 ty174 (.node 173 ty173 .leaf .leaf) .leaf) (.node 176 ty176 .leaf .leaf)) (.node 179 ty179 (.node 178 ty178 .leaf .leaf) (.node 180 ty180 .leaf .leaf)))) (.node 191 ty191 (.node 186 ty186 (.node 184 ty184 (.node 183 ty183 (.node 182 ty182 .leaf .leaf) .leaf) (.node 185 ty185 .leaf .leaf)) (.node 189 ty189 (.node 188 ty188 (.node 187 ty187 .leaf .leaf) .leaf) (.node 190 ty190 .leaf .leaf))) (.node 196 ty196 (.node 194 ty194 (.node 193 ty193 (.node 192 ty192 .leaf .leaf) .leaf) (.node 195 ty195 .leaf .leaf)) (.node 198 ty198 (.node 197 ty197 .leaf .leaf) (.node 200 ty200 .leaf .leaf))))) (.node 221 ty221 (.node 211 ty211 (.node 206 ty206 (.node 204 ty204 (.node 203 ty203 (.node 202 ty202 .leaf .leaf) .leaf) (.node 205 ty205 .leaf .leaf)) (.node 209 ty209 (.node 208 ty208 (.node 207 ty207 .leaf .leaf) .leaf) (.node 210 ty210 .leaf .leaf))) (.node 217 ty217 (.node 215 ty215 (.node 214 ty214 (.node 213 ty213 .leaf .leaf) .leaf) (.node 216 ty216 .leaf .leaf)) (.node 219 ty219 (.node 218 ty218 .leaf .leaf) (.node 220 ty220 .leaf .leaf)))) (.node 230 ty230 (.node 226 ty226 (.node 224 ty224 (.node 223 ty223 (.node 222 ty222 .leaf .leaf) .leaf) (.node 225 ty225 .leaf .leaf)) (.node 228 ty228 (.node 227 ty227 .leaf .leaf) (.node 229 ty229 .leaf .leaf))) (.node 235 ty235 (.node 233 ty233 (.node 232 ty232 (.node 231 ty231 .leaf .leaf) .leaf) (.node 234 ty234 .leaf .leaf)) (.node 237 ty237 (.node 236 ty236 .leaf .leaf) (.node 238 ty238 .leaf .leaf)))))) (.node 280 ty280 (.node 260 ty260 (.node 250 ty250 (.node 244 ty244 (.node 242 ty242 (.node 241 ty241 (.node 240 ty240 .leaf .leaf) .leaf) (.node 243 ty243 .leaf .leaf)) (.node 248 ty248 (.node 247 ty247 (.node 245 ty245 .leaf .leaf) .leaf) (.node 249 ty249 .leaf .leaf))) (.node 256 ty256 (.node 254 ty254 (.node 253 ty253 (.node 251 ty251 .leaf .leaf) .leaf) (.node 255 ty255 .leaf .leaf)) (.node 258 ty258 (.node 257 ty257 .leaf .leaf) (.node 259 ty259 .leaf .leaf)))) (.node 270 ty270 (.node 265 ty265 (.node 263 ty263 (.node 262 ty262 (.node 261 ty261 .leaf .leaf) .leaf) (.node 264 ty264 .leaf .leaf)) (.node 268 ty268 (.node 267 ty267 (.node 266 ty266 .leaf .leaf) .leaf) (.node 269 ty269 .leaf .leaf))) (.node 276 ty276 (.node 274 ty274 (.node 273 ty273 (.node 272 ty272 .leaf .leaf) .leaf) (.node 275 ty275 .leaf .leaf)) (.node 278 ty278 (.node 277 ty277 .leaf .leaf) (.node 279 ty279 .leaf .leaf))))) (.node 301 ty301 (.node 290 ty290 (.node 285 ty285 (.node 283 ty283 (.node 282 ty282 (.node 281 ty281 .leaf .leaf) .leaf) (.node 284 ty284 .leaf .leaf)) (.node 288 ty288 (.node 287 ty287 (.node 286 ty286 .leaf .leaf) .leaf) (.node 289 ty289 .leaf .leaf))) (.node 296 ty296 (.node 294 ty294 (.node 293 ty293 (.node 292 ty292 .leaf .leaf) .leaf) (.node 295 ty295 .leaf .leaf)) (.node 299 ty299 (.node 298 ty298 .leaf .leaf) (.node 300 ty300 .leaf .leaf)))) (.node 312 ty312 (.node 306 ty306 (.node 304 ty304 (.node 303 ty303 (.node 302 ty302 .leaf .leaf) .leaf) (.node 305 ty305 .leaf .leaf)) (.node 310 ty310 (.node 307 ty307 .leaf .leaf) (.node 311 ty311 .leaf .leaf))) (.node 317 ty317 (.node 315 ty315 (.node 314 ty314 (.node 313 ty313 .leaf .leaf) .leaf) (.node 316 ty316 .leaf .leaf)) (.node 319 ty319 (.node 318 ty318 .leaf .leaf) (.node 320 ty320 .leaf .leaf))))))))
def tab : Tab:=tabT.get
theorem tyOk1 : TyOk Tryz.prog 1 ty1:=TyOk.mk' (z:=(.nilFunc)) (by kernel_rfl) rfl (fun h=>by cases h) Tryz.underlying1 (.func _ _ _) rfl
theorem tyOk2 : TyOk Tryz.prog 2 ty2:=TyOk.mk' (z:=(.int .i64 0)) (by kernel_rfl) rfl (fun h=>by cases h) Tryz.underlying2 (.int _) rfl
theorem tyOk3 : TyOk Tryz.prog 3 ty3:=TyOk.mk' (z:=(.int .i64 0)) (by kernel_rfl) rfl (fun h=>by cases h) Tryz.underlying3 (.int _) rfl
theorem tyOk4 : TyOk Tryz.prog 4 ty4:=TyOk.mk' (z:=(.bool false)) (by kernel_rfl) rfl (fun h=>by cases h) Tryz.underlying4 (.bool) rfl
theorem tyOk5 : TyOk Tryz.prog 5 ty5:=TyOk.mk' (z:=(.int .u8 0)) (by kernel_rfl) rfl (fun h=>by cases h) Tryz.underlying5 (.int _) rfl
theorem tyOk6 : TyOk Tryz.prog 6 ty6:=TyOk.mk' (z:=(.int .u8 0)) (by kernel_rfl) rfl (fun h=>by cases h) Tryz.underlying6 (.int _) rfl
theorem tyOk7 : TyOk Tryz.prog 7 ty7:=TyOk.mk' (z:=(.agg #[.int .i64 0,.int .i64 0,.bool false,.int .u8 0])) (by kernel_rfl) rfl (fun _=>rfl) Tryz.underlying7 (.struct _ _ rfl) rfl
theorem tyOk8 : TyOk Tryz.prog 8 ty8:=TyOk.mk' (z:=(.agg #[.int .i64 0,.int .i64 0,.bool false,.int .u8 0])) (by kernel_rfl) rfl (fun _=>rfl) Tryz.underlying8 (.struct _ _ rfl) rfl
theorem tyOk12 : TyOk Tryz.prog 12 ty12:=TyOk.mk' (z:=(.int .u64 0)) (by kernel_rfl) rfl (fun h=>by cases h) Tryz.underlying12 (.int _) rfl
theorem tyOk15 : TyOk Tryz.prog 15 ty15:=TyOk.mk' (z:=(.pointer none)) (by kernel_rfl) rfl (fun h=>by cases h) Tryz.underlying15 (.ptr _) rfl
theorem tyOk16 : TyOk Tryz.prog 16 ty16:=TyOk.mk' (z:=(.pointer none)) (by kernel_rfl) rfl (fun h=>by cases h) Tryz.underlying16 (.ptr _) rfl
theorem tyOk17 : TyOk Tryz.prog 17 ty17:=TyOk.mk' (z:=(.pointer none)) (by kernel_rfl) rfl (fun h=>by cases h) Tryz.underlying17 (.ptr _) rfl
theorem tyOk18 : TyOk Tryz.prog 18 ty18:=TyOk.mk' (z:=(.agg #[.pointer none])) (by kernel_rfl) rfl (fun _=>rfl) Tryz.underlying18 (.struct _ _ rfl) rfl
theorem tyOk19 : TyOk Tryz.prog 19 ty19:=TyOk.mk' (z:=(.agg #[.pointer none])) (by kernel_rfl) rfl (fun _=>rfl) Tryz.underlying19 (.struct _ _ rfl) rfl
theorem tyOk20 : TyOk Tryz.prog 20 ty20:=TyOk.mk' (z:=(.nilIface)) (by kernel_rfl) rfl (fun h=>by cases h) Tryz.underlying20 (.iface _) rfl
theorem tyOk21 : TyOk Tryz.prog 21 ty21:=TyOk.mk' (z:=(.int .i32 0)) (by kernel_rfl) rfl (fun h=>by cases h) Tryz.underlying21 (.int _) rfl
theorem tyOk22 : TyOk Tryz.prog 22 ty22:=TyOk.mk' (z:=(.slice none 0 0)) (by kernel_rfl) rfl (fun h=>by cases h) Tryz.underlying22 (.slice _) rfl
theorem tyOk23 : TyOk Tryz.prog 23 ty23:=TyOk.mk' (z:=(.agg #[.int .i64 0,.int .i64 0,.int .i64 0,.int .i64 0,.int .i64 0])) (by kernel_rfl) rfl (fun _=>rfl) Tryz.underlying23 (.struct _ _ rfl) rfl
theorem tyOk24 : TyOk Tryz.prog 24 ty24:=TyOk.mk' (z:=(.agg #[.int .i64 0,.int .i64 0,.int .i64 0,.int .i64 0,.int .i64 0])) (by kernel_rfl) rfl (fun _=>rfl) Tryz.underlying24 (.struct _ _ rfl) rfl
theorem tyOk25 : TyOk Tryz.prog 25 ty25:=TyOk.mk' (z:=(.nilFunc)) (by kernel_rfl) rfl (fun h=>by cases h) Tryz.underlying25 (.func _ _ _) rfl
theorem tyOk26 : TyOk Tryz.prog 26 ty26:=TyOk.mk' (z:=(.pointer none)) (by kernel_rfl) rfl (fun h=>by cases h) Tryz.underlying26 (.ptr _) rfl
theorem tyOk27 : TyOk Tryz.prog 27 ty27:=TyOk.mk' (z:=(.pointer none)) (by kernel_rfl) rfl (fun h=>by cases h) Tryz.underlying27 (.ptr _) rfl
theorem tyOk29 : TyOk Tryz.prog 29 ty29:=TyOk.mk' (z:=(.nilFunc)) (by kernel_rfl) rfl (fun h=>by cases h) Tryz.underlying29 (.func _ _ _) rfl
theorem tyOk30 : TyOk Tryz.prog 30 ty30:=TyOk.mk' (z:=(.nilFunc)) (by kernel_rfl) rfl (fun h=>by cases h) Tryz.underlying30 (.func _ _ _) rfl
theorem tyOk31 : TyOk Tryz.prog 31 ty31:=TyOk.mk' (z:=(.slice none 0 0)) (by kernel_rfl) rfl (fun h=>by cases h) Tryz.underlying31 (.slice _) rfl
theorem tyOk32 : TyOk Tryz.prog 32 ty32:=TyOk.mk' (z:=(.pointer none)) (by kernel_rfl) rfl (fun h=>by cases h) Tryz.underlying32 (.ptr _) rfl
theorem tyOk33 : TyOk Tryz.prog 33 ty33:=TyOk.mk' (z:=(.nilFunc)) (by kernel_rfl) rfl (fun h=>by cases h) Tryz.underlying33 (.func _ _ _) rfl
theorem tyOk34 : TyOk Tryz.prog 34 ty34:=TyOk.mk' (z:=(.nilFunc)) (by kernel_rfl) rfl (fun h=>by cases h) Tryz.underlying34 (.func _ _ _) rfl
theorem tyOk35 : TyOk Tryz.prog 35 ty35:=TyOk.mk' (z:=(.pointer none)) (by kernel_rfl) rfl (fun h=>by cases h) Tryz.underlying35 (.ptr _) rfl
theorem tyOk36 : TyOk Tryz.prog 36 ty36:=TyOk.mk' (z:=(.nilFunc)) (by kernel_rfl) rfl (fun h=>by cases h) Tryz.underlying36 (.func _ _ _) rfl
theorem tyOk37 : TyOk Tryz.prog 37 ty37:=TyOk.mk' (z:=(.nilIface)) (by kernel_rfl) rfl (fun h=>by cases h) Tryz.underlying37 (.iface _) rfl
theorem tyOk38 : TyOk Tryz.prog 38 ty38:=TyOk.mk' (z:=(.nilIface)) (by kernel_rfl) rfl (fun h=>by cases h) Tryz.underlying38 (.iface _) rfl
theorem tyOk39 : TyOk Tryz.prog 39 ty39:=TyOk.mk' (z:=(.agg #[.nilIface,.int .i64 0])) (by kernel_rfl) rfl (fun _=>rfl) Tryz.underlying39 (.struct _ _ rfl) rfl
theorem tyOk40 : TyOk Tryz.prog 40 ty40:=TyOk.mk' (z:=(.agg #[.nilIface,.int .i64 0])) (by kernel_rfl) rfl (fun _=>rfl) Tryz.underlying40 (.struct _ _ rfl) rfl
theorem tyOk41 : TyOk Tryz.prog 41 ty41:=TyOk.mk' (z:=(.nilFunc)) (by kernel_rfl) rfl (fun h=>by cases h) Tryz.underlying41 (.func _ _ _) rfl
theorem tyOk42 : TyOk Tryz.prog 42 ty42:=TyOk.mk' (z:=(.nilFunc)) (by kernel_rfl) rfl (fun h=>by cases h) Tryz.underlying42 (.func _ _ _) rfl
theorem tyOk43 : TyOk Tryz.prog 43 ty43:=TyOk.mk' (z:=(.int .i64 0)) (by kernel_rfl) rfl (fun h=>by cases h) Tryz.underlying43 (.int _) rfl
theorem tyOk44 : TyOk Tryz.prog 44 ty44:=TyOk.mk' (z:=(.slice none 0 0)) (by kernel_rfl) rfl (fun h=>by cases h) Tryz.underlying44 (.slice _) rfl
theorem tyOk45 : TyOk Tryz.prog 45 ty45:=TyOk.mk' (z:=(.agg #[.int .i64 0,.int .i64 0,.bool false,.slice none 0 0])) (by kernel_rfl) rfl (fun _=>rfl) Tryz.underlying45 (.struct _ _ rfl) rfl
theorem tyOk46 : TyOk Tryz.prog 46 ty46:=TyOk.mk' (z:=(.agg #[.int .i64 0,.int .i64 0,.bool false,.slice none 0 0])) (by kernel_rfl) rfl (fun _=>rfl) Tryz.underlying46 (.struct _ _ rfl) rfl
theorem tyOk47 : TyOk Tryz.prog 47 ty47:=TyOk.mk' (z:=(.nilFunc)) (by kernel_rfl) rfl (fun h=>by cases h) Tryz.underlying47 (.func _ _ _) rfl
theorem tyOk48 : TyOk Tryz.prog 48 ty48:=TyOk.mk' (z:=(.nilFunc)) (by kernel_rfl) rfl (fun h=>by cases h) Tryz.underlying48 (.func _ _ _) rfl
theorem tyOk49 : TyOk Tryz.prog 49 ty49:=TyOk.mk' (z:=(.slice none 0 0)) (by kernel_rfl) rfl (fun h=>by cases h) Tryz.underlying49 (.slice _) rfl
theorem tyOk50 : TyOk Tryz.prog 50 ty50:=TyOk.mk' (z:=(.nilFunc)) (by kernel_rfl) rfl (fun h=>by cases h) Tryz.underlying50 (.func _ _ _) rfl
theorem tyOk51 : TyOk Tryz.prog 51 ty51:=TyOk.mk' (z:=(.nilFunc)) (by kernel_rfl) rfl (fun h=>by cases h) Tryz.underlying51 (.func _ _ _) rfl
theorem tyOk52 : TyOk Tryz.prog 52 ty52:=TyOk.mk' (z:=(.nilFunc)) (by kernel_rfl) rfl (fun h=>by cases h) Tryz.underlying52 (.func _ _ _) rfl
theorem tyOk53 : TyOk Tryz.prog 53 ty53:=TyOk.mk' (z:=(.slice none 0 0)) (by kernel_rfl) rfl (fun h=>by cases h) Tryz.underlying53 (.slice _) rfl
theorem tyOk54 : TyOk Tryz.prog 54 ty54:=TyOk.mk' (z:=(.slice none 0 0)) (by kernel_rfl) rfl (fun h=>by cases h) Tryz.underlying54 (.slice _) rfl
theorem tyOk55 : TyOk Tryz.prog 55 ty55:=TyOk.mk' (z:=(.agg #[.slice none 0 0,.slice none 0 0,.int .i64 0])) (by kernel_rfl) rfl (fun _=>rfl) Tryz.underlying55 (.struct _ _ rfl) rfl
theorem tyOk56 : TyOk Tryz.prog 56 ty56:=TyOk.mk' (z:=(.agg #[.slice none 0 0,.slice none 0 0,.int .i64 0])) (by kernel_rfl) rfl (fun _=>rfl) Tryz.underlying56 (.struct _ _ rfl) rfl
theorem tyOk57 : TyOk Tryz.prog 57 ty57:=TyOk.mk' (z:=(.nilFunc)) (by kernel_rfl) rfl (fun h=>by cases h) Tryz.underlying57 (.func _ _ _) rfl
theorem tyOk58 : TyOk Tryz.prog 58 ty58:=TyOk.mk' (z:=(.nilFunc)) (by kernel_rfl) rfl (fun h=>by cases h) Tryz.underlying58 (.func _ _ _) rfl
theorem tyOk59 : TyOk Tryz.prog 59 ty59:=TyOk.mk' (z:=(.slice none 0 0)) (by kernel_rfl) rfl (fun h=>by cases h) Tryz.underlying59 (.slice _) rfl
theorem tyOk60 : TyOk Tryz.prog 60 ty60:=TyOk.mk' (z:=(.agg #[.int .i64 0,.slice none 0 0,.int .i64 0,.slice none 0 0])) (by kernel_rfl) rfl (fun _=>rfl) Tryz.underlying60 (.struct _ _ rfl) rfl
theorem tyOk61 : TyOk Tryz.prog 61 ty61:=TyOk.mk' (z:=(.agg #[.int .i64 0,.slice none 0 0,.int .i64 0,.slice none 0 0])) (by kernel_rfl) rfl (fun _=>rfl) Tryz.underlying61 (.struct _ _ rfl) rfl
theorem tyOk62 : TyOk Tryz.prog 62 ty62:=TyOk.mk' (z:=(.nilFunc)) (by kernel_rfl) rfl (fun h=>by cases h) Tryz.underlying62 (.func _ _ _) rfl
theorem tyOk63 : TyOk Tryz.prog 63 ty63:=TyOk.mk' (z:=(.agg #[.int .i64 0,.int .i64 0,.int .i64 0,.bool false])) (by kernel_rfl) rfl (fun _=>rfl) Tryz.underlying63 (.struct _ _ rfl) rfl
theorem tyOk64 : TyOk Tryz.prog 64 ty64:=TyOk.mk' (z:=(.agg #[.int .i64 0,.int .i64 0,.int .i64 0,.bool false])) (by kernel_rfl) rfl (fun _=>rfl) Tryz.underlying64 (.struct _ _ rfl) rfl
theorem tyOk65 : TyOk Tryz.prog 65 ty65:=TyOk.mk' (z:=(.pointer none)) (by kernel_rfl) rfl (fun h=>by cases h) Tryz.underlying65 (.ptr _) rfl
theorem tyOk66 : TyOk Tryz.prog 66 ty66:=TyOk.mk' (z:=(.nilFunc)) (by kernel_rfl) rfl (fun h=>by cases h) Tryz.underlying66 (.func _ _ _) rfl
theorem tyOk67 : TyOk Tryz.prog 67 ty67:=TyOk.mk' (z:=(.nilFunc)) (by kernel_rfl) rfl (fun h=>by cases h) Tryz.underlying67 (.func _ _ _) rfl
theorem tyOk68 : TyOk Tryz.prog 68 ty68:=TyOk.mk' (z:=(.slice none 0 0)) (by kernel_rfl) rfl (fun h=>by cases h) Tryz.underlying68 (.slice _) rfl
theorem tyOk69 : TyOk Tryz.prog 69 ty69:=TyOk.mk' (z:=(.nilFunc)) (by kernel_rfl) rfl (fun h=>by cases h) Tryz.underlying69 (.func _ _ _) rfl
theorem tyOk70 : TyOk Tryz.prog 70 ty70:=TyOk.mk' (z:=(.nilFunc)) (by kernel_rfl) rfl (fun h=>by cases h) Tryz.underlying70 (.func _ _ _) rfl
theorem tyOk71 : TyOk Tryz.prog 71 ty71:=TyOk.mk' (z:=(.nilFunc)) (by kernel_rfl) rfl (fun h=>by cases h) Tryz.underlying71 (.func _ _ _) rfl
theorem tyOk72 : TyOk Tryz.prog 72 ty72:=TyOk.mk' (z:=(.nilFunc)) (by kernel_rfl) rfl (fun h=>by cases h) Tryz.underlying72 (.func _ _ _) rfl
theorem tyOk74 : TyOk Tryz.prog 74 ty74:=TyOk.mk' (z:=(.nilFunc)) (by kernel_rfl) rfl (fun h=>by cases h) Tryz.underlying74 (.func _ _ _) rfl
theorem tyOk75 : TyOk Tryz.prog 75 ty75:=TyOk.mk' (z:=(.nilFunc)) (by kernel_rfl) rfl (fun h=>by cases h) Tryz.underlying75 (.func _ _ _) rfl
theorem tyOk76 : TyOk Tryz.prog 76 ty76:=TyOk.mk' (z:=(.nilFunc)) (by kernel_rfl) rfl (fun h=>by cases h) Tryz.underlying76 (.func _ _ _) rfl
theorem tyOk77 : TyOk Tryz.prog 77 ty77:=TyOk.mk' (z:=(.slice none 0 0)) (by kernel_rfl) rfl (fun h=>by cases h) Tryz.underlying77 (.slice _) rfl
theorem tyOk78 : TyOk Tryz.prog 78 ty78:=TyOk.mk' (z:=(.slice none 0 0)) (by kernel_rfl) rfl (fun h=>by cases h) Tryz.underlying78 (.slice _) rfl
theorem tyOk79 : TyOk Tryz.prog 79 ty79:=TyOk.mk' (z:=(.slice none 0 0)) (by kernel_rfl) rfl (fun h=>by cases h) Tryz.underlying79 (.slice _) rfl
theorem tyOk80 : TyOk Tryz.prog 80 ty80:=TyOk.mk' (z:=(.pointer none)) (by kernel_rfl) rfl (fun h=>by cases h) Tryz.underlying80 (.ptr _) rfl
theorem tyOk81 : TyOk Tryz.prog 81 ty81:=TyOk.mk' (z:=(.nilFunc)) (by kernel_rfl) rfl (fun h=>by cases h) Tryz.underlying81 (.func _ _ _) rfl
theorem tyOk82 : TyOk Tryz.prog 82 ty82:=TyOk.mk' (z:=(.agg #[.int .i64 0,.int .i64 0])) (by kernel_rfl) rfl (fun _=>rfl) Tryz.underlying82 (.struct _ _ rfl) rfl
theorem tyOk83 : TyOk Tryz.prog 83 ty83:=TyOk.mk' (z:=(.agg #[.int .i64 0,.int .i64 0])) (by kernel_rfl) rfl (fun _=>rfl) Tryz.underlying83 (.struct _ _ rfl) rfl
theorem tyOk84 : TyOk Tryz.prog 84 ty84:=TyOk.mk' (z:=(.agg #[.int .i64 0,.int .i64 0,.int .i64 0,.int .i64 0])) (by kernel_rfl) rfl (fun _=>rfl) Tryz.underlying84 (.struct _ _ rfl) rfl
theorem tyOk85 : TyOk Tryz.prog 85 ty85:=TyOk.mk' (z:=(.agg #[.int .i64 0,.int .i64 0,.int .i64 0,.int .i64 0])) (by kernel_rfl) rfl (fun _=>rfl) Tryz.underlying85 (.struct _ _ rfl) rfl
theorem tyOk87 : TyOk Tryz.prog 87 ty87:=TyOk.mk' (z:=(.nilFunc)) (by kernel_rfl) rfl (fun h=>by cases h) Tryz.underlying87 (.func _ _ _) rfl
theorem tyOk88 : TyOk Tryz.prog 88 ty88:=TyOk.mk' (z:=(.nilFunc)) (by kernel_rfl) rfl (fun h=>by cases h) Tryz.underlying88 (.func _ _ _) rfl
theorem tyOk89 : TyOk Tryz.prog 89 ty89:=TyOk.mk' (z:=(.agg #[.pointer none,.pointer none])) (by kernel_rfl) rfl (fun _=>rfl) Tryz.underlying89 (.array _ _) rfl
theorem tyOk90 : TyOk Tryz.prog 90 ty90:=TyOk.mk' (z:=(.pointer none)) (by kernel_rfl) rfl (fun h=>by cases h) Tryz.underlying90 (.ptr _) rfl
theorem tyOk91 : TyOk Tryz.prog 91 ty91:=TyOk.mk' (z:=(.agg #[.pointer none,.pointer none])) (by kernel_rfl) rfl (fun _=>rfl) Tryz.underlying91 (.array _ _) rfl
theorem tyOk92 : TyOk Tryz.prog 92 ty92:=TyOk.mk' (z:=(.pointer none)) (by kernel_rfl) rfl (fun h=>by cases h) Tryz.underlying92 (.ptr _) rfl
theorem tyOk93 : TyOk Tryz.prog 93 ty93:=TyOk.mk' (z:=(.pointer none)) (by kernel_rfl) rfl (fun h=>by cases h) Tryz.underlying93 (.ptr _) rfl
theorem tyOk94 : TyOk Tryz.prog 94 ty94:=TyOk.mk' (z:=(.pointer none)) (by kernel_rfl) rfl (fun h=>by cases h) Tryz.underlying94 (.ptr _) rfl
theorem tyOk95 : TyOk Tryz.prog 95 ty95:=TyOk.mk' (z:=(.nilFunc)) (by kernel_rfl) rfl (fun h=>by cases h) Tryz.underlying95 (.func _ _ _) rfl
theorem tyOk96 : TyOk Tryz.prog 96 ty96:=TyOk.mk' (z:=(.agg #[.int .i64 0,.int .i64 0,.int .i64 0])) (by kernel_rfl) rfl (fun _=>rfl) Tryz.underlying96 (.struct _ _ rfl) rfl
theorem tyOk97 : TyOk Tryz.prog 97 ty97:=TyOk.mk' (z:=(.agg #[.int .i64 0,.int .i64 0,.int .i64 0])) (by kernel_rfl) rfl (fun _=>rfl) Tryz.underlying97 (.struct _ _ rfl) rfl
theorem tyOk98 : TyOk Tryz.prog 98 ty98:=TyOk.mk' (z:=(.agg #[.pointer none,.int .i64 0,.int .i64 0,.int .i64 0,.int .i64 0,.int .i64 0,.int .i64 0,.int .i64 0,.int .i64 0,.int .i64 0,.int .i64 0,.int .i64 0,.int .i64 0,.slice none 0 0,.slice none 0 0,.int .i64 0,.int .i64 0,.bool false,.slice none 0 0,.bool false,.bool false])) (by kernel_rfl) rfl (fun _=>rfl) Tryz.underlying98 (.struct _ _ rfl) rfl
theorem tyOk99 : TyOk Tryz.prog 99 ty99:=TyOk.mk' (z:=(.agg #[.pointer none,.int .i64 0,.int .i64 0,.int .i64 0,.int .i64 0,.int .i64 0,.int .i64 0,.int .i64 0,.int .i64 0,.int .i64 0,.int .i64 0,.int .i64 0,.int .i64 0,.slice none 0 0,.slice none 0 0,.int .i64 0,.int .i64 0,.bool false,.slice none 0 0,.bool false,.bool false])) (by kernel_rfl) rfl (fun _=>rfl) Tryz.underlying99 (.struct _ _ rfl) rfl
theorem tyOk100 : TyOk Tryz.prog 100 ty100:=TyOk.mk' (z:=(.nilFunc)) (by kernel_rfl) rfl (fun h=>by cases h) Tryz.underlying100 (.func _ _ _) rfl
theorem tyOk101 : TyOk Tryz.prog 101 ty101:=TyOk.mk' (z:=(.nilFunc)) (by kernel_rfl) rfl (fun h=>by cases h) Tryz.underlying101 (.func _ _ _) rfl
theorem tyOk102 : TyOk Tryz.prog 102 ty102:=TyOk.mk' (z:=(.nilFunc)) (by kernel_rfl) rfl (fun h=>by cases h) Tryz.underlying102 (.func _ _ _) rfl
theorem tyOk103 : TyOk Tryz.prog 103 ty103:=TyOk.mk' (z:=(.nilFunc)) (by kernel_rfl) rfl (fun h=>by cases h) Tryz.underlying103 (.func _ _ _) rfl
theorem tyOk104 : TyOk Tryz.prog 104 ty104:=TyOk.mk' (z:=(.nilFunc)) (by kernel_rfl) rfl (fun h=>by cases h) Tryz.underlying104 (.func _ _ _) rfl
theorem tyOk105 : TyOk Tryz.prog 105 ty105:=TyOk.mk' (z:=(.agg #[.pointer none,.pointer none,.pointer none,.pointer none])) (by kernel_rfl) rfl (fun _=>rfl) Tryz.underlying105 (.array _ _) rfl
theorem tyOk106 : TyOk Tryz.prog 106 ty106:=TyOk.mk' (z:=(.pointer none)) (by kernel_rfl) rfl (fun h=>by cases h) Tryz.underlying106 (.ptr _) rfl
theorem tyOk107 : TyOk Tryz.prog 107 ty107:=TyOk.mk' (z:=(.agg #[.pointer none,.pointer none,.pointer none,.pointer none])) (by kernel_rfl) rfl (fun _=>rfl) Tryz.underlying107 (.array _ _) rfl
theorem tyOk108 : TyOk Tryz.prog 108 ty108:=TyOk.mk' (z:=(.nilFunc)) (by kernel_rfl) rfl (fun h=>by cases h) Tryz.underlying108 (.func _ _ _) rfl
theorem tyOk109 : TyOk Tryz.prog 109 ty109:=TyOk.mk' (z:=(.agg #[.int .i64 0,.pointer none,.pointer none,.pointer none,.bool false,.int .i64 0])) (by kernel_rfl) rfl (fun _=>rfl) Tryz.underlying109 (.struct _ _ rfl) rfl
theorem tyOk110 : TyOk Tryz.prog 110 ty110:=TyOk.mk' (z:=(.agg #[.int .i64 0,.pointer none,.pointer none,.pointer none,.bool false,.int .i64 0])) (by kernel_rfl) rfl (fun _=>rfl) Tryz.underlying110 (.struct _ _ rfl) rfl
theorem tyOk111 : TyOk Tryz.prog 111 ty111:=TyOk.mk' (z:=(.nilFunc)) (by kernel_rfl) rfl (fun h=>by cases h) Tryz.underlying111 (.func _ _ _) rfl
theorem tyOk112 : TyOk Tryz.prog 112 ty112:=TyOk.mk' (z:=(.nilFunc)) (by kernel_rfl) rfl (fun h=>by cases h) Tryz.underlying112 (.func _ _ _) rfl
theorem tyOk114 : TyOk Tryz.prog 114 ty114:=TyOk.mk' (z:=(.nilFunc)) (by kernel_rfl) rfl (fun h=>by cases h) Tryz.underlying114 (.func _ _ _) rfl
theorem tyOk115 : TyOk Tryz.prog 115 ty115:=TyOk.mk' (z:=(.nilFunc)) (by kernel_rfl) rfl (fun h=>by cases h) Tryz.underlying115 (.func _ _ _) rfl
theorem tyOk117 : TyOk Tryz.prog 117 ty117:=TyOk.mk' (z:=(.nilFunc)) (by kernel_rfl) rfl (fun h=>by cases h) Tryz.underlying117 (.func _ _ _) rfl
theorem tyOk118 : TyOk Tryz.prog 118 ty118:=TyOk.mk' (z:=(.nilFunc)) (by kernel_rfl) rfl (fun h=>by cases h) Tryz.underlying118 (.func _ _ _) rfl
theorem tyOk119 : TyOk Tryz.prog 119 ty119:=TyOk.mk' (z:=(.nilFunc)) (by kernel_rfl) rfl (fun h=>by cases h) Tryz.underlying119 (.func _ _ _) rfl
theorem tyOk120 : TyOk Tryz.prog 120 ty120:=TyOk.mk' (z:=(.nilFunc)) (by kernel_rfl) rfl (fun h=>by cases h) Tryz.underlying120 (.func _ _ _) rfl
theorem tyOk122 : TyOk Tryz.prog 122 ty122:=TyOk.mk' (z:=(.pointer none)) (by kernel_rfl) rfl (fun h=>by cases h) Tryz.underlying122 (.ptr _) rfl
theorem tyOk123 : TyOk Tryz.prog 123 ty123:=TyOk.mk' (z:=(.slice none 0 0)) (by kernel_rfl) rfl (fun h=>by cases h) Tryz.underlying123 (.slice _) rfl
theorem tyOk124 : TyOk Tryz.prog 124 ty124:=TyOk.mk' (z:=(.agg #[.int .i64 0,.slice none 0 0,.slice none 0 0,.slice none 0 0,.int .i64 0,.int .i64 0])) (by kernel_rfl) rfl (fun _=>rfl) Tryz.underlying124 (.struct _ _ rfl) rfl
theorem tyOk125 : TyOk Tryz.prog 125 ty125:=TyOk.mk' (z:=(.agg #[.int .i64 0,.slice none 0 0,.slice none 0 0,.slice none 0 0,.int .i64 0,.int .i64 0])) (by kernel_rfl) rfl (fun _=>rfl) Tryz.underlying125 (.struct _ _ rfl) rfl
theorem tyOk126 : TyOk Tryz.prog 126 ty126:=TyOk.mk' (z:=(.agg #[.pointer none,.slice none 0 0,.slice none 0 0,.int .i64 0,.int .i64 0,.slice none 0 0,.slice none 0 0,.slice none 0 0,.int .i64 0,.int .i64 0])) (by kernel_rfl) rfl (fun _=>rfl) Tryz.underlying126 (.struct _ _ rfl) rfl
theorem tyOk127 : TyOk Tryz.prog 127 ty127:=TyOk.mk' (z:=(.agg #[.pointer none,.slice none 0 0,.slice none 0 0,.int .i64 0,.int .i64 0,.slice none 0 0,.slice none 0 0,.slice none 0 0,.int .i64 0,.int .i64 0])) (by kernel_rfl) rfl (fun _=>rfl) Tryz.underlying127 (.struct _ _ rfl) rfl
theorem tyOk128 : TyOk Tryz.prog 128 ty128:=TyOk.mk' (z:=(.nilFunc)) (by kernel_rfl) rfl (fun h=>by cases h) Tryz.underlying128 (.func _ _ _) rfl
theorem tyOk129 : TyOk Tryz.prog 129 ty129:=TyOk.mk' (z:=(.agg #[.int .i64 0,.int .i64 0,.int .i64 0,.int .i64 0,.int .i64 0])) (by kernel_rfl) rfl (fun _=>rfl) Tryz.underlying129 (.struct _ _ rfl) rfl
theorem tyOk130 : TyOk Tryz.prog 130 ty130:=TyOk.mk' (z:=(.agg #[.int .i64 0,.int .i64 0,.int .i64 0,.int .i64 0,.int .i64 0])) (by kernel_rfl) rfl (fun _=>rfl) Tryz.underlying130 (.struct _ _ rfl) rfl
theorem tyOk131 : TyOk Tryz.prog 131 ty131:=TyOk.mk' (z:=(.nilFunc)) (by kernel_rfl) rfl (fun h=>by cases h) Tryz.underlying131 (.func _ _ _) rfl
theorem tyOk132 : TyOk Tryz.prog 132 ty132:=TyOk.mk' (z:=(.int .u64 0)) (by kernel_rfl) rfl (fun h=>by cases h) Tryz.underlying132 (.int _) rfl
theorem tyOk133 : TyOk Tryz.prog 133 ty133:=TyOk.mk' (z:=(.agg #[.int .u8 0,.int .u64 0,.bool false])) (by kernel_rfl) rfl (fun _=>rfl) Tryz.underlying133 (.struct _ _ rfl) rfl
theorem tyOk134 : TyOk Tryz.prog 134 ty134:=TyOk.mk' (z:=(.agg #[.int .u8 0,.int .u64 0,.bool false])) (by kernel_rfl) rfl (fun _=>rfl) Tryz.underlying134 (.struct _ _ rfl) rfl
theorem tyOk135 : TyOk Tryz.prog 135 ty135:=TyOk.mk' (z:=(.nilFunc)) (by kernel_rfl) rfl (fun h=>by cases h) Tryz.underlying135 (.func _ _ _) rfl
theorem tyOk136 : TyOk Tryz.prog 136 ty136:=TyOk.mk' (z:=(.nilFunc)) (by kernel_rfl) rfl (fun h=>by cases h) Tryz.underlying136 (.func _ _ _) rfl
theorem tyOk137 : TyOk Tryz.prog 137 ty137:=TyOk.mk' (z:=(.agg #[.pointer none,.slice none 0 0,.slice none 0 0,.int .i64 0,.int .i64 0,.slice none 0 0,.slice none 0 0,.slice none 0 0,.int .i64 0,.int .i64 0])) (by kernel_rfl) rfl (fun _=>rfl) Tryz.underlying137 (.struct _ _ rfl) rfl
theorem tyOk138 : TyOk Tryz.prog 138 ty138:=TyOk.mk' (z:=(.agg #[.pointer none,.slice none 0 0,.slice none 0 0,.int .i64 0,.int .i64 0,.slice none 0 0,.slice none 0 0,.slice none 0 0,.int .i64 0,.int .i64 0])) (by kernel_rfl) rfl (fun _=>rfl) Tryz.underlying138 (.struct _ _ rfl) rfl
theorem tyOk139 : TyOk Tryz.prog 139 ty139:=TyOk.mk' (z:=(.nilFunc)) (by kernel_rfl) rfl (fun h=>by cases h) Tryz.underlying139 (.func _ _ _) rfl
theorem tyOk140 : TyOk Tryz.prog 140 ty140:=TyOk.mk' (z:=(.agg #[.int .i64 0,.int .i64 0,.int .i64 0,.int .i64 0,.int .i64 0,.bool false])) (by kernel_rfl) rfl (fun _=>rfl) Tryz.underlying140 (.struct _ _ rfl) rfl
theorem tyOk141 : TyOk Tryz.prog 141 ty141:=TyOk.mk' (z:=(.agg #[.int .i64 0,.int .i64 0,.int .i64 0,.int .i64 0,.int .i64 0,.bool false])) (by kernel_rfl) rfl (fun _=>rfl) Tryz.underlying141 (.struct _ _ rfl) rfl
theorem tyOk142 : TyOk Tryz.prog 142 ty142:=TyOk.mk' (z:=(.agg #[.slice none 0 0,.int .i64 0])) (by kernel_rfl) rfl (fun _=>rfl) Tryz.underlying142 (.struct _ _ rfl) rfl
theorem tyOk143 : TyOk Tryz.prog 143 ty143:=TyOk.mk' (z:=(.agg #[.slice none 0 0,.int .i64 0])) (by kernel_rfl) rfl (fun _=>rfl) Tryz.underlying143 (.struct _ _ rfl) rfl
theorem tyOk144 : TyOk Tryz.prog 144 ty144:=TyOk.mk' (z:=(.agg #[.slice none 0 0])) (by kernel_rfl) rfl (fun _=>rfl) Tryz.underlying144 (.struct _ _ rfl) rfl
theorem tyOk145 : TyOk Tryz.prog 145 ty145:=TyOk.mk' (z:=(.agg #[.slice none 0 0])) (by kernel_rfl) rfl (fun _=>rfl) Tryz.underlying145 (.struct _ _ rfl) rfl
theorem tyOk146 : TyOk Tryz.prog 146 ty146:=TyOk.mk' (z:=(.slice none 0 0)) (by kernel_rfl) rfl (fun h=>by cases h) Tryz.underlying146 (.slice _) rfl
theorem tyOk147 : TyOk Tryz.prog 147 ty147:=TyOk.mk' (z:=(.agg #[.slice none 0 0])) (by kernel_rfl) rfl (fun _=>rfl) Tryz.underlying147 (.struct _ _ rfl) rfl
theorem tyOk148 : TyOk Tryz.prog 148 ty148:=TyOk.mk' (z:=(.agg #[.slice none 0 0])) (by kernel_rfl) rfl (fun _=>rfl) Tryz.underlying148 (.struct _ _ rfl) rfl
theorem tyOk149 : TyOk Tryz.prog 149 ty149:=TyOk.mk' (z:=(.agg #[.slice none 0 0,.int .i64 0,.slice none 0 0,.slice none 0 0])) (by kernel_rfl) rfl (fun _=>rfl) Tryz.underlying149 (.struct _ _ rfl) rfl
theorem tyOk150 : TyOk Tryz.prog 150 ty150:=TyOk.mk' (z:=(.agg #[.slice none 0 0,.int .i64 0,.slice none 0 0,.slice none 0 0])) (by kernel_rfl) rfl (fun _=>rfl) Tryz.underlying150 (.struct _ _ rfl) rfl
theorem tyOk151 : TyOk Tryz.prog 151 ty151:=TyOk.mk' (z:=(.nilFunc)) (by kernel_rfl) rfl (fun h=>by cases h) Tryz.underlying151 (.func _ _ _) rfl
theorem tyOk152 : TyOk Tryz.prog 152 ty152:=TyOk.mk' (z:=(.map none)) (by kernel_rfl) rfl (fun h=>by cases h) Tryz.underlying152 (.map _ _) rfl
theorem tyOk154 : TyOk Tryz.prog 154 ty154:=TyOk.mk' (z:=(.pointer none)) (by kernel_rfl) rfl (fun h=>by cases h) Tryz.underlying154 (.ptr _) rfl
theorem tyOk155 : TyOk Tryz.prog 155 ty155:=TyOk.mk' (z:=(.bool false)) (by kernel_rfl) rfl (fun h=>by cases h) Tryz.underlying155 (.bool) rfl
theorem tyOk156 : TyOk Tryz.prog 156 ty156:=TyOk.mk' (z:=(.nilFunc)) (by kernel_rfl) rfl (fun h=>by cases h) Tryz.underlying156 (.func _ _ _) rfl
theorem tyOk157 : TyOk Tryz.prog 157 ty157:=TyOk.mk' (z:=(.nilFunc)) (by kernel_rfl) rfl (fun h=>by cases h) Tryz.underlying157 (.func _ _ _) rfl
theorem tyOk158 : TyOk Tryz.prog 158 ty158:=TyOk.mk' (z:=(.nilFunc)) (by kernel_rfl) rfl (fun h=>by cases h) Tryz.underlying158 (.func _ _ _) rfl
theorem tyOk159 : TyOk Tryz.prog 159 ty159:=TyOk.mk' (z:=(.nilFunc)) (by kernel_rfl) rfl (fun h=>by cases h) Tryz.underlying159 (.func _ _ _) rfl
theorem tyOk160 : TyOk Tryz.prog 160 ty160:=TyOk.mk' (z:=(.agg #[.pointer none,.int .i64 0,.int .i64 0,.int .i64 0,.int .i64 0,.int .i64 0,.int .i64 0,.int .i64 0,.bool false,.int .i64 0,.int .i64 0,.int .i64 0,.int .i64 0,.bool false,.slice none 0 0,.slice none 0 0,.int .i64 0,.int .i64 0,.bool false,.slice none 0 0,.bool false,.bool false])) (by kernel_rfl) rfl (fun _=>rfl) Tryz.underlying160 (.struct _ _ rfl) rfl
theorem tyOk161 : TyOk Tryz.prog 161 ty161:=TyOk.mk' (z:=(.agg #[.pointer none,.int .i64 0,.int .i64 0,.int .i64 0,.int .i64 0,.int .i64 0,.int .i64 0,.int .i64 0,.bool false,.int .i64 0,.int .i64 0,.int .i64 0,.int .i64 0,.bool false,.slice none 0 0,.slice none 0 0,.int .i64 0,.int .i64 0,.bool false,.slice none 0 0,.bool false,.bool false])) (by kernel_rfl) rfl (fun _=>rfl) Tryz.underlying161 (.struct _ _ rfl) rfl
theorem tyOk162 : TyOk Tryz.prog 162 ty162:=TyOk.mk' (z:=(.nilFunc)) (by kernel_rfl) rfl (fun h=>by cases h) Tryz.underlying162 (.func _ _ _) rfl
theorem tyOk163 : TyOk Tryz.prog 163 ty163:=TyOk.mk' (z:=(.slice none 0 0)) (by kernel_rfl) rfl (fun h=>by cases h) Tryz.underlying163 (.slice _) rfl
theorem tyOk164 : TyOk Tryz.prog 164 ty164:=TyOk.mk' (z:=(.agg #[.int .i64 0,.int .i64 0,.int .i64 0,.slice none 0 0])) (by kernel_rfl) rfl (fun _=>rfl) Tryz.underlying164 (.struct _ _ rfl) rfl
theorem tyOk165 : TyOk Tryz.prog 165 ty165:=TyOk.mk' (z:=(.agg #[.int .i64 0,.int .i64 0,.int .i64 0,.slice none 0 0])) (by kernel_rfl) rfl (fun _=>rfl) Tryz.underlying165 (.struct _ _ rfl) rfl
theorem tyOk166 : TyOk Tryz.prog 166 ty166:=TyOk.mk' (z:=(.nilFunc)) (by kernel_rfl) rfl (fun h=>by cases h) Tryz.underlying166 (.func _ _ _) rfl
theorem tyOk167 : TyOk Tryz.prog 167 ty167:=TyOk.mk' (z:=(.nilFunc)) (by kernel_rfl) rfl (fun h=>by cases h) Tryz.underlying167 (.func _ _ _) rfl
theorem tyOk168 : TyOk Tryz.prog 168 ty168:=TyOk.mk' (z:=(.agg #[.int .i64 0,.int .i64 0,.int .i64 0,.int .i64 0])) (by kernel_rfl) rfl (fun _=>rfl) Tryz.underlying168 (.array _ _) rfl
theorem tyOk169 : TyOk Tryz.prog 169 ty169:=TyOk.mk' (z:=(.nilFunc)) (by kernel_rfl) rfl (fun h=>by cases h) Tryz.underlying169 (.func _ _ _) rfl
theorem tyOk170 : TyOk Tryz.prog 170 ty170:=TyOk.mk' (z:=(.nilFunc)) (by kernel_rfl) rfl (fun h=>by cases h) Tryz.underlying170 (.func _ _ _) rfl
theorem tyOk171 : TyOk Tryz.prog 171 ty171:=TyOk.mk' (z:=(.nilFunc)) (by kernel_rfl) rfl (fun h=>by cases h) Tryz.underlying171 (.func _ _ _) rfl
theorem tyOk172 : TyOk Tryz.prog 172 ty172:=TyOk.mk' (z:=(.int .i64 0)) (by kernel_rfl) rfl (fun h=>by cases h) Tryz.underlying172 (.int _) rfl
theorem tyOk173 : TyOk Tryz.prog 173 ty173:=TyOk.mk' (z:=(.int .i64 0)) (by kernel_rfl) rfl (fun h=>by cases h) Tryz.underlying173 (.int _) rfl
theorem tyOk174 : TyOk Tryz.prog 174 ty174:=TyOk.mk' (z:=(.agg #[.pointer none,.int .i64 0,.int .i64 0,.int .i64 0,.int .i64 0,.int .i64 0,.int .i64 0,.bool false,.slice none 0 0,.bool false])) (by kernel_rfl) rfl (fun _=>rfl) Tryz.underlying174 (.struct _ _ rfl) rfl
theorem tyOk175 : TyOk Tryz.prog 175 ty175:=TyOk.mk' (z:=(.agg #[.pointer none,.int .i64 0,.int .i64 0,.int .i64 0,.int .i64 0,.int .i64 0,.int .i64 0,.bool false,.slice none 0 0,.bool false])) (by kernel_rfl) rfl (fun _=>rfl) Tryz.underlying175 (.struct _ _ rfl) rfl
theorem tyOk176 : TyOk Tryz.prog 176 ty176:=TyOk.mk' (z:=(.nilFunc)) (by kernel_rfl) rfl (fun h=>by cases h) Tryz.underlying176 (.func _ _ _) rfl
theorem tyOk177 : TyOk Tryz.prog 177 ty177:=TyOk.mk' (z:=(.nilFunc)) (by kernel_rfl) rfl (fun h=>by cases h) Tryz.underlying177 (.func _ _ _) rfl
theorem tyOk178 : TyOk Tryz.prog 178 ty178:=TyOk.mk' (z:=(.nilFunc)) (by kernel_rfl) rfl (fun h=>by cases h) Tryz.underlying178 (.func _ _ _) rfl
theorem tyOk179 : TyOk Tryz.prog 179 ty179:=TyOk.mk' (z:=(.nilFunc)) (by kernel_rfl) rfl (fun h=>by cases h) Tryz.underlying179 (.func _ _ _) rfl
theorem tyOk180 : TyOk Tryz.prog 180 ty180:=TyOk.mk' (z:=(.nilFunc)) (by kernel_rfl) rfl (fun h=>by cases h) Tryz.underlying180 (.func _ _ _) rfl
theorem tyOk181 : TyOk Tryz.prog 181 ty181:=TyOk.mk' (z:=(.agg #[.pointer none,.int .i64 0,.int .i64 0,.nilFunc,.slice none 0 0,.nilFunc,.int .i64 0,.int .i64 0,.bool false,.slice none 0 0,.int .i64 0,.int .i64 0,.bool false,.slice none 0 0,.bool false,.bool false])) (by kernel_rfl) rfl (fun _=>rfl) Tryz.underlying181 (.struct _ _ rfl) rfl
theorem tyOk182 : TyOk Tryz.prog 182 ty182:=TyOk.mk' (z:=(.agg #[.pointer none,.int .i64 0,.int .i64 0,.nilFunc,.slice none 0 0,.nilFunc,.int .i64 0,.int .i64 0,.bool false,.slice none 0 0,.int .i64 0,.int .i64 0,.bool false,.slice none 0 0,.bool false,.bool false])) (by kernel_rfl) rfl (fun _=>rfl) Tryz.underlying182 (.struct _ _ rfl) rfl
theorem tyOk183 : TyOk Tryz.prog 183 ty183:=TyOk.mk' (z:=(.agg #[.bool false,.bool false,.bool false])) (by kernel_rfl) rfl (fun _=>rfl) Tryz.underlying183 (.array _ _) rfl
theorem tyOk184 : TyOk Tryz.prog 184 ty184:=TyOk.mk' (z:=(.agg #[.pointer none,.int .i64 0,.int .i64 0,.int .i64 0,.int .i64 0,.int .i64 0,.int .i64 0,.int .i64 0,.bool false,.bool false,.bool false,.int .i64 0,.int .i64 0,.bool false,.slice none 0 0,.bool false,.bool false,.bool false,.bool false,.bool false])) (by kernel_rfl) rfl (fun _=>rfl) Tryz.underlying184 (.struct _ _ rfl) rfl
theorem tyOk185 : TyOk Tryz.prog 185 ty185:=TyOk.mk' (z:=(.agg #[.pointer none,.int .i64 0,.int .i64 0,.int .i64 0,.int .i64 0,.int .i64 0,.int .i64 0,.int .i64 0,.bool false,.bool false,.bool false,.int .i64 0,.int .i64 0,.bool false,.slice none 0 0,.bool false,.bool false,.bool false,.bool false,.bool false])) (by kernel_rfl) rfl (fun _=>rfl) Tryz.underlying185 (.struct _ _ rfl) rfl
theorem tyOk186 : TyOk Tryz.prog 186 ty186:=TyOk.mk' (z:=(.nilFunc)) (by kernel_rfl) rfl (fun h=>by cases h) Tryz.underlying186 (.func _ _ _) rfl
theorem tyOk187 : TyOk Tryz.prog 187 ty187:=TyOk.mk' (z:=(.agg #[.pointer none,.int .i64 0,.int .i64 0,.int .i64 0,.int .i64 0,.int .i64 0,.int .i64 0,.bool false,.int .i64 0,.int .i64 0,.int .i64 0,.bool false,.slice none 0 0,.bool false,.bool false])) (by kernel_rfl) rfl (fun _=>rfl) Tryz.underlying187 (.struct _ _ rfl) rfl
theorem tyOk188 : TyOk Tryz.prog 188 ty188:=TyOk.mk' (z:=(.agg #[.pointer none,.int .i64 0,.int .i64 0,.int .i64 0,.int .i64 0,.int .i64 0,.int .i64 0,.bool false,.int .i64 0,.int .i64 0,.int .i64 0,.bool false,.slice none 0 0,.bool false,.bool false])) (by kernel_rfl) rfl (fun _=>rfl) Tryz.underlying188 (.struct _ _ rfl) rfl
theorem tyOk189 : TyOk Tryz.prog 189 ty189:=TyOk.mk' (z:=(.nilFunc)) (by kernel_rfl) rfl (fun h=>by cases h) Tryz.underlying189 (.func _ _ _) rfl
theorem tyOk190 : TyOk Tryz.prog 190 ty190:=TyOk.mk' (z:=(.nilFunc)) (by kernel_rfl) rfl (fun h=>by cases h) Tryz.underlying190 (.func _ _ _) rfl
theorem tyOk191 : TyOk Tryz.prog 191 ty191:=TyOk.mk' (z:=(.nilFunc)) (by kernel_rfl) rfl (fun h=>by cases h) Tryz.underlying191 (.func _ _ _) rfl
theorem tyOk192 : TyOk Tryz.prog 192 ty192:=TyOk.mk' (z:=(.nilFunc)) (by kernel_rfl) rfl (fun h=>by cases h) Tryz.underlying192 (.func _ _ _) rfl
theorem tyOk193 : TyOk Tryz.prog 193 ty193:=TyOk.mk' (z:=(.agg #[.slice none 0 0,.slice none 0 0,.slice none 0 0,.int .i64 0])) (by kernel_rfl) rfl (fun _=>rfl) Tryz.underlying193 (.struct _ _ rfl) rfl
theorem tyOk194 : TyOk Tryz.prog 194 ty194:=TyOk.mk' (z:=(.agg #[.slice none 0 0,.slice none 0 0,.slice none 0 0,.int .i64 0])) (by kernel_rfl) rfl (fun _=>rfl) Tryz.underlying194 (.struct _ _ rfl) rfl
theorem tyOk195 : TyOk Tryz.prog 195 ty195:=TyOk.mk' (z:=(.pointer none)) (by kernel_rfl) rfl (fun h=>by cases h) Tryz.underlying195 (.ptr _) rfl
theorem tyOk196 : TyOk Tryz.prog 196 ty196:=TyOk.mk' (z:=(.nilFunc)) (by kernel_rfl) rfl (fun h=>by cases h) Tryz.underlying196 (.func _ _ _) rfl
theorem tyOk197 : TyOk Tryz.prog 197 ty197:=TyOk.mk' (z:=(.agg #[.bool false,.int .i64 0])) (by kernel_rfl) rfl (fun _=>rfl) Tryz.underlying197 (.struct _ _ rfl) rfl
theorem tyOk198 : TyOk Tryz.prog 198 ty198:=TyOk.mk' (z:=(.agg #[.bool false,.int .i64 0])) (by kernel_rfl) rfl (fun _=>rfl) Tryz.underlying198 (.struct _ _ rfl) rfl
theorem tyOk200 : TyOk Tryz.prog 200 ty200:=TyOk.mk' (z:=(.nilFunc)) (by kernel_rfl) rfl (fun h=>by cases h) Tryz.underlying200 (.func _ _ _) rfl
theorem tyOk201 : TyOk Tryz.prog 201 ty201:=TyOk.mk' (z:=(.nilFunc)) (by kernel_rfl) rfl (fun h=>by cases h) Tryz.underlying201 (.func _ _ _) rfl
theorem tyOk202 : TyOk Tryz.prog 202 ty202:=TyOk.mk' (z:=(.nilFunc)) (by kernel_rfl) rfl (fun h=>by cases h) Tryz.underlying202 (.func _ _ _) rfl
theorem tyOk203 : TyOk Tryz.prog 203 ty203:=TyOk.mk' (z:=(.nilFunc)) (by kernel_rfl) rfl (fun h=>by cases h) Tryz.underlying203 (.func _ _ _) rfl
theorem tyOk204 : TyOk Tryz.prog 204 ty204:=TyOk.mk' (z:=(.nilFunc)) (by kernel_rfl) rfl (fun h=>by cases h) Tryz.underlying204 (.func _ _ _) rfl
theorem tyOk205 : TyOk Tryz.prog 205 ty205:=TyOk.mk' (z:=(.nilFunc)) (by kernel_rfl) rfl (fun h=>by cases h) Tryz.underlying205 (.func _ _ _) rfl
theorem tyOk206 : TyOk Tryz.prog 206 ty206:=TyOk.mk' (z:=(.nilFunc)) (by kernel_rfl) rfl (fun h=>by cases h) Tryz.underlying206 (.func _ _ _) rfl
theorem tyOk207 : TyOk Tryz.prog 207 ty207:=TyOk.mk' (z:=(.nilFunc)) (by kernel_rfl) rfl (fun h=>by cases h) Tryz.underlying207 (.func _ _ _) rfl
theorem tyOk208 : TyOk Tryz.prog 208 ty208:=TyOk.mk' (z:=(.nilFunc)) (by kernel_rfl) rfl (fun h=>by cases h) Tryz.underlying208 (.func _ _ _) rfl
theorem tyOk209 : TyOk Tryz.prog 209 ty209:=TyOk.mk' (z:=(.nilFunc)) (by kernel_rfl) rfl (fun h=>by cases h) Tryz.underlying209 (.func _ _ _) rfl
theorem tyOk210 : TyOk Tryz.prog 210 ty210:=TyOk.mk' (z:=(.nilFunc)) (by kernel_rfl) rfl (fun h=>by cases h) Tryz.underlying210 (.func _ _ _) rfl
theorem tyOk211 : TyOk Tryz.prog 211 ty211:=TyOk.mk' (z:=(.nilFunc)) (by kernel_rfl) rfl (fun h=>by cases h) Tryz.underlying211 (.func _ _ _) rfl
theorem tyOk213 : TyOk Tryz.prog 213 ty213:=TyOk.mk' (z:=(.nilFunc)) (by kernel_rfl) rfl (fun h=>by cases h) Tryz.underlying213 (.func _ _ _) rfl
theorem tyOk214 : TyOk Tryz.prog 214 ty214:=TyOk.mk' (z:=(.nilFunc)) (by kernel_rfl) rfl (fun h=>by cases h) Tryz.underlying214 (.func _ _ _) rfl
theorem tyOk215 : TyOk Tryz.prog 215 ty215:=TyOk.mk' (z:=(.nilFunc)) (by kernel_rfl) rfl (fun h=>by cases h) Tryz.underlying215 (.func _ _ _) rfl
theorem tyOk216 : TyOk Tryz.prog 216 ty216:=TyOk.mk' (z:=(.nilFunc)) (by kernel_rfl) rfl (fun h=>by cases h) Tryz.underlying216 (.func _ _ _) rfl
theorem tyOk217 : TyOk Tryz.prog 217 ty217:=TyOk.mk' (z:=(.pointer none)) (by kernel_rfl) rfl (fun h=>by cases h) Tryz.underlying217 (.ptr _) rfl
theorem tyOk218 : TyOk Tryz.prog 218 ty218:=TyOk.mk' (z:=(.nilFunc)) (by kernel_rfl) rfl (fun h=>by cases h) Tryz.underlying218 (.func _ _ _) rfl
theorem tyOk219 : TyOk Tryz.prog 219 ty219:=TyOk.mk' (z:=(.int .i64 0)) (by kernel_rfl) rfl (fun h=>by cases h) Tryz.underlying219 (.int _) rfl
theorem tyOk220 : TyOk Tryz.prog 220 ty220:=TyOk.mk' (z:=(.nilFunc)) (by kernel_rfl) rfl (fun h=>by cases h) Tryz.underlying220 (.func _ _ _) rfl
theorem tyOk221 : TyOk Tryz.prog 221 ty221:=TyOk.mk' (z:=(.nilFunc)) (by kernel_rfl) rfl (fun h=>by cases h) Tryz.underlying221 (.func _ _ _) rfl
theorem tyOk222 : TyOk Tryz.prog 222 ty222:=TyOk.mk' (z:=(.nilFunc)) (by kernel_rfl) rfl (fun h=>by cases h) Tryz.underlying222 (.func _ _ _) rfl
theorem tyOk223 : TyOk Tryz.prog 223 ty223:=TyOk.mk' (z:=(.int .u64 0)) (by kernel_rfl) rfl (fun h=>by cases h) Tryz.underlying223 (.int _) rfl
theorem tyOk224 : TyOk Tryz.prog 224 ty224:=TyOk.mk' (z:=(.nilFunc)) (by kernel_rfl) rfl (fun h=>by cases h) Tryz.underlying224 (.func _ _ _) rfl
theorem tyOk225 : TyOk Tryz.prog 225 ty225:=TyOk.mk' (z:=(.nilFunc)) (by kernel_rfl) rfl (fun h=>by cases h) Tryz.underlying225 (.func _ _ _) rfl
theorem tyOk226 : TyOk Tryz.prog 226 ty226:=TyOk.mk' (z:=(.nilFunc)) (by kernel_rfl) rfl (fun h=>by cases h) Tryz.underlying226 (.func _ _ _) rfl
theorem tyOk227 : TyOk Tryz.prog 227 ty227:=TyOk.mk' (z:=(.nilFunc)) (by kernel_rfl) rfl (fun h=>by cases h) Tryz.underlying227 (.func _ _ _) rfl
theorem tyOk228 : TyOk Tryz.prog 228 ty228:=TyOk.mk' (z:=(.nilFunc)) (by kernel_rfl) rfl (fun h=>by cases h) Tryz.underlying228 (.func _ _ _) rfl
theorem tyOk229 : TyOk Tryz.prog 229 ty229:=TyOk.mk' (z:=(.nilFunc)) (by kernel_rfl) rfl (fun h=>by cases h) Tryz.underlying229 (.func _ _ _) rfl
theorem tyOk230 : TyOk Tryz.prog 230 ty230:=TyOk.mk' (z:=(.nilFunc)) (by kernel_rfl) rfl (fun h=>by cases h) Tryz.underlying230 (.func _ _ _) rfl
theorem tyOk231 : TyOk Tryz.prog 231 ty231:=TyOk.mk' (z:=(.nilFunc)) (by kernel_rfl) rfl (fun h=>by cases h) Tryz.underlying231 (.func _ _ _) rfl
theorem tyOk232 : TyOk Tryz.prog 232 ty232:=TyOk.mk' (z:=(.pointer none)) (by kernel_rfl) rfl (fun h=>by cases h) Tryz.underlying232 (.ptr _) rfl
theorem tyOk233 : TyOk Tryz.prog 233 ty233:=TyOk.mk' (z:=(.nilFunc)) (by kernel_rfl) rfl (fun h=>by cases h) Tryz.underlying233 (.func _ _ _) rfl
theorem tyOk234 : TyOk Tryz.prog 234 ty234:=TyOk.mk' (z:=(.agg #[.nilFunc,.nilFunc,.nilFunc,.nilFunc])) (by kernel_rfl) rfl (fun _=>rfl) Tryz.underlying234 (.array _ _) rfl
theorem tyOk235 : TyOk Tryz.prog 235 ty235:=TyOk.mk' (z:=(.nilFunc)) (by kernel_rfl) rfl (fun h=>by cases h) Tryz.underlying235 (.func _ _ _) rfl
theorem tyOk236 : TyOk Tryz.prog 236 ty236:=TyOk.mk' (z:=(.nilFunc)) (by kernel_rfl) rfl (fun h=>by cases h) Tryz.underlying236 (.func _ _ _) rfl
theorem tyOk237 : TyOk Tryz.prog 237 ty237:=TyOk.mk' (z:=(.nilFunc)) (by kernel_rfl) rfl (fun h=>by cases h) Tryz.underlying237 (.func _ _ _) rfl
theorem tyOk238 : TyOk Tryz.prog 238 ty238:=TyOk.mk' (z:=(.map none)) (by kernel_rfl) rfl (fun h=>by cases h) Tryz.underlying238 (.map _ _) rfl
theorem tyOk239 : TyOk Tryz.prog 239 ty239:=TyOk.mk' (z:=(.nilFunc)) (by kernel_rfl) rfl (fun h=>by cases h) Tryz.underlying239 (.func _ _ _) rfl
theorem tyOk240 : TyOk Tryz.prog 240 ty240:=TyOk.mk' (z:=(.nilFunc)) (by kernel_rfl) rfl (fun h=>by cases h) Tryz.underlying240 (.func _ _ _) rfl
theorem tyOk241 : TyOk Tryz.prog 241 ty241:=TyOk.mk' (z:=(.nilFunc)) (by kernel_rfl) rfl (fun h=>by cases h) Tryz.underlying241 (.func _ _ _) rfl
theorem tyOk242 : TyOk Tryz.prog 242 ty242:=TyOk.mk' (z:=(.nilFunc)) (by kernel_rfl) rfl (fun h=>by cases h) Tryz.underlying242 (.func _ _ _) rfl
theorem tyOk243 : TyOk Tryz.prog 243 ty243:=TyOk.mk' (z:=(.nilFunc)) (by kernel_rfl) rfl (fun h=>by cases h) Tryz.underlying243 (.func _ _ _) rfl
theorem tyOk244 : TyOk Tryz.prog 244 ty244:=TyOk.mk' (z:=(.nilFunc)) (by kernel_rfl) rfl (fun h=>by cases h) Tryz.underlying244 (.func _ _ _) rfl
theorem tyOk245 : TyOk Tryz.prog 245 ty245:=TyOk.mk' (z:=(.nilFunc)) (by kernel_rfl) rfl (fun h=>by cases h) Tryz.underlying245 (.func _ _ _) rfl
theorem tyOk247 : TyOk Tryz.prog 247 ty247:=TyOk.mk' (z:=(.nilFunc)) (by kernel_rfl) rfl (fun h=>by cases h) Tryz.underlying247 (.func _ _ _) rfl
theorem tyOk248 : TyOk Tryz.prog 248 ty248:=TyOk.mk' (z:=(.pointer none)) (by kernel_rfl) rfl (fun h=>by cases h) Tryz.underlying248 (.ptr _) rfl
theorem tyOk249 : TyOk Tryz.prog 249 ty249:=TyOk.mk' (z:=(.pointer none)) (by kernel_rfl) rfl (fun h=>by cases h) Tryz.underlying249 (.ptr _) rfl
theorem tyOk250 : TyOk Tryz.prog 250 ty250:=TyOk.mk' (z:=(.nilFunc)) (by kernel_rfl) rfl (fun h=>by cases h) Tryz.underlying250 (.func _ _ _) rfl
theorem tyOk251 : TyOk Tryz.prog 251 ty251:=TyOk.mk' (z:=(.int .i64 0)) (by kernel_rfl) rfl (fun h=>by cases h) Tryz.underlying251 (.int _) rfl
theorem tyOk253 : TyOk Tryz.prog 253 ty253:=TyOk.mk' (z:=(.nilFunc)) (by kernel_rfl) rfl (fun h=>by cases h) Tryz.underlying253 (.func _ _ _) rfl
theorem tyOk254 : TyOk Tryz.prog 254 ty254:=TyOk.mk' (z:=(.nilFunc)) (by kernel_rfl) rfl (fun h=>by cases h) Tryz.underlying254 (.func _ _ _) rfl
theorem tyOk255 : TyOk Tryz.prog 255 ty255:=TyOk.mk' (z:=(.nilFunc)) (by kernel_rfl) rfl (fun h=>by cases h) Tryz.underlying255 (.func _ _ _) rfl
theorem tyOk256 : TyOk Tryz.prog 256 ty256:=TyOk.mk' (z:=(.nilFunc)) (by kernel_rfl) rfl (fun h=>by cases h) Tryz.underlying256 (.func _ _ _) rfl
theorem tyOk257 : TyOk Tryz.prog 257 ty257:=TyOk.mk' (z:=(.nilFunc)) (by kernel_rfl) rfl (fun h=>by cases h) Tryz.underlying257 (.func _ _ _) rfl
theorem tyOk258 : TyOk Tryz.prog 258 ty258:=TyOk.mk' (z:=(.int .u32 0)) (by kernel_rfl) rfl (fun h=>by cases h) Tryz.underlying258 (.int _) rfl
theorem tyOk259 : TyOk Tryz.prog 259 ty259:=TyOk.mk' (z:=(.nilFunc)) (by kernel_rfl) rfl (fun h=>by cases h) Tryz.underlying259 (.func _ _ _) rfl
theorem tyOk260 : TyOk Tryz.prog 260 ty260:=TyOk.mk' (z:=(.nilFunc)) (by kernel_rfl) rfl (fun h=>by cases h) Tryz.underlying260 (.func _ _ _) rfl
theorem tyOk261 : TyOk Tryz.prog 261 ty261:=TyOk.mk' (z:=(.nilFunc)) (by kernel_rfl) rfl (fun h=>by cases h) Tryz.underlying261 (.func _ _ _) rfl
theorem tyOk262 : TyOk Tryz.prog 262 ty262:=TyOk.mk' (z:=(.nilFunc)) (by kernel_rfl) rfl (fun h=>by cases h) Tryz.underlying262 (.func _ _ _) rfl
theorem tyOk263 : TyOk Tryz.prog 263 ty263:=TyOk.mk' (z:=(.nilFunc)) (by kernel_rfl) rfl (fun h=>by cases h) Tryz.underlying263 (.func _ _ _) rfl
theorem tyOk264 : TyOk Tryz.prog 264 ty264:=TyOk.mk' (z:=(.nilFunc)) (by kernel_rfl) rfl (fun h=>by cases h) Tryz.underlying264 (.func _ _ _) rfl
theorem tyOk265 : TyOk Tryz.prog 265 ty265:=TyOk.mk' (z:=(.nilFunc)) (by kernel_rfl) rfl (fun h=>by cases h) Tryz.underlying265 (.func _ _ _) rfl
theorem tyOk266 : TyOk Tryz.prog 266 ty266:=TyOk.mk' (z:=(.nilFunc)) (by kernel_rfl) rfl (fun h=>by cases h) Tryz.underlying266 (.func _ _ _) rfl
theorem tyOk267 : TyOk Tryz.prog 267 ty267:=TyOk.mk' (z:=(.nilFunc)) (by kernel_rfl) rfl (fun h=>by cases h) Tryz.underlying267 (.func _ _ _) rfl
theorem tyOk268 : TyOk Tryz.prog 268 ty268:=TyOk.mk' (z:=(.nilFunc)) (by kernel_rfl) rfl (fun h=>by cases h) Tryz.underlying268 (.func _ _ _) rfl
theorem tyOk269 : TyOk Tryz.prog 269 ty269:=TyOk.mk' (z:=(.nilFunc)) (by kernel_rfl) rfl (fun h=>by cases h) Tryz.underlying269 (.func _ _ _) rfl
theorem tyOk270 : TyOk Tryz.prog 270 ty270:=TyOk.mk' (z:=(.nilFunc)) (by kernel_rfl) rfl (fun h=>by cases h) Tryz.underlying270 (.func _ _ _) rfl
theorem tyOk272 : TyOk Tryz.prog 272 ty272:=TyOk.mk' (z:=(.nilFunc)) (by kernel_rfl) rfl (fun h=>by cases h) Tryz.underlying272 (.func _ _ _) rfl
theorem tyOk273 : TyOk Tryz.prog 273 ty273:=TyOk.mk' (z:=(.nilFunc)) (by kernel_rfl) rfl (fun h=>by cases h) Tryz.underlying273 (.func _ _ _) rfl
theorem tyOk274 : TyOk Tryz.prog 274 ty274:=TyOk.mk' (z:=(.nilFunc)) (by kernel_rfl) rfl (fun h=>by cases h) Tryz.underlying274 (.func _ _ _) rfl
theorem tyOk275 : TyOk Tryz.prog 275 ty275:=TyOk.mk' (z:=(.nilFunc)) (by kernel_rfl) rfl (fun h=>by cases h) Tryz.underlying275 (.func _ _ _) rfl
theorem tyOk276 : TyOk Tryz.prog 276 ty276:=TyOk.mk' (z:=(.pointer none)) (by kernel_rfl) rfl (fun h=>by cases h) Tryz.underlying276 (.ptr _) rfl
theorem tyOk277 : TyOk Tryz.prog 277 ty277:=TyOk.mk' (z:=(.nilFunc)) (by kernel_rfl) rfl (fun h=>by cases h) Tryz.underlying277 (.func _ _ _) rfl
theorem tyOk278 : TyOk Tryz.prog 278 ty278:=TyOk.mk' (z:=(.nilFunc)) (by kernel_rfl) rfl (fun h=>by cases h) Tryz.underlying278 (.func _ _ _) rfl
theorem tyOk279 : TyOk Tryz.prog 279 ty279:=TyOk.mk' (z:=(.int .u64 0)) (by kernel_rfl) rfl (fun h=>by cases h) Tryz.underlying279 (.int _) rfl
theorem tyOk280 : TyOk Tryz.prog 280 ty280:=TyOk.mk' (z:=(.nilFunc)) (by kernel_rfl) rfl (fun h=>by cases h) Tryz.underlying280 (.func _ _ _) rfl
theorem tyOk281 : TyOk Tryz.prog 281 ty281:=TyOk.mk' (z:=(.nilFunc)) (by kernel_rfl) rfl (fun h=>by cases h) Tryz.underlying281 (.func _ _ _) rfl
theorem tyOk282 : TyOk Tryz.prog 282 ty282:=TyOk.mk' (z:=(.nilFunc)) (by kernel_rfl) rfl (fun h=>by cases h) Tryz.underlying282 (.func _ _ _) rfl
theorem tyOk283 : TyOk Tryz.prog 283 ty283:=TyOk.mk' (z:=(.nilFunc)) (by kernel_rfl) rfl (fun h=>by cases h) Tryz.underlying283 (.func _ _ _) rfl
theorem tyOk284 : TyOk Tryz.prog 284 ty284:=TyOk.mk' (z:=(.nilFunc)) (by kernel_rfl) rfl (fun h=>by cases h) Tryz.underlying284 (.func _ _ _) rfl
theorem tyOk285 : TyOk Tryz.prog 285 ty285:=TyOk.mk' (z:=(.nilFunc)) (by kernel_rfl) rfl (fun h=>by cases h) Tryz.underlying285 (.func _ _ _) rfl
theorem tyOk286 : TyOk Tryz.prog 286 ty286:=TyOk.mk' (z:=(.nilFunc)) (by kernel_rfl) rfl (fun h=>by cases h) Tryz.underlying286 (.func _ _ _) rfl
theorem tyOk287 : TyOk Tryz.prog 287 ty287:=TyOk.mk' (z:=(.nilFunc)) (by kernel_rfl) rfl (fun h=>by cases h) Tryz.underlying287 (.func _ _ _) rfl
theorem tyOk288 : TyOk Tryz.prog 288 ty288:=TyOk.mk' (z:=(.nilFunc)) (by kernel_rfl) rfl (fun h=>by cases h) Tryz.underlying288 (.func _ _ _) rfl
theorem tyOk289 : TyOk Tryz.prog 289 ty289:=TyOk.mk' (z:=(.nilFunc)) (by kernel_rfl) rfl (fun h=>by cases h) Tryz.underlying289 (.func _ _ _) rfl
theorem tyOk290 : TyOk Tryz.prog 290 ty290:=TyOk.mk' (z:=(.nilFunc)) (by kernel_rfl) rfl (fun h=>by cases h) Tryz.underlying290 (.func _ _ _) rfl
theorem tyOk292 : TyOk Tryz.prog 292 ty292:=TyOk.mk' (z:=(.nilFunc)) (by kernel_rfl) rfl (fun h=>by cases h) Tryz.underlying292 (.func _ _ _) rfl
theorem tyOk293 : TyOk Tryz.prog 293 ty293:=TyOk.mk' (z:=(.nilFunc)) (by kernel_rfl) rfl (fun h=>by cases h) Tryz.underlying293 (.func _ _ _) rfl
theorem tyOk294 : TyOk Tryz.prog 294 ty294:=TyOk.mk' (z:=(.nilFunc)) (by kernel_rfl) rfl (fun h=>by cases h) Tryz.underlying294 (.func _ _ _) rfl
theorem tyOk295 : TyOk Tryz.prog 295 ty295:=TyOk.mk' (z:=(.nilFunc)) (by kernel_rfl) rfl (fun h=>by cases h) Tryz.underlying295 (.func _ _ _) rfl
theorem tyOk296 : TyOk Tryz.prog 296 ty296:=TyOk.mk' (z:=(.pointer none)) (by kernel_rfl) rfl (fun h=>by cases h) Tryz.underlying296 (.ptr _) rfl
theorem tyOk298 : TyOk Tryz.prog 298 ty298:=TyOk.mk' (z:=(.nilFunc)) (by kernel_rfl) rfl (fun h=>by cases h) Tryz.underlying298 (.func _ _ _) rfl
theorem tyOk299 : TyOk Tryz.prog 299 ty299:=TyOk.mk' (z:=(.nilFunc)) (by kernel_rfl) rfl (fun h=>by cases h) Tryz.underlying299 (.func _ _ _) rfl
theorem tyOk300 : TyOk Tryz.prog 300 ty300:=TyOk.mk' (z:=(.nilFunc)) (by kernel_rfl) rfl (fun h=>by cases h) Tryz.underlying300 (.func _ _ _) rfl
theorem tyOk301 : TyOk Tryz.prog 301 ty301:=TyOk.mk' (z:=(.nilFunc)) (by kernel_rfl) rfl (fun h=>by cases h) Tryz.underlying301 (.func _ _ _) rfl
theorem tyOk302 : TyOk Tryz.prog 302 ty302:=TyOk.mk' (z:=(.nilFunc)) (by kernel_rfl) rfl (fun h=>by cases h) Tryz.underlying302 (.func _ _ _) rfl
theorem tyOk303 : TyOk Tryz.prog 303 ty303:=TyOk.mk' (z:=(.nilFunc)) (by kernel_rfl) rfl (fun h=>by cases h) Tryz.underlying303 (.func _ _ _) rfl
theorem tyOk304 : TyOk Tryz.prog 304 ty304:=TyOk.mk' (z:=(.nilFunc)) (by kernel_rfl) rfl (fun h=>by cases h) Tryz.underlying304 (.func _ _ _) rfl
theorem tyOk305 : TyOk Tryz.prog 305 ty305:=TyOk.mk' (z:=(.nilFunc)) (by kernel_rfl) rfl (fun h=>by cases h) Tryz.underlying305 (.func _ _ _) rfl
theorem tyOk306 : TyOk Tryz.prog 306 ty306:=TyOk.mk' (z:=(.nilFunc)) (by kernel_rfl) rfl (fun h=>by cases h) Tryz.underlying306 (.func _ _ _) rfl
theorem tyOk307 : TyOk Tryz.prog 307 ty307:=TyOk.mk' (z:=(.nilFunc)) (by kernel_rfl) rfl (fun h=>by cases h) Tryz.underlying307 (.func _ _ _) rfl
theorem tyOk310 : TyOk Tryz.prog 310 ty310:=TyOk.mk' (z:=(.agg #[])) (by kernel_rfl) rfl (fun _=>rfl) Tryz.underlying310 (.array _ _) rfl
theorem tyOk311 : TyOk Tryz.prog 311 ty311:=TyOk.mk' (z:=(.agg #[])) (by kernel_rfl) rfl (fun _=>rfl) Tryz.underlying311 (.struct _ _ rfl) rfl
theorem tyOk312 : TyOk Tryz.prog 312 ty312:=TyOk.mk' (z:=(.agg #[])) (by kernel_rfl) rfl (fun _=>rfl) Tryz.underlying312 (.struct _ _ rfl) rfl
theorem tyOk313 : TyOk Tryz.prog 313 ty313:=TyOk.mk' (z:=(.int .u8 0)) (by kernel_rfl) rfl (fun h=>by cases h) Tryz.underlying313 (.int _) rfl
theorem tyOk314 : TyOk Tryz.prog 314 ty314:=TyOk.mk' (z:=(.int .u8 0)) (by kernel_rfl) rfl (fun h=>by cases h) Tryz.underlying314 (.int _) rfl
theorem tyOk315 : TyOk Tryz.prog 315 ty315:=TyOk.mk' (z:=(.nilFunc)) (by kernel_rfl) rfl (fun h=>by cases h) Tryz.underlying315 (.func _ _ _) rfl
theorem tyOk316 : TyOk Tryz.prog 316 ty316:=TyOk.mk' (z:=(.pointer none)) (by kernel_rfl) rfl (fun h=>by cases h) Tryz.underlying316 (.ptr _) rfl
theorem tyOk317 : TyOk Tryz.prog 317 ty317:=TyOk.mk' (z:=(.int .i32 0)) (by kernel_rfl) rfl (fun h=>by cases h) Tryz.underlying317 (.int _) rfl
theorem tyOk318 : TyOk Tryz.prog 318 ty318:=TyOk.mk' (z:=(.int .i32 0)) (by kernel_rfl) rfl (fun h=>by cases h) Tryz.underlying318 (.int _) rfl
theorem tyOk319 : TyOk Tryz.prog 319 ty319:=TyOk.mk' (z:=(.agg #[.int .u64 0,.int .u64 0,.int .u32 0,.int .u8 0,.int .u8 0,.int .u8 0,.int .u8 0,.nilFunc,.pointer none,.int .i32 0,.int .i32 0])) (by kernel_rfl) rfl (fun _=>rfl) Tryz.underlying319 (.struct _ _ rfl) rfl
theorem tyOk320 : TyOk Tryz.prog 320 ty320:=TyOk.mk' (z:=(.agg #[.int .u64 0,.int .u64 0,.int .u32 0,.int .u8 0,.int .u8 0,.int .u8 0,.int .u8 0,.nilFunc,.pointer none,.int .i32 0,.int .i32 0])) (by kernel_rfl) rfl (fun _=>rfl) Tryz.underlying320 (.struct _ _ rfl) rfl
theorem tab_ok : TabOk Tryz.prog tab:=TT.ok (T:=tabT) ⟨tyOk162,⟨tyOk82,⟨tyOk44,⟨tyOk24,⟨tyOk15,⟨tyOk5,⟨tyOk3,⟨tyOk2,⟨tyOk1,trivial,trivial⟩,trivial⟩,⟨tyOk4,trivial,trivial⟩⟩,⟨tyOk8,⟨tyOk7,⟨tyOk6,trivial,trivial⟩,trivial⟩,⟨tyOk12,trivial,trivial⟩⟩⟩,⟨tyOk20,⟨tyOk18,⟨tyOk17,⟨tyOk16,trivial,trivial⟩,trivial⟩,⟨tyOk19,trivial,trivial⟩⟩,⟨tyOk22,⟨tyOk21,trivial,trivial⟩,⟨tyOk23,trivial,trivial⟩⟩⟩⟩,⟨tyOk35,⟨tyOk30,⟨tyOk27,⟨tyOk26,⟨tyOk25,trivial,trivial⟩,trivial⟩,⟨tyOk29,trivial,trivial⟩⟩,⟨tyOk33,⟨tyOk32,⟨tyOk31,trivial,trivial⟩,trivial⟩,⟨tyOk34,trivial,trivial⟩⟩⟩,⟨tyOk40,⟨tyOk38,⟨tyOk37,⟨tyOk36,trivial,trivial⟩,trivial⟩,⟨tyOk39,trivial,trivial⟩⟩,⟨tyOk42,⟨tyOk41,trivial,trivial⟩,⟨tyOk43,trivial,trivial⟩⟩⟩⟩⟩,⟨tyOk63,⟨tyOk54,⟨tyOk49,⟨tyOk47,⟨tyOk46,⟨tyOk45,trivial,trivial⟩,trivial⟩,⟨tyOk48,trivial,trivial⟩⟩,⟨tyOk52,⟨tyOk51,⟨tyOk50,trivial,trivial⟩,trivial⟩,⟨tyOk53,trivial,trivial⟩⟩⟩,⟨tyOk59,⟨tyOk57,⟨tyOk56,⟨tyOk55,trivial,trivial⟩,trivial⟩,⟨tyOk58,trivial,trivial⟩⟩,⟨tyOk61,⟨tyOk60,trivial,trivial⟩,⟨tyOk62,trivial,trivial⟩⟩⟩⟩,⟨tyOk72,⟨tyOk68,⟨tyOk66,⟨tyOk65,⟨tyOk64,trivial,trivial⟩,trivial⟩,⟨tyOk67,trivial,trivial⟩⟩,⟨tyOk70,⟨tyOk69,trivial,trivial⟩,⟨tyOk71,trivial,trivial⟩⟩⟩,⟨tyOk78,⟨tyOk76,⟨tyOk75,⟨tyOk74,trivial,trivial⟩,trivial⟩,⟨tyOk77,trivial,trivial⟩⟩,⟨tyOk80,⟨tyOk79,trivial,trivial⟩,⟨tyOk81,trivial,trivial⟩⟩⟩⟩⟩⟩,⟨tyOk124,⟨tyOk102,⟨tyOk93,⟨tyOk88,⟨tyOk85,⟨tyOk84,⟨tyOk83,trivial,trivial⟩,trivial⟩,⟨tyOk87,trivial,trivial⟩⟩,⟨tyOk91,⟨tyOk90,⟨tyOk89,trivial,trivial⟩,trivial⟩,⟨tyOk92,trivial,trivial⟩⟩⟩,⟨tyOk98,⟨tyOk96,⟨tyOk95,⟨tyOk94,trivial,trivial⟩,trivial⟩,⟨tyOk97,trivial,trivial⟩⟩,⟨tyOk100,⟨tyOk99,trivial,trivial⟩,⟨tyOk101,trivial,trivial⟩⟩⟩⟩,⟨tyOk112,⟨tyOk107,⟨tyOk105,⟨tyOk104,⟨tyOk103,trivial,trivial⟩,trivial⟩,⟨tyOk106,trivial,trivial⟩⟩,⟨tyOk110,⟨tyOk109,⟨tyOk108,trivial,trivial⟩,trivial⟩,⟨tyOk111,trivial,trivial⟩⟩⟩,⟨tyOk119,⟨tyOk117,⟨tyOk115,⟨tyOk114,trivial,trivial⟩,trivial⟩,⟨tyOk118,trivial,trivial⟩⟩,⟨tyOk122,⟨tyOk120,trivial,trivial⟩,⟨tyOk123,trivial,trivial⟩⟩⟩⟩⟩,⟨tyOk143,⟨tyOk134,⟨tyOk129,⟨tyOk127,⟨tyOk126,⟨tyOk125,trivial,trivial⟩,trivial⟩,⟨tyOk128,trivial,trivial⟩⟩,⟨tyOk132,⟨tyOk131,⟨tyOk130,trivial,trivial⟩,trivial⟩,⟨tyOk133,trivial,trivial⟩⟩⟩,⟨tyOk139,⟨tyOk137,⟨tyOk136,⟨tyOk135,trivial,trivial⟩,trivial⟩,⟨tyOk138,trivial,trivial⟩⟩,⟨tyOk141,⟨tyOk140,trivial,trivial⟩,⟨tyOk142,trivial,trivial⟩⟩⟩⟩,⟨tyOk152,⟨tyOk148,⟨tyOk146,⟨tyOk145,⟨tyOk144,trivial,trivial⟩,trivial⟩,⟨tyOk147,trivial,trivial⟩⟩,⟨tyOk150,⟨tyOk149,trivial,trivial⟩,⟨tyOk151,trivial,trivial⟩⟩⟩,⟨tyOk158,⟨tyOk156,⟨tyOk155,⟨tyOk154,trivial,trivial⟩,trivial⟩,⟨tyOk157,trivial,trivial⟩⟩,⟨tyOk160,⟨tyOk159,trivial,trivial⟩,⟨tyOk161,trivial,trivial⟩⟩⟩⟩⟩⟩⟩,⟨tyOk239,⟨tyOk201,⟨tyOk181,⟨tyOk172,⟨tyOk167,⟨tyOk165,⟨tyOk164,⟨tyOk163,trivial,trivial⟩,trivial⟩,⟨tyOk166,trivial,trivial⟩⟩,⟨tyOk170,⟨tyOk169,⟨tyOk168,trivial,trivial⟩,trivial⟩,⟨tyOk171,trivial,trivial⟩⟩⟩,⟨tyOk177,⟨tyOk175,⟨tyOk174,⟨tyOk173,trivial,trivial⟩,trivial⟩,⟨tyOk176,trivial,trivial⟩⟩,⟨tyOk179,⟨tyOk178,trivial,trivial⟩,⟨tyOk180,trivial,trivial⟩⟩⟩⟩,⟨tyOk191,⟨tyOk186,⟨tyOk184,⟨tyOk183,⟨tyOk182,trivial,trivial⟩,trivial⟩,⟨tyOk185,trivial,trivial⟩⟩,⟨tyOk189,⟨tyOk188,⟨tyOk187,trivial,trivial⟩,trivial⟩,⟨tyOk190,trivial,trivial⟩⟩⟩,⟨tyOk196,⟨tyOk194,⟨tyOk193,⟨tyOk192,trivial,trivial⟩,trivial⟩,⟨tyOk195,trivial,trivial⟩⟩,⟨tyOk198,⟨tyOk197,trivial,trivial⟩,⟨tyOk200,trivial,trivial⟩⟩⟩⟩⟩,⟨tyOk221,⟨tyOk211,⟨tyOk206,⟨tyOk204,⟨tyOk203,⟨tyOk202,trivial,trivial⟩,trivial⟩,⟨tyOk205,trivial,trivial⟩⟩,⟨tyOk209,⟨tyOk208,⟨tyOk207,trivial,trivial⟩,trivial⟩,⟨tyOk210,trivial,trivial⟩⟩⟩,⟨tyOk217,⟨tyOk215,⟨tyOk214,⟨tyOk213,trivial,trivial⟩,trivial⟩,⟨tyOk216,trivial,trivial⟩⟩,⟨tyOk219,⟨tyOk218,trivial,trivial⟩,⟨tyOk220,trivial,trivial⟩⟩⟩⟩,⟨tyOk230,⟨tyOk226,⟨tyOk224,⟨tyOk223,⟨tyOk222,trivial,trivial⟩,trivial⟩,⟨tyOk225,trivial,trivial⟩⟩,⟨tyOk228,⟨tyOk227,trivial,trivial⟩,⟨tyOk229,trivial,trivial⟩⟩⟩,⟨tyOk235,⟨tyOk233,⟨tyOk232,⟨tyOk231,trivial,trivial⟩,trivial⟩,⟨tyOk234,trivial,trivial⟩⟩,⟨tyOk237,⟨tyOk236,trivial,trivial⟩,⟨tyOk238,trivial,trivial⟩⟩⟩⟩⟩⟩,⟨tyOk280,⟨tyOk260,⟨tyOk250,⟨tyOk244,⟨tyOk242,⟨tyOk241,⟨tyOk240,trivial,trivial⟩,trivial⟩,⟨tyOk243,trivial,trivial⟩⟩,⟨tyOk248,⟨tyOk247,⟨tyOk245,trivial,trivial⟩,trivial⟩,⟨tyOk249,trivial,trivial⟩⟩⟩,⟨tyOk256,⟨tyOk254,⟨tyOk253,⟨tyOk251,trivial,trivial⟩,trivial⟩,⟨tyOk255,trivial,trivial⟩⟩,⟨tyOk258,⟨tyOk257,trivial,trivial⟩,⟨tyOk259,trivial,trivial⟩⟩⟩⟩,⟨tyOk270,⟨tyOk265,⟨tyOk263,⟨tyOk262,⟨tyOk261,trivial,trivial⟩,trivial⟩,⟨tyOk264,trivial,trivial⟩⟩,⟨tyOk268,⟨tyOk267,⟨tyOk266,trivial,trivial⟩,trivial⟩,⟨tyOk269,trivial,trivial⟩⟩⟩,⟨tyOk276,⟨tyOk274,⟨tyOk273,⟨tyOk272,trivial,trivial⟩,trivial⟩,⟨tyOk275,trivial,trivial⟩⟩,⟨tyOk278,⟨tyOk277,trivial,trivial⟩,⟨tyOk279,trivial,trivial⟩⟩⟩⟩⟩,⟨tyOk301,⟨tyOk290,⟨tyOk285,⟨tyOk283,⟨tyOk282,⟨tyOk281,trivial,trivial⟩,trivial⟩,⟨tyOk284,trivial,trivial⟩⟩,⟨tyOk288,⟨tyOk287,⟨tyOk286,trivial,trivial⟩,trivial⟩,⟨tyOk289,trivial,trivial⟩⟩⟩,⟨tyOk296,⟨tyOk294,⟨tyOk293,⟨tyOk292,trivial,trivial⟩,trivial⟩,⟨tyOk295,trivial,trivial⟩⟩,⟨tyOk299,⟨tyOk298,trivial,trivial⟩,⟨tyOk300,trivial,trivial⟩⟩⟩⟩,⟨tyOk312,⟨tyOk306,⟨tyOk304,⟨tyOk303,⟨tyOk302,trivial,trivial⟩,trivial⟩,⟨tyOk305,trivial,trivial⟩⟩,⟨tyOk310,⟨tyOk307,trivial,trivial⟩,⟨tyOk311,trivial,trivial⟩⟩⟩,⟨tyOk317,⟨tyOk315,⟨tyOk314,⟨tyOk313,trivial,trivial⟩,trivial⟩,⟨tyOk316,trivial,trivial⟩⟩,⟨tyOk319,⟨tyOk318,trivial,trivial⟩,⟨tyOk320,trivial,trivial⟩⟩⟩⟩⟩⟩⟩⟩
theorem mix : Tryz.prog.follows .mixedOrders = true:=by kernel_rfl
end Go.Proofs.YtdjnjchpgccbiaaGreat.Abs
