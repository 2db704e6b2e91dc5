/- The type table of the translation, by program (gentab.py), and that it is the translation's own. -/
import Derived.Test.YtdjnjchpgccbiaaGreatC1
namespace Go.Proofs.YtdjnjchpgccbiaaGreat.Abs
def ty1 : Ty:=⟨1,8,false,[.nilFunc],.func⟩
def ty2 : Ty:=⟨1,8,false,[.int .i64 0],(.int .i64)⟩
def ty3 : Ty:=⟨1,8,false,[.int .i64 0],(.int .i64)⟩
def ty4 : Ty:=⟨1,1,false,[.bool false],.bool⟩
def ty5 : Ty:=⟨1,1,false,[.int .u8 0],(.int .u8)⟩
def ty6 : Ty:=⟨1,1,false,[.int .u8 0],(.int .u8)⟩
def ty7 : Ty:=⟨4,24,true,[.int .i64 0,.int .i64 0,.bool false,.int .u8 0],(.struct [(0,2),(1,3),(2,4),(3,6)])⟩
def ty8 : Ty:=⟨4,24,true,[.int .i64 0,.int .i64 0,.bool false,.int .u8 0],(.struct [(0,2),(1,3),(2,4),(3,6)])⟩
def ty12 : Ty:=⟨1,8,false,[.int .u64 0],(.int .u64)⟩
def ty15 : Ty:=⟨1,8,false,[.pointer none],(.ptr 309)⟩
def ty16 : Ty:=⟨1,8,false,[.pointer none],(.ptr 312)⟩
def ty17 : Ty:=⟨1,8,false,[.pointer none],(.ptr 320)⟩
def ty18 : Ty:=⟨1,8,true,[.pointer none],(.struct [(0,17)])⟩
def ty19 : Ty:=⟨1,8,true,[.pointer none],(.struct [(0,17)])⟩
def ty21 : Ty:=⟨1,4,false,[.int .i32 0],(.int .i32)⟩
def ty22 : Ty:=⟨1,24,false,[.slice none 0 0],(.slice 134)⟩
def ty23 : Ty:=⟨5,40,true,[.int .i64 0,.int .i64 0,.int .i64 0,.int .i64 0,.int .i64 0],(.struct [(0,3),(1,3),(2,3),(3,3),(4,3)])⟩
def ty24 : Ty:=⟨5,40,true,[.int .i64 0,.int .i64 0,.int .i64 0,.int .i64 0,.int .i64 0],(.struct [(0,3),(1,3),(2,3),(3,3),(4,3)])⟩
def ty26 : Ty:=⟨1,8,false,[.pointer none],(.ptr 138)⟩
def ty27 : Ty:=⟨1,8,false,[.pointer none],(.ptr 127)⟩
def ty31 : Ty:=⟨1,24,false,[.slice none 0 0],(.slice 141)⟩
def ty32 : Ty:=⟨1,8,false,[.pointer none],(.ptr 150)⟩
def ty35 : Ty:=⟨1,8,false,[.pointer none],(.ptr 40)⟩
def ty37 : Ty:=⟨1,16,false,[.nilIface],.iface⟩
def ty38 : Ty:=⟨1,16,false,[.nilIface],.iface⟩
def ty39 : Ty:=⟨2,24,true,[.nilIface,.int .i64 0],(.struct [(0,38),(1,3)])⟩
def ty40 : Ty:=⟨2,24,true,[.nilIface,.int .i64 0],(.struct [(0,38),(1,3)])⟩
def ty43 : Ty:=⟨1,8,false,[.int .i64 0],(.int .i64)⟩
def ty44 : Ty:=⟨1,24,false,[.slice none 0 0],(.slice 83)⟩
def ty45 : Ty:=⟨4,48,true,[.int .i64 0,.int .i64 0,.bool false,.slice none 0 0],(.struct [(0,43),(1,3),(2,4),(3,44)])⟩
def ty46 : Ty:=⟨4,48,true,[.int .i64 0,.int .i64 0,.bool false,.slice none 0 0],(.struct [(0,43),(1,3),(2,4),(3,44)])⟩
def ty49 : Ty:=⟨1,24,false,[.slice none 0 0],(.slice 24)⟩
def ty53 : Ty:=⟨1,24,false,[.slice none 0 0],(.slice 85)⟩
def ty54 : Ty:=⟨1,24,false,[.slice none 0 0],(.slice 3)⟩
def ty55 : Ty:=⟨3,56,true,[.slice none 0 0,.slice none 0 0,.int .i64 0],(.struct [(0,53),(1,54),(2,3)])⟩
def ty56 : Ty:=⟨3,56,true,[.slice none 0 0,.slice none 0 0,.int .i64 0],(.struct [(0,53),(1,54),(2,3)])⟩
def ty59 : Ty:=⟨1,24,false,[.slice none 0 0],(.slice 64)⟩
def ty60 : Ty:=⟨4,64,true,[.int .i64 0,.slice none 0 0,.int .i64 0,.slice none 0 0],(.struct [(0,3),(1,59),(2,3),(3,54)])⟩
def ty61 : Ty:=⟨4,64,true,[.int .i64 0,.slice none 0 0,.int .i64 0,.slice none 0 0],(.struct [(0,3),(1,59),(2,3),(3,54)])⟩
def ty63 : Ty:=⟨4,32,true,[.int .i64 0,.int .i64 0,.int .i64 0,.bool false],(.struct [(0,3),(1,3),(2,3),(3,4)])⟩
def ty64 : Ty:=⟨4,32,true,[.int .i64 0,.int .i64 0,.int .i64 0,.bool false],(.struct [(0,3),(1,3),(2,3),(3,4)])⟩
def ty65 : Ty:=⟨1,8,false,[.pointer none],(.ptr 161)⟩
def ty68 : Ty:=⟨1,24,false,[.slice none 0 0],(.slice 97)⟩
def ty74 : Ty:=⟨1,8,false,[.nilFunc],.func⟩
def ty77 : Ty:=⟨1,24,false,[.slice none 0 0],(.slice 5)⟩
def ty78 : Ty:=⟨1,24,false,[.slice none 0 0],(.slice 80)⟩
def ty79 : Ty:=⟨1,24,false,[.slice none 0 0],(.slice 4)⟩
def ty80 : Ty:=⟨1,8,false,[.pointer none],(.ptr 175)⟩
def ty82 : Ty:=⟨2,16,true,[.int .i64 0,.int .i64 0],(.struct [(0,3),(1,3)])⟩
def ty83 : Ty:=⟨2,16,true,[.int .i64 0,.int .i64 0],(.struct [(0,3),(1,3)])⟩
def ty84 : Ty:=⟨4,32,true,[.int .i64 0,.int .i64 0,.int .i64 0,.int .i64 0],(.struct [(0,3),(1,3),(2,3),(3,3)])⟩
def ty85 : Ty:=⟨4,32,true,[.int .i64 0,.int .i64 0,.int .i64 0,.int .i64 0],(.struct [(0,3),(1,3),(2,3),(3,3)])⟩
def ty89 : Ty:=⟨2,16,true,[.pointer none,.pointer none],(.array 2 65)⟩
def ty90 : Ty:=⟨1,8,false,[.pointer none],(.ptr 99)⟩
def ty91 : Ty:=⟨2,16,true,[.pointer none,.pointer none],(.array 2 90)⟩
def ty92 : Ty:=⟨1,8,false,[.pointer none],(.ptr 182)⟩
def ty93 : Ty:=⟨1,8,false,[.pointer none],(.ptr 185)⟩
def ty94 : Ty:=⟨1,8,false,[.pointer none],(.ptr 188)⟩
def ty96 : Ty:=⟨3,24,true,[.int .i64 0,.int .i64 0,.int .i64 0],(.struct [(0,3),(1,3),(2,3)])⟩
def ty97 : Ty:=⟨3,24,true,[.int .i64 0,.int .i64 0,.int .i64 0],(.struct [(0,3),(1,3),(2,3)])⟩
def ty98 : Ty:=⟨21,208,true,[.pointer none,.int .i64 0,.int .i64 0,.int .i64 0,.int .i64 0,.int .i64 0,.int .i64 0,.int .i64 0,.int .i64 0,.int .i64 0,.int .i64 0,.int .i64 0,.int .i64 0,.slice none 0 0,.slice none 0 0,.int .i64 0,.int .i64 0,.bool false,.slice none 0 0,.bool false,.bool false],(.struct [(0,27),(1,3),(2,24),(7,3),(8,3),(9,97),(12,3),(13,54),(14,44),(15,46),(19,4),(20,4)])⟩
def ty99 : Ty:=⟨21,208,true,[.pointer none,.int .i64 0,.int .i64 0,.int .i64 0,.int .i64 0,.int .i64 0,.int .i64 0,.int .i64 0,.int .i64 0,.int .i64 0,.int .i64 0,.int .i64 0,.int .i64 0,.slice none 0 0,.slice none 0 0,.int .i64 0,.int .i64 0,.bool false,.slice none 0 0,.bool false,.bool false],(.struct [(0,27),(1,3),(2,24),(7,3),(8,3),(9,97),(12,3),(13,54),(14,44),(15,46),(19,4),(20,4)])⟩
def ty101 : Ty:=⟨1,8,false,[.nilFunc],.func⟩
def ty105 : Ty:=⟨4,32,true,[.pointer none,.pointer none,.pointer none,.pointer none],(.array 4 35)⟩
def ty106 : Ty:=⟨1,8,false,[.pointer none],(.ptr 110)⟩
def ty107 : Ty:=⟨4,32,true,[.pointer none,.pointer none,.pointer none,.pointer none],(.array 4 106)⟩
def ty109 : Ty:=⟨6,48,true,[.int .i64 0,.pointer none,.pointer none,.pointer none,.bool false,.int .i64 0],(.struct [(0,3),(1,93),(2,94),(3,90),(4,4),(5,3)])⟩
def ty110 : Ty:=⟨6,48,true,[.int .i64 0,.pointer none,.pointer none,.pointer none,.bool false,.int .i64 0],(.struct [(0,3),(1,93),(2,94),(3,90),(4,4),(5,3)])⟩
def ty122 : Ty:=⟨1,8,false,[.pointer none],(.ptr 194)⟩
def ty123 : Ty:=⟨1,24,false,[.slice none 0 0],(.slice 165)⟩
def ty124 : Ty:=⟨6,96,true,[.int .i64 0,.slice none 0 0,.slice none 0 0,.slice none 0 0,.int .i64 0,.int .i64 0],(.struct [(0,3),(1,68),(2,123),(3,68),(4,3),(5,3)])⟩
def ty125 : Ty:=⟨6,96,true,[.int .i64 0,.slice none 0 0,.slice none 0 0,.slice none 0 0,.int .i64 0,.int .i64 0],(.struct [(0,3),(1,68),(2,123),(3,68),(4,3),(5,3)])⟩
def ty126 : Ty:=⟨10,160,true,[.pointer none,.slice none 0 0,.slice none 0 0,.int .i64 0,.int .i64 0,.slice none 0 0,.slice none 0 0,.slice none 0 0,.int .i64 0,.int .i64 0],(.struct [(0,122),(1,56),(4,125)])⟩
def ty127 : Ty:=⟨10,160,true,[.pointer none,.slice none 0 0,.slice none 0 0,.int .i64 0,.int .i64 0,.slice none 0 0,.slice none 0 0,.slice none 0 0,.int .i64 0,.int .i64 0],(.struct [(0,122),(1,56),(4,125)])⟩
def ty129 : Ty:=⟨5,40,true,[.int .i64 0,.int .i64 0,.int .i64 0,.int .i64 0,.int .i64 0],(.struct [(0,3),(1,3),(2,3),(3,3),(4,3)])⟩
def ty130 : Ty:=⟨5,40,true,[.int .i64 0,.int .i64 0,.int .i64 0,.int .i64 0,.int .i64 0],(.struct [(0,3),(1,3),(2,3),(3,3),(4,3)])⟩
def ty132 : Ty:=⟨1,8,false,[.int .u64 0],(.int .u64)⟩
def ty133 : Ty:=⟨3,24,true,[.int .u8 0,.int .u64 0,.bool false],(.struct [(0,5),(1,132),(2,4)])⟩
def ty134 : Ty:=⟨3,24,true,[.int .u8 0,.int .u64 0,.bool false],(.struct [(0,5),(1,132),(2,4)])⟩
def ty137 : Ty:=⟨10,160,true,[.pointer none,.slice none 0 0,.slice none 0 0,.int .i64 0,.int .i64 0,.slice none 0 0,.slice none 0 0,.slice none 0 0,.int .i64 0,.int .i64 0],(.struct [(0,32),(1,56),(4,125)])⟩
def ty138 : Ty:=⟨10,160,true,[.pointer none,.slice none 0 0,.slice none 0 0,.int .i64 0,.int .i64 0,.slice none 0 0,.slice none 0 0,.slice none 0 0,.int .i64 0,.int .i64 0],(.struct [(0,32),(1,56),(4,125)])⟩
def ty140 : Ty:=⟨6,48,true,[.int .i64 0,.int .i64 0,.int .i64 0,.int .i64 0,.int .i64 0,.bool false],(.struct [(0,3),(1,3),(2,3),(3,3),(4,3),(5,4)])⟩
def ty141 : Ty:=⟨6,48,true,[.int .i64 0,.int .i64 0,.int .i64 0,.int .i64 0,.int .i64 0,.bool false],(.struct [(0,3),(1,3),(2,3),(3,3),(4,3),(5,4)])⟩
def ty142 : Ty:=⟨2,32,true,[.slice none 0 0,.int .i64 0],(.struct [(0,31),(1,3)])⟩
def ty143 : Ty:=⟨2,32,true,[.slice none 0 0,.int .i64 0],(.struct [(0,31),(1,3)])⟩
def ty144 : Ty:=⟨1,24,true,[.slice none 0 0],(.struct [(0,54)])⟩
def ty145 : Ty:=⟨1,24,true,[.slice none 0 0],(.struct [(0,54)])⟩
def ty146 : Ty:=⟨1,24,false,[.slice none 0 0],(.slice 198)⟩
def ty147 : Ty:=⟨1,24,true,[.slice none 0 0],(.struct [(0,146)])⟩
def ty148 : Ty:=⟨1,24,true,[.slice none 0 0],(.struct [(0,146)])⟩
def ty149 : Ty:=⟨4,80,true,[.slice none 0 0,.int .i64 0,.slice none 0 0,.slice none 0 0],(.struct [(0,143),(2,145),(3,148)])⟩
def ty150 : Ty:=⟨4,80,true,[.slice none 0 0,.int .i64 0,.slice none 0 0,.slice none 0 0],(.struct [(0,143),(2,145),(3,148)])⟩
def ty151 : Ty:=⟨1,8,false,[.nilFunc],.func⟩
def ty152 : Ty:=⟨1,8,false,[.map none],(.map 3 151)⟩
def ty154 : Ty:=⟨1,8,false,[.pointer none],(.ptr 155)⟩
def ty155 : Ty:=⟨1,1,false,[.bool false],.bool⟩
def ty160 : Ty:=⟨22,216,true,[.pointer none,.int .i64 0,.int .i64 0,.int .i64 0,.int .i64 0,.int .i64 0,.int .i64 0,.int .i64 0,.bool false,.int .i64 0,.int .i64 0,.int .i64 0,.int .i64 0,.bool false,.slice none 0 0,.slice none 0 0,.int .i64 0,.int .i64 0,.bool false,.slice none 0 0,.bool false,.bool false],(.struct [(0,26),(1,3),(2,24),(7,3),(8,4),(9,97),(12,3),(13,4),(14,54),(15,44),(16,46),(20,4),(21,4)])⟩
def ty161 : Ty:=⟨22,216,true,[.pointer none,.int .i64 0,.int .i64 0,.int .i64 0,.int .i64 0,.int .i64 0,.int .i64 0,.int .i64 0,.bool false,.int .i64 0,.int .i64 0,.int .i64 0,.int .i64 0,.bool false,.slice none 0 0,.slice none 0 0,.int .i64 0,.int .i64 0,.bool false,.slice none 0 0,.bool false,.bool false],(.struct [(0,26),(1,3),(2,24),(7,3),(8,4),(9,97),(12,3),(13,4),(14,54),(15,44),(16,46),(20,4),(21,4)])⟩
def ty163 : Ty:=⟨1,24,false,[.slice none 0 0],(.slice 68)⟩
def ty164 : Ty:=⟨4,48,true,[.int .i64 0,.int .i64 0,.int .i64 0,.slice none 0 0],(.struct [(0,3),(1,3),(2,3),(3,163)])⟩
def ty165 : Ty:=⟨4,48,true,[.int .i64 0,.int .i64 0,.int .i64 0,.slice none 0 0],(.struct [(0,3),(1,3),(2,3),(3,163)])⟩
def ty167 : Ty:=⟨1,8,false,[.nilFunc],.func⟩
def ty168 : Ty:=⟨4,32,true,[.int .i64 0,.int .i64 0,.int .i64 0,.int .i64 0],(.array 4 3)⟩
def ty172 : Ty:=⟨1,8,false,[.int .i64 0],(.int .i64)⟩
def ty173 : Ty:=⟨1,8,false,[.int .i64 0],(.int .i64)⟩
def ty174 : Ty:=⟨10,96,true,[.pointer none,.int .i64 0,.int .i64 0,.int .i64 0,.int .i64 0,.int .i64 0,.int .i64 0,.bool false,.slice none 0 0,.bool false],(.struct [(0,26),(1,3),(2,3),(3,172),(4,173),(5,46),(9,4)])⟩
def ty175 : Ty:=⟨10,96,true,[.pointer none,.int .i64 0,.int .i64 0,.int .i64 0,.int .i64 0,.int .i64 0,.int .i64 0,.bool false,.slice none 0 0,.bool false],(.struct [(0,26),(1,3),(2,3),(3,172),(4,173),(5,46),(9,4)])⟩
def ty179 : Ty:=⟨1,8,false,[.nilFunc],.func⟩
def ty180 : Ty:=⟨1,8,false,[.nilFunc],.func⟩
def ty181 : Ty:=⟨16,168,true,[.pointer none,.int .i64 0,.int .i64 0,.nilFunc,.slice none 0 0,.nilFunc,.int .i64 0,.int .i64 0,.bool false,.slice none 0 0,.int .i64 0,.int .i64 0,.bool false,.slice none 0 0,.bool false,.bool false],(.struct [(0,26),(1,3),(2,3),(3,180),(4,54),(5,1),(6,46),(10,46),(14,4),(15,4)])⟩
def ty182 : Ty:=⟨16,168,true,[.pointer none,.int .i64 0,.int .i64 0,.nilFunc,.slice none 0 0,.nilFunc,.int .i64 0,.int .i64 0,.bool false,.slice none 0 0,.int .i64 0,.int .i64 0,.bool false,.slice none 0 0,.bool false,.bool false],(.struct [(0,26),(1,3),(2,3),(3,180),(4,54),(5,1),(6,46),(10,46),(14,4),(15,4)])⟩
def ty183 : Ty:=⟨3,3,true,[.bool false,.bool false,.bool false],(.array 3 4)⟩
def ty184 : Ty:=⟨20,128,true,[.pointer none,.int .i64 0,.int .i64 0,.int .i64 0,.int .i64 0,.int .i64 0,.int .i64 0,.int .i64 0,.bool false,.bool false,.bool false,.int .i64 0,.int .i64 0,.bool false,.slice none 0 0,.bool false,.bool false,.bool false,.bool false,.bool false],(.struct [(0,27),(1,3),(2,24),(7,3),(8,183),(11,46),(15,4),(16,4),(17,4),(18,4),(19,4)])⟩
def ty185 : Ty:=⟨20,128,true,[.pointer none,.int .i64 0,.int .i64 0,.int .i64 0,.int .i64 0,.int .i64 0,.int .i64 0,.int .i64 0,.bool false,.bool false,.bool false,.int .i64 0,.int .i64 0,.bool false,.slice none 0 0,.bool false,.bool false,.bool false,.bool false,.bool false],(.struct [(0,27),(1,3),(2,24),(7,3),(8,183),(11,46),(15,4),(16,4),(17,4),(18,4),(19,4)])⟩
def ty187 : Ty:=⟨15,128,true,[.pointer none,.int .i64 0,.int .i64 0,.int .i64 0,.int .i64 0,.int .i64 0,.int .i64 0,.bool false,.int .i64 0,.int .i64 0,.int .i64 0,.bool false,.slice none 0 0,.bool false,.bool false],(.struct [(0,27),(1,3),(2,24),(7,4),(8,3),(9,46),(13,4),(14,4)])⟩
def ty188 : Ty:=⟨15,128,true,[.pointer none,.int .i64 0,.int .i64 0,.int .i64 0,.int .i64 0,.int .i64 0,.int .i64 0,.bool false,.int .i64 0,.int .i64 0,.int .i64 0,.bool false,.slice none 0 0,.bool false,.bool false],(.struct [(0,27),(1,3),(2,24),(7,4),(8,3),(9,46),(13,4),(14,4)])⟩
def ty193 : Ty:=⟨4,80,true,[.slice none 0 0,.slice none 0 0,.slice none 0 0,.int .i64 0],(.struct [(0,54),(1,54),(2,31),(3,3)])⟩
def ty194 : Ty:=⟨4,80,true,[.slice none 0 0,.slice none 0 0,.slice none 0 0,.int .i64 0],(.struct [(0,54),(1,54),(2,31),(3,3)])⟩
def ty195 : Ty:=⟨1,8,false,[.pointer none],(.ptr 198)⟩
def ty197 : Ty:=⟨2,16,true,[.bool false,.int .i64 0],(.struct [(0,4),(1,3)])⟩
def ty198 : Ty:=⟨2,16,true,[.bool false,.int .i64 0],(.struct [(0,4),(1,3)])⟩
def ty205 : Ty:=⟨1,8,false,[.nilFunc],.func⟩
def ty208 : Ty:=⟨1,8,false,[.nilFunc],.func⟩
def ty217 : Ty:=⟨1,8,false,[.pointer none],(.ptr 3)⟩
def ty219 : Ty:=⟨1,8,false,[.int .i64 0],(.int .i64)⟩
def ty223 : Ty:=⟨1,8,false,[.int .u64 0],(.int .u64)⟩
def ty232 : Ty:=⟨1,8,false,[.pointer none],(.ptr 148)⟩
def ty234 : Ty:=⟨4,32,true,[.nilFunc,.nilFunc,.nilFunc,.nilFunc],(.array 4 74)⟩
def ty238 : Ty:=⟨1,8,false,[.map none],(.map 3 4)⟩
def ty243 : Ty:=⟨1,8,false,[.nilFunc],.func⟩
def ty245 : Ty:=⟨1,8,false,[.nilFunc],.func⟩
def ty248 : Ty:=⟨1,8,false,[.pointer none],(.ptr 143)⟩
def ty249 : Ty:=⟨1,8,false,[.pointer none],(.ptr 145)⟩
def ty251 : Ty:=⟨1,8,false,[.int .i64 0],(.int .i64)⟩
def ty258 : Ty:=⟨1,4,false,[.int .u32 0],(.int .u32)⟩
def ty267 : Ty:=⟨1,8,false,[.nilFunc],.func⟩
def ty269 : Ty:=⟨1,8,false,[.nilFunc],.func⟩
def ty276 : Ty:=⟨1,8,false,[.pointer none],(.ptr 125)⟩
def ty279 : Ty:=⟨1,8,false,[.int .u64 0],(.int .u64)⟩
def ty296 : Ty:=⟨1,8,false,[.pointer none],(.ptr 279)⟩
def ty301 : Ty:=⟨1,8,false,[.nilFunc],.func⟩
def ty310 : Ty:=⟨0,0,true,[],(.array 0 16)⟩
def ty311 : Ty:=⟨0,0,true,[],(.struct [(0,310)])⟩
def ty312 : Ty:=⟨0,0,true,[],(.struct [(0,310)])⟩
def ty313 : Ty:=⟨1,1,false,[.int .u8 0],(.int .u8)⟩
def ty314 : Ty:=⟨1,1,false,[.int .u8 0],(.int .u8)⟩
def ty315 : Ty:=⟨1,8,false,[.nilFunc],.func⟩
def ty316 : Ty:=⟨1,8,false,[.pointer none],(.ptr 5)⟩
def ty317 : Ty:=⟨1,4,false,[.int .i32 0],(.int .i32)⟩
def ty318 : Ty:=⟨1,4,false,[.int .i32 0],(.int .i32)⟩
def ty319 : Ty:=⟨11,48,true,[.int .u64 0,.int .u64 0,.int .u32 0,.int .u8 0,.int .u8 0,.int .u8 0,.int .u8 0,.nilFunc,.pointer none,.int .i32 0,.int .i32 0],(.struct [(0,12),(1,12),(2,258),(3,313),(4,5),(5,5),(6,314),(7,315),(8,316),(9,317),(10,318)])⟩
def ty320 : Ty:=⟨11,48,true,[.int .u64 0,.int .u64 0,.int .u32 0,.int .u8 0,.int .u8 0,.int .u8 0,.int .u8 0,.nilFunc,.pointer none,.int .i32 0,.int .i32 0],(.struct [(0,12),(1,12),(2,258),(3,313),(4,5),(5,5),(6,314),(7,315),(8,316),(9,317),(10,318)])⟩
def tabT : TT:=(.node 132 ty132 (.node 61 ty61 (.node 27 ty27 (.node 15 ty15 (.node 5 ty5 (.node 3 ty3 (.node 2 ty2 (.node 1 ty1 .leaf .leaf) .leaf) (.node 4 ty4 .leaf .leaf)) (.node 8 ty8 (.node 7 ty7 (.node 6 ty6 .leaf .leaf) .leaf) (.node 12 ty12 .leaf .leaf))) (.node 21 ty21 (.node 18 ty18 (.node 17 ty17 (.node 16 ty16 .leaf .leaf) .leaf) (.node 19 ty19 .leaf .leaf)) (.node 24 ty24 (.node 23 ty23 (.node 22 ty22 .leaf .leaf) .leaf) (.node 26 ty26 .leaf .leaf)))) (.node 45 ty45 (.node 38 ty38 (.node 35 ty35 (.node 32 ty32 (.node 31 ty31 .leaf .leaf) .leaf) (.node 37 ty37 .leaf .leaf)) (.node 43 ty43 (.node 40 ty40 (.node 39 ty39 .leaf .leaf) .leaf) (.node 44 ty44 .leaf .leaf))) (.node 55 ty55 (.node 53 ty53 (.node 49 ty49 (.node 46 ty46 .leaf .leaf) .leaf) (.node 54 ty54 .leaf .leaf)) (.node 59 ty59 (.node 56 ty56 .leaf .leaf) (.node 60 ty60 .leaf .leaf))))) (.node 94 ty94 (.node 82 ty82 (.node 74 ty74 (.node 65 ty65 (.node 64 ty64 (.node 63 ty63 .leaf .leaf) .leaf) (.node 68 ty68 .leaf .leaf)) (.node 79 ty79 (.node 78 ty78 (.node 77 ty77 .leaf .leaf) .leaf) (.node 80 ty80 .leaf .leaf))) (.node 90 ty90 (.node 85 ty85 (.node 84 ty84 (.node 83 ty83 .leaf .leaf) .leaf) (.node 89 ty89 .leaf .leaf)) (.node 92 ty92 (.node 91 ty91 .leaf .leaf) (.node 93 ty93 .leaf .leaf)))) (.node 110 ty110 (.node 101 ty101 (.node 98 ty98 (.node 97 ty97 (.node 96 ty96 .leaf .leaf) .leaf) (.node 99 ty99 .leaf .leaf)) (.node 107 ty107 (.node 106 ty106 (.node 105 ty105 .leaf .leaf) .leaf) (.node 109 ty109 .leaf .leaf))) (.node 126 ty126 (.node 124 ty124 (.node 123 ty123 (.node 122 ty122 .leaf .leaf) .leaf) (.node 125 ty125 .leaf .leaf)) (.node 129 ty129 (.node 127 ty127 .leaf .leaf) (.node 130 ty130 .leaf .leaf)))))) (.node 187 ty187 (.node 155 ty155 (.node 145 ty145 (.node 140 ty140 (.node 137 ty137 (.node 134 ty134 (.node 133 ty133 .leaf .leaf) .leaf) (.node 138 ty138 .leaf .leaf)) (.node 143 ty143 (.node 142 ty142 (.node 141 ty141 .leaf .leaf) .leaf) (.node 144 ty144 .leaf .leaf))) (.node 150 ty150 (.node 148 ty148 (.node 147 ty147 (.node 146 ty146 .leaf .leaf) .leaf) (.node 149 ty149 .leaf .leaf)) (.node 152 ty152 (.node 151 ty151 .leaf .leaf) (.node 154 ty154 .leaf .leaf)))) (.node 174 ty174 (.node 165 ty165 (.node 163 ty163 (.node 161 ty161 (.node 160 ty160 .leaf .leaf) .leaf) (.node 164 ty164 .leaf .leaf)) (.node 172 ty172 (.node 168 ty168 (.node 167 ty167 .leaf .leaf) .leaf) (.node 173 ty173 .leaf .leaf))) (.node 182 ty182 (.node 180 ty180 (.node 179 ty179 (.node 175 ty175 .leaf .leaf) .leaf) (.node 181 ty181 .leaf .leaf)) (.node 184 ty184 (.node 183 ty183 .leaf .leaf) (.node 185 ty185 .leaf .leaf))))) (.node 251 ty251 (.node 219 ty219 (.node 197 ty197 (.node 194 ty194 (.node 193 ty193 (.node 188 ty188 .leaf .leaf) .leaf) (.node 195 ty195 .leaf .leaf)) (.node 208 ty208 (.node 205 ty205 (.node 198 ty198 .leaf .leaf) .leaf) (.node 217 ty217 .leaf .leaf))) (.node 243 ty243 (.node 234 ty234 (.node 232 ty232 (.node 223 ty223 .leaf .leaf) .leaf) (.node 238 ty238 .leaf .leaf)) (.node 248 ty248 (.node 245 ty245 .leaf .leaf) (.node 249 ty249 .leaf .leaf)))) (.node 312 ty312 (.node 279 ty279 (.node 269 ty269 (.node 267 ty267 (.node 258 ty258 .leaf .leaf) .leaf) (.node 276 ty276 .leaf .leaf)) (.node 310 ty310 (.node 301 ty301 (.node 296 ty296 .leaf .leaf) .leaf) (.node 311 ty311 .leaf .leaf))) (.node 317 ty317 (.node 315 ty315 (.node 314 ty314 (.node 313 ty313 .leaf .leaf) .leaf) (.node 316 ty316 .leaf .leaf)) (.node 319 ty319 (.node 318 ty318 .leaf .leaf) (.node 320 ty320 .leaf .leaf)))))))
def tab : Tab:=tabT.get
theorem tyOk1 : TyOk Tryz.prog 1 ty1:=TyOk.mk' (z:=(.nilFunc)) (by kernel_rfl) rfl (fun h=>by cases h) Tryz.underlying1 (.func _ _ _) rfl
theorem tyOk2 : TyOk Tryz.prog 2 ty2:=TyOk.mk' (z:=(.int .i64 0)) (by kernel_rfl) rfl (fun h=>by cases h) Tryz.underlying2 (.int _) rfl
theorem tyOk3 : TyOk Tryz.prog 3 ty3:=TyOk.mk' (z:=(.int .i64 0)) (by kernel_rfl) rfl (fun h=>by cases h) Tryz.underlying3 (.int _) rfl
theorem tyOk4 : TyOk Tryz.prog 4 ty4:=TyOk.mk' (z:=(.bool false)) (by kernel_rfl) rfl (fun h=>by cases h) Tryz.underlying4 (.bool) rfl
theorem tyOk5 : TyOk Tryz.prog 5 ty5:=TyOk.mk' (z:=(.int .u8 0)) (by kernel_rfl) rfl (fun h=>by cases h) Tryz.underlying5 (.int _) rfl
theorem tyOk6 : TyOk Tryz.prog 6 ty6:=TyOk.mk' (z:=(.int .u8 0)) (by kernel_rfl) rfl (fun h=>by cases h) Tryz.underlying6 (.int _) rfl
theorem tyOk7 : TyOk Tryz.prog 7 ty7:=TyOk.mk' (z:=(.agg #[.int .i64 0,.int .i64 0,.bool false,.int .u8 0])) (by kernel_rfl) rfl (fun _=>rfl) Tryz.underlying7 (.struct _ _ rfl) rfl
theorem tyOk8 : TyOk Tryz.prog 8 ty8:=TyOk.mk' (z:=(.agg #[.int .i64 0,.int .i64 0,.bool false,.int .u8 0])) (by kernel_rfl) rfl (fun _=>rfl) Tryz.underlying8 (.struct _ _ rfl) rfl
theorem tyOk12 : TyOk Tryz.prog 12 ty12:=TyOk.mk' (z:=(.int .u64 0)) (by kernel_rfl) rfl (fun h=>by cases h) Tryz.underlying12 (.int _) rfl
theorem tyOk15 : TyOk Tryz.prog 15 ty15:=TyOk.mk' (z:=(.pointer none)) (by kernel_rfl) rfl (fun h=>by cases h) Tryz.underlying15 (.ptr _) rfl
theorem tyOk16 : TyOk Tryz.prog 16 ty16:=TyOk.mk' (z:=(.pointer none)) (by kernel_rfl) rfl (fun h=>by cases h) Tryz.underlying16 (.ptr _) rfl
theorem tyOk17 : TyOk Tryz.prog 17 ty17:=TyOk.mk' (z:=(.pointer none)) (by kernel_rfl) rfl (fun h=>by cases h) Tryz.underlying17 (.ptr _) rfl
theorem tyOk18 : TyOk Tryz.prog 18 ty18:=TyOk.mk' (z:=(.agg #[.pointer none])) (by kernel_rfl) rfl (fun _=>rfl) Tryz.underlying18 (.struct _ _ rfl) rfl
theorem tyOk19 : TyOk Tryz.prog 19 ty19:=TyOk.mk' (z:=(.agg #[.pointer none])) (by kernel_rfl) rfl (fun _=>rfl) Tryz.underlying19 (.struct _ _ rfl) rfl
theorem tyOk21 : TyOk Tryz.prog 21 ty21:=TyOk.mk' (z:=(.int .i32 0)) (by kernel_rfl) rfl (fun h=>by cases h) Tryz.underlying21 (.int _) rfl
theorem tyOk22 : TyOk Tryz.prog 22 ty22:=TyOk.mk' (z:=(.slice none 0 0)) (by kernel_rfl) rfl (fun h=>by cases h) Tryz.underlying22 (.slice _) rfl
theorem tyOk23 : TyOk Tryz.prog 23 ty23:=TyOk.mk' (z:=(.agg #[.int .i64 0,.int .i64 0,.int .i64 0,.int .i64 0,.int .i64 0])) (by kernel_rfl) rfl (fun _=>rfl) Tryz.underlying23 (.struct _ _ rfl) rfl
theorem tyOk24 : TyOk Tryz.prog 24 ty24:=TyOk.mk' (z:=(.agg #[.int .i64 0,.int .i64 0,.int .i64 0,.int .i64 0,.int .i64 0])) (by kernel_rfl) rfl (fun _=>rfl) Tryz.underlying24 (.struct _ _ rfl) rfl
theorem tyOk26 : TyOk Tryz.prog 26 ty26:=TyOk.mk' (z:=(.pointer none)) (by kernel_rfl) rfl (fun h=>by cases h) Tryz.underlying26 (.ptr _) rfl
theorem tyOk27 : TyOk Tryz.prog 27 ty27:=TyOk.mk' (z:=(.pointer none)) (by kernel_rfl) rfl (fun h=>by cases h) Tryz.underlying27 (.ptr _) rfl
theorem tyOk31 : TyOk Tryz.prog 31 ty31:=TyOk.mk' (z:=(.slice none 0 0)) (by kernel_rfl) rfl (fun h=>by cases h) Tryz.underlying31 (.slice _) rfl
theorem tyOk32 : TyOk Tryz.prog 32 ty32:=TyOk.mk' (z:=(.pointer none)) (by kernel_rfl) rfl (fun h=>by cases h) Tryz.underlying32 (.ptr _) rfl
theorem tyOk35 : TyOk Tryz.prog 35 ty35:=TyOk.mk' (z:=(.pointer none)) (by kernel_rfl) rfl (fun h=>by cases h) Tryz.underlying35 (.ptr _) rfl
theorem tyOk37 : TyOk Tryz.prog 37 ty37:=TyOk.mk' (z:=(.nilIface)) (by kernel_rfl) rfl (fun h=>by cases h) Tryz.underlying37 (.iface _) rfl
theorem tyOk38 : TyOk Tryz.prog 38 ty38:=TyOk.mk' (z:=(.nilIface)) (by kernel_rfl) rfl (fun h=>by cases h) Tryz.underlying38 (.iface _) rfl
theorem tyOk39 : TyOk Tryz.prog 39 ty39:=TyOk.mk' (z:=(.agg #[.nilIface,.int .i64 0])) (by kernel_rfl) rfl (fun _=>rfl) Tryz.underlying39 (.struct _ _ rfl) rfl
theorem tyOk40 : TyOk Tryz.prog 40 ty40:=TyOk.mk' (z:=(.agg #[.nilIface,.int .i64 0])) (by kernel_rfl) rfl (fun _=>rfl) Tryz.underlying40 (.struct _ _ rfl) rfl
theorem tyOk43 : TyOk Tryz.prog 43 ty43:=TyOk.mk' (z:=(.int .i64 0)) (by kernel_rfl) rfl (fun h=>by cases h) Tryz.underlying43 (.int _) rfl
theorem tyOk44 : TyOk Tryz.prog 44 ty44:=TyOk.mk' (z:=(.slice none 0 0)) (by kernel_rfl) rfl (fun h=>by cases h) Tryz.underlying44 (.slice _) rfl
theorem tyOk45 : TyOk Tryz.prog 45 ty45:=TyOk.mk' (z:=(.agg #[.int .i64 0,.int .i64 0,.bool false,.slice none 0 0])) (by kernel_rfl) rfl (fun _=>rfl) Tryz.underlying45 (.struct _ _ rfl) rfl
theorem tyOk46 : TyOk Tryz.prog 46 ty46:=TyOk.mk' (z:=(.agg #[.int .i64 0,.int .i64 0,.bool false,.slice none 0 0])) (by kernel_rfl) rfl (fun _=>rfl) Tryz.underlying46 (.struct _ _ rfl) rfl
theorem tyOk49 : TyOk Tryz.prog 49 ty49:=TyOk.mk' (z:=(.slice none 0 0)) (by kernel_rfl) rfl (fun h=>by cases h) Tryz.underlying49 (.slice _) rfl
theorem tyOk53 : TyOk Tryz.prog 53 ty53:=TyOk.mk' (z:=(.slice none 0 0)) (by kernel_rfl) rfl (fun h=>by cases h) Tryz.underlying53 (.slice _) rfl
theorem tyOk54 : TyOk Tryz.prog 54 ty54:=TyOk.mk' (z:=(.slice none 0 0)) (by kernel_rfl) rfl (fun h=>by cases h) Tryz.underlying54 (.slice _) rfl
theorem tyOk55 : TyOk Tryz.prog 55 ty55:=TyOk.mk' (z:=(.agg #[.slice none 0 0,.slice none 0 0,.int .i64 0])) (by kernel_rfl) rfl (fun _=>rfl) Tryz.underlying55 (.struct _ _ rfl) rfl
theorem tyOk56 : TyOk Tryz.prog 56 ty56:=TyOk.mk' (z:=(.agg #[.slice none 0 0,.slice none 0 0,.int .i64 0])) (by kernel_rfl) rfl (fun _=>rfl) Tryz.underlying56 (.struct _ _ rfl) rfl
theorem tyOk59 : TyOk Tryz.prog 59 ty59:=TyOk.mk' (z:=(.slice none 0 0)) (by kernel_rfl) rfl (fun h=>by cases h) Tryz.underlying59 (.slice _) rfl
theorem tyOk60 : TyOk Tryz.prog 60 ty60:=TyOk.mk' (z:=(.agg #[.int .i64 0,.slice none 0 0,.int .i64 0,.slice none 0 0])) (by kernel_rfl) rfl (fun _=>rfl) Tryz.underlying60 (.struct _ _ rfl) rfl
theorem tyOk61 : TyOk Tryz.prog 61 ty61:=TyOk.mk' (z:=(.agg #[.int .i64 0,.slice none 0 0,.int .i64 0,.slice none 0 0])) (by kernel_rfl) rfl (fun _=>rfl) Tryz.underlying61 (.struct _ _ rfl) rfl
theorem tyOk63 : TyOk Tryz.prog 63 ty63:=TyOk.mk' (z:=(.agg #[.int .i64 0,.int .i64 0,.int .i64 0,.bool false])) (by kernel_rfl) rfl (fun _=>rfl) Tryz.underlying63 (.struct _ _ rfl) rfl
theorem tyOk64 : TyOk Tryz.prog 64 ty64:=TyOk.mk' (z:=(.agg #[.int .i64 0,.int .i64 0,.int .i64 0,.bool false])) (by kernel_rfl) rfl (fun _=>rfl) Tryz.underlying64 (.struct _ _ rfl) rfl
theorem tyOk65 : TyOk Tryz.prog 65 ty65:=TyOk.mk' (z:=(.pointer none)) (by kernel_rfl) rfl (fun h=>by cases h) Tryz.underlying65 (.ptr _) rfl
theorem tyOk68 : TyOk Tryz.prog 68 ty68:=TyOk.mk' (z:=(.slice none 0 0)) (by kernel_rfl) rfl (fun h=>by cases h) Tryz.underlying68 (.slice _) rfl
theorem tyOk74 : TyOk Tryz.prog 74 ty74:=TyOk.mk' (z:=(.nilFunc)) (by kernel_rfl) rfl (fun h=>by cases h) Tryz.underlying74 (.func _ _ _) rfl
theorem tyOk77 : TyOk Tryz.prog 77 ty77:=TyOk.mk' (z:=(.slice none 0 0)) (by kernel_rfl) rfl (fun h=>by cases h) Tryz.underlying77 (.slice _) rfl
theorem tyOk78 : TyOk Tryz.prog 78 ty78:=TyOk.mk' (z:=(.slice none 0 0)) (by kernel_rfl) rfl (fun h=>by cases h) Tryz.underlying78 (.slice _) rfl
theorem tyOk79 : TyOk Tryz.prog 79 ty79:=TyOk.mk' (z:=(.slice none 0 0)) (by kernel_rfl) rfl (fun h=>by cases h) Tryz.underlying79 (.slice _) rfl
theorem tyOk80 : TyOk Tryz.prog 80 ty80:=TyOk.mk' (z:=(.pointer none)) (by kernel_rfl) rfl (fun h=>by cases h) Tryz.underlying80 (.ptr _) rfl
theorem tyOk82 : TyOk Tryz.prog 82 ty82:=TyOk.mk' (z:=(.agg #[.int .i64 0,.int .i64 0])) (by kernel_rfl) rfl (fun _=>rfl) Tryz.underlying82 (.struct _ _ rfl) rfl
theorem tyOk83 : TyOk Tryz.prog 83 ty83:=TyOk.mk' (z:=(.agg #[.int .i64 0,.int .i64 0])) (by kernel_rfl) rfl (fun _=>rfl) Tryz.underlying83 (.struct _ _ rfl) rfl
theorem tyOk84 : TyOk Tryz.prog 84 ty84:=TyOk.mk' (z:=(.agg #[.int .i64 0,.int .i64 0,.int .i64 0,.int .i64 0])) (by kernel_rfl) rfl (fun _=>rfl) Tryz.underlying84 (.struct _ _ rfl) rfl
theorem tyOk85 : TyOk Tryz.prog 85 ty85:=TyOk.mk' (z:=(.agg #[.int .i64 0,.int .i64 0,.int .i64 0,.int .i64 0])) (by kernel_rfl) rfl (fun _=>rfl) Tryz.underlying85 (.struct _ _ rfl) rfl
theorem tyOk89 : TyOk Tryz.prog 89 ty89:=TyOk.mk' (z:=(.agg #[.pointer none,.pointer none])) (by kernel_rfl) rfl (fun _=>rfl) Tryz.underlying89 (.array _ _) rfl
theorem tyOk90 : TyOk Tryz.prog 90 ty90:=TyOk.mk' (z:=(.pointer none)) (by kernel_rfl) rfl (fun h=>by cases h) Tryz.underlying90 (.ptr _) rfl
theorem tyOk91 : TyOk Tryz.prog 91 ty91:=TyOk.mk' (z:=(.agg #[.pointer none,.pointer none])) (by kernel_rfl) rfl (fun _=>rfl) Tryz.underlying91 (.array _ _) rfl
theorem tyOk92 : TyOk Tryz.prog 92 ty92:=TyOk.mk' (z:=(.pointer none)) (by kernel_rfl) rfl (fun h=>by cases h) Tryz.underlying92 (.ptr _) rfl
theorem tyOk93 : TyOk Tryz.prog 93 ty93:=TyOk.mk' (z:=(.pointer none)) (by kernel_rfl) rfl (fun h=>by cases h) Tryz.underlying93 (.ptr _) rfl
theorem tyOk94 : TyOk Tryz.prog 94 ty94:=TyOk.mk' (z:=(.pointer none)) (by kernel_rfl) rfl (fun h=>by cases h) Tryz.underlying94 (.ptr _) rfl
theorem tyOk96 : TyOk Tryz.prog 96 ty96:=TyOk.mk' (z:=(.agg #[.int .i64 0,.int .i64 0,.int .i64 0])) (by kernel_rfl) rfl (fun _=>rfl) Tryz.underlying96 (.struct _ _ rfl) rfl
theorem tyOk97 : TyOk Tryz.prog 97 ty97:=TyOk.mk' (z:=(.agg #[.int .i64 0,.int .i64 0,.int .i64 0])) (by kernel_rfl) rfl (fun _=>rfl) Tryz.underlying97 (.struct _ _ rfl) rfl
theorem tyOk98 : TyOk Tryz.prog 98 ty98:=TyOk.mk' (z:=(.agg #[.pointer none,.int .i64 0,.int .i64 0,.int .i64 0,.int .i64 0,.int .i64 0,.int .i64 0,.int .i64 0,.int .i64 0,.int .i64 0,.int .i64 0,.int .i64 0,.int .i64 0,.slice none 0 0,.slice none 0 0,.int .i64 0,.int .i64 0,.bool false,.slice none 0 0,.bool false,.bool false])) (by kernel_rfl) rfl (fun _=>rfl) Tryz.underlying98 (.struct _ _ rfl) rfl
theorem tyOk99 : TyOk Tryz.prog 99 ty99:=TyOk.mk' (z:=(.agg #[.pointer none,.int .i64 0,.int .i64 0,.int .i64 0,.int .i64 0,.int .i64 0,.int .i64 0,.int .i64 0,.int .i64 0,.int .i64 0,.int .i64 0,.int .i64 0,.int .i64 0,.slice none 0 0,.slice none 0 0,.int .i64 0,.int .i64 0,.bool false,.slice none 0 0,.bool false,.bool false])) (by kernel_rfl) rfl (fun _=>rfl) Tryz.underlying99 (.struct _ _ rfl) rfl
theorem tyOk101 : TyOk Tryz.prog 101 ty101:=TyOk.mk' (z:=(.nilFunc)) (by kernel_rfl) rfl (fun h=>by cases h) Tryz.underlying101 (.func _ _ _) rfl
theorem tyOk105 : TyOk Tryz.prog 105 ty105:=TyOk.mk' (z:=(.agg #[.pointer none,.pointer none,.pointer none,.pointer none])) (by kernel_rfl) rfl (fun _=>rfl) Tryz.underlying105 (.array _ _) rfl
theorem tyOk106 : TyOk Tryz.prog 106 ty106:=TyOk.mk' (z:=(.pointer none)) (by kernel_rfl) rfl (fun h=>by cases h) Tryz.underlying106 (.ptr _) rfl
theorem tyOk107 : TyOk Tryz.prog 107 ty107:=TyOk.mk' (z:=(.agg #[.pointer none,.pointer none,.pointer none,.pointer none])) (by kernel_rfl) rfl (fun _=>rfl) Tryz.underlying107 (.array _ _) rfl
theorem tyOk109 : TyOk Tryz.prog 109 ty109:=TyOk.mk' (z:=(.agg #[.int .i64 0,.pointer none,.pointer none,.pointer none,.bool false,.int .i64 0])) (by kernel_rfl) rfl (fun _=>rfl) Tryz.underlying109 (.struct _ _ rfl) rfl
theorem tyOk110 : TyOk Tryz.prog 110 ty110:=TyOk.mk' (z:=(.agg #[.int .i64 0,.pointer none,.pointer none,.pointer none,.bool false,.int .i64 0])) (by kernel_rfl) rfl (fun _=>rfl) Tryz.underlying110 (.struct _ _ rfl) rfl
theorem tyOk122 : TyOk Tryz.prog 122 ty122:=TyOk.mk' (z:=(.pointer none)) (by kernel_rfl) rfl (fun h=>by cases h) Tryz.underlying122 (.ptr _) rfl
theorem tyOk123 : TyOk Tryz.prog 123 ty123:=TyOk.mk' (z:=(.slice none 0 0)) (by kernel_rfl) rfl (fun h=>by cases h) Tryz.underlying123 (.slice _) rfl
theorem tyOk124 : TyOk Tryz.prog 124 ty124:=TyOk.mk' (z:=(.agg #[.int .i64 0,.slice none 0 0,.slice none 0 0,.slice none 0 0,.int .i64 0,.int .i64 0])) (by kernel_rfl) rfl (fun _=>rfl) Tryz.underlying124 (.struct _ _ rfl) rfl
theorem tyOk125 : TyOk Tryz.prog 125 ty125:=TyOk.mk' (z:=(.agg #[.int .i64 0,.slice none 0 0,.slice none 0 0,.slice none 0 0,.int .i64 0,.int .i64 0])) (by kernel_rfl) rfl (fun _=>rfl) Tryz.underlying125 (.struct _ _ rfl) rfl
theorem tyOk126 : TyOk Tryz.prog 126 ty126:=TyOk.mk' (z:=(.agg #[.pointer none,.slice none 0 0,.slice none 0 0,.int .i64 0,.int .i64 0,.slice none 0 0,.slice none 0 0,.slice none 0 0,.int .i64 0,.int .i64 0])) (by kernel_rfl) rfl (fun _=>rfl) Tryz.underlying126 (.struct _ _ rfl) rfl
theorem tyOk127 : TyOk Tryz.prog 127 ty127:=TyOk.mk' (z:=(.agg #[.pointer none,.slice none 0 0,.slice none 0 0,.int .i64 0,.int .i64 0,.slice none 0 0,.slice none 0 0,.slice none 0 0,.int .i64 0,.int .i64 0])) (by kernel_rfl) rfl (fun _=>rfl) Tryz.underlying127 (.struct _ _ rfl) rfl
theorem tyOk129 : TyOk Tryz.prog 129 ty129:=TyOk.mk' (z:=(.agg #[.int .i64 0,.int .i64 0,.int .i64 0,.int .i64 0,.int .i64 0])) (by kernel_rfl) rfl (fun _=>rfl) Tryz.underlying129 (.struct _ _ rfl) rfl
theorem tyOk130 : TyOk Tryz.prog 130 ty130:=TyOk.mk' (z:=(.agg #[.int .i64 0,.int .i64 0,.int .i64 0,.int .i64 0,.int .i64 0])) (by kernel_rfl) rfl (fun _=>rfl) Tryz.underlying130 (.struct _ _ rfl) rfl
theorem tyOk132 : TyOk Tryz.prog 132 ty132:=TyOk.mk' (z:=(.int .u64 0)) (by kernel_rfl) rfl (fun h=>by cases h) Tryz.underlying132 (.int _) rfl
theorem tyOk133 : TyOk Tryz.prog 133 ty133:=TyOk.mk' (z:=(.agg #[.int .u8 0,.int .u64 0,.bool false])) (by kernel_rfl) rfl (fun _=>rfl) Tryz.underlying133 (.struct _ _ rfl) rfl
theorem tyOk134 : TyOk Tryz.prog 134 ty134:=TyOk.mk' (z:=(.agg #[.int .u8 0,.int .u64 0,.bool false])) (by kernel_rfl) rfl (fun _=>rfl) Tryz.underlying134 (.struct _ _ rfl) rfl
theorem tyOk137 : TyOk Tryz.prog 137 ty137:=TyOk.mk' (z:=(.agg #[.pointer none,.slice none 0 0,.slice none 0 0,.int .i64 0,.int .i64 0,.slice none 0 0,.slice none 0 0,.slice none 0 0,.int .i64 0,.int .i64 0])) (by kernel_rfl) rfl (fun _=>rfl) Tryz.underlying137 (.struct _ _ rfl) rfl
theorem tyOk138 : TyOk Tryz.prog 138 ty138:=TyOk.mk' (z:=(.agg #[.pointer none,.slice none 0 0,.slice none 0 0,.int .i64 0,.int .i64 0,.slice none 0 0,.slice none 0 0,.slice none 0 0,.int .i64 0,.int .i64 0])) (by kernel_rfl) rfl (fun _=>rfl) Tryz.underlying138 (.struct _ _ rfl) rfl
theorem tyOk140 : TyOk Tryz.prog 140 ty140:=TyOk.mk' (z:=(.agg #[.int .i64 0,.int .i64 0,.int .i64 0,.int .i64 0,.int .i64 0,.bool false])) (by kernel_rfl) rfl (fun _=>rfl) Tryz.underlying140 (.struct _ _ rfl) rfl
theorem tyOk141 : TyOk Tryz.prog 141 ty141:=TyOk.mk' (z:=(.agg #[.int .i64 0,.int .i64 0,.int .i64 0,.int .i64 0,.int .i64 0,.bool false])) (by kernel_rfl) rfl (fun _=>rfl) Tryz.underlying141 (.struct _ _ rfl) rfl
theorem tyOk142 : TyOk Tryz.prog 142 ty142:=TyOk.mk' (z:=(.agg #[.slice none 0 0,.int .i64 0])) (by kernel_rfl) rfl (fun _=>rfl) Tryz.underlying142 (.struct _ _ rfl) rfl
theorem tyOk143 : TyOk Tryz.prog 143 ty143:=TyOk.mk' (z:=(.agg #[.slice none 0 0,.int .i64 0])) (by kernel_rfl) rfl (fun _=>rfl) Tryz.underlying143 (.struct _ _ rfl) rfl
theorem tyOk144 : TyOk Tryz.prog 144 ty144:=TyOk.mk' (z:=(.agg #[.slice none 0 0])) (by kernel_rfl) rfl (fun _=>rfl) Tryz.underlying144 (.struct _ _ rfl) rfl
theorem tyOk145 : TyOk Tryz.prog 145 ty145:=TyOk.mk' (z:=(.agg #[.slice none 0 0])) (by kernel_rfl) rfl (fun _=>rfl) Tryz.underlying145 (.struct _ _ rfl) rfl
theorem tyOk146 : TyOk Tryz.prog 146 ty146:=TyOk.mk' (z:=(.slice none 0 0)) (by kernel_rfl) rfl (fun h=>by cases h) Tryz.underlying146 (.slice _) rfl
theorem tyOk147 : TyOk Tryz.prog 147 ty147:=TyOk.mk' (z:=(.agg #[.slice none 0 0])) (by kernel_rfl) rfl (fun _=>rfl) Tryz.underlying147 (.struct _ _ rfl) rfl
theorem tyOk148 : TyOk Tryz.prog 148 ty148:=TyOk.mk' (z:=(.agg #[.slice none 0 0])) (by kernel_rfl) rfl (fun _=>rfl) Tryz.underlying148 (.struct _ _ rfl) rfl
theorem tyOk149 : TyOk Tryz.prog 149 ty149:=TyOk.mk' (z:=(.agg #[.slice none 0 0,.int .i64 0,.slice none 0 0,.slice none 0 0])) (by kernel_rfl) rfl (fun _=>rfl) Tryz.underlying149 (.struct _ _ rfl) rfl
theorem tyOk150 : TyOk Tryz.prog 150 ty150:=TyOk.mk' (z:=(.agg #[.slice none 0 0,.int .i64 0,.slice none 0 0,.slice none 0 0])) (by kernel_rfl) rfl (fun _=>rfl) Tryz.underlying150 (.struct _ _ rfl) rfl
theorem tyOk151 : TyOk Tryz.prog 151 ty151:=TyOk.mk' (z:=(.nilFunc)) (by kernel_rfl) rfl (fun h=>by cases h) Tryz.underlying151 (.func _ _ _) rfl
theorem tyOk152 : TyOk Tryz.prog 152 ty152:=TyOk.mk' (z:=(.map none)) (by kernel_rfl) rfl (fun h=>by cases h) Tryz.underlying152 (.map _ _) rfl
theorem tyOk154 : TyOk Tryz.prog 154 ty154:=TyOk.mk' (z:=(.pointer none)) (by kernel_rfl) rfl (fun h=>by cases h) Tryz.underlying154 (.ptr _) rfl
theorem tyOk155 : TyOk Tryz.prog 155 ty155:=TyOk.mk' (z:=(.bool false)) (by kernel_rfl) rfl (fun h=>by cases h) Tryz.underlying155 (.bool) rfl
theorem tyOk160 : TyOk Tryz.prog 160 ty160:=TyOk.mk' (z:=(.agg #[.pointer none,.int .i64 0,.int .i64 0,.int .i64 0,.int .i64 0,.int .i64 0,.int .i64 0,.int .i64 0,.bool false,.int .i64 0,.int .i64 0,.int .i64 0,.int .i64 0,.bool false,.slice none 0 0,.slice none 0 0,.int .i64 0,.int .i64 0,.bool false,.slice none 0 0,.bool false,.bool false])) (by kernel_rfl) rfl (fun _=>rfl) Tryz.underlying160 (.struct _ _ rfl) rfl
theorem tyOk161 : TyOk Tryz.prog 161 ty161:=TyOk.mk' (z:=(.agg #[.pointer none,.int .i64 0,.int .i64 0,.int .i64 0,.int .i64 0,.int .i64 0,.int .i64 0,.int .i64 0,.bool false,.int .i64 0,.int .i64 0,.int .i64 0,.int .i64 0,.bool false,.slice none 0 0,.slice none 0 0,.int .i64 0,.int .i64 0,.bool false,.slice none 0 0,.bool false,.bool false])) (by kernel_rfl) rfl (fun _=>rfl) Tryz.underlying161 (.struct _ _ rfl) rfl
theorem tyOk163 : TyOk Tryz.prog 163 ty163:=TyOk.mk' (z:=(.slice none 0 0)) (by kernel_rfl) rfl (fun h=>by cases h) Tryz.underlying163 (.slice _) rfl
theorem tyOk164 : TyOk Tryz.prog 164 ty164:=TyOk.mk' (z:=(.agg #[.int .i64 0,.int .i64 0,.int .i64 0,.slice none 0 0])) (by kernel_rfl) rfl (fun _=>rfl) Tryz.underlying164 (.struct _ _ rfl) rfl
theorem tyOk165 : TyOk Tryz.prog 165 ty165:=TyOk.mk' (z:=(.agg #[.int .i64 0,.int .i64 0,.int .i64 0,.slice none 0 0])) (by kernel_rfl) rfl (fun _=>rfl) Tryz.underlying165 (.struct _ _ rfl) rfl
theorem tyOk167 : TyOk Tryz.prog 167 ty167:=TyOk.mk' (z:=(.nilFunc)) (by kernel_rfl) rfl (fun h=>by cases h) Tryz.underlying167 (.func _ _ _) rfl
theorem tyOk168 : TyOk Tryz.prog 168 ty168:=TyOk.mk' (z:=(.agg #[.int .i64 0,.int .i64 0,.int .i64 0,.int .i64 0])) (by kernel_rfl) rfl (fun _=>rfl) Tryz.underlying168 (.array _ _) rfl
theorem tyOk172 : TyOk Tryz.prog 172 ty172:=TyOk.mk' (z:=(.int .i64 0)) (by kernel_rfl) rfl (fun h=>by cases h) Tryz.underlying172 (.int _) rfl
theorem tyOk173 : TyOk Tryz.prog 173 ty173:=TyOk.mk' (z:=(.int .i64 0)) (by kernel_rfl) rfl (fun h=>by cases h) Tryz.underlying173 (.int _) rfl
theorem tyOk174 : TyOk Tryz.prog 174 ty174:=TyOk.mk' (z:=(.agg #[.pointer none,.int .i64 0,.int .i64 0,.int .i64 0,.int .i64 0,.int .i64 0,.int .i64 0,.bool false,.slice none 0 0,.bool false])) (by kernel_rfl) rfl (fun _=>rfl) Tryz.underlying174 (.struct _ _ rfl) rfl
theorem tyOk175 : TyOk Tryz.prog 175 ty175:=TyOk.mk' (z:=(.agg #[.pointer none,.int .i64 0,.int .i64 0,.int .i64 0,.int .i64 0,.int .i64 0,.int .i64 0,.bool false,.slice none 0 0,.bool false])) (by kernel_rfl) rfl (fun _=>rfl) Tryz.underlying175 (.struct _ _ rfl) rfl
theorem tyOk179 : TyOk Tryz.prog 179 ty179:=TyOk.mk' (z:=(.nilFunc)) (by kernel_rfl) rfl (fun h=>by cases h) Tryz.underlying179 (.func _ _ _) rfl
theorem tyOk180 : TyOk Tryz.prog 180 ty180:=TyOk.mk' (z:=(.nilFunc)) (by kernel_rfl) rfl (fun h=>by cases h) Tryz.underlying180 (.func _ _ _) rfl
theorem tyOk181 : TyOk Tryz.prog 181 ty181:=TyOk.mk' (z:=(.agg #[.pointer none,.int .i64 0,.int .i64 0,.nilFunc,.slice none 0 0,.nilFunc,.int .i64 0,.int .i64 0,.bool false,.slice none 0 0,.int .i64 0,.int .i64 0,.bool false,.slice none 0 0,.bool false,.bool false])) (by kernel_rfl) rfl (fun _=>rfl) Tryz.underlying181 (.struct _ _ rfl) rfl
theorem tyOk182 : TyOk Tryz.prog 182 ty182:=TyOk.mk' (z:=(.agg #[.pointer none,.int .i64 0,.int .i64 0,.nilFunc,.slice none 0 0,.nilFunc,.int .i64 0,.int .i64 0,.bool false,.slice none 0 0,.int .i64 0,.int .i64 0,.bool false,.slice none 0 0,.bool false,.bool false])) (by kernel_rfl) rfl (fun _=>rfl) Tryz.underlying182 (.struct _ _ rfl) rfl
theorem tyOk183 : TyOk Tryz.prog 183 ty183:=TyOk.mk' (z:=(.agg #[.bool false,.bool false,.bool false])) (by kernel_rfl) rfl (fun _=>rfl) Tryz.underlying183 (.array _ _) rfl
theorem tyOk184 : TyOk Tryz.prog 184 ty184:=TyOk.mk' (z:=(.agg #[.pointer none,.int .i64 0,.int .i64 0,.int .i64 0,.int .i64 0,.int .i64 0,.int .i64 0,.int .i64 0,.bool false,.bool false,.bool false,.int .i64 0,.int .i64 0,.bool false,.slice none 0 0,.bool false,.bool false,.bool false,.bool false,.bool false])) (by kernel_rfl) rfl (fun _=>rfl) Tryz.underlying184 (.struct _ _ rfl) rfl
theorem tyOk185 : TyOk Tryz.prog 185 ty185:=TyOk.mk' (z:=(.agg #[.pointer none,.int .i64 0,.int .i64 0,.int .i64 0,.int .i64 0,.int .i64 0,.int .i64 0,.int .i64 0,.bool false,.bool false,.bool false,.int .i64 0,.int .i64 0,.bool false,.slice none 0 0,.bool false,.bool false,.bool false,.bool false,.bool false])) (by kernel_rfl) rfl (fun _=>rfl) Tryz.underlying185 (.struct _ _ rfl) rfl
theorem tyOk187 : TyOk Tryz.prog 187 ty187:=TyOk.mk' (z:=(.agg #[.pointer none,.int .i64 0,.int .i64 0,.int .i64 0,.int .i64 0,.int .i64 0,.int .i64 0,.bool false,.int .i64 0,.int .i64 0,.int .i64 0,.bool false,.slice none 0 0,.bool false,.bool false])) (by kernel_rfl) rfl (fun _=>rfl) Tryz.underlying187 (.struct _ _ rfl) rfl
theorem tyOk188 : TyOk Tryz.prog 188 ty188:=TyOk.mk' (z:=(.agg #[.pointer none,.int .i64 0,.int .i64 0,.int .i64 0,.int .i64 0,.int .i64 0,.int .i64 0,.bool false,.int .i64 0,.int .i64 0,.int .i64 0,.bool false,.slice none 0 0,.bool false,.bool false])) (by kernel_rfl) rfl (fun _=>rfl) Tryz.underlying188 (.struct _ _ rfl) rfl
theorem tyOk193 : TyOk Tryz.prog 193 ty193:=TyOk.mk' (z:=(.agg #[.slice none 0 0,.slice none 0 0,.slice none 0 0,.int .i64 0])) (by kernel_rfl) rfl (fun _=>rfl) Tryz.underlying193 (.struct _ _ rfl) rfl
theorem tyOk194 : TyOk Tryz.prog 194 ty194:=TyOk.mk' (z:=(.agg #[.slice none 0 0,.slice none 0 0,.slice none 0 0,.int .i64 0])) (by kernel_rfl) rfl (fun _=>rfl) Tryz.underlying194 (.struct _ _ rfl) rfl
theorem tyOk195 : TyOk Tryz.prog 195 ty195:=TyOk.mk' (z:=(.pointer none)) (by kernel_rfl) rfl (fun h=>by cases h) Tryz.underlying195 (.ptr _) rfl
theorem tyOk197 : TyOk Tryz.prog 197 ty197:=TyOk.mk' (z:=(.agg #[.bool false,.int .i64 0])) (by kernel_rfl) rfl (fun _=>rfl) Tryz.underlying197 (.struct _ _ rfl) rfl
theorem tyOk198 : TyOk Tryz.prog 198 ty198:=TyOk.mk' (z:=(.agg #[.bool false,.int .i64 0])) (by kernel_rfl) rfl (fun _=>rfl) Tryz.underlying198 (.struct _ _ rfl) rfl
theorem tyOk205 : TyOk Tryz.prog 205 ty205:=TyOk.mk' (z:=(.nilFunc)) (by kernel_rfl) rfl (fun h=>by cases h) Tryz.underlying205 (.func _ _ _) rfl
theorem tyOk208 : TyOk Tryz.prog 208 ty208:=TyOk.mk' (z:=(.nilFunc)) (by kernel_rfl) rfl (fun h=>by cases h) Tryz.underlying208 (.func _ _ _) rfl
theorem tyOk217 : TyOk Tryz.prog 217 ty217:=TyOk.mk' (z:=(.pointer none)) (by kernel_rfl) rfl (fun h=>by cases h) Tryz.underlying217 (.ptr _) rfl
theorem tyOk219 : TyOk Tryz.prog 219 ty219:=TyOk.mk' (z:=(.int .i64 0)) (by kernel_rfl) rfl (fun h=>by cases h) Tryz.underlying219 (.int _) rfl
theorem tyOk223 : TyOk Tryz.prog 223 ty223:=TyOk.mk' (z:=(.int .u64 0)) (by kernel_rfl) rfl (fun h=>by cases h) Tryz.underlying223 (.int _) rfl
theorem tyOk232 : TyOk Tryz.prog 232 ty232:=TyOk.mk' (z:=(.pointer none)) (by kernel_rfl) rfl (fun h=>by cases h) Tryz.underlying232 (.ptr _) rfl
theorem tyOk234 : TyOk Tryz.prog 234 ty234:=TyOk.mk' (z:=(.agg #[.nilFunc,.nilFunc,.nilFunc,.nilFunc])) (by kernel_rfl) rfl (fun _=>rfl) Tryz.underlying234 (.array _ _) rfl
theorem tyOk238 : TyOk Tryz.prog 238 ty238:=TyOk.mk' (z:=(.map none)) (by kernel_rfl) rfl (fun h=>by cases h) Tryz.underlying238 (.map _ _) rfl
theorem tyOk243 : TyOk Tryz.prog 243 ty243:=TyOk.mk' (z:=(.nilFunc)) (by kernel_rfl) rfl (fun h=>by cases h) Tryz.underlying243 (.func _ _ _) rfl
theorem tyOk245 : TyOk Tryz.prog 245 ty245:=TyOk.mk' (z:=(.nilFunc)) (by kernel_rfl) rfl (fun h=>by cases h) Tryz.underlying245 (.func _ _ _) rfl
theorem tyOk248 : TyOk Tryz.prog 248 ty248:=TyOk.mk' (z:=(.pointer none)) (by kernel_rfl) rfl (fun h=>by cases h) Tryz.underlying248 (.ptr _) rfl
theorem tyOk249 : TyOk Tryz.prog 249 ty249:=TyOk.mk' (z:=(.pointer none)) (by kernel_rfl) rfl (fun h=>by cases h) Tryz.underlying249 (.ptr _) rfl
theorem tyOk251 : TyOk Tryz.prog 251 ty251:=TyOk.mk' (z:=(.int .i64 0)) (by kernel_rfl) rfl (fun h=>by cases h) Tryz.underlying251 (.int _) rfl
theorem tyOk258 : TyOk Tryz.prog 258 ty258:=TyOk.mk' (z:=(.int .u32 0)) (by kernel_rfl) rfl (fun h=>by cases h) Tryz.underlying258 (.int _) rfl
theorem tyOk267 : TyOk Tryz.prog 267 ty267:=TyOk.mk' (z:=(.nilFunc)) (by kernel_rfl) rfl (fun h=>by cases h) Tryz.underlying267 (.func _ _ _) rfl
theorem tyOk269 : TyOk Tryz.prog 269 ty269:=TyOk.mk' (z:=(.nilFunc)) (by kernel_rfl) rfl (fun h=>by cases h) Tryz.underlying269 (.func _ _ _) rfl
theorem tyOk276 : TyOk Tryz.prog 276 ty276:=TyOk.mk' (z:=(.pointer none)) (by kernel_rfl) rfl (fun h=>by cases h) Tryz.underlying276 (.ptr _) rfl
theorem tyOk279 : TyOk Tryz.prog 279 ty279:=TyOk.mk' (z:=(.int .u64 0)) (by kernel_rfl) rfl (fun h=>by cases h) Tryz.underlying279 (.int _) rfl
theorem tyOk296 : TyOk Tryz.prog 296 ty296:=TyOk.mk' (z:=(.pointer none)) (by kernel_rfl) rfl (fun h=>by cases h) Tryz.underlying296 (.ptr _) rfl
theorem tyOk301 : TyOk Tryz.prog 301 ty301:=TyOk.mk' (z:=(.nilFunc)) (by kernel_rfl) rfl (fun h=>by cases h) Tryz.underlying301 (.func _ _ _) rfl
theorem tyOk310 : TyOk Tryz.prog 310 ty310:=TyOk.mk' (z:=(.agg #[])) (by kernel_rfl) rfl (fun _=>rfl) Tryz.underlying310 (.array _ _) rfl
theorem tyOk311 : TyOk Tryz.prog 311 ty311:=TyOk.mk' (z:=(.agg #[])) (by kernel_rfl) rfl (fun _=>rfl) Tryz.underlying311 (.struct _ _ rfl) rfl
theorem tyOk312 : TyOk Tryz.prog 312 ty312:=TyOk.mk' (z:=(.agg #[])) (by kernel_rfl) rfl (fun _=>rfl) Tryz.underlying312 (.struct _ _ rfl) rfl
theorem tyOk313 : TyOk Tryz.prog 313 ty313:=TyOk.mk' (z:=(.int .u8 0)) (by kernel_rfl) rfl (fun h=>by cases h) Tryz.underlying313 (.int _) rfl
theorem tyOk314 : TyOk Tryz.prog 314 ty314:=TyOk.mk' (z:=(.int .u8 0)) (by kernel_rfl) rfl (fun h=>by cases h) Tryz.underlying314 (.int _) rfl
theorem tyOk315 : TyOk Tryz.prog 315 ty315:=TyOk.mk' (z:=(.nilFunc)) (by kernel_rfl) rfl (fun h=>by cases h) Tryz.underlying315 (.func _ _ _) rfl
theorem tyOk316 : TyOk Tryz.prog 316 ty316:=TyOk.mk' (z:=(.pointer none)) (by kernel_rfl) rfl (fun h=>by cases h) Tryz.underlying316 (.ptr _) rfl
theorem tyOk317 : TyOk Tryz.prog 317 ty317:=TyOk.mk' (z:=(.int .i32 0)) (by kernel_rfl) rfl (fun h=>by cases h) Tryz.underlying317 (.int _) rfl
theorem tyOk318 : TyOk Tryz.prog 318 ty318:=TyOk.mk' (z:=(.int .i32 0)) (by kernel_rfl) rfl (fun h=>by cases h) Tryz.underlying318 (.int _) rfl
theorem tyOk319 : TyOk Tryz.prog 319 ty319:=TyOk.mk' (z:=(.agg #[.int .u64 0,.int .u64 0,.int .u32 0,.int .u8 0,.int .u8 0,.int .u8 0,.int .u8 0,.nilFunc,.pointer none,.int .i32 0,.int .i32 0])) (by kernel_rfl) rfl (fun _=>rfl) Tryz.underlying319 (.struct _ _ rfl) rfl
theorem tyOk320 : TyOk Tryz.prog 320 ty320:=TyOk.mk' (z:=(.agg #[.int .u64 0,.int .u64 0,.int .u32 0,.int .u8 0,.int .u8 0,.int .u8 0,.int .u8 0,.nilFunc,.pointer none,.int .i32 0,.int .i32 0])) (by kernel_rfl) rfl (fun _=>rfl) Tryz.underlying320 (.struct _ _ rfl) rfl
theorem tab_ok : TabOk Tryz.prog tab:=TT.ok (T:=tabT) ⟨tyOk132,⟨tyOk61,⟨tyOk27,⟨tyOk15,⟨tyOk5,⟨tyOk3,⟨tyOk2,⟨tyOk1,trivial,trivial⟩,trivial⟩,⟨tyOk4,trivial,trivial⟩⟩,⟨tyOk8,⟨tyOk7,⟨tyOk6,trivial,trivial⟩,trivial⟩,⟨tyOk12,trivial,trivial⟩⟩⟩,⟨tyOk21,⟨tyOk18,⟨tyOk17,⟨tyOk16,trivial,trivial⟩,trivial⟩,⟨tyOk19,trivial,trivial⟩⟩,⟨tyOk24,⟨tyOk23,⟨tyOk22,trivial,trivial⟩,trivial⟩,⟨tyOk26,trivial,trivial⟩⟩⟩⟩,⟨tyOk45,⟨tyOk38,⟨tyOk35,⟨tyOk32,⟨tyOk31,trivial,trivial⟩,trivial⟩,⟨tyOk37,trivial,trivial⟩⟩,⟨tyOk43,⟨tyOk40,⟨tyOk39,trivial,trivial⟩,trivial⟩,⟨tyOk44,trivial,trivial⟩⟩⟩,⟨tyOk55,⟨tyOk53,⟨tyOk49,⟨tyOk46,trivial,trivial⟩,trivial⟩,⟨tyOk54,trivial,trivial⟩⟩,⟨tyOk59,⟨tyOk56,trivial,trivial⟩,⟨tyOk60,trivial,trivial⟩⟩⟩⟩⟩,⟨tyOk94,⟨tyOk82,⟨tyOk74,⟨tyOk65,⟨tyOk64,⟨tyOk63,trivial,trivial⟩,trivial⟩,⟨tyOk68,trivial,trivial⟩⟩,⟨tyOk79,⟨tyOk78,⟨tyOk77,trivial,trivial⟩,trivial⟩,⟨tyOk80,trivial,trivial⟩⟩⟩,⟨tyOk90,⟨tyOk85,⟨tyOk84,⟨tyOk83,trivial,trivial⟩,trivial⟩,⟨tyOk89,trivial,trivial⟩⟩,⟨tyOk92,⟨tyOk91,trivial,trivial⟩,⟨tyOk93,trivial,trivial⟩⟩⟩⟩,⟨tyOk110,⟨tyOk101,⟨tyOk98,⟨tyOk97,⟨tyOk96,trivial,trivial⟩,trivial⟩,⟨tyOk99,trivial,trivial⟩⟩,⟨tyOk107,⟨tyOk106,⟨tyOk105,trivial,trivial⟩,trivial⟩,⟨tyOk109,trivial,trivial⟩⟩⟩,⟨tyOk126,⟨tyOk124,⟨tyOk123,⟨tyOk122,trivial,trivial⟩,trivial⟩,⟨tyOk125,trivial,trivial⟩⟩,⟨tyOk129,⟨tyOk127,trivial,trivial⟩,⟨tyOk130,trivial,trivial⟩⟩⟩⟩⟩⟩,⟨tyOk187,⟨tyOk155,⟨tyOk145,⟨tyOk140,⟨tyOk137,⟨tyOk134,⟨tyOk133,trivial,trivial⟩,trivial⟩,⟨tyOk138,trivial,trivial⟩⟩,⟨tyOk143,⟨tyOk142,⟨tyOk141,trivial,trivial⟩,trivial⟩,⟨tyOk144,trivial,trivial⟩⟩⟩,⟨tyOk150,⟨tyOk148,⟨tyOk147,⟨tyOk146,trivial,trivial⟩,trivial⟩,⟨tyOk149,trivial,trivial⟩⟩,⟨tyOk152,⟨tyOk151,trivial,trivial⟩,⟨tyOk154,trivial,trivial⟩⟩⟩⟩,⟨tyOk174,⟨tyOk165,⟨tyOk163,⟨tyOk161,⟨tyOk160,trivial,trivial⟩,trivial⟩,⟨tyOk164,trivial,trivial⟩⟩,⟨tyOk172,⟨tyOk168,⟨tyOk167,trivial,trivial⟩,trivial⟩,⟨tyOk173,trivial,trivial⟩⟩⟩,⟨tyOk182,⟨tyOk180,⟨tyOk179,⟨tyOk175,trivial,trivial⟩,trivial⟩,⟨tyOk181,trivial,trivial⟩⟩,⟨tyOk184,⟨tyOk183,trivial,trivial⟩,⟨tyOk185,trivial,trivial⟩⟩⟩⟩⟩,⟨tyOk251,⟨tyOk219,⟨tyOk197,⟨tyOk194,⟨tyOk193,⟨tyOk188,trivial,trivial⟩,trivial⟩,⟨tyOk195,trivial,trivial⟩⟩,⟨tyOk208,⟨tyOk205,⟨tyOk198,trivial,trivial⟩,trivial⟩,⟨tyOk217,trivial,trivial⟩⟩⟩,⟨tyOk243,⟨tyOk234,⟨tyOk232,⟨tyOk223,trivial,trivial⟩,trivial⟩,⟨tyOk238,trivial,trivial⟩⟩,⟨tyOk248,⟨tyOk245,trivial,trivial⟩,⟨tyOk249,trivial,trivial⟩⟩⟩⟩,⟨tyOk312,⟨tyOk279,⟨tyOk269,⟨tyOk267,⟨tyOk258,trivial,trivial⟩,trivial⟩,⟨tyOk276,trivial,trivial⟩⟩,⟨tyOk310,⟨tyOk301,⟨tyOk296,trivial,trivial⟩,trivial⟩,⟨tyOk311,trivial,trivial⟩⟩⟩,⟨tyOk317,⟨tyOk315,⟨tyOk314,⟨tyOk313,trivial,trivial⟩,trivial⟩,⟨tyOk316,trivial,trivial⟩⟩,⟨tyOk319,⟨tyOk318,trivial,trivial⟩,⟨tyOk320,trivial,trivial⟩⟩⟩⟩⟩⟩⟩
theorem mix : Tryz.prog.follows .mixedOrders = true:=by kernel_rfl
end Go.Proofs.YtdjnjchpgccbiaaGreat.Abs
