/- The seat's table: what TM asks of the program's types and functions. Conditions: none; closed facts. -/
import Derived.Test.YtkhjfphenflefaaTm3
import Derived.Test.YtkhjfphenflefaaProg
namespace Go.Proofs.Ytkhjfphenflefaa.TM
open Go
theorem ty0 : tkB Try.prog 2 = some (.int .i64) := by kernel_rfl
theorem ty1 : szOf Try.prog 2 = 1 := by kernel_rfl
theorem ty2 : isAggB Try.prog 2 = false := by kernel_rfl
theorem ty3 : isArrB Try.prog 2 = false := by kernel_rfl
theorem ty4 : infoB Try.prog 2 = true := by kernel_rfl
theorem ty5 : undB Try.prog 2 = true := by kernel_rfl
theorem ty6 : Program.bytesOf Try.prog 2 = 8 := by kernel_rfl
theorem ty7 : elemB Try.prog 2 = none := by kernel_rfl
theorem ty8 : zeroB Try.prog 2 = some [Value.int .i64 0] := by kernel_rfl
theorem ty9 : tkB Try.prog 3 = some (.int .i64) := by kernel_rfl
theorem ty10 : szOf Try.prog 3 = 1 := by kernel_rfl
theorem ty11 : isAggB Try.prog 3 = false := by kernel_rfl
theorem ty12 : isArrB Try.prog 3 = false := by kernel_rfl
theorem ty13 : infoB Try.prog 3 = true := by kernel_rfl
theorem ty14 : undB Try.prog 3 = true := by kernel_rfl
theorem ty15 : Program.bytesOf Try.prog 3 = 8 := by kernel_rfl
theorem ty16 : elemB Try.prog 3 = none := by kernel_rfl
theorem ty17 : zeroB Try.prog 3 = some [Value.int .i64 0] := by kernel_rfl
theorem ty18 : tkB Try.prog 4 = some .bool := by kernel_rfl
theorem ty19 : szOf Try.prog 4 = 1 := by kernel_rfl
theorem ty20 : isAggB Try.prog 4 = false := by kernel_rfl
theorem ty21 : isArrB Try.prog 4 = false := by kernel_rfl
theorem ty22 : infoB Try.prog 4 = true := by kernel_rfl
theorem ty23 : undB Try.prog 4 = true := by kernel_rfl
theorem ty24 : Program.bytesOf Try.prog 4 = 1 := by kernel_rfl
theorem ty25 : elemB Try.prog 4 = none := by kernel_rfl
theorem ty26 : zeroB Try.prog 4 = some [Value.bool false] := by kernel_rfl
theorem ty27 : zero1B Try.prog 4 = some (Value.bool false) := by kernel_rfl
theorem ty28 : tkB Try.prog 5 = some (.int .u8) := by kernel_rfl
theorem ty29 : szOf Try.prog 5 = 1 := by kernel_rfl
theorem ty30 : isAggB Try.prog 5 = false := by kernel_rfl
theorem ty31 : isArrB Try.prog 5 = false := by kernel_rfl
theorem ty32 : infoB Try.prog 5 = true := by kernel_rfl
theorem ty33 : undB Try.prog 5 = true := by kernel_rfl
theorem ty34 : Program.bytesOf Try.prog 5 = 1 := by kernel_rfl
theorem ty35 : elemB Try.prog 5 = none := by kernel_rfl
theorem ty36 : zeroB Try.prog 5 = some [Value.int .u8 0] := by kernel_rfl
theorem ty37 : tkB Try.prog 6 = some (.int .u8) := by kernel_rfl
theorem ty38 : szOf Try.prog 6 = 1 := by kernel_rfl
theorem ty39 : isAggB Try.prog 6 = false := by kernel_rfl
theorem ty40 : isArrB Try.prog 6 = false := by kernel_rfl
theorem ty41 : infoB Try.prog 6 = true := by kernel_rfl
theorem ty42 : undB Try.prog 6 = true := by kernel_rfl
theorem ty43 : Program.bytesOf Try.prog 6 = 1 := by kernel_rfl
theorem ty44 : elemB Try.prog 6 = none := by kernel_rfl
theorem ty45 : zeroB Try.prog 6 = some [Value.int .u8 0] := by kernel_rfl
theorem ty46 : tkB Try.prog 7 = some .other := by kernel_rfl
theorem ty47 : szOf Try.prog 7 = 4 := by kernel_rfl
theorem ty48 : isAggB Try.prog 7 = true := by kernel_rfl
theorem ty49 : isArrB Try.prog 7 = false := by kernel_rfl
theorem ty50 : infoB Try.prog 7 = true := by kernel_rfl
theorem ty51 : undB Try.prog 7 = true := by kernel_rfl
theorem ty52 : Program.bytesOf Try.prog 7 = 24 := by kernel_rfl
theorem ty53 : elemB Try.prog 7 = none := by kernel_rfl
theorem ty54 : zeroB Try.prog 7 = some [Value.int .i64 0, Value.int .i64 0, Value.bool false, Value.int .u8 0] := by kernel_rfl
theorem ty55 : fieldB Try.prog 7 0 = some (2, 0) := by kernel_rfl
theorem ty56 : fieldB Try.prog 7 1 = some (3, 1) := by kernel_rfl
theorem ty57 : fieldB Try.prog 7 2 = some (4, 2) := by kernel_rfl
theorem ty58 : fieldB Try.prog 7 3 = some (6, 3) := by kernel_rfl
theorem ty59 : placesOf Try.prog 7 = some (.st [(0, 1), (1, 1), (2, 1), (3, 1)]) := by kernel_rfl
theorem ty60 : tkB Try.prog 9 = some .str := by kernel_rfl
theorem ty61 : szOf Try.prog 9 = 1 := by kernel_rfl
theorem ty62 : isAggB Try.prog 9 = false := by kernel_rfl
theorem ty63 : isArrB Try.prog 9 = false := by kernel_rfl
theorem ty64 : infoB Try.prog 9 = true := by kernel_rfl
theorem ty65 : undB Try.prog 9 = true := by kernel_rfl
theorem ty66 : Program.bytesOf Try.prog 9 = 16 := by kernel_rfl
theorem ty67 : elemB Try.prog 9 = none := by kernel_rfl
theorem ty68 : zeroB Try.prog 9 = some [Value.string ByteArray.empty] := by kernel_rfl
theorem ty69 : tkB Try.prog 11 = some .str := by kernel_rfl
theorem ty70 : szOf Try.prog 11 = 1 := by kernel_rfl
theorem ty71 : isAggB Try.prog 11 = false := by kernel_rfl
theorem ty72 : isArrB Try.prog 11 = false := by kernel_rfl
theorem ty73 : infoB Try.prog 11 = true := by kernel_rfl
theorem ty74 : undB Try.prog 11 = true := by kernel_rfl
theorem ty75 : Program.bytesOf Try.prog 11 = 16 := by kernel_rfl
theorem ty76 : elemB Try.prog 11 = none := by kernel_rfl
theorem ty77 : zeroB Try.prog 11 = some [Value.string ByteArray.empty] := by kernel_rfl
theorem ty78 : tkB Try.prog 12 = some (.int .u64) := by kernel_rfl
theorem ty79 : szOf Try.prog 12 = 1 := by kernel_rfl
theorem ty80 : isAggB Try.prog 12 = false := by kernel_rfl
theorem ty81 : isArrB Try.prog 12 = false := by kernel_rfl
theorem ty82 : infoB Try.prog 12 = true := by kernel_rfl
theorem ty83 : undB Try.prog 12 = true := by kernel_rfl
theorem ty84 : Program.bytesOf Try.prog 12 = 8 := by kernel_rfl
theorem ty85 : elemB Try.prog 12 = none := by kernel_rfl
theorem ty86 : zeroB Try.prog 12 = some [Value.int .u64 0] := by kernel_rfl
theorem ty87 : tkB Try.prog 22 = some (.sl 3) := by kernel_rfl
theorem ty88 : szOf Try.prog 22 = 1 := by kernel_rfl
theorem ty89 : isAggB Try.prog 22 = false := by kernel_rfl
theorem ty90 : isArrB Try.prog 22 = false := by kernel_rfl
theorem ty91 : infoB Try.prog 22 = true := by kernel_rfl
theorem ty92 : undB Try.prog 22 = true := by kernel_rfl
theorem ty93 : Program.bytesOf Try.prog 22 = 24 := by kernel_rfl
theorem ty94 : elemB Try.prog 22 = some 3 := by kernel_rfl
theorem ty95 : zeroB Try.prog 22 = some [Value.slice none 0 0] := by kernel_rfl
theorem ty96 : tkB Try.prog 25 = some (.int .i64) := by kernel_rfl
theorem ty97 : szOf Try.prog 25 = 1 := by kernel_rfl
theorem ty98 : isAggB Try.prog 25 = false := by kernel_rfl
theorem ty99 : isArrB Try.prog 25 = false := by kernel_rfl
theorem ty100 : infoB Try.prog 25 = true := by kernel_rfl
theorem ty101 : undB Try.prog 25 = true := by kernel_rfl
theorem ty102 : Program.bytesOf Try.prog 25 = 8 := by kernel_rfl
theorem ty103 : elemB Try.prog 25 = none := by kernel_rfl
theorem ty104 : zeroB Try.prog 25 = some [Value.int .i64 0] := by kernel_rfl
theorem ty105 : tkB Try.prog 32 = some (.sl 55) := by kernel_rfl
theorem ty106 : szOf Try.prog 32 = 1 := by kernel_rfl
theorem ty107 : isAggB Try.prog 32 = false := by kernel_rfl
theorem ty108 : isArrB Try.prog 32 = false := by kernel_rfl
theorem ty109 : infoB Try.prog 32 = true := by kernel_rfl
theorem ty110 : undB Try.prog 32 = true := by kernel_rfl
theorem ty111 : Program.bytesOf Try.prog 32 = 24 := by kernel_rfl
theorem ty112 : elemB Try.prog 32 = some 55 := by kernel_rfl
theorem ty113 : zeroB Try.prog 32 = some [Value.slice none 0 0] := by kernel_rfl
theorem ty114 : tkB Try.prog 38 = some (.sl 22) := by kernel_rfl
theorem ty115 : szOf Try.prog 38 = 1 := by kernel_rfl
theorem ty116 : isAggB Try.prog 38 = false := by kernel_rfl
theorem ty117 : isArrB Try.prog 38 = false := by kernel_rfl
theorem ty118 : infoB Try.prog 38 = true := by kernel_rfl
theorem ty119 : undB Try.prog 38 = true := by kernel_rfl
theorem ty120 : Program.bytesOf Try.prog 38 = 24 := by kernel_rfl
theorem ty121 : elemB Try.prog 38 = some 22 := by kernel_rfl
theorem ty122 : zeroB Try.prog 38 = some [Value.slice none 0 0] := by kernel_rfl
theorem ty123 : tkB Try.prog 42 = some .other := by kernel_rfl
theorem ty124 : szOf Try.prog 42 = 3 := by kernel_rfl
theorem ty125 : isAggB Try.prog 42 = true := by kernel_rfl
theorem ty126 : isArrB Try.prog 42 = false := by kernel_rfl
theorem ty127 : infoB Try.prog 42 = true := by kernel_rfl
theorem ty128 : undB Try.prog 42 = true := by kernel_rfl
theorem ty129 : Program.bytesOf Try.prog 42 = 40 := by kernel_rfl
theorem ty130 : elemB Try.prog 42 = none := by kernel_rfl
theorem ty131 : zeroB Try.prog 42 = some [Value.int .i64 0, Value.int .i64 0, Value.slice none 0 0] := by kernel_rfl
theorem ty132 : fieldB Try.prog 42 0 = some (3, 0) := by kernel_rfl
theorem ty133 : fieldB Try.prog 42 1 = some (3, 1) := by kernel_rfl
theorem ty134 : fieldB Try.prog 42 2 = some (32, 2) := by kernel_rfl
theorem ty135 : placesOf Try.prog 42 = some (.st [(0, 1), (1, 1), (2, 1)]) := by kernel_rfl
theorem ty136 : tkB Try.prog 43 = some .other := by kernel_rfl
theorem ty137 : szOf Try.prog 43 = 3 := by kernel_rfl
theorem ty138 : isAggB Try.prog 43 = true := by kernel_rfl
theorem ty139 : isArrB Try.prog 43 = false := by kernel_rfl
theorem ty140 : infoB Try.prog 43 = true := by kernel_rfl
theorem ty141 : undB Try.prog 43 = true := by kernel_rfl
theorem ty142 : Program.bytesOf Try.prog 43 = 40 := by kernel_rfl
theorem ty143 : elemB Try.prog 43 = none := by kernel_rfl
theorem ty144 : zeroB Try.prog 43 = some [Value.int .i64 0, Value.int .i64 0, Value.slice none 0 0] := by kernel_rfl
theorem ty145 : fieldB Try.prog 43 0 = some (3, 0) := by kernel_rfl
theorem ty146 : fieldB Try.prog 43 1 = some (3, 1) := by kernel_rfl
theorem ty147 : fieldB Try.prog 43 2 = some (32, 2) := by kernel_rfl
theorem ty148 : placesOf Try.prog 43 = some (.st [(0, 1), (1, 1), (2, 1)]) := by kernel_rfl
theorem ty149 : tkB Try.prog 55 = some (.int .u64) := by kernel_rfl
theorem ty150 : szOf Try.prog 55 = 1 := by kernel_rfl
theorem ty151 : isAggB Try.prog 55 = false := by kernel_rfl
theorem ty152 : isArrB Try.prog 55 = false := by kernel_rfl
theorem ty153 : infoB Try.prog 55 = true := by kernel_rfl
theorem ty154 : undB Try.prog 55 = true := by kernel_rfl
theorem ty155 : Program.bytesOf Try.prog 55 = 8 := by kernel_rfl
theorem ty156 : elemB Try.prog 55 = none := by kernel_rfl
theorem ty157 : zeroB Try.prog 55 = some [Value.int .u64 0] := by kernel_rfl
theorem ty158 : tkB Try.prog 60 = some (.int .u32) := by kernel_rfl
theorem ty159 : szOf Try.prog 60 = 1 := by kernel_rfl
theorem ty160 : isAggB Try.prog 60 = false := by kernel_rfl
theorem ty161 : isArrB Try.prog 60 = false := by kernel_rfl
theorem ty162 : infoB Try.prog 60 = true := by kernel_rfl
theorem ty163 : undB Try.prog 60 = true := by kernel_rfl
theorem ty164 : Program.bytesOf Try.prog 60 = 4 := by kernel_rfl
theorem ty165 : elemB Try.prog 60 = none := by kernel_rfl
theorem ty166 : zeroB Try.prog 60 = some [Value.int .u32 0] := by kernel_rfl
theorem ty167 : tkB Try.prog 61 = some .other := by kernel_rfl
theorem ty168 : szOf Try.prog 61 = 4 := by kernel_rfl
theorem ty169 : isAggB Try.prog 61 = true := by kernel_rfl
theorem ty170 : isArrB Try.prog 61 = false := by kernel_rfl
theorem ty171 : infoB Try.prog 61 = true := by kernel_rfl
theorem ty172 : undB Try.prog 61 = true := by kernel_rfl
theorem ty173 : Program.bytesOf Try.prog 61 = 48 := by kernel_rfl
theorem ty174 : elemB Try.prog 61 = none := by kernel_rfl
theorem ty175 : zeroB Try.prog 61 = some [Value.int .i64 0, Value.int .i64 0, Value.int .u32 0, Value.slice none 0 0] := by kernel_rfl
theorem ty176 : fieldB Try.prog 61 0 = some (3, 0) := by kernel_rfl
theorem ty177 : fieldB Try.prog 61 1 = some (3, 1) := by kernel_rfl
theorem ty178 : fieldB Try.prog 61 2 = some (60, 2) := by kernel_rfl
theorem ty179 : fieldB Try.prog 61 3 = some (32, 3) := by kernel_rfl
theorem ty180 : placesOf Try.prog 61 = some (.st [(0, 1), (1, 1), (2, 1), (3, 1)]) := by kernel_rfl
theorem ty181 : tkB Try.prog 62 = some .other := by kernel_rfl
theorem ty182 : szOf Try.prog 62 = 4 := by kernel_rfl
theorem ty183 : isAggB Try.prog 62 = true := by kernel_rfl
theorem ty184 : isArrB Try.prog 62 = false := by kernel_rfl
theorem ty185 : infoB Try.prog 62 = true := by kernel_rfl
theorem ty186 : undB Try.prog 62 = true := by kernel_rfl
theorem ty187 : Program.bytesOf Try.prog 62 = 48 := by kernel_rfl
theorem ty188 : elemB Try.prog 62 = none := by kernel_rfl
theorem ty189 : zeroB Try.prog 62 = some [Value.int .i64 0, Value.int .i64 0, Value.int .u32 0, Value.slice none 0 0] := by kernel_rfl
theorem ty190 : fieldB Try.prog 62 0 = some (3, 0) := by kernel_rfl
theorem ty191 : fieldB Try.prog 62 1 = some (3, 1) := by kernel_rfl
theorem ty192 : fieldB Try.prog 62 2 = some (60, 2) := by kernel_rfl
theorem ty193 : fieldB Try.prog 62 3 = some (32, 3) := by kernel_rfl
theorem ty194 : placesOf Try.prog 62 = some (.st [(0, 1), (1, 1), (2, 1), (3, 1)]) := by kernel_rfl
theorem ty195 : tkB Try.prog 63 = some (.sl 5) := by kernel_rfl
theorem ty196 : szOf Try.prog 63 = 1 := by kernel_rfl
theorem ty197 : isAggB Try.prog 63 = false := by kernel_rfl
theorem ty198 : isArrB Try.prog 63 = false := by kernel_rfl
theorem ty199 : infoB Try.prog 63 = true := by kernel_rfl
theorem ty200 : undB Try.prog 63 = true := by kernel_rfl
theorem ty201 : Program.bytesOf Try.prog 63 = 24 := by kernel_rfl
theorem ty202 : elemB Try.prog 63 = some 5 := by kernel_rfl
theorem ty203 : zeroB Try.prog 63 = some [Value.slice none 0 0] := by kernel_rfl
theorem ty204 : tkB Try.prog 72 = some .other := by kernel_rfl
theorem ty205 : szOf Try.prog 72 = 1 := by kernel_rfl
theorem ty206 : isAggB Try.prog 72 = false := by kernel_rfl
theorem ty207 : isArrB Try.prog 72 = false := by kernel_rfl
theorem ty208 : infoB Try.prog 72 = true := by kernel_rfl
theorem ty209 : undB Try.prog 72 = true := by kernel_rfl
theorem ty210 : Program.bytesOf Try.prog 72 = 0 := by kernel_rfl
theorem ty211 : elemB Try.prog 72 = none := by kernel_rfl
theorem ty212 : tkB Try.prog 78 = some (.int .u16) := by kernel_rfl
theorem ty213 : szOf Try.prog 78 = 1 := by kernel_rfl
theorem ty214 : isAggB Try.prog 78 = false := by kernel_rfl
theorem ty215 : isArrB Try.prog 78 = false := by kernel_rfl
theorem ty216 : infoB Try.prog 78 = true := by kernel_rfl
theorem ty217 : undB Try.prog 78 = true := by kernel_rfl
theorem ty218 : Program.bytesOf Try.prog 78 = 2 := by kernel_rfl
theorem ty219 : elemB Try.prog 78 = none := by kernel_rfl
theorem ty220 : zeroB Try.prog 78 = some [Value.int .u16 0] := by kernel_rfl
theorem ty221 : tkB Try.prog 81 = some (.sl 62) := by kernel_rfl
theorem ty222 : szOf Try.prog 81 = 1 := by kernel_rfl
theorem ty223 : isAggB Try.prog 81 = false := by kernel_rfl
theorem ty224 : isArrB Try.prog 81 = false := by kernel_rfl
theorem ty225 : infoB Try.prog 81 = true := by kernel_rfl
theorem ty226 : undB Try.prog 81 = true := by kernel_rfl
theorem ty227 : Program.bytesOf Try.prog 81 = 24 := by kernel_rfl
theorem ty228 : elemB Try.prog 81 = some 62 := by kernel_rfl
theorem ty229 : zeroB Try.prog 81 = some [Value.slice none 0 0] := by kernel_rfl
theorem ty230 : tkB Try.prog 84 = some (.sl 3) := by kernel_rfl
theorem ty231 : szOf Try.prog 84 = 1 := by kernel_rfl
theorem ty232 : isAggB Try.prog 84 = false := by kernel_rfl
theorem ty233 : isArrB Try.prog 84 = false := by kernel_rfl
theorem ty234 : infoB Try.prog 84 = true := by kernel_rfl
theorem ty235 : undB Try.prog 84 = true := by kernel_rfl
theorem ty236 : Program.bytesOf Try.prog 84 = 24 := by kernel_rfl
theorem ty237 : elemB Try.prog 84 = some 3 := by kernel_rfl
theorem ty238 : zeroB Try.prog 84 = some [Value.slice none 0 0] := by kernel_rfl
theorem ty239 : tkB Try.prog 88 = some (.sl 32) := by kernel_rfl
theorem ty240 : szOf Try.prog 88 = 1 := by kernel_rfl
theorem ty241 : isAggB Try.prog 88 = false := by kernel_rfl
theorem ty242 : isArrB Try.prog 88 = false := by kernel_rfl
theorem ty243 : infoB Try.prog 88 = true := by kernel_rfl
theorem ty244 : undB Try.prog 88 = true := by kernel_rfl
theorem ty245 : Program.bytesOf Try.prog 88 = 24 := by kernel_rfl
theorem ty246 : elemB Try.prog 88 = some 32 := by kernel_rfl
theorem ty247 : zeroB Try.prog 88 = some [Value.slice none 0 0] := by kernel_rfl
theorem ty248 : tkB Try.prog 90 = some .other := by kernel_rfl
theorem ty249 : szOf Try.prog 90 = 1 := by kernel_rfl
theorem ty250 : isAggB Try.prog 90 = false := by kernel_rfl
theorem ty251 : isArrB Try.prog 90 = false := by kernel_rfl
theorem ty252 : infoB Try.prog 90 = true := by kernel_rfl
theorem ty253 : undB Try.prog 90 = true := by kernel_rfl
theorem ty254 : Program.bytesOf Try.prog 90 = 8 := by kernel_rfl
theorem ty255 : elemB Try.prog 90 = none := by kernel_rfl
theorem ty256 : tkB Try.prog 91 = some .other := by kernel_rfl
theorem ty257 : szOf Try.prog 91 = 1 := by kernel_rfl
theorem ty258 : isAggB Try.prog 91 = false := by kernel_rfl
theorem ty259 : isArrB Try.prog 91 = false := by kernel_rfl
theorem ty260 : infoB Try.prog 91 = true := by kernel_rfl
theorem ty261 : undB Try.prog 91 = true := by kernel_rfl
theorem ty262 : Program.bytesOf Try.prog 91 = 8 := by kernel_rfl
theorem ty263 : elemB Try.prog 91 = none := by kernel_rfl
theorem ty264 : tkB Try.prog 109 = some (.arr 64 4) := by kernel_rfl
theorem ty265 : szOf Try.prog 109 = 64 := by kernel_rfl
theorem ty266 : isAggB Try.prog 109 = true := by kernel_rfl
theorem ty267 : isArrB Try.prog 109 = true := by kernel_rfl
theorem ty268 : infoB Try.prog 109 = true := by kernel_rfl
theorem ty269 : undB Try.prog 109 = true := by kernel_rfl
theorem ty270 : Program.bytesOf Try.prog 109 = 64 := by kernel_rfl
theorem ty271 : elemB Try.prog 109 = none := by kernel_rfl
theorem ty272 : zeroB Try.prog 109 = some [Value.bool false, Value.bool false, Value.bool false, Value.bool false, Value.bool false, Value.bool false, Value.bool false, Value.bool false, Value.bool false, Value.bool false, Value.bool false, Value.bool false, Value.bool false, Value.bool false, Value.bool false, Value.bool false, Value.bool false, Value.bool false, Value.bool false, Value.bool false, Value.bool false, Value.bool false, Value.bool false, Value.bool false, Value.bool false, Value.bool false, Value.bool false, Value.bool false, Value.bool false, Value.bool false, Value.bool false, Value.bool false, Value.bool false, Value.bool false, Value.bool false, Value.bool false, Value.bool false, Value.bool false, Value.bool false, Value.bool false, Value.bool false, Value.bool false, Value.bool false, Value.bool false, Value.bool false, Value.bool false, Value.bool false, Value.bool false, Value.bool false, Value.bool false, Value.bool false, Value.bool false, Value.bool false, Value.bool false, Value.bool false, Value.bool false, Value.bool false, Value.bool false, Value.bool false, Value.bool false, Value.bool false, Value.bool false, Value.bool false, Value.bool false] := by kernel_rfl
theorem ty273 : tkB Try.prog 110 = some .other := by kernel_rfl
theorem ty274 : szOf Try.prog 110 = 1 := by kernel_rfl
theorem ty275 : isAggB Try.prog 110 = false := by kernel_rfl
theorem ty276 : isArrB Try.prog 110 = false := by kernel_rfl
theorem ty277 : infoB Try.prog 110 = true := by kernel_rfl
theorem ty278 : undB Try.prog 110 = true := by kernel_rfl
theorem ty279 : Program.bytesOf Try.prog 110 = 8 := by kernel_rfl
theorem ty280 : elemB Try.prog 110 = none := by kernel_rfl
theorem ty281 : mapB Try.prog 110 = some (.i64, 4) := by kernel_rfl
theorem ty282 : tkB Try.prog 112 = some .other := by kernel_rfl
theorem ty283 : szOf Try.prog 112 = 1 := by kernel_rfl
theorem ty284 : isAggB Try.prog 112 = false := by kernel_rfl
theorem ty285 : isArrB Try.prog 112 = false := by kernel_rfl
theorem ty286 : infoB Try.prog 112 = true := by kernel_rfl
theorem ty287 : undB Try.prog 112 = true := by kernel_rfl
theorem ty288 : Program.bytesOf Try.prog 112 = 8 := by kernel_rfl
theorem ty289 : elemB Try.prog 112 = none := by kernel_rfl
theorem ty290 : tkB Try.prog 116 = some (.sl 63) := by kernel_rfl
theorem ty291 : szOf Try.prog 116 = 1 := by kernel_rfl
theorem ty292 : isAggB Try.prog 116 = false := by kernel_rfl
theorem ty293 : isArrB Try.prog 116 = false := by kernel_rfl
theorem ty294 : infoB Try.prog 116 = true := by kernel_rfl
theorem ty295 : undB Try.prog 116 = true := by kernel_rfl
theorem ty296 : Program.bytesOf Try.prog 116 = 24 := by kernel_rfl
theorem ty297 : elemB Try.prog 116 = some 63 := by kernel_rfl
theorem ty298 : zeroB Try.prog 116 = some [Value.slice none 0 0] := by kernel_rfl
theorem ty299 : tkB Try.prog 121 = some (.int .u64) := by kernel_rfl
theorem ty300 : szOf Try.prog 121 = 1 := by kernel_rfl
theorem ty301 : isAggB Try.prog 121 = false := by kernel_rfl
theorem ty302 : isArrB Try.prog 121 = false := by kernel_rfl
theorem ty303 : infoB Try.prog 121 = true := by kernel_rfl
theorem ty304 : undB Try.prog 121 = true := by kernel_rfl
theorem ty305 : Program.bytesOf Try.prog 121 = 8 := by kernel_rfl
theorem ty306 : elemB Try.prog 121 = none := by kernel_rfl
theorem ty307 : zeroB Try.prog 121 = some [Value.int .u64 0] := by kernel_rfl
theorem ty308 : tkB Try.prog 122 = some .other := by kernel_rfl
theorem ty309 : szOf Try.prog 122 = 1 := by kernel_rfl
theorem ty310 : isAggB Try.prog 122 = false := by kernel_rfl
theorem ty311 : isArrB Try.prog 122 = false := by kernel_rfl
theorem ty312 : infoB Try.prog 122 = true := by kernel_rfl
theorem ty313 : undB Try.prog 122 = true := by kernel_rfl
theorem ty314 : Program.bytesOf Try.prog 122 = 8 := by kernel_rfl
theorem ty315 : elemB Try.prog 122 = none := by kernel_rfl
theorem ty316 : tkB Try.prog 125 = some .other := by kernel_rfl
theorem ty317 : szOf Try.prog 125 = 1 := by kernel_rfl
theorem ty318 : isAggB Try.prog 125 = false := by kernel_rfl
theorem ty319 : isArrB Try.prog 125 = false := by kernel_rfl
theorem ty320 : infoB Try.prog 125 = true := by kernel_rfl
theorem ty321 : undB Try.prog 125 = true := by kernel_rfl
theorem ty322 : Program.bytesOf Try.prog 125 = 8 := by kernel_rfl
theorem ty323 : elemB Try.prog 125 = none := by kernel_rfl
theorem ty324 : tkB Try.prog 127 = some .other := by kernel_rfl
theorem ty325 : szOf Try.prog 127 = 1 := by kernel_rfl
theorem ty326 : isAggB Try.prog 127 = false := by kernel_rfl
theorem ty327 : isArrB Try.prog 127 = false := by kernel_rfl
theorem ty328 : infoB Try.prog 127 = true := by kernel_rfl
theorem ty329 : undB Try.prog 127 = true := by kernel_rfl
theorem ty330 : Program.bytesOf Try.prog 127 = 16 := by kernel_rfl
theorem ty331 : elemB Try.prog 127 = none := by kernel_rfl
theorem ty332 : tkB Try.prog 128 = some .other := by kernel_rfl
theorem ty333 : szOf Try.prog 128 = 1 := by kernel_rfl
theorem ty334 : isAggB Try.prog 128 = false := by kernel_rfl
theorem ty335 : isArrB Try.prog 128 = false := by kernel_rfl
theorem ty336 : infoB Try.prog 128 = true := by kernel_rfl
theorem ty337 : undB Try.prog 128 = true := by kernel_rfl
theorem ty338 : Program.bytesOf Try.prog 128 = 16 := by kernel_rfl
theorem ty339 : elemB Try.prog 128 = none := by kernel_rfl
theorem ty340 : enterB Try.prog 2 = true := by kernel_rfl
theorem ty341 : enterB Try.prog 3 = true := by kernel_rfl
theorem ty342 : enterB Try.prog 4 = true := by kernel_rfl
theorem ty343 : enterB Try.prog 5 = true := by kernel_rfl
theorem ty344 : enterB Try.prog 6 = true := by kernel_rfl
theorem ty345 : enterB Try.prog 7 = true := by kernel_rfl
theorem ty346 : enterB Try.prog 8 = true := by kernel_rfl
theorem ty347 : enterB Try.prog 9 = true := by kernel_rfl
theorem ty348 : enterB Try.prog 10 = true := by kernel_rfl
theorem ty349 : enterB Try.prog 11 = true := by kernel_rfl
theorem ty350 : enterB Try.prog 12 = true := by kernel_rfl
theorem ty351 : enterB Try.prog 13 = true := by kernel_rfl
theorem ty352 : enterB Try.prog 14 = true := by kernel_rfl
theorem ty353 : enterB Try.prog 15 = true := by kernel_rfl
theorem ty354 : enterB Try.prog 16 = true := by kernel_rfl
theorem ty355 : enterB Try.prog 17 = true := by kernel_rfl
theorem ty356 : enterB Try.prog 18 = true := by kernel_rfl
theorem ty357 : enterB Try.prog 19 = true := by kernel_rfl
theorem ty358 : enterB Try.prog 20 = true := by kernel_rfl
theorem ty359 : enterB Try.prog 21 = true := by kernel_rfl
theorem ty360 : enterB Try.prog 22 = true := by kernel_rfl
theorem ty361 : enterB Try.prog 23 = true := by kernel_rfl
theorem ty362 : enterB Try.prog 24 = true := by kernel_rfl
theorem ty363 : enterB Try.prog 25 = true := by kernel_rfl
theorem ty364 : enterB Try.prog 26 = true := by kernel_rfl
theorem ty365 : enterB Try.prog 27 = true := by kernel_rfl
theorem ty366 : enterB Try.prog 28 = true := by kernel_rfl
theorem ty367 : enterB Try.prog 29 = true := by kernel_rfl
theorem ty368 : enterB Try.prog 30 = true := by kernel_rfl
theorem ty369 : enterB Try.prog 31 = true := by kernel_rfl
theorem ty370 : enterB Try.prog 32 = true := by kernel_rfl
theorem ty371 : enterB Try.prog 33 = true := by kernel_rfl
theorem ty372 : enterB Try.prog 34 = true := by kernel_rfl
theorem ty373 : enterB Try.prog 35 = true := by kernel_rfl
theorem ty374 : enterB Try.prog 36 = true := by kernel_rfl
theorem ty375 : enterB Try.prog 37 = true := by kernel_rfl
theorem ty376 : enterB Try.prog 38 = true := by kernel_rfl
theorem ty377 : enterB Try.prog 39 = true := by kernel_rfl
theorem ty378 : enterB Try.prog 40 = true := by kernel_rfl
theorem ty379 : enterB Try.prog 41 = true := by kernel_rfl
theorem ty380 : enterB Try.prog 42 = true := by kernel_rfl
theorem ty381 : enterB Try.prog 43 = true := by kernel_rfl
theorem ty382 : enterB Try.prog 44 = true := by kernel_rfl
theorem ty383 : enterB Try.prog 45 = true := by kernel_rfl
theorem ty384 : enterB Try.prog 46 = true := by kernel_rfl
theorem ty385 : enterB Try.prog 47 = true := by kernel_rfl
theorem ty386 : enterB Try.prog 48 = true := by kernel_rfl
theorem ty387 : enterB Try.prog 49 = true := by kernel_rfl
theorem ty388 : enterB Try.prog 50 = true := by kernel_rfl
theorem ty389 : enterB Try.prog 51 = true := by kernel_rfl
theorem ty390 : enterB Try.prog 52 = true := by kernel_rfl
theorem ty391 : enterB Try.prog 53 = true := by kernel_rfl
theorem ty392 : enterB Try.prog 54 = true := by kernel_rfl
theorem ty393 : enterB Try.prog 55 = true := by kernel_rfl
theorem ty394 : enterB Try.prog 56 = true := by kernel_rfl
theorem ty395 : enterB Try.prog 57 = true := by kernel_rfl
theorem ty396 : enterB Try.prog 58 = true := by kernel_rfl
theorem ty397 : enterB Try.prog 59 = true := by kernel_rfl
theorem ty398 : enterB Try.prog 60 = true := by kernel_rfl
theorem ty399 : enterB Try.prog 61 = true := by kernel_rfl
theorem ty400 : enterB Try.prog 62 = true := by kernel_rfl
theorem ty401 : enterB Try.prog 63 = true := by kernel_rfl
theorem ty402 : enterB Try.prog 64 = true := by kernel_rfl
theorem ty403 : enterB Try.prog 65 = true := by kernel_rfl
theorem ty404 : enterB Try.prog 66 = true := by kernel_rfl
theorem ty405 : enterB Try.prog 67 = true := by kernel_rfl
theorem ty406 : enterB Try.prog 68 = true := by kernel_rfl
theorem ty407 : enterB Try.prog 69 = true := by kernel_rfl
theorem ty408 : enterB Try.prog 70 = true := by kernel_rfl
theorem ty409 : enterB Try.prog 71 = true := by kernel_rfl
theorem ty410 : enterB Try.prog 72 = true := by kernel_rfl
theorem ty411 : enterB Try.prog 73 = true := by kernel_rfl
theorem ty412 : enterB Try.prog 74 = true := by kernel_rfl
theorem ty413 : enterB Try.prog 75 = true := by kernel_rfl
theorem ty414 : enterB Try.prog 76 = true := by kernel_rfl
theorem ty415 : enterB Try.prog 77 = true := by kernel_rfl
theorem ty416 : enterB Try.prog 78 = true := by kernel_rfl
theorem ty417 : enterB Try.prog 79 = true := by kernel_rfl
theorem ty418 : enterB Try.prog 80 = true := by kernel_rfl
theorem ty419 : enterB Try.prog 81 = true := by kernel_rfl
theorem tyb0 : tkB Try.prog 2 = some (.int .i64) ∧ szOf Try.prog 2 = 1 ∧ isAggB Try.prog 2 = false ∧ isArrB Try.prog 2 = false ∧ infoB Try.prog 2 = true ∧ undB Try.prog 2 = true ∧ Program.bytesOf Try.prog 2 = 8 ∧ elemB Try.prog 2 = none ∧ zeroB Try.prog 2 = some [Value.int .i64 0] ∧ tkB Try.prog 3 = some (.int .i64) ∧ szOf Try.prog 3 = 1 ∧ isAggB Try.prog 3 = false ∧ isArrB Try.prog 3 = false ∧ infoB Try.prog 3 = true ∧ undB Try.prog 3 = true ∧ Program.bytesOf Try.prog 3 = 8 ∧ elemB Try.prog 3 = none ∧ zeroB Try.prog 3 = some [Value.int .i64 0] ∧ tkB Try.prog 4 = some .bool ∧ szOf Try.prog 4 = 1 ∧ isAggB Try.prog 4 = false ∧ isArrB Try.prog 4 = false ∧ infoB Try.prog 4 = true ∧ undB Try.prog 4 = true ∧ Program.bytesOf Try.prog 4 = 1 ∧ elemB Try.prog 4 = none ∧ zeroB Try.prog 4 = some [Value.bool false] ∧ zero1B Try.prog 4 = some (Value.bool false) ∧ tkB Try.prog 5 = some (.int .u8) ∧ szOf Try.prog 5 = 1 ∧ isAggB Try.prog 5 = false ∧ isArrB Try.prog 5 = false ∧ infoB Try.prog 5 = true ∧ undB Try.prog 5 = true ∧ Program.bytesOf Try.prog 5 = 1 ∧ elemB Try.prog 5 = none ∧ zeroB Try.prog 5 = some [Value.int .u8 0] ∧ tkB Try.prog 6 = some (.int .u8) ∧ szOf Try.prog 6 = 1 ∧ isAggB Try.prog 6 = false := ⟨ty0, ty1, ty2, ty3, ty4, ty5, ty6, ty7, ty8, ty9, ty10, ty11, ty12, ty13, ty14, ty15, ty16, ty17, ty18, ty19, ty20, ty21, ty22, ty23, ty24, ty25, ty26, ty27, ty28, ty29, ty30, ty31, ty32, ty33, ty34, ty35, ty36, ty37, ty38, ty39⟩
theorem tyb1 : isArrB Try.prog 6 = false ∧ infoB Try.prog 6 = true ∧ undB Try.prog 6 = true ∧ Program.bytesOf Try.prog 6 = 1 ∧ elemB Try.prog 6 = none ∧ zeroB Try.prog 6 = some [Value.int .u8 0] ∧ tkB Try.prog 7 = some .other ∧ szOf Try.prog 7 = 4 ∧ isAggB Try.prog 7 = true ∧ isArrB Try.prog 7 = false ∧ infoB Try.prog 7 = true ∧ undB Try.prog 7 = true ∧ Program.bytesOf Try.prog 7 = 24 ∧ elemB Try.prog 7 = none ∧ zeroB Try.prog 7 = some [Value.int .i64 0, Value.int .i64 0, Value.bool false, Value.int .u8 0] ∧ fieldB Try.prog 7 0 = some (2, 0) ∧ fieldB Try.prog 7 1 = some (3, 1) ∧ fieldB Try.prog 7 2 = some (4, 2) ∧ fieldB Try.prog 7 3 = some (6, 3) ∧ placesOf Try.prog 7 = some (.st [(0, 1), (1, 1), (2, 1), (3, 1)]) ∧ tkB Try.prog 9 = some .str ∧ szOf Try.prog 9 = 1 ∧ isAggB Try.prog 9 = false ∧ isArrB Try.prog 9 = false ∧ infoB Try.prog 9 = true ∧ undB Try.prog 9 = true ∧ Program.bytesOf Try.prog 9 = 16 ∧ elemB Try.prog 9 = none ∧ zeroB Try.prog 9 = some [Value.string ByteArray.empty] ∧ tkB Try.prog 11 = some .str ∧ szOf Try.prog 11 = 1 ∧ isAggB Try.prog 11 = false ∧ isArrB Try.prog 11 = false ∧ infoB Try.prog 11 = true ∧ undB Try.prog 11 = true ∧ Program.bytesOf Try.prog 11 = 16 ∧ elemB Try.prog 11 = none ∧ zeroB Try.prog 11 = some [Value.string ByteArray.empty] ∧ tkB Try.prog 12 = some (.int .u64) ∧ szOf Try.prog 12 = 1 := ⟨ty40, ty41, ty42, ty43, ty44, ty45, ty46, ty47, ty48, ty49, ty50, ty51, ty52, ty53, ty54, ty55, ty56, ty57, ty58, ty59, ty60, ty61, ty62, ty63, ty64, ty65, ty66, ty67, ty68, ty69, ty70, ty71, ty72, ty73, ty74, ty75, ty76, ty77, ty78, ty79⟩
theorem tyb2 : isAggB Try.prog 12 = false ∧ isArrB Try.prog 12 = false ∧ infoB Try.prog 12 = true ∧ undB Try.prog 12 = true ∧ Program.bytesOf Try.prog 12 = 8 ∧ elemB Try.prog 12 = none ∧ zeroB Try.prog 12 = some [Value.int .u64 0] ∧ tkB Try.prog 22 = some (.sl 3) ∧ szOf Try.prog 22 = 1 ∧ isAggB Try.prog 22 = false ∧ isArrB Try.prog 22 = false ∧ infoB Try.prog 22 = true ∧ undB Try.prog 22 = true ∧ Program.bytesOf Try.prog 22 = 24 ∧ elemB Try.prog 22 = some 3 ∧ zeroB Try.prog 22 = some [Value.slice none 0 0] ∧ tkB Try.prog 25 = some (.int .i64) ∧ szOf Try.prog 25 = 1 ∧ isAggB Try.prog 25 = false ∧ isArrB Try.prog 25 = false ∧ infoB Try.prog 25 = true ∧ undB Try.prog 25 = true ∧ Program.bytesOf Try.prog 25 = 8 ∧ elemB Try.prog 25 = none ∧ zeroB Try.prog 25 = some [Value.int .i64 0] ∧ tkB Try.prog 32 = some (.sl 55) ∧ szOf Try.prog 32 = 1 ∧ isAggB Try.prog 32 = false ∧ isArrB Try.prog 32 = false ∧ infoB Try.prog 32 = true ∧ undB Try.prog 32 = true ∧ Program.bytesOf Try.prog 32 = 24 ∧ elemB Try.prog 32 = some 55 ∧ zeroB Try.prog 32 = some [Value.slice none 0 0] ∧ tkB Try.prog 38 = some (.sl 22) ∧ szOf Try.prog 38 = 1 ∧ isAggB Try.prog 38 = false ∧ isArrB Try.prog 38 = false ∧ infoB Try.prog 38 = true ∧ undB Try.prog 38 = true := ⟨ty80, ty81, ty82, ty83, ty84, ty85, ty86, ty87, ty88, ty89, ty90, ty91, ty92, ty93, ty94, ty95, ty96, ty97, ty98, ty99, ty100, ty101, ty102, ty103, ty104, ty105, ty106, ty107, ty108, ty109, ty110, ty111, ty112, ty113, ty114, ty115, ty116, ty117, ty118, ty119⟩
theorem tyb3 : Program.bytesOf Try.prog 38 = 24 ∧ elemB Try.prog 38 = some 22 ∧ zeroB Try.prog 38 = some [Value.slice none 0 0] ∧ tkB Try.prog 42 = some .other ∧ szOf Try.prog 42 = 3 ∧ isAggB Try.prog 42 = true ∧ isArrB Try.prog 42 = false ∧ infoB Try.prog 42 = true ∧ undB Try.prog 42 = true ∧ Program.bytesOf Try.prog 42 = 40 ∧ elemB Try.prog 42 = none ∧ zeroB Try.prog 42 = some [Value.int .i64 0, Value.int .i64 0, Value.slice none 0 0] ∧ fieldB Try.prog 42 0 = some (3, 0) ∧ fieldB Try.prog 42 1 = some (3, 1) ∧ fieldB Try.prog 42 2 = some (32, 2) ∧ placesOf Try.prog 42 = some (.st [(0, 1), (1, 1), (2, 1)]) ∧ tkB Try.prog 43 = some .other ∧ szOf Try.prog 43 = 3 ∧ isAggB Try.prog 43 = true ∧ isArrB Try.prog 43 = false ∧ infoB Try.prog 43 = true ∧ undB Try.prog 43 = true ∧ Program.bytesOf Try.prog 43 = 40 ∧ elemB Try.prog 43 = none ∧ zeroB Try.prog 43 = some [Value.int .i64 0, Value.int .i64 0, Value.slice none 0 0] ∧ fieldB Try.prog 43 0 = some (3, 0) ∧ fieldB Try.prog 43 1 = some (3, 1) ∧ fieldB Try.prog 43 2 = some (32, 2) ∧ placesOf Try.prog 43 = some (.st [(0, 1), (1, 1), (2, 1)]) ∧ tkB Try.prog 55 = some (.int .u64) ∧ szOf Try.prog 55 = 1 ∧ isAggB Try.prog 55 = false ∧ isArrB Try.prog 55 = false ∧ infoB Try.prog 55 = true ∧ undB Try.prog 55 = true ∧ Program.bytesOf Try.prog 55 = 8 ∧ elemB Try.prog 55 = none ∧ zeroB Try.prog 55 = some [Value.int .u64 0] ∧ tkB Try.prog 60 = some (.int .u32) ∧ szOf Try.prog 60 = 1 := ⟨ty120, ty121, ty122, ty123, ty124, ty125, ty126, ty127, ty128, ty129, ty130, ty131, ty132, ty133, ty134, ty135, ty136, ty137, ty138, ty139, ty140, ty141, ty142, ty143, ty144, ty145, ty146, ty147, ty148, ty149, ty150, ty151, ty152, ty153, ty154, ty155, ty156, ty157, ty158, ty159⟩
theorem tyb4 : isAggB Try.prog 60 = false ∧ isArrB Try.prog 60 = false ∧ infoB Try.prog 60 = true ∧ undB Try.prog 60 = true ∧ Program.bytesOf Try.prog 60 = 4 ∧ elemB Try.prog 60 = none ∧ zeroB Try.prog 60 = some [Value.int .u32 0] ∧ tkB Try.prog 61 = some .other ∧ szOf Try.prog 61 = 4 ∧ isAggB Try.prog 61 = true ∧ isArrB Try.prog 61 = false ∧ infoB Try.prog 61 = true ∧ undB Try.prog 61 = true ∧ Program.bytesOf Try.prog 61 = 48 ∧ elemB Try.prog 61 = none ∧ zeroB Try.prog 61 = some [Value.int .i64 0, Value.int .i64 0, Value.int .u32 0, Value.slice none 0 0] ∧ fieldB Try.prog 61 0 = some (3, 0) ∧ fieldB Try.prog 61 1 = some (3, 1) ∧ fieldB Try.prog 61 2 = some (60, 2) ∧ fieldB Try.prog 61 3 = some (32, 3) ∧ placesOf Try.prog 61 = some (.st [(0, 1), (1, 1), (2, 1), (3, 1)]) ∧ tkB Try.prog 62 = some .other ∧ szOf Try.prog 62 = 4 ∧ isAggB Try.prog 62 = true ∧ isArrB Try.prog 62 = false ∧ infoB Try.prog 62 = true ∧ undB Try.prog 62 = true ∧ Program.bytesOf Try.prog 62 = 48 ∧ elemB Try.prog 62 = none ∧ zeroB Try.prog 62 = some [Value.int .i64 0, Value.int .i64 0, Value.int .u32 0, Value.slice none 0 0] ∧ fieldB Try.prog 62 0 = some (3, 0) ∧ fieldB Try.prog 62 1 = some (3, 1) ∧ fieldB Try.prog 62 2 = some (60, 2) ∧ fieldB Try.prog 62 3 = some (32, 3) ∧ placesOf Try.prog 62 = some (.st [(0, 1), (1, 1), (2, 1), (3, 1)]) ∧ tkB Try.prog 63 = some (.sl 5) ∧ szOf Try.prog 63 = 1 ∧ isAggB Try.prog 63 = false ∧ isArrB Try.prog 63 = false ∧ infoB Try.prog 63 = true := ⟨ty160, ty161, ty162, ty163, ty164, ty165, ty166, ty167, ty168, ty169, ty170, ty171, ty172, ty173, ty174, ty175, ty176, ty177, ty178, ty179, ty180, ty181, ty182, ty183, ty184, ty185, ty186, ty187, ty188, ty189, ty190, ty191, ty192, ty193, ty194, ty195, ty196, ty197, ty198, ty199⟩
theorem tyb5 : undB Try.prog 63 = true ∧ Program.bytesOf Try.prog 63 = 24 ∧ elemB Try.prog 63 = some 5 ∧ zeroB Try.prog 63 = some [Value.slice none 0 0] ∧ tkB Try.prog 72 = some .other ∧ szOf Try.prog 72 = 1 ∧ isAggB Try.prog 72 = false ∧ isArrB Try.prog 72 = false ∧ infoB Try.prog 72 = true ∧ undB Try.prog 72 = true ∧ Program.bytesOf Try.prog 72 = 0 ∧ elemB Try.prog 72 = none ∧ tkB Try.prog 78 = some (.int .u16) ∧ szOf Try.prog 78 = 1 ∧ isAggB Try.prog 78 = false ∧ isArrB Try.prog 78 = false ∧ infoB Try.prog 78 = true ∧ undB Try.prog 78 = true ∧ Program.bytesOf Try.prog 78 = 2 ∧ elemB Try.prog 78 = none ∧ zeroB Try.prog 78 = some [Value.int .u16 0] ∧ tkB Try.prog 81 = some (.sl 62) ∧ szOf Try.prog 81 = 1 ∧ isAggB Try.prog 81 = false ∧ isArrB Try.prog 81 = false ∧ infoB Try.prog 81 = true ∧ undB Try.prog 81 = true ∧ Program.bytesOf Try.prog 81 = 24 ∧ elemB Try.prog 81 = some 62 ∧ zeroB Try.prog 81 = some [Value.slice none 0 0] ∧ tkB Try.prog 84 = some (.sl 3) ∧ szOf Try.prog 84 = 1 ∧ isAggB Try.prog 84 = false ∧ isArrB Try.prog 84 = false ∧ infoB Try.prog 84 = true ∧ undB Try.prog 84 = true ∧ Program.bytesOf Try.prog 84 = 24 ∧ elemB Try.prog 84 = some 3 ∧ zeroB Try.prog 84 = some [Value.slice none 0 0] ∧ tkB Try.prog 88 = some (.sl 32) := ⟨ty200, ty201, ty202, ty203, ty204, ty205, ty206, ty207, ty208, ty209, ty210, ty211, ty212, ty213, ty214, ty215, ty216, ty217, ty218, ty219, ty220, ty221, ty222, ty223, ty224, ty225, ty226, ty227, ty228, ty229, ty230, ty231, ty232, ty233, ty234, ty235, ty236, ty237, ty238, ty239⟩
theorem tyb6 : szOf Try.prog 88 = 1 ∧ isAggB Try.prog 88 = false ∧ isArrB Try.prog 88 = false ∧ infoB Try.prog 88 = true ∧ undB Try.prog 88 = true ∧ Program.bytesOf Try.prog 88 = 24 ∧ elemB Try.prog 88 = some 32 ∧ zeroB Try.prog 88 = some [Value.slice none 0 0] ∧ tkB Try.prog 90 = some .other ∧ szOf Try.prog 90 = 1 ∧ isAggB Try.prog 90 = false ∧ isArrB Try.prog 90 = false ∧ infoB Try.prog 90 = true ∧ undB Try.prog 90 = true ∧ Program.bytesOf Try.prog 90 = 8 ∧ elemB Try.prog 90 = none ∧ tkB Try.prog 91 = some .other ∧ szOf Try.prog 91 = 1 ∧ isAggB Try.prog 91 = false ∧ isArrB Try.prog 91 = false ∧ infoB Try.prog 91 = true ∧ undB Try.prog 91 = true ∧ Program.bytesOf Try.prog 91 = 8 ∧ elemB Try.prog 91 = none ∧ tkB Try.prog 109 = some (.arr 64 4) ∧ szOf Try.prog 109 = 64 ∧ isAggB Try.prog 109 = true ∧ isArrB Try.prog 109 = true ∧ infoB Try.prog 109 = true ∧ undB Try.prog 109 = true ∧ Program.bytesOf Try.prog 109 = 64 ∧ elemB Try.prog 109 = none ∧ zeroB Try.prog 109 = some [Value.bool false, Value.bool false, Value.bool false, Value.bool false, Value.bool false, Value.bool false, Value.bool false, Value.bool false, Value.bool false, Value.bool false, Value.bool false, Value.bool false, Value.bool false, Value.bool false, Value.bool false, Value.bool false, Value.bool false, Value.bool false, Value.bool false, Value.bool false, Value.bool false, Value.bool false, Value.bool false, Value.bool false, Value.bool false, Value.bool false, Value.bool false, Value.bool false, Value.bool false, Value.bool false, Value.bool false, Value.bool false, Value.bool false, Value.bool false, Value.bool false, Value.bool false, Value.bool false, Value.bool false, Value.bool false, Value.bool false, Value.bool false, Value.bool false, Value.bool false, Value.bool false, Value.bool false, Value.bool false, Value.bool false, Value.bool false, Value.bool false, Value.bool false, Value.bool false, Value.bool false, Value.bool false, Value.bool false, Value.bool false, Value.bool false, Value.bool false, Value.bool false, Value.bool false, Value.bool false, Value.bool false, Value.bool false, Value.bool false, Value.bool false] ∧ tkB Try.prog 110 = some .other ∧ szOf Try.prog 110 = 1 ∧ isAggB Try.prog 110 = false ∧ isArrB Try.prog 110 = false ∧ infoB Try.prog 110 = true ∧ undB Try.prog 110 = true ∧ Program.bytesOf Try.prog 110 = 8 := ⟨ty240, ty241, ty242, ty243, ty244, ty245, ty246, ty247, ty248, ty249, ty250, ty251, ty252, ty253, ty254, ty255, ty256, ty257, ty258, ty259, ty260, ty261, ty262, ty263, ty264, ty265, ty266, ty267, ty268, ty269, ty270, ty271, ty272, ty273, ty274, ty275, ty276, ty277, ty278, ty279⟩
theorem tyb7 : elemB Try.prog 110 = none ∧ mapB Try.prog 110 = some (.i64, 4) ∧ tkB Try.prog 112 = some .other ∧ szOf Try.prog 112 = 1 ∧ isAggB Try.prog 112 = false ∧ isArrB Try.prog 112 = false ∧ infoB Try.prog 112 = true ∧ undB Try.prog 112 = true ∧ Program.bytesOf Try.prog 112 = 8 ∧ elemB Try.prog 112 = none ∧ tkB Try.prog 116 = some (.sl 63) ∧ szOf Try.prog 116 = 1 ∧ isAggB Try.prog 116 = false ∧ isArrB Try.prog 116 = false ∧ infoB Try.prog 116 = true ∧ undB Try.prog 116 = true ∧ Program.bytesOf Try.prog 116 = 24 ∧ elemB Try.prog 116 = some 63 ∧ zeroB Try.prog 116 = some [Value.slice none 0 0] ∧ tkB Try.prog 121 = some (.int .u64) ∧ szOf Try.prog 121 = 1 ∧ isAggB Try.prog 121 = false ∧ isArrB Try.prog 121 = false ∧ infoB Try.prog 121 = true ∧ undB Try.prog 121 = true ∧ Program.bytesOf Try.prog 121 = 8 ∧ elemB Try.prog 121 = none ∧ zeroB Try.prog 121 = some [Value.int .u64 0] ∧ tkB Try.prog 122 = some .other ∧ szOf Try.prog 122 = 1 ∧ isAggB Try.prog 122 = false ∧ isArrB Try.prog 122 = false ∧ infoB Try.prog 122 = true ∧ undB Try.prog 122 = true ∧ Program.bytesOf Try.prog 122 = 8 ∧ elemB Try.prog 122 = none ∧ tkB Try.prog 125 = some .other ∧ szOf Try.prog 125 = 1 ∧ isAggB Try.prog 125 = false ∧ isArrB Try.prog 125 = false := ⟨ty280, ty281, ty282, ty283, ty284, ty285, ty286, ty287, ty288, ty289, ty290, ty291, ty292, ty293, ty294, ty295, ty296, ty297, ty298, ty299, ty300, ty301, ty302, ty303, ty304, ty305, ty306, ty307, ty308, ty309, ty310, ty311, ty312, ty313, ty314, ty315, ty316, ty317, ty318, ty319⟩
theorem tyb8 : infoB Try.prog 125 = true ∧ undB Try.prog 125 = true ∧ Program.bytesOf Try.prog 125 = 8 ∧ elemB Try.prog 125 = none ∧ tkB Try.prog 127 = some .other ∧ szOf Try.prog 127 = 1 ∧ isAggB Try.prog 127 = false ∧ isArrB Try.prog 127 = false ∧ infoB Try.prog 127 = true ∧ undB Try.prog 127 = true ∧ Program.bytesOf Try.prog 127 = 16 ∧ elemB Try.prog 127 = none ∧ tkB Try.prog 128 = some .other ∧ szOf Try.prog 128 = 1 ∧ isAggB Try.prog 128 = false ∧ isArrB Try.prog 128 = false ∧ infoB Try.prog 128 = true ∧ undB Try.prog 128 = true ∧ Program.bytesOf Try.prog 128 = 16 ∧ elemB Try.prog 128 = none ∧ enterB Try.prog 2 = true ∧ enterB Try.prog 3 = true ∧ enterB Try.prog 4 = true ∧ enterB Try.prog 5 = true ∧ enterB Try.prog 6 = true ∧ enterB Try.prog 7 = true ∧ enterB Try.prog 8 = true ∧ enterB Try.prog 9 = true ∧ enterB Try.prog 10 = true ∧ enterB Try.prog 11 = true ∧ enterB Try.prog 12 = true ∧ enterB Try.prog 13 = true ∧ enterB Try.prog 14 = true ∧ enterB Try.prog 15 = true ∧ enterB Try.prog 16 = true ∧ enterB Try.prog 17 = true ∧ enterB Try.prog 18 = true ∧ enterB Try.prog 19 = true ∧ enterB Try.prog 20 = true ∧ enterB Try.prog 21 = true := ⟨ty320, ty321, ty322, ty323, ty324, ty325, ty326, ty327, ty328, ty329, ty330, ty331, ty332, ty333, ty334, ty335, ty336, ty337, ty338, ty339, ty340, ty341, ty342, ty343, ty344, ty345, ty346, ty347, ty348, ty349, ty350, ty351, ty352, ty353, ty354, ty355, ty356, ty357, ty358, ty359⟩
theorem tyb9 : enterB Try.prog 22 = true ∧ enterB Try.prog 23 = true ∧ enterB Try.prog 24 = true ∧ enterB Try.prog 25 = true ∧ enterB Try.prog 26 = true ∧ enterB Try.prog 27 = true ∧ enterB Try.prog 28 = true ∧ enterB Try.prog 29 = true ∧ enterB Try.prog 30 = true ∧ enterB Try.prog 31 = true ∧ enterB Try.prog 32 = true ∧ enterB Try.prog 33 = true ∧ enterB Try.prog 34 = true ∧ enterB Try.prog 35 = true ∧ enterB Try.prog 36 = true ∧ enterB Try.prog 37 = true ∧ enterB Try.prog 38 = true ∧ enterB Try.prog 39 = true ∧ enterB Try.prog 40 = true ∧ enterB Try.prog 41 = true ∧ enterB Try.prog 42 = true ∧ enterB Try.prog 43 = true ∧ enterB Try.prog 44 = true ∧ enterB Try.prog 45 = true ∧ enterB Try.prog 46 = true ∧ enterB Try.prog 47 = true ∧ enterB Try.prog 48 = true ∧ enterB Try.prog 49 = true ∧ enterB Try.prog 50 = true ∧ enterB Try.prog 51 = true ∧ enterB Try.prog 52 = true ∧ enterB Try.prog 53 = true ∧ enterB Try.prog 54 = true ∧ enterB Try.prog 55 = true ∧ enterB Try.prog 56 = true ∧ enterB Try.prog 57 = true ∧ enterB Try.prog 58 = true ∧ enterB Try.prog 59 = true ∧ enterB Try.prog 60 = true ∧ enterB Try.prog 61 = true := ⟨ty360, ty361, ty362, ty363, ty364, ty365, ty366, ty367, ty368, ty369, ty370, ty371, ty372, ty373, ty374, ty375, ty376, ty377, ty378, ty379, ty380, ty381, ty382, ty383, ty384, ty385, ty386, ty387, ty388, ty389, ty390, ty391, ty392, ty393, ty394, ty395, ty396, ty397, ty398, ty399⟩
theorem tyb10 : enterB Try.prog 62 = true ∧ enterB Try.prog 63 = true ∧ enterB Try.prog 64 = true ∧ enterB Try.prog 65 = true ∧ enterB Try.prog 66 = true ∧ enterB Try.prog 67 = true ∧ enterB Try.prog 68 = true ∧ enterB Try.prog 69 = true ∧ enterB Try.prog 70 = true ∧ enterB Try.prog 71 = true ∧ enterB Try.prog 72 = true ∧ enterB Try.prog 73 = true ∧ enterB Try.prog 74 = true ∧ enterB Try.prog 75 = true ∧ enterB Try.prog 76 = true ∧ enterB Try.prog 77 = true ∧ enterB Try.prog 78 = true ∧ enterB Try.prog 79 = true ∧ enterB Try.prog 80 = true ∧ enterB Try.prog 81 = true := ⟨ty400, ty401, ty402, ty403, ty404, ty405, ty406, ty407, ty408, ty409, ty410, ty411, ty412, ty413, ty414, ty415, ty416, ty417, ty418, ty419⟩
theorem tys : (tkB Try.prog 2 = some (.int .i64) ∧ szOf Try.prog 2 = 1 ∧ isAggB Try.prog 2 = false ∧ isArrB Try.prog 2 = false ∧ infoB Try.prog 2 = true ∧ undB Try.prog 2 = true ∧ Program.bytesOf Try.prog 2 = 8 ∧ elemB Try.prog 2 = none ∧ zeroB Try.prog 2 = some [Value.int .i64 0] ∧ tkB Try.prog 3 = some (.int .i64) ∧ szOf Try.prog 3 = 1 ∧ isAggB Try.prog 3 = false ∧ isArrB Try.prog 3 = false ∧ infoB Try.prog 3 = true ∧ undB Try.prog 3 = true ∧ Program.bytesOf Try.prog 3 = 8 ∧ elemB Try.prog 3 = none ∧ zeroB Try.prog 3 = some [Value.int .i64 0] ∧ tkB Try.prog 4 = some .bool ∧ szOf Try.prog 4 = 1 ∧ isAggB Try.prog 4 = false ∧ isArrB Try.prog 4 = false ∧ infoB Try.prog 4 = true ∧ undB Try.prog 4 = true ∧ Program.bytesOf Try.prog 4 = 1 ∧ elemB Try.prog 4 = none ∧ zeroB Try.prog 4 = some [Value.bool false] ∧ zero1B Try.prog 4 = some (Value.bool false) ∧ tkB Try.prog 5 = some (.int .u8) ∧ szOf Try.prog 5 = 1 ∧ isAggB Try.prog 5 = false ∧ isArrB Try.prog 5 = false ∧ infoB Try.prog 5 = true ∧ undB Try.prog 5 = true ∧ Program.bytesOf Try.prog 5 = 1 ∧ elemB Try.prog 5 = none ∧ zeroB Try.prog 5 = some [Value.int .u8 0] ∧ tkB Try.prog 6 = some (.int .u8) ∧ szOf Try.prog 6 = 1 ∧ isAggB Try.prog 6 = false) ∧ (isArrB Try.prog 6 = false ∧ infoB Try.prog 6 = true ∧ undB Try.prog 6 = true ∧ Program.bytesOf Try.prog 6 = 1 ∧ elemB Try.prog 6 = none ∧ zeroB Try.prog 6 = some [Value.int .u8 0] ∧ tkB Try.prog 7 = some .other ∧ szOf Try.prog 7 = 4 ∧ isAggB Try.prog 7 = true ∧ isArrB Try.prog 7 = false ∧ infoB Try.prog 7 = true ∧ undB Try.prog 7 = true ∧ Program.bytesOf Try.prog 7 = 24 ∧ elemB Try.prog 7 = none ∧ zeroB Try.prog 7 = some [Value.int .i64 0, Value.int .i64 0, Value.bool false, Value.int .u8 0] ∧ fieldB Try.prog 7 0 = some (2, 0) ∧ fieldB Try.prog 7 1 = some (3, 1) ∧ fieldB Try.prog 7 2 = some (4, 2) ∧ fieldB Try.prog 7 3 = some (6, 3) ∧ placesOf Try.prog 7 = some (.st [(0, 1), (1, 1), (2, 1), (3, 1)]) ∧ tkB Try.prog 9 = some .str ∧ szOf Try.prog 9 = 1 ∧ isAggB Try.prog 9 = false ∧ isArrB Try.prog 9 = false ∧ infoB Try.prog 9 = true ∧ undB Try.prog 9 = true ∧ Program.bytesOf Try.prog 9 = 16 ∧ elemB Try.prog 9 = none ∧ zeroB Try.prog 9 = some [Value.string ByteArray.empty] ∧ tkB Try.prog 11 = some .str ∧ szOf Try.prog 11 = 1 ∧ isAggB Try.prog 11 = false ∧ isArrB Try.prog 11 = false ∧ infoB Try.prog 11 = true ∧ undB Try.prog 11 = true ∧ Program.bytesOf Try.prog 11 = 16 ∧ elemB Try.prog 11 = none ∧ zeroB Try.prog 11 = some [Value.string ByteArray.empty] ∧ tkB Try.prog 12 = some (.int .u64) ∧ szOf Try.prog 12 = 1) ∧ (isAggB Try.prog 12 = false ∧ isArrB Try.prog 12 = false ∧ infoB Try.prog 12 = true ∧ undB Try.prog 12 = true ∧ Program.bytesOf Try.prog 12 = 8 ∧ elemB Try.prog 12 = none ∧ zeroB Try.prog 12 = some [Value.int .u64 0] ∧ tkB Try.prog 22 = some (.sl 3) ∧ szOf Try.prog 22 = 1 ∧ isAggB Try.prog 22 = false ∧ isArrB Try.prog 22 = false ∧ infoB Try.prog 22 = true ∧ undB Try.prog 22 = true ∧ Program.bytesOf Try.prog 22 = 24 ∧ elemB Try.prog 22 = some 3 ∧ zeroB Try.prog 22 = some [Value.slice none 0 0] ∧ tkB Try.prog 25 = some (.int .i64) ∧ szOf Try.prog 25 = 1 ∧ isAggB Try.prog 25 = false ∧ isArrB Try.prog 25 = false ∧ infoB Try.prog 25 = true ∧ undB Try.prog 25 = true ∧ Program.bytesOf Try.prog 25 = 8 ∧ elemB Try.prog 25 = none ∧ zeroB Try.prog 25 = some [Value.int .i64 0] ∧ tkB Try.prog 32 = some (.sl 55) ∧ szOf Try.prog 32 = 1 ∧ isAggB Try.prog 32 = false ∧ isArrB Try.prog 32 = false ∧ infoB Try.prog 32 = true ∧ undB Try.prog 32 = true ∧ Program.bytesOf Try.prog 32 = 24 ∧ elemB Try.prog 32 = some 55 ∧ zeroB Try.prog 32 = some [Value.slice none 0 0] ∧ tkB Try.prog 38 = some (.sl 22) ∧ szOf Try.prog 38 = 1 ∧ isAggB Try.prog 38 = false ∧ isArrB Try.prog 38 = false ∧ infoB Try.prog 38 = true ∧ undB Try.prog 38 = true) ∧ (Program.bytesOf Try.prog 38 = 24 ∧ elemB Try.prog 38 = some 22 ∧ zeroB Try.prog 38 = some [Value.slice none 0 0] ∧ tkB Try.prog 42 = some .other ∧ szOf Try.prog 42 = 3 ∧ isAggB Try.prog 42 = true ∧ isArrB Try.prog 42 = false ∧ infoB Try.prog 42 = true ∧ undB Try.prog 42 = true ∧ Program.bytesOf Try.prog 42 = 40 ∧ elemB Try.prog 42 = none ∧ zeroB Try.prog 42 = some [Value.int .i64 0, Value.int .i64 0, Value.slice none 0 0] ∧ fieldB Try.prog 42 0 = some (3, 0) ∧ fieldB Try.prog 42 1 = some (3, 1) ∧ fieldB Try.prog 42 2 = some (32, 2) ∧ placesOf Try.prog 42 = some (.st [(0, 1), (1, 1), (2, 1)]) ∧ tkB Try.prog 43 = some .other ∧ szOf Try.prog 43 = 3 ∧ isAggB Try.prog 43 = true ∧ isArrB Try.prog 43 = false ∧ infoB Try.prog 43 = true ∧ undB Try.prog 43 = true ∧ Program.bytesOf Try.prog 43 = 40 ∧ elemB Try.prog 43 = none ∧ zeroB Try.prog 43 = some [Value.int .i64 0, Value.int .i64 0, Value.slice none 0 0] ∧ fieldB Try.prog 43 0 = some (3, 0) ∧ fieldB Try.prog 43 1 = some (3, 1) ∧ fieldB Try.prog 43 2 = some (32, 2) ∧ placesOf Try.prog 43 = some (.st [(0, 1), (1, 1), (2, 1)]) ∧ tkB Try.prog 55 = some (.int .u64) ∧ szOf Try.prog 55 = 1 ∧ isAggB Try.prog 55 = false ∧ isArrB Try.prog 55 = false ∧ infoB Try.prog 55 = true ∧ undB Try.prog 55 = true ∧ Program.bytesOf Try.prog 55 = 8 ∧ elemB Try.prog 55 = none ∧ zeroB Try.prog 55 = some [Value.int .u64 0] ∧ tkB Try.prog 60 = some (.int .u32) ∧ szOf Try.prog 60 = 1) ∧ (isAggB Try.prog 60 = false ∧ isArrB Try.prog 60 = false ∧ infoB Try.prog 60 = true ∧ undB Try.prog 60 = true ∧ Program.bytesOf Try.prog 60 = 4 ∧ elemB Try.prog 60 = none ∧ zeroB Try.prog 60 = some [Value.int .u32 0] ∧ tkB Try.prog 61 = some .other ∧ szOf Try.prog 61 = 4 ∧ isAggB Try.prog 61 = true ∧ isArrB Try.prog 61 = false ∧ infoB Try.prog 61 = true ∧ undB Try.prog 61 = true ∧ Program.bytesOf Try.prog 61 = 48 ∧ elemB Try.prog 61 = none ∧ zeroB Try.prog 61 = some [Value.int .i64 0, Value.int .i64 0, Value.int .u32 0, Value.slice none 0 0] ∧ fieldB Try.prog 61 0 = some (3, 0) ∧ fieldB Try.prog 61 1 = some (3, 1) ∧ fieldB Try.prog 61 2 = some (60, 2) ∧ fieldB Try.prog 61 3 = some (32, 3) ∧ placesOf Try.prog 61 = some (.st [(0, 1), (1, 1), (2, 1), (3, 1)]) ∧ tkB Try.prog 62 = some .other ∧ szOf Try.prog 62 = 4 ∧ isAggB Try.prog 62 = true ∧ isArrB Try.prog 62 = false ∧ infoB Try.prog 62 = true ∧ undB Try.prog 62 = true ∧ Program.bytesOf Try.prog 62 = 48 ∧ elemB Try.prog 62 = none ∧ zeroB Try.prog 62 = some [Value.int .i64 0, Value.int .i64 0, Value.int .u32 0, Value.slice none 0 0] ∧ fieldB Try.prog 62 0 = some (3, 0) ∧ fieldB Try.prog 62 1 = some (3, 1) ∧ fieldB Try.prog 62 2 = some (60, 2) ∧ fieldB Try.prog 62 3 = some (32, 3) ∧ placesOf Try.prog 62 = some (.st [(0, 1), (1, 1), (2, 1), (3, 1)]) ∧ tkB Try.prog 63 = some (.sl 5) ∧ szOf Try.prog 63 = 1 ∧ isAggB Try.prog 63 = false ∧ isArrB Try.prog 63 = false ∧ infoB Try.prog 63 = true) ∧ (undB Try.prog 63 = true ∧ Program.bytesOf Try.prog 63 = 24 ∧ elemB Try.prog 63 = some 5 ∧ zeroB Try.prog 63 = some [Value.slice none 0 0] ∧ tkB Try.prog 72 = some .other ∧ szOf Try.prog 72 = 1 ∧ isAggB Try.prog 72 = false ∧ isArrB Try.prog 72 = false ∧ infoB Try.prog 72 = true ∧ undB Try.prog 72 = true ∧ Program.bytesOf Try.prog 72 = 0 ∧ elemB Try.prog 72 = none ∧ tkB Try.prog 78 = some (.int .u16) ∧ szOf Try.prog 78 = 1 ∧ isAggB Try.prog 78 = false ∧ isArrB Try.prog 78 = false ∧ infoB Try.prog 78 = true ∧ undB Try.prog 78 = true ∧ Program.bytesOf Try.prog 78 = 2 ∧ elemB Try.prog 78 = none ∧ zeroB Try.prog 78 = some [Value.int .u16 0] ∧ tkB Try.prog 81 = some (.sl 62) ∧ szOf Try.prog 81 = 1 ∧ isAggB Try.prog 81 = false ∧ isArrB Try.prog 81 = false ∧ infoB Try.prog 81 = true ∧ undB Try.prog 81 = true ∧ Program.bytesOf Try.prog 81 = 24 ∧ elemB Try.prog 81 = some 62 ∧ zeroB Try.prog 81 = some [Value.slice none 0 0] ∧ tkB Try.prog 84 = some (.sl 3) ∧ szOf Try.prog 84 = 1 ∧ isAggB Try.prog 84 = false ∧ isArrB Try.prog 84 = false ∧ infoB Try.prog 84 = true ∧ undB Try.prog 84 = true ∧ Program.bytesOf Try.prog 84 = 24 ∧ elemB Try.prog 84 = some 3 ∧ zeroB Try.prog 84 = some [Value.slice none 0 0] ∧ tkB Try.prog 88 = some (.sl 32)) ∧ (szOf Try.prog 88 = 1 ∧ isAggB Try.prog 88 = false ∧ isArrB Try.prog 88 = false ∧ infoB Try.prog 88 = true ∧ undB Try.prog 88 = true ∧ Program.bytesOf Try.prog 88 = 24 ∧ elemB Try.prog 88 = some 32 ∧ zeroB Try.prog 88 = some [Value.slice none 0 0] ∧ tkB Try.prog 90 = some .other ∧ szOf Try.prog 90 = 1 ∧ isAggB Try.prog 90 = false ∧ isArrB Try.prog 90 = false ∧ infoB Try.prog 90 = true ∧ undB Try.prog 90 = true ∧ Program.bytesOf Try.prog 90 = 8 ∧ elemB Try.prog 90 = none ∧ tkB Try.prog 91 = some .other ∧ szOf Try.prog 91 = 1 ∧ isAggB Try.prog 91 = false ∧ isArrB Try.prog 91 = false ∧ infoB Try.prog 91 = true ∧ undB Try.prog 91 = true ∧ Program.bytesOf Try.prog 91 = 8 ∧ elemB Try.prog 91 = none ∧ tkB Try.prog 109 = some (.arr 64 4) ∧ szOf Try.prog 109 = 64 ∧ isAggB Try.prog 109 = true ∧ isArrB Try.prog 109 = true ∧ infoB Try.prog 109 = true ∧ undB Try.prog 109 = true ∧ Program.bytesOf Try.prog 109 = 64 ∧ elemB Try.prog 109 = none ∧ zeroB Try.prog 109 = some [Value.bool false, Value.bool false, Value.bool false, Value.bool false, Value.bool false, Value.bool false, Value.bool false, Value.bool false, Value.bool false, Value.bool false, Value.bool false, Value.bool false, Value.bool false, Value.bool false, Value.bool false, Value.bool false, Value.bool false, Value.bool false, Value.bool false, Value.bool false, Value.bool false, Value.bool false, Value.bool false, Value.bool false, Value.bool false, Value.bool false, Value.bool false, Value.bool false, Value.bool false, Value.bool false, Value.bool false, Value.bool false, Value.bool false, Value.bool false, Value.bool false, Value.bool false, Value.bool false, Value.bool false, Value.bool false, Value.bool false, Value.bool false, Value.bool false, Value.bool false, Value.bool false, Value.bool false, Value.bool false, Value.bool false, Value.bool false, Value.bool false, Value.bool false, Value.bool false, Value.bool false, Value.bool false, Value.bool false, Value.bool false, Value.bool false, Value.bool false, Value.bool false, Value.bool false, Value.bool false, Value.bool false, Value.bool false, Value.bool false, Value.bool false] ∧ tkB Try.prog 110 = some .other ∧ szOf Try.prog 110 = 1 ∧ isAggB Try.prog 110 = false ∧ isArrB Try.prog 110 = false ∧ infoB Try.prog 110 = true ∧ undB Try.prog 110 = true ∧ Program.bytesOf Try.prog 110 = 8) ∧ (elemB Try.prog 110 = none ∧ mapB Try.prog 110 = some (.i64, 4) ∧ tkB Try.prog 112 = some .other ∧ szOf Try.prog 112 = 1 ∧ isAggB Try.prog 112 = false ∧ isArrB Try.prog 112 = false ∧ infoB Try.prog 112 = true ∧ undB Try.prog 112 = true ∧ Program.bytesOf Try.prog 112 = 8 ∧ elemB Try.prog 112 = none ∧ tkB Try.prog 116 = some (.sl 63) ∧ szOf Try.prog 116 = 1 ∧ isAggB Try.prog 116 = false ∧ isArrB Try.prog 116 = false ∧ infoB Try.prog 116 = true ∧ undB Try.prog 116 = true ∧ Program.bytesOf Try.prog 116 = 24 ∧ elemB Try.prog 116 = some 63 ∧ zeroB Try.prog 116 = some [Value.slice none 0 0] ∧ tkB Try.prog 121 = some (.int .u64) ∧ szOf Try.prog 121 = 1 ∧ isAggB Try.prog 121 = false ∧ isArrB Try.prog 121 = false ∧ infoB Try.prog 121 = true ∧ undB Try.prog 121 = true ∧ Program.bytesOf Try.prog 121 = 8 ∧ elemB Try.prog 121 = none ∧ zeroB Try.prog 121 = some [Value.int .u64 0] ∧ tkB Try.prog 122 = some .other ∧ szOf Try.prog 122 = 1 ∧ isAggB Try.prog 122 = false ∧ isArrB Try.prog 122 = false ∧ infoB Try.prog 122 = true ∧ undB Try.prog 122 = true ∧ Program.bytesOf Try.prog 122 = 8 ∧ elemB Try.prog 122 = none ∧ tkB Try.prog 125 = some .other ∧ szOf Try.prog 125 = 1 ∧ isAggB Try.prog 125 = false ∧ isArrB Try.prog 125 = false) ∧ (infoB Try.prog 125 = true ∧ undB Try.prog 125 = true ∧ Program.bytesOf Try.prog 125 = 8 ∧ elemB Try.prog 125 = none ∧ tkB Try.prog 127 = some .other ∧ szOf Try.prog 127 = 1 ∧ isAggB Try.prog 127 = false ∧ isArrB Try.prog 127 = false ∧ infoB Try.prog 127 = true ∧ undB Try.prog 127 = true ∧ Program.bytesOf Try.prog 127 = 16 ∧ elemB Try.prog 127 = none ∧ tkB Try.prog 128 = some .other ∧ szOf Try.prog 128 = 1 ∧ isAggB Try.prog 128 = false ∧ isArrB Try.prog 128 = false ∧ infoB Try.prog 128 = true ∧ undB Try.prog 128 = true ∧ Program.bytesOf Try.prog 128 = 16 ∧ elemB Try.prog 128 = none ∧ enterB Try.prog 2 = true ∧ enterB Try.prog 3 = true ∧ enterB Try.prog 4 = true ∧ enterB Try.prog 5 = true ∧ enterB Try.prog 6 = true ∧ enterB Try.prog 7 = true ∧ enterB Try.prog 8 = true ∧ enterB Try.prog 9 = true ∧ enterB Try.prog 10 = true ∧ enterB Try.prog 11 = true ∧ enterB Try.prog 12 = true ∧ enterB Try.prog 13 = true ∧ enterB Try.prog 14 = true ∧ enterB Try.prog 15 = true ∧ enterB Try.prog 16 = true ∧ enterB Try.prog 17 = true ∧ enterB Try.prog 18 = true ∧ enterB Try.prog 19 = true ∧ enterB Try.prog 20 = true ∧ enterB Try.prog 21 = true) ∧ (enterB Try.prog 22 = true ∧ enterB Try.prog 23 = true ∧ enterB Try.prog 24 = true ∧ enterB Try.prog 25 = true ∧ enterB Try.prog 26 = true ∧ enterB Try.prog 27 = true ∧ enterB Try.prog 28 = true ∧ enterB Try.prog 29 = true ∧ enterB Try.prog 30 = true ∧ enterB Try.prog 31 = true ∧ enterB Try.prog 32 = true ∧ enterB Try.prog 33 = true ∧ enterB Try.prog 34 = true ∧ enterB Try.prog 35 = true ∧ enterB Try.prog 36 = true ∧ enterB Try.prog 37 = true ∧ enterB Try.prog 38 = true ∧ enterB Try.prog 39 = true ∧ enterB Try.prog 40 = true ∧ enterB Try.prog 41 = true ∧ enterB Try.prog 42 = true ∧ enterB Try.prog 43 = true ∧ enterB Try.prog 44 = true ∧ enterB Try.prog 45 = true ∧ enterB Try.prog 46 = true ∧ enterB Try.prog 47 = true ∧ enterB Try.prog 48 = true ∧ enterB Try.prog 49 = true ∧ enterB Try.prog 50 = true ∧ enterB Try.prog 51 = true ∧ enterB Try.prog 52 = true ∧ enterB Try.prog 53 = true ∧ enterB Try.prog 54 = true ∧ enterB Try.prog 55 = true ∧ enterB Try.prog 56 = true ∧ enterB Try.prog 57 = true ∧ enterB Try.prog 58 = true ∧ enterB Try.prog 59 = true ∧ enterB Try.prog 60 = true ∧ enterB Try.prog 61 = true) ∧ (enterB Try.prog 62 = true ∧ enterB Try.prog 63 = true ∧ enterB Try.prog 64 = true ∧ enterB Try.prog 65 = true ∧ enterB Try.prog 66 = true ∧ enterB Try.prog 67 = true ∧ enterB Try.prog 68 = true ∧ enterB Try.prog 69 = true ∧ enterB Try.prog 70 = true ∧ enterB Try.prog 71 = true ∧ enterB Try.prog 72 = true ∧ enterB Try.prog 73 = true ∧ enterB Try.prog 74 = true ∧ enterB Try.prog 75 = true ∧ enterB Try.prog 76 = true ∧ enterB Try.prog 77 = true ∧ enterB Try.prog 78 = true ∧ enterB Try.prog 79 = true ∧ enterB Try.prog 80 = true ∧ enterB Try.prog 81 = true) := ⟨tyb0, tyb1, tyb2, tyb3, tyb4, tyb5, tyb6, tyb7, tyb8, tyb9, tyb10⟩
theorem mixed : Try.prog.follows .mixedOrders = true := by kernel_rfl
theorem extractR (vs : List PV) (k : Nat) : vs[k]? = vs[k]? := rfl
end Go.Proofs.Ytkhjfphenflefaa.TM
