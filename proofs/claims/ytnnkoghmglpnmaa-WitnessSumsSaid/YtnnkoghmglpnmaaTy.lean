/- The seat's table: what TM asks of the program's types and functions. Conditions: none; closed facts. -/
import Derived.Test.YtnnkoghmglpnmaaTm3
import Derived.Test.YtnnkoghmglpnmaaProg
namespace Go.Proofs.Ytnnkoghmglpnmaa.TM
open Go
theorem ty0 : tkB Try.prog 2 = some (.int .i64) := by kernel_rfl
theorem ty1 : szOf Try.prog 2 = 1 := by kernel_rfl
theorem ty2 : isAggB Try.prog 2 = false := by kernel_rfl
theorem ty3 : isArrB Try.prog 2 = false := by kernel_rfl
theorem ty4 : infoB Try.prog 2 = true := by kernel_rfl
theorem ty5 : undB Try.prog 2 = true := by kernel_rfl
theorem ty6 : Program.bytesOf Try.prog 2 = 8 := by kernel_rfl
theorem ty7 : elemB Try.prog 2 = none := by kernel_rfl
theorem ty8 : zeroB Try.prog 2 = some [Value.int .i64 0] := by kernel_rfl
theorem ty9 : tkB Try.prog 3 = some (.int .i64) := by kernel_rfl
theorem ty10 : szOf Try.prog 3 = 1 := by kernel_rfl
theorem ty11 : isAggB Try.prog 3 = false := by kernel_rfl
theorem ty12 : isArrB Try.prog 3 = false := by kernel_rfl
theorem ty13 : infoB Try.prog 3 = true := by kernel_rfl
theorem ty14 : undB Try.prog 3 = true := by kernel_rfl
theorem ty15 : Program.bytesOf Try.prog 3 = 8 := by kernel_rfl
theorem ty16 : elemB Try.prog 3 = none := by kernel_rfl
theorem ty17 : zeroB Try.prog 3 = some [Value.int .i64 0] := by kernel_rfl
theorem ty18 : tkB Try.prog 4 = some .bool := by kernel_rfl
theorem ty19 : szOf Try.prog 4 = 1 := by kernel_rfl
theorem ty20 : isAggB Try.prog 4 = false := by kernel_rfl
theorem ty21 : isArrB Try.prog 4 = false := by kernel_rfl
theorem ty22 : infoB Try.prog 4 = true := by kernel_rfl
theorem ty23 : undB Try.prog 4 = true := by kernel_rfl
theorem ty24 : Program.bytesOf Try.prog 4 = 1 := by kernel_rfl
theorem ty25 : elemB Try.prog 4 = none := by kernel_rfl
theorem ty26 : zeroB Try.prog 4 = some [Value.bool false] := by kernel_rfl
theorem ty27 : tkB Try.prog 5 = some (.int .u8) := by kernel_rfl
theorem ty28 : szOf Try.prog 5 = 1 := by kernel_rfl
theorem ty29 : isAggB Try.prog 5 = false := by kernel_rfl
theorem ty30 : isArrB Try.prog 5 = false := by kernel_rfl
theorem ty31 : infoB Try.prog 5 = true := by kernel_rfl
theorem ty32 : undB Try.prog 5 = true := by kernel_rfl
theorem ty33 : Program.bytesOf Try.prog 5 = 1 := by kernel_rfl
theorem ty34 : elemB Try.prog 5 = none := by kernel_rfl
theorem ty35 : zeroB Try.prog 5 = some [Value.int .u8 0] := by kernel_rfl
theorem ty36 : tkB Try.prog 9 = some .str := by kernel_rfl
theorem ty37 : szOf Try.prog 9 = 1 := by kernel_rfl
theorem ty38 : isAggB Try.prog 9 = false := by kernel_rfl
theorem ty39 : isArrB Try.prog 9 = false := by kernel_rfl
theorem ty40 : infoB Try.prog 9 = true := by kernel_rfl
theorem ty41 : undB Try.prog 9 = true := by kernel_rfl
theorem ty42 : Program.bytesOf Try.prog 9 = 16 := by kernel_rfl
theorem ty43 : elemB Try.prog 9 = none := by kernel_rfl
theorem ty44 : zeroB Try.prog 9 = some [Value.string ByteArray.empty] := by kernel_rfl
theorem ty45 : tkB Try.prog 22 = some (.int .u64) := by kernel_rfl
theorem ty46 : szOf Try.prog 22 = 1 := by kernel_rfl
theorem ty47 : isAggB Try.prog 22 = false := by kernel_rfl
theorem ty48 : isArrB Try.prog 22 = false := by kernel_rfl
theorem ty49 : infoB Try.prog 22 = true := by kernel_rfl
theorem ty50 : undB Try.prog 22 = true := by kernel_rfl
theorem ty51 : Program.bytesOf Try.prog 22 = 8 := by kernel_rfl
theorem ty52 : elemB Try.prog 22 = none := by kernel_rfl
theorem ty53 : zeroB Try.prog 22 = some [Value.int .u64 0] := by kernel_rfl
theorem ty54 : tkB Try.prog 23 = some (.sl 22) := by kernel_rfl
theorem ty55 : szOf Try.prog 23 = 1 := by kernel_rfl
theorem ty56 : isAggB Try.prog 23 = false := by kernel_rfl
theorem ty57 : isArrB Try.prog 23 = false := by kernel_rfl
theorem ty58 : infoB Try.prog 23 = true := by kernel_rfl
theorem ty59 : undB Try.prog 23 = true := by kernel_rfl
theorem ty60 : Program.bytesOf Try.prog 23 = 24 := by kernel_rfl
theorem ty61 : elemB Try.prog 23 = some 22 := by kernel_rfl
theorem ty62 : zeroB Try.prog 23 = some [Value.slice none 0 0] := by kernel_rfl
theorem ty63 : tkB Try.prog 24 = some .other := by kernel_rfl
theorem ty64 : szOf Try.prog 24 = 3 := by kernel_rfl
theorem ty65 : isAggB Try.prog 24 = true := by kernel_rfl
theorem ty66 : isArrB Try.prog 24 = false := by kernel_rfl
theorem ty67 : infoB Try.prog 24 = true := by kernel_rfl
theorem ty68 : undB Try.prog 24 = true := by kernel_rfl
theorem ty69 : Program.bytesOf Try.prog 24 = 40 := by kernel_rfl
theorem ty70 : elemB Try.prog 24 = none := by kernel_rfl
theorem ty71 : zeroB Try.prog 24 = some [Value.int .i64 0, Value.int .i64 0, Value.slice none 0 0] := by kernel_rfl
theorem ty72 : fieldB Try.prog 24 0 = some (3, 0) := by kernel_rfl
theorem ty73 : fieldB Try.prog 24 1 = some (3, 1) := by kernel_rfl
theorem ty74 : fieldB Try.prog 24 2 = some (23, 2) := by kernel_rfl
theorem ty75 : placesOf Try.prog 24 = some (.st [(0, 1), (1, 1), (2, 1)]) := by kernel_rfl
theorem ty76 : tkB Try.prog 25 = some .other := by kernel_rfl
theorem ty77 : szOf Try.prog 25 = 3 := by kernel_rfl
theorem ty78 : isAggB Try.prog 25 = true := by kernel_rfl
theorem ty79 : isArrB Try.prog 25 = false := by kernel_rfl
theorem ty80 : infoB Try.prog 25 = true := by kernel_rfl
theorem ty81 : undB Try.prog 25 = true := by kernel_rfl
theorem ty82 : Program.bytesOf Try.prog 25 = 40 := by kernel_rfl
theorem ty83 : elemB Try.prog 25 = none := by kernel_rfl
theorem ty84 : zeroB Try.prog 25 = some [Value.int .i64 0, Value.int .i64 0, Value.slice none 0 0] := by kernel_rfl
theorem ty85 : fieldB Try.prog 25 0 = some (3, 0) := by kernel_rfl
theorem ty86 : fieldB Try.prog 25 1 = some (3, 1) := by kernel_rfl
theorem ty87 : fieldB Try.prog 25 2 = some (23, 2) := by kernel_rfl
theorem ty88 : placesOf Try.prog 25 = some (.st [(0, 1), (1, 1), (2, 1)]) := by kernel_rfl
theorem ty89 : tkB Try.prog 26 = some (.sl 3) := by kernel_rfl
theorem ty90 : szOf Try.prog 26 = 1 := by kernel_rfl
theorem ty91 : isAggB Try.prog 26 = false := by kernel_rfl
theorem ty92 : isArrB Try.prog 26 = false := by kernel_rfl
theorem ty93 : infoB Try.prog 26 = true := by kernel_rfl
theorem ty94 : undB Try.prog 26 = true := by kernel_rfl
theorem ty95 : Program.bytesOf Try.prog 26 = 24 := by kernel_rfl
theorem ty96 : elemB Try.prog 26 = some 3 := by kernel_rfl
theorem ty97 : zeroB Try.prog 26 = some [Value.slice none 0 0] := by kernel_rfl
theorem ty98 : tkB Try.prog 27 = some .other := by kernel_rfl
theorem ty99 : szOf Try.prog 27 = 5 := by kernel_rfl
theorem ty100 : isAggB Try.prog 27 = true := by kernel_rfl
theorem ty101 : isArrB Try.prog 27 = false := by kernel_rfl
theorem ty102 : infoB Try.prog 27 = true := by kernel_rfl
theorem ty103 : undB Try.prog 27 = true := by kernel_rfl
theorem ty104 : Program.bytesOf Try.prog 27 = 88 := by kernel_rfl
theorem ty105 : elemB Try.prog 27 = none := by kernel_rfl
theorem ty106 : zeroB Try.prog 27 = some [Value.int .i64 0, Value.int .i64 0, Value.slice none 0 0, Value.slice none 0 0, Value.slice none 0 0] := by kernel_rfl
theorem ty107 : fieldB Try.prog 27 0 = some (3, 0) := by kernel_rfl
theorem ty108 : fieldB Try.prog 27 1 = some (3, 1) := by kernel_rfl
theorem ty109 : fieldB Try.prog 27 2 = some (26, 2) := by kernel_rfl
theorem ty110 : fieldB Try.prog 27 3 = some (26, 3) := by kernel_rfl
theorem ty111 : fieldB Try.prog 27 4 = some (23, 4) := by kernel_rfl
theorem ty112 : placesOf Try.prog 27 = some (.st [(0, 1), (1, 1), (2, 1), (3, 1), (4, 1)]) := by kernel_rfl
theorem ty113 : tkB Try.prog 28 = some .other := by kernel_rfl
theorem ty114 : szOf Try.prog 28 = 5 := by kernel_rfl
theorem ty115 : isAggB Try.prog 28 = true := by kernel_rfl
theorem ty116 : isArrB Try.prog 28 = false := by kernel_rfl
theorem ty117 : infoB Try.prog 28 = true := by kernel_rfl
theorem ty118 : undB Try.prog 28 = true := by kernel_rfl
theorem ty119 : Program.bytesOf Try.prog 28 = 88 := by kernel_rfl
theorem ty120 : elemB Try.prog 28 = none := by kernel_rfl
theorem ty121 : zeroB Try.prog 28 = some [Value.int .i64 0, Value.int .i64 0, Value.slice none 0 0, Value.slice none 0 0, Value.slice none 0 0] := by kernel_rfl
theorem ty122 : fieldB Try.prog 28 0 = some (3, 0) := by kernel_rfl
theorem ty123 : fieldB Try.prog 28 1 = some (3, 1) := by kernel_rfl
theorem ty124 : fieldB Try.prog 28 2 = some (26, 2) := by kernel_rfl
theorem ty125 : fieldB Try.prog 28 3 = some (26, 3) := by kernel_rfl
theorem ty126 : fieldB Try.prog 28 4 = some (23, 4) := by kernel_rfl
theorem ty127 : placesOf Try.prog 28 = some (.st [(0, 1), (1, 1), (2, 1), (3, 1), (4, 1)]) := by kernel_rfl
theorem ty128 : tkB Try.prog 30 = some (.int .i64) := by kernel_rfl
theorem ty129 : szOf Try.prog 30 = 1 := by kernel_rfl
theorem ty130 : isAggB Try.prog 30 = false := by kernel_rfl
theorem ty131 : isArrB Try.prog 30 = false := by kernel_rfl
theorem ty132 : infoB Try.prog 30 = true := by kernel_rfl
theorem ty133 : undB Try.prog 30 = true := by kernel_rfl
theorem ty134 : Program.bytesOf Try.prog 30 = 8 := by kernel_rfl
theorem ty135 : elemB Try.prog 30 = none := by kernel_rfl
theorem ty136 : zeroB Try.prog 30 = some [Value.int .i64 0] := by kernel_rfl
theorem ty137 : tkB Try.prog 64 = some .other := by kernel_rfl
theorem ty138 : szOf Try.prog 64 = 1 := by kernel_rfl
theorem ty139 : isAggB Try.prog 64 = false := by kernel_rfl
theorem ty140 : isArrB Try.prog 64 = false := by kernel_rfl
theorem ty141 : infoB Try.prog 64 = true := by kernel_rfl
theorem ty142 : undB Try.prog 64 = true := by kernel_rfl
theorem ty143 : Program.bytesOf Try.prog 64 = 8 := by kernel_rfl
theorem ty144 : elemB Try.prog 64 = none := by kernel_rfl
theorem ty145 : tkB Try.prog 65 = some .other := by kernel_rfl
theorem ty146 : szOf Try.prog 65 = 1 := by kernel_rfl
theorem ty147 : isAggB Try.prog 65 = false := by kernel_rfl
theorem ty148 : isArrB Try.prog 65 = false := by kernel_rfl
theorem ty149 : infoB Try.prog 65 = true := by kernel_rfl
theorem ty150 : undB Try.prog 65 = true := by kernel_rfl
theorem ty151 : Program.bytesOf Try.prog 65 = 8 := by kernel_rfl
theorem ty152 : elemB Try.prog 65 = none := by kernel_rfl
theorem ty153 : tkB Try.prog 67 = some .other := by kernel_rfl
theorem ty154 : szOf Try.prog 67 = 1 := by kernel_rfl
theorem ty155 : isAggB Try.prog 67 = false := by kernel_rfl
theorem ty156 : isArrB Try.prog 67 = false := by kernel_rfl
theorem ty157 : infoB Try.prog 67 = true := by kernel_rfl
theorem ty158 : undB Try.prog 67 = true := by kernel_rfl
theorem ty159 : Program.bytesOf Try.prog 67 = 8 := by kernel_rfl
theorem ty160 : elemB Try.prog 67 = none := by kernel_rfl
theorem ty161 : tkB Try.prog 84 = some .other := by kernel_rfl
theorem ty162 : szOf Try.prog 84 = 1 := by kernel_rfl
theorem ty163 : isAggB Try.prog 84 = false := by kernel_rfl
theorem ty164 : isArrB Try.prog 84 = false := by kernel_rfl
theorem ty165 : infoB Try.prog 84 = true := by kernel_rfl
theorem ty166 : undB Try.prog 84 = true := by kernel_rfl
theorem ty167 : Program.bytesOf Try.prog 84 = 8 := by kernel_rfl
theorem ty168 : elemB Try.prog 84 = none := by kernel_rfl
theorem ty169 : tkB Try.prog 96 = some (.sl 23) := by kernel_rfl
theorem ty170 : szOf Try.prog 96 = 1 := by kernel_rfl
theorem ty171 : isAggB Try.prog 96 = false := by kernel_rfl
theorem ty172 : isArrB Try.prog 96 = false := by kernel_rfl
theorem ty173 : infoB Try.prog 96 = true := by kernel_rfl
theorem ty174 : undB Try.prog 96 = true := by kernel_rfl
theorem ty175 : Program.bytesOf Try.prog 96 = 24 := by kernel_rfl
theorem ty176 : elemB Try.prog 96 = some 23 := by kernel_rfl
theorem ty177 : zeroB Try.prog 96 = some [Value.slice none 0 0] := by kernel_rfl
theorem ty178 : tkB Try.prog 97 = some .other := by kernel_rfl
theorem ty179 : szOf Try.prog 97 = 4 := by kernel_rfl
theorem ty180 : isAggB Try.prog 97 = true := by kernel_rfl
theorem ty181 : isArrB Try.prog 97 = false := by kernel_rfl
theorem ty182 : infoB Try.prog 97 = true := by kernel_rfl
theorem ty183 : undB Try.prog 97 = true := by kernel_rfl
theorem ty184 : Program.bytesOf Try.prog 97 = 96 := by kernel_rfl
theorem ty185 : elemB Try.prog 97 = none := by kernel_rfl
theorem ty186 : zeroB Try.prog 97 = some [Value.slice none 0 0, Value.slice none 0 0, Value.slice none 0 0, Value.slice none 0 0] := by kernel_rfl
theorem ty187 : fieldB Try.prog 97 0 = some (26, 0) := by kernel_rfl
theorem ty188 : fieldB Try.prog 97 1 = some (26, 1) := by kernel_rfl
theorem ty189 : fieldB Try.prog 97 2 = some (96, 2) := by kernel_rfl
theorem ty190 : fieldB Try.prog 97 3 = some (96, 3) := by kernel_rfl
theorem ty191 : placesOf Try.prog 97 = some (.st [(0, 1), (1, 1), (2, 1), (3, 1)]) := by kernel_rfl
theorem ty192 : tkB Try.prog 98 = some .other := by kernel_rfl
theorem ty193 : szOf Try.prog 98 = 4 := by kernel_rfl
theorem ty194 : isAggB Try.prog 98 = true := by kernel_rfl
theorem ty195 : isArrB Try.prog 98 = false := by kernel_rfl
theorem ty196 : infoB Try.prog 98 = true := by kernel_rfl
theorem ty197 : undB Try.prog 98 = true := by kernel_rfl
theorem ty198 : Program.bytesOf Try.prog 98 = 96 := by kernel_rfl
theorem ty199 : elemB Try.prog 98 = none := by kernel_rfl
theorem ty200 : zeroB Try.prog 98 = some [Value.slice none 0 0, Value.slice none 0 0, Value.slice none 0 0, Value.slice none 0 0] := by kernel_rfl
theorem ty201 : fieldB Try.prog 98 0 = some (26, 0) := by kernel_rfl
theorem ty202 : fieldB Try.prog 98 1 = some (26, 1) := by kernel_rfl
theorem ty203 : fieldB Try.prog 98 2 = some (96, 2) := by kernel_rfl
theorem ty204 : fieldB Try.prog 98 3 = some (96, 3) := by kernel_rfl
theorem ty205 : placesOf Try.prog 98 = some (.st [(0, 1), (1, 1), (2, 1), (3, 1)]) := by kernel_rfl
theorem ty206 : tkB Try.prog 102 = some .other := by kernel_rfl
theorem ty207 : szOf Try.prog 102 = 9 := by kernel_rfl
theorem ty208 : isAggB Try.prog 102 = true := by kernel_rfl
theorem ty209 : isArrB Try.prog 102 = false := by kernel_rfl
theorem ty210 : infoB Try.prog 102 = true := by kernel_rfl
theorem ty211 : undB Try.prog 102 = true := by kernel_rfl
theorem ty212 : Program.bytesOf Try.prog 102 = 168 := by kernel_rfl
theorem ty213 : elemB Try.prog 102 = none := by kernel_rfl
theorem ty214 : zeroB Try.prog 102 = some [Value.slice none 0 0, Value.slice none 0 0, Value.slice none 0 0, Value.slice none 0 0, Value.int .u64 0, Value.int .i64 0, Value.int .i64 0, Value.slice none 0 0, Value.slice none 0 0] := by kernel_rfl
theorem ty215 : fieldB Try.prog 102 0 = some (98, 0) := by kernel_rfl
theorem ty216 : fieldB Try.prog 102 1 = some (22, 4) := by kernel_rfl
theorem ty217 : fieldB Try.prog 102 2 = some (25, 5) := by kernel_rfl
theorem ty218 : fieldB Try.prog 102 3 = some (23, 8) := by kernel_rfl
theorem ty219 : placesOf Try.prog 102 = some (.st [(0, 4), (4, 1), (5, 3), (8, 1)]) := by kernel_rfl
theorem ty220 : tkB Try.prog 103 = some .other := by kernel_rfl
theorem ty221 : szOf Try.prog 103 = 9 := by kernel_rfl
theorem ty222 : isAggB Try.prog 103 = true := by kernel_rfl
theorem ty223 : isArrB Try.prog 103 = false := by kernel_rfl
theorem ty224 : infoB Try.prog 103 = true := by kernel_rfl
theorem ty225 : undB Try.prog 103 = true := by kernel_rfl
theorem ty226 : Program.bytesOf Try.prog 103 = 168 := by kernel_rfl
theorem ty227 : elemB Try.prog 103 = none := by kernel_rfl
theorem ty228 : zeroB Try.prog 103 = some [Value.slice none 0 0, Value.slice none 0 0, Value.slice none 0 0, Value.slice none 0 0, Value.int .u64 0, Value.int .i64 0, Value.int .i64 0, Value.slice none 0 0, Value.slice none 0 0] := by kernel_rfl
theorem ty229 : fieldB Try.prog 103 0 = some (98, 0) := by kernel_rfl
theorem ty230 : fieldB Try.prog 103 1 = some (22, 4) := by kernel_rfl
theorem ty231 : fieldB Try.prog 103 2 = some (25, 5) := by kernel_rfl
theorem ty232 : fieldB Try.prog 103 3 = some (23, 8) := by kernel_rfl
theorem ty233 : placesOf Try.prog 103 = some (.st [(0, 4), (4, 1), (5, 3), (8, 1)]) := by kernel_rfl
theorem ty234 : tkB Try.prog 115 = some (.int .u64) := by kernel_rfl
theorem ty235 : szOf Try.prog 115 = 1 := by kernel_rfl
theorem ty236 : isAggB Try.prog 115 = false := by kernel_rfl
theorem ty237 : isArrB Try.prog 115 = false := by kernel_rfl
theorem ty238 : infoB Try.prog 115 = true := by kernel_rfl
theorem ty239 : undB Try.prog 115 = true := by kernel_rfl
theorem ty240 : Program.bytesOf Try.prog 115 = 8 := by kernel_rfl
theorem ty241 : elemB Try.prog 115 = none := by kernel_rfl
theorem ty242 : zeroB Try.prog 115 = some [Value.int .u64 0] := by kernel_rfl
theorem ty243 : tkB Try.prog 116 = some .other := by kernel_rfl
theorem ty244 : szOf Try.prog 116 = 1 := by kernel_rfl
theorem ty245 : isAggB Try.prog 116 = false := by kernel_rfl
theorem ty246 : isArrB Try.prog 116 = false := by kernel_rfl
theorem ty247 : infoB Try.prog 116 = true := by kernel_rfl
theorem ty248 : undB Try.prog 116 = true := by kernel_rfl
theorem ty249 : Program.bytesOf Try.prog 116 = 8 := by kernel_rfl
theorem ty250 : elemB Try.prog 116 = none := by kernel_rfl
theorem ty251 : tkB Try.prog 117 = some .other := by kernel_rfl
theorem ty252 : szOf Try.prog 117 = 6 := by kernel_rfl
theorem ty253 : isAggB Try.prog 117 = true := by kernel_rfl
theorem ty254 : isArrB Try.prog 117 = false := by kernel_rfl
theorem ty255 : infoB Try.prog 117 = true := by kernel_rfl
theorem ty256 : undB Try.prog 117 = true := by kernel_rfl
theorem ty257 : Program.bytesOf Try.prog 117 = 128 := by kernel_rfl
theorem ty258 : elemB Try.prog 117 = none := by kernel_rfl
theorem ty259 : zeroB Try.prog 117 = some [Value.slice none 0 0, Value.slice none 0 0, Value.slice none 0 0, Value.slice none 0 0, Value.int .u64 0, Value.slice none 0 0] := by kernel_rfl
theorem ty260 : fieldB Try.prog 117 0 = some (98, 0) := by kernel_rfl
theorem ty261 : fieldB Try.prog 117 1 = some (22, 4) := by kernel_rfl
theorem ty262 : fieldB Try.prog 117 2 = some (23, 5) := by kernel_rfl
theorem ty263 : placesOf Try.prog 117 = some (.st [(0, 4), (4, 1), (5, 1)]) := by kernel_rfl
theorem ty264 : tkB Try.prog 118 = some .other := by kernel_rfl
theorem ty265 : szOf Try.prog 118 = 6 := by kernel_rfl
theorem ty266 : isAggB Try.prog 118 = true := by kernel_rfl
theorem ty267 : isArrB Try.prog 118 = false := by kernel_rfl
theorem ty268 : infoB Try.prog 118 = true := by kernel_rfl
theorem ty269 : undB Try.prog 118 = true := by kernel_rfl
theorem ty270 : Program.bytesOf Try.prog 118 = 128 := by kernel_rfl
theorem ty271 : elemB Try.prog 118 = none := by kernel_rfl
theorem ty272 : zeroB Try.prog 118 = some [Value.slice none 0 0, Value.slice none 0 0, Value.slice none 0 0, Value.slice none 0 0, Value.int .u64 0, Value.slice none 0 0] := by kernel_rfl
theorem ty273 : fieldB Try.prog 118 0 = some (98, 0) := by kernel_rfl
theorem ty274 : fieldB Try.prog 118 1 = some (22, 4) := by kernel_rfl
theorem ty275 : fieldB Try.prog 118 2 = some (23, 5) := by kernel_rfl
theorem ty276 : placesOf Try.prog 118 = some (.st [(0, 4), (4, 1), (5, 1)]) := by kernel_rfl
theorem ty277 : tkB Try.prog 124 = some (.sl 26) := by kernel_rfl
theorem ty278 : szOf Try.prog 124 = 1 := by kernel_rfl
theorem ty279 : isAggB Try.prog 124 = false := by kernel_rfl
theorem ty280 : isArrB Try.prog 124 = false := by kernel_rfl
theorem ty281 : infoB Try.prog 124 = true := by kernel_rfl
theorem ty282 : undB Try.prog 124 = true := by kernel_rfl
theorem ty283 : Program.bytesOf Try.prog 124 = 24 := by kernel_rfl
theorem ty284 : elemB Try.prog 124 = some 26 := by kernel_rfl
theorem ty285 : zeroB Try.prog 124 = some [Value.slice none 0 0] := by kernel_rfl
theorem ty286 : tkB Try.prog 125 = some (.sl 3) := by kernel_rfl
theorem ty287 : szOf Try.prog 125 = 1 := by kernel_rfl
theorem ty288 : isAggB Try.prog 125 = false := by kernel_rfl
theorem ty289 : isArrB Try.prog 125 = false := by kernel_rfl
theorem ty290 : infoB Try.prog 125 = true := by kernel_rfl
theorem ty291 : undB Try.prog 125 = true := by kernel_rfl
theorem ty292 : Program.bytesOf Try.prog 125 = 24 := by kernel_rfl
theorem ty293 : elemB Try.prog 125 = some 3 := by kernel_rfl
theorem ty294 : zeroB Try.prog 125 = some [Value.slice none 0 0] := by kernel_rfl
theorem ty295 : tkB Try.prog 134 = some .other := by kernel_rfl
theorem ty296 : szOf Try.prog 134 = 1 := by kernel_rfl
theorem ty297 : isAggB Try.prog 134 = false := by kernel_rfl
theorem ty298 : isArrB Try.prog 134 = false := by kernel_rfl
theorem ty299 : infoB Try.prog 134 = true := by kernel_rfl
theorem ty300 : undB Try.prog 134 = true := by kernel_rfl
theorem ty301 : Program.bytesOf Try.prog 134 = 8 := by kernel_rfl
theorem ty302 : elemB Try.prog 134 = none := by kernel_rfl
theorem ty303 : tkB Try.prog 135 = some .other := by kernel_rfl
theorem ty304 : szOf Try.prog 135 = 1 := by kernel_rfl
theorem ty305 : isAggB Try.prog 135 = false := by kernel_rfl
theorem ty306 : isArrB Try.prog 135 = false := by kernel_rfl
theorem ty307 : infoB Try.prog 135 = true := by kernel_rfl
theorem ty308 : undB Try.prog 135 = true := by kernel_rfl
theorem ty309 : Program.bytesOf Try.prog 135 = 16 := by kernel_rfl
theorem ty310 : elemB Try.prog 135 = none := by kernel_rfl
theorem ty311 : tkB Try.prog 136 = some .other := by kernel_rfl
theorem ty312 : szOf Try.prog 136 = 1 := by kernel_rfl
theorem ty313 : isAggB Try.prog 136 = false := by kernel_rfl
theorem ty314 : isArrB Try.prog 136 = false := by kernel_rfl
theorem ty315 : infoB Try.prog 136 = true := by kernel_rfl
theorem ty316 : undB Try.prog 136 = true := by kernel_rfl
theorem ty317 : Program.bytesOf Try.prog 136 = 16 := by kernel_rfl
theorem ty318 : elemB Try.prog 136 = none := by kernel_rfl
theorem ty319 : tkB Try.prog 138 = some (.arr 64 4) := by kernel_rfl
theorem ty320 : szOf Try.prog 138 = 64 := by kernel_rfl
theorem ty321 : isAggB Try.prog 138 = true := by kernel_rfl
theorem ty322 : isArrB Try.prog 138 = true := by kernel_rfl
theorem ty323 : infoB Try.prog 138 = true := by kernel_rfl
theorem ty324 : undB Try.prog 138 = true := by kernel_rfl
theorem ty325 : Program.bytesOf Try.prog 138 = 64 := by kernel_rfl
theorem ty326 : elemB Try.prog 138 = none := by kernel_rfl
theorem ty327 : zeroB Try.prog 138 = some [Value.bool false, Value.bool false, Value.bool false, Value.bool false, Value.bool false, Value.bool false, Value.bool false, Value.bool false, Value.bool false, Value.bool false, Value.bool false, Value.bool false, Value.bool false, Value.bool false, Value.bool false, Value.bool false, Value.bool false, Value.bool false, Value.bool false, Value.bool false, Value.bool false, Value.bool false, Value.bool false, Value.bool false, Value.bool false, Value.bool false, Value.bool false, Value.bool false, Value.bool false, Value.bool false, Value.bool false, Value.bool false, Value.bool false, Value.bool false, Value.bool false, Value.bool false, Value.bool false, Value.bool false, Value.bool false, Value.bool false, Value.bool false, Value.bool false, Value.bool false, Value.bool false, Value.bool false, Value.bool false, Value.bool false, Value.bool false, Value.bool false, Value.bool false, Value.bool false, Value.bool false, Value.bool false, Value.bool false, Value.bool false, Value.bool false, Value.bool false, Value.bool false, Value.bool false, Value.bool false, Value.bool false, Value.bool false, Value.bool false, Value.bool false] := by kernel_rfl
theorem ty328 : enterB Try.prog 2 = true := by kernel_rfl
theorem ty329 : enterB Try.prog 3 = true := by kernel_rfl
theorem ty330 : enterB Try.prog 4 = true := by kernel_rfl
theorem ty331 : enterB Try.prog 5 = true := by kernel_rfl
theorem ty332 : enterB Try.prog 6 = true := by kernel_rfl
theorem ty333 : enterB Try.prog 7 = true := by kernel_rfl
theorem ty334 : enterB Try.prog 8 = true := by kernel_rfl
theorem ty335 : enterB Try.prog 9 = true := by kernel_rfl
theorem ty336 : enterB Try.prog 10 = true := by kernel_rfl
theorem ty337 : enterB Try.prog 11 = true := by kernel_rfl
theorem ty338 : enterB Try.prog 12 = true := by kernel_rfl
theorem ty339 : enterB Try.prog 13 = true := by kernel_rfl
theorem ty340 : enterB Try.prog 14 = true := by kernel_rfl
theorem ty341 : enterB Try.prog 15 = true := by kernel_rfl
theorem ty342 : enterB Try.prog 16 = true := by kernel_rfl
theorem ty343 : enterB Try.prog 17 = true := by kernel_rfl
theorem ty344 : enterB Try.prog 18 = true := by kernel_rfl
theorem ty345 : enterB Try.prog 19 = true := by kernel_rfl
theorem ty346 : enterB Try.prog 20 = true := by kernel_rfl
theorem ty347 : enterB Try.prog 21 = true := by kernel_rfl
theorem ty348 : enterB Try.prog 22 = true := by kernel_rfl
theorem ty349 : enterB Try.prog 23 = true := by kernel_rfl
theorem ty350 : enterB Try.prog 24 = true := by kernel_rfl
theorem ty351 : enterB Try.prog 25 = true := by kernel_rfl
theorem ty352 : enterB Try.prog 26 = true := by kernel_rfl
theorem ty353 : enterB Try.prog 27 = true := by kernel_rfl
theorem ty354 : enterB Try.prog 28 = true := by kernel_rfl
theorem ty355 : enterB Try.prog 29 = true := by kernel_rfl
theorem ty356 : enterB Try.prog 30 = true := by kernel_rfl
theorem ty357 : enterB Try.prog 31 = true := by kernel_rfl
theorem ty358 : enterB Try.prog 32 = true := by kernel_rfl
theorem ty359 : enterB Try.prog 33 = true := by kernel_rfl
theorem ty360 : enterB Try.prog 34 = true := by kernel_rfl
theorem ty361 : enterB Try.prog 35 = true := by kernel_rfl
theorem ty362 : enterB Try.prog 36 = true := by kernel_rfl
theorem ty363 : enterB Try.prog 37 = true := by kernel_rfl
theorem ty364 : enterB Try.prog 38 = true := by kernel_rfl
theorem ty365 : enterB Try.prog 39 = true := by kernel_rfl
theorem ty366 : enterB Try.prog 40 = true := by kernel_rfl
theorem ty367 : enterB Try.prog 41 = true := by kernel_rfl
theorem ty368 : enterB Try.prog 42 = true := by kernel_rfl
theorem ty369 : enterB Try.prog 43 = true := by kernel_rfl
theorem ty370 : enterB Try.prog 44 = true := by kernel_rfl
theorem ty371 : enterB Try.prog 45 = true := by kernel_rfl
theorem ty372 : enterB Try.prog 46 = true := by kernel_rfl
theorem ty373 : enterB Try.prog 47 = true := by kernel_rfl
theorem ty374 : enterB Try.prog 48 = true := by kernel_rfl
theorem ty375 : enterB Try.prog 49 = true := by kernel_rfl
theorem ty376 : enterB Try.prog 50 = true := by kernel_rfl
theorem ty377 : enterB Try.prog 51 = true := by kernel_rfl
theorem ty378 : enterB Try.prog 52 = true := by kernel_rfl
theorem ty379 : enterB Try.prog 53 = true := by kernel_rfl
theorem ty380 : enterB Try.prog 54 = true := by kernel_rfl
theorem ty381 : enterB Try.prog 55 = true := by kernel_rfl
theorem ty382 : enterB Try.prog 56 = true := by kernel_rfl
theorem ty383 : enterB Try.prog 57 = true := by kernel_rfl
theorem ty384 : enterB Try.prog 58 = true := by kernel_rfl
theorem ty385 : enterB Try.prog 59 = true := by kernel_rfl
theorem ty386 : enterB Try.prog 60 = true := by kernel_rfl
theorem ty387 : enterB Try.prog 61 = true := by kernel_rfl
theorem ty388 : enterB Try.prog 62 = true := by kernel_rfl
theorem ty389 : enterB Try.prog 63 = true := by kernel_rfl
theorem ty390 : enterB Try.prog 64 = true := by kernel_rfl
theorem ty391 : enterB Try.prog 65 = true := by kernel_rfl
theorem ty392 : enterB Try.prog 66 = true := by kernel_rfl
theorem ty393 : enterB Try.prog 67 = true := by kernel_rfl
theorem ty394 : enterB Try.prog 68 = true := by kernel_rfl
theorem ty395 : enterB Try.prog 69 = true := by kernel_rfl
theorem ty396 : enterB Try.prog 70 = true := by kernel_rfl
theorem ty397 : enterB Try.prog 71 = true := by kernel_rfl
theorem ty398 : enterB Try.prog 72 = true := by kernel_rfl
theorem ty399 : enterB Try.prog 73 = true := by kernel_rfl
theorem ty400 : enterB Try.prog 74 = true := by kernel_rfl
theorem ty401 : enterB Try.prog 75 = true := by kernel_rfl
theorem ty402 : enterB Try.prog 76 = true := by kernel_rfl
theorem ty403 : enterB Try.prog 77 = true := by kernel_rfl
theorem ty404 : enterB Try.prog 78 = true := by kernel_rfl
theorem ty405 : enterB Try.prog 79 = true := by kernel_rfl
theorem ty406 : enterB Try.prog 80 = true := by kernel_rfl
theorem ty407 : enterB Try.prog 81 = true := by kernel_rfl
theorem ty408 : enterB Try.prog 82 = true := by kernel_rfl
theorem ty409 : enterB Try.prog 83 = true := by kernel_rfl
theorem ty410 : enterB Try.prog 84 = true := by kernel_rfl
theorem ty411 : enterB Try.prog 85 = true := by kernel_rfl
theorem ty412 : enterB Try.prog 86 = true := by kernel_rfl
theorem ty413 : enterB Try.prog 87 = true := by kernel_rfl
theorem ty414 : enterB Try.prog 88 = true := by kernel_rfl
theorem ty415 : enterB Try.prog 89 = true := by kernel_rfl
theorem ty416 : enterB Try.prog 90 = true := by kernel_rfl
theorem ty417 : enterB Try.prog 91 = true := by kernel_rfl
theorem ty418 : enterB Try.prog 92 = true := by kernel_rfl
theorem ty419 : enterB Try.prog 93 = true := by kernel_rfl
theorem ty420 : enterB Try.prog 94 = true := by kernel_rfl
theorem ty421 : enterB Try.prog 95 = true := by kernel_rfl
theorem ty422 : enterB Try.prog 96 = true := by kernel_rfl
theorem ty423 : enterB Try.prog 97 = true := by kernel_rfl
theorem ty424 : enterB Try.prog 98 = true := by kernel_rfl
theorem ty425 : enterB Try.prog 99 = true := by kernel_rfl
theorem ty426 : enterB Try.prog 100 = true := by kernel_rfl
theorem ty427 : enterB Try.prog 101 = true := by kernel_rfl
theorem ty428 : enterB Try.prog 102 = true := by kernel_rfl
theorem ty429 : enterB Try.prog 103 = true := by kernel_rfl
theorem ty430 : enterB Try.prog 104 = true := by kernel_rfl
theorem ty431 : enterB Try.prog 105 = true := by kernel_rfl
theorem ty432 : enterB Try.prog 106 = true := by kernel_rfl
theorem ty433 : enterB Try.prog 107 = true := by kernel_rfl
theorem ty434 : enterB Try.prog 108 = true := by kernel_rfl
theorem ty435 : enterB Try.prog 109 = true := by kernel_rfl
theorem ty436 : enterB Try.prog 110 = true := by kernel_rfl
theorem ty437 : enterB Try.prog 111 = true := by kernel_rfl
theorem ty438 : enterB Try.prog 112 = true := by kernel_rfl
theorem ty439 : enterB Try.prog 113 = true := by kernel_rfl
theorem ty440 : enterB Try.prog 114 = true := by kernel_rfl
theorem ty441 : enterB Try.prog 115 = true := by kernel_rfl
theorem ty442 : enterB Try.prog 116 = true := by kernel_rfl
theorem ty443 : enterB Try.prog 117 = true := by kernel_rfl
theorem ty444 : enterB Try.prog 118 = true := by kernel_rfl
theorem ty445 : enterB Try.prog 119 = true := by kernel_rfl
theorem ty446 : enterB Try.prog 120 = true := by kernel_rfl
theorem ty447 : enterB Try.prog 121 = true := by kernel_rfl
theorem ty448 : enterB Try.prog 122 = true := by kernel_rfl
theorem ty449 : enterB Try.prog 123 = true := by kernel_rfl
theorem ty450 : enterB Try.prog 124 = true := by kernel_rfl
theorem ty451 : enterB Try.prog 125 = true := by kernel_rfl
theorem ty452 : enterB Try.prog 126 = true := by kernel_rfl
theorem ty453 : enterB Try.prog 127 = true := by kernel_rfl
theorem tyb0 : tkB Try.prog 2 = some (.int .i64) ∧ szOf Try.prog 2 = 1 ∧ isAggB Try.prog 2 = false ∧ isArrB Try.prog 2 = false ∧ infoB Try.prog 2 = true ∧ undB Try.prog 2 = true ∧ Program.bytesOf Try.prog 2 = 8 ∧ elemB Try.prog 2 = none ∧ zeroB Try.prog 2 = some [Value.int .i64 0] ∧ tkB Try.prog 3 = some (.int .i64) ∧ szOf Try.prog 3 = 1 ∧ isAggB Try.prog 3 = false ∧ isArrB Try.prog 3 = false ∧ infoB Try.prog 3 = true ∧ undB Try.prog 3 = true ∧ Program.bytesOf Try.prog 3 = 8 ∧ elemB Try.prog 3 = none ∧ zeroB Try.prog 3 = some [Value.int .i64 0] ∧ tkB Try.prog 4 = some .bool ∧ szOf Try.prog 4 = 1 ∧ isAggB Try.prog 4 = false ∧ isArrB Try.prog 4 = false ∧ infoB Try.prog 4 = true ∧ undB Try.prog 4 = true ∧ Program.bytesOf Try.prog 4 = 1 ∧ elemB Try.prog 4 = none ∧ zeroB Try.prog 4 = some [Value.bool false] ∧ tkB Try.prog 5 = some (.int .u8) ∧ szOf Try.prog 5 = 1 ∧ isAggB Try.prog 5 = false ∧ isArrB Try.prog 5 = false ∧ infoB Try.prog 5 = true ∧ undB Try.prog 5 = true ∧ Program.bytesOf Try.prog 5 = 1 ∧ elemB Try.prog 5 = none ∧ zeroB Try.prog 5 = some [Value.int .u8 0] ∧ tkB Try.prog 9 = some .str ∧ szOf Try.prog 9 = 1 ∧ isAggB Try.prog 9 = false ∧ isArrB Try.prog 9 = false := ⟨ty0, ty1, ty2, ty3, ty4, ty5, ty6, ty7, ty8, ty9, ty10, ty11, ty12, ty13, ty14, ty15, ty16, ty17, ty18, ty19, ty20, ty21, ty22, ty23, ty24, ty25, ty26, ty27, ty28, ty29, ty30, ty31, ty32, ty33, ty34, ty35, ty36, ty37, ty38, ty39⟩
theorem tyb1 : infoB Try.prog 9 = true ∧ undB Try.prog 9 = true ∧ Program.bytesOf Try.prog 9 = 16 ∧ elemB Try.prog 9 = none ∧ zeroB Try.prog 9 = some [Value.string ByteArray.empty] ∧ tkB Try.prog 22 = some (.int .u64) ∧ szOf Try.prog 22 = 1 ∧ isAggB Try.prog 22 = false ∧ isArrB Try.prog 22 = false ∧ infoB Try.prog 22 = true ∧ undB Try.prog 22 = true ∧ Program.bytesOf Try.prog 22 = 8 ∧ elemB Try.prog 22 = none ∧ zeroB Try.prog 22 = some [Value.int .u64 0] ∧ tkB Try.prog 23 = some (.sl 22) ∧ szOf Try.prog 23 = 1 ∧ isAggB Try.prog 23 = false ∧ isArrB Try.prog 23 = false ∧ infoB Try.prog 23 = true ∧ undB Try.prog 23 = true ∧ Program.bytesOf Try.prog 23 = 24 ∧ elemB Try.prog 23 = some 22 ∧ zeroB Try.prog 23 = some [Value.slice none 0 0] ∧ tkB Try.prog 24 = some .other ∧ szOf Try.prog 24 = 3 ∧ isAggB Try.prog 24 = true ∧ isArrB Try.prog 24 = false ∧ infoB Try.prog 24 = true ∧ undB Try.prog 24 = true ∧ Program.bytesOf Try.prog 24 = 40 ∧ elemB Try.prog 24 = none ∧ zeroB Try.prog 24 = some [Value.int .i64 0, Value.int .i64 0, Value.slice none 0 0] ∧ fieldB Try.prog 24 0 = some (3, 0) ∧ fieldB Try.prog 24 1 = some (3, 1) ∧ fieldB Try.prog 24 2 = some (23, 2) ∧ placesOf Try.prog 24 = some (.st [(0, 1), (1, 1), (2, 1)]) ∧ tkB Try.prog 25 = some .other ∧ szOf Try.prog 25 = 3 ∧ isAggB Try.prog 25 = true ∧ isArrB Try.prog 25 = false := ⟨ty40, ty41, ty42, ty43, ty44, ty45, ty46, ty47, ty48, ty49, ty50, ty51, ty52, ty53, ty54, ty55, ty56, ty57, ty58, ty59, ty60, ty61, ty62, ty63, ty64, ty65, ty66, ty67, ty68, ty69, ty70, ty71, ty72, ty73, ty74, ty75, ty76, ty77, ty78, ty79⟩
theorem tyb2 : infoB Try.prog 25 = true ∧ undB Try.prog 25 = true ∧ Program.bytesOf Try.prog 25 = 40 ∧ elemB Try.prog 25 = none ∧ zeroB Try.prog 25 = some [Value.int .i64 0, Value.int .i64 0, Value.slice none 0 0] ∧ fieldB Try.prog 25 0 = some (3, 0) ∧ fieldB Try.prog 25 1 = some (3, 1) ∧ fieldB Try.prog 25 2 = some (23, 2) ∧ placesOf Try.prog 25 = some (.st [(0, 1), (1, 1), (2, 1)]) ∧ tkB Try.prog 26 = some (.sl 3) ∧ szOf Try.prog 26 = 1 ∧ isAggB Try.prog 26 = false ∧ isArrB Try.prog 26 = false ∧ infoB Try.prog 26 = true ∧ undB Try.prog 26 = true ∧ Program.bytesOf Try.prog 26 = 24 ∧ elemB Try.prog 26 = some 3 ∧ zeroB Try.prog 26 = some [Value.slice none 0 0] ∧ tkB Try.prog 27 = some .other ∧ szOf Try.prog 27 = 5 ∧ isAggB Try.prog 27 = true ∧ isArrB Try.prog 27 = false ∧ infoB Try.prog 27 = true ∧ undB Try.prog 27 = true ∧ Program.bytesOf Try.prog 27 = 88 ∧ elemB Try.prog 27 = none ∧ zeroB Try.prog 27 = some [Value.int .i64 0, Value.int .i64 0, Value.slice none 0 0, Value.slice none 0 0, Value.slice none 0 0] ∧ fieldB Try.prog 27 0 = some (3, 0) ∧ fieldB Try.prog 27 1 = some (3, 1) ∧ fieldB Try.prog 27 2 = some (26, 2) ∧ fieldB Try.prog 27 3 = some (26, 3) ∧ fieldB Try.prog 27 4 = some (23, 4) ∧ placesOf Try.prog 27 = some (.st [(0, 1), (1, 1), (2, 1), (3, 1), (4, 1)]) ∧ tkB Try.prog 28 = some .other ∧ szOf Try.prog 28 = 5 ∧ isAggB Try.prog 28 = true ∧ isArrB Try.prog 28 = false ∧ infoB Try.prog 28 = true ∧ undB Try.prog 28 = true ∧ Program.bytesOf Try.prog 28 = 88 := ⟨ty80, ty81, ty82, ty83, ty84, ty85, ty86, ty87, ty88, ty89, ty90, ty91, ty92, ty93, ty94, ty95, ty96, ty97, ty98, ty99, ty100, ty101, ty102, ty103, ty104, ty105, ty106, ty107, ty108, ty109, ty110, ty111, ty112, ty113, ty114, ty115, ty116, ty117, ty118, ty119⟩
theorem tyb3 : elemB Try.prog 28 = none ∧ zeroB Try.prog 28 = some [Value.int .i64 0, Value.int .i64 0, Value.slice none 0 0, Value.slice none 0 0, Value.slice none 0 0] ∧ fieldB Try.prog 28 0 = some (3, 0) ∧ fieldB Try.prog 28 1 = some (3, 1) ∧ fieldB Try.prog 28 2 = some (26, 2) ∧ fieldB Try.prog 28 3 = some (26, 3) ∧ fieldB Try.prog 28 4 = some (23, 4) ∧ placesOf Try.prog 28 = some (.st [(0, 1), (1, 1), (2, 1), (3, 1), (4, 1)]) ∧ tkB Try.prog 30 = some (.int .i64) ∧ szOf Try.prog 30 = 1 ∧ isAggB Try.prog 30 = false ∧ isArrB Try.prog 30 = false ∧ infoB Try.prog 30 = true ∧ undB Try.prog 30 = true ∧ Program.bytesOf Try.prog 30 = 8 ∧ elemB Try.prog 30 = none ∧ zeroB Try.prog 30 = some [Value.int .i64 0] ∧ tkB Try.prog 64 = some .other ∧ szOf Try.prog 64 = 1 ∧ isAggB Try.prog 64 = false ∧ isArrB Try.prog 64 = false ∧ infoB Try.prog 64 = true ∧ undB Try.prog 64 = true ∧ Program.bytesOf Try.prog 64 = 8 ∧ elemB Try.prog 64 = none ∧ tkB Try.prog 65 = some .other ∧ szOf Try.prog 65 = 1 ∧ isAggB Try.prog 65 = false ∧ isArrB Try.prog 65 = false ∧ infoB Try.prog 65 = true ∧ undB Try.prog 65 = true ∧ Program.bytesOf Try.prog 65 = 8 ∧ elemB Try.prog 65 = none ∧ tkB Try.prog 67 = some .other ∧ szOf Try.prog 67 = 1 ∧ isAggB Try.prog 67 = false ∧ isArrB Try.prog 67 = false ∧ infoB Try.prog 67 = true ∧ undB Try.prog 67 = true ∧ Program.bytesOf Try.prog 67 = 8 := ⟨ty120, ty121, ty122, ty123, ty124, ty125, ty126, ty127, ty128, ty129, ty130, ty131, ty132, ty133, ty134, ty135, ty136, ty137, ty138, ty139, ty140, ty141, ty142, ty143, ty144, ty145, ty146, ty147, ty148, ty149, ty150, ty151, ty152, ty153, ty154, ty155, ty156, ty157, ty158, ty159⟩
theorem tyb4 : elemB Try.prog 67 = none ∧ tkB Try.prog 84 = some .other ∧ szOf Try.prog 84 = 1 ∧ isAggB Try.prog 84 = false ∧ isArrB Try.prog 84 = false ∧ infoB Try.prog 84 = true ∧ undB Try.prog 84 = true ∧ Program.bytesOf Try.prog 84 = 8 ∧ elemB Try.prog 84 = none ∧ tkB Try.prog 96 = some (.sl 23) ∧ szOf Try.prog 96 = 1 ∧ isAggB Try.prog 96 = false ∧ isArrB Try.prog 96 = false ∧ infoB Try.prog 96 = true ∧ undB Try.prog 96 = true ∧ Program.bytesOf Try.prog 96 = 24 ∧ elemB Try.prog 96 = some 23 ∧ zeroB Try.prog 96 = some [Value.slice none 0 0] ∧ tkB Try.prog 97 = some .other ∧ szOf Try.prog 97 = 4 ∧ isAggB Try.prog 97 = true ∧ isArrB Try.prog 97 = false ∧ infoB Try.prog 97 = true ∧ undB Try.prog 97 = true ∧ Program.bytesOf Try.prog 97 = 96 ∧ elemB Try.prog 97 = none ∧ zeroB Try.prog 97 = some [Value.slice none 0 0, Value.slice none 0 0, Value.slice none 0 0, Value.slice none 0 0] ∧ fieldB Try.prog 97 0 = some (26, 0) ∧ fieldB Try.prog 97 1 = some (26, 1) ∧ fieldB Try.prog 97 2 = some (96, 2) ∧ fieldB Try.prog 97 3 = some (96, 3) ∧ placesOf Try.prog 97 = some (.st [(0, 1), (1, 1), (2, 1), (3, 1)]) ∧ tkB Try.prog 98 = some .other ∧ szOf Try.prog 98 = 4 ∧ isAggB Try.prog 98 = true ∧ isArrB Try.prog 98 = false ∧ infoB Try.prog 98 = true ∧ undB Try.prog 98 = true ∧ Program.bytesOf Try.prog 98 = 96 ∧ elemB Try.prog 98 = none := ⟨ty160, ty161, ty162, ty163, ty164, ty165, ty166, ty167, ty168, ty169, ty170, ty171, ty172, ty173, ty174, ty175, ty176, ty177, ty178, ty179, ty180, ty181, ty182, ty183, ty184, ty185, ty186, ty187, ty188, ty189, ty190, ty191, ty192, ty193, ty194, ty195, ty196, ty197, ty198, ty199⟩
theorem tyb5 : zeroB Try.prog 98 = some [Value.slice none 0 0, Value.slice none 0 0, Value.slice none 0 0, Value.slice none 0 0] ∧ fieldB Try.prog 98 0 = some (26, 0) ∧ fieldB Try.prog 98 1 = some (26, 1) ∧ fieldB Try.prog 98 2 = some (96, 2) ∧ fieldB Try.prog 98 3 = some (96, 3) ∧ placesOf Try.prog 98 = some (.st [(0, 1), (1, 1), (2, 1), (3, 1)]) ∧ tkB Try.prog 102 = some .other ∧ szOf Try.prog 102 = 9 ∧ isAggB Try.prog 102 = true ∧ isArrB Try.prog 102 = false ∧ infoB Try.prog 102 = true ∧ undB Try.prog 102 = true ∧ Program.bytesOf Try.prog 102 = 168 ∧ elemB Try.prog 102 = none ∧ zeroB Try.prog 102 = some [Value.slice none 0 0, Value.slice none 0 0, Value.slice none 0 0, Value.slice none 0 0, Value.int .u64 0, Value.int .i64 0, Value.int .i64 0, Value.slice none 0 0, Value.slice none 0 0] ∧ fieldB Try.prog 102 0 = some (98, 0) ∧ fieldB Try.prog 102 1 = some (22, 4) ∧ fieldB Try.prog 102 2 = some (25, 5) ∧ fieldB Try.prog 102 3 = some (23, 8) ∧ placesOf Try.prog 102 = some (.st [(0, 4), (4, 1), (5, 3), (8, 1)]) ∧ tkB Try.prog 103 = some .other ∧ szOf Try.prog 103 = 9 ∧ isAggB Try.prog 103 = true ∧ isArrB Try.prog 103 = false ∧ infoB Try.prog 103 = true ∧ undB Try.prog 103 = true ∧ Program.bytesOf Try.prog 103 = 168 ∧ elemB Try.prog 103 = none ∧ zeroB Try.prog 103 = some [Value.slice none 0 0, Value.slice none 0 0, Value.slice none 0 0, Value.slice none 0 0, Value.int .u64 0, Value.int .i64 0, Value.int .i64 0, Value.slice none 0 0, Value.slice none 0 0] ∧ fieldB Try.prog 103 0 = some (98, 0) ∧ fieldB Try.prog 103 1 = some (22, 4) ∧ fieldB Try.prog 103 2 = some (25, 5) ∧ fieldB Try.prog 103 3 = some (23, 8) ∧ placesOf Try.prog 103 = some (.st [(0, 4), (4, 1), (5, 3), (8, 1)]) ∧ tkB Try.prog 115 = some (.int .u64) ∧ szOf Try.prog 115 = 1 ∧ isAggB Try.prog 115 = false ∧ isArrB Try.prog 115 = false ∧ infoB Try.prog 115 = true ∧ undB Try.prog 115 = true := ⟨ty200, ty201, ty202, ty203, ty204, ty205, ty206, ty207, ty208, ty209, ty210, ty211, ty212, ty213, ty214, ty215, ty216, ty217, ty218, ty219, ty220, ty221, ty222, ty223, ty224, ty225, ty226, ty227, ty228, ty229, ty230, ty231, ty232, ty233, ty234, ty235, ty236, ty237, ty238, ty239⟩
theorem tyb6 : Program.bytesOf Try.prog 115 = 8 ∧ elemB Try.prog 115 = none ∧ zeroB Try.prog 115 = some [Value.int .u64 0] ∧ tkB Try.prog 116 = some .other ∧ szOf Try.prog 116 = 1 ∧ isAggB Try.prog 116 = false ∧ isArrB Try.prog 116 = false ∧ infoB Try.prog 116 = true ∧ undB Try.prog 116 = true ∧ Program.bytesOf Try.prog 116 = 8 ∧ elemB Try.prog 116 = none ∧ tkB Try.prog 117 = some .other ∧ szOf Try.prog 117 = 6 ∧ isAggB Try.prog 117 = true ∧ isArrB Try.prog 117 = false ∧ infoB Try.prog 117 = true ∧ undB Try.prog 117 = true ∧ Program.bytesOf Try.prog 117 = 128 ∧ elemB Try.prog 117 = none ∧ zeroB Try.prog 117 = some [Value.slice none 0 0, Value.slice none 0 0, Value.slice none 0 0, Value.slice none 0 0, Value.int .u64 0, Value.slice none 0 0] ∧ fieldB Try.prog 117 0 = some (98, 0) ∧ fieldB Try.prog 117 1 = some (22, 4) ∧ fieldB Try.prog 117 2 = some (23, 5) ∧ placesOf Try.prog 117 = some (.st [(0, 4), (4, 1), (5, 1)]) ∧ tkB Try.prog 118 = some .other ∧ szOf Try.prog 118 = 6 ∧ isAggB Try.prog 118 = true ∧ isArrB Try.prog 118 = false ∧ infoB Try.prog 118 = true ∧ undB Try.prog 118 = true ∧ Program.bytesOf Try.prog 118 = 128 ∧ elemB Try.prog 118 = none ∧ zeroB Try.prog 118 = some [Value.slice none 0 0, Value.slice none 0 0, Value.slice none 0 0, Value.slice none 0 0, Value.int .u64 0, Value.slice none 0 0] ∧ fieldB Try.prog 118 0 = some (98, 0) ∧ fieldB Try.prog 118 1 = some (22, 4) ∧ fieldB Try.prog 118 2 = some (23, 5) ∧ placesOf Try.prog 118 = some (.st [(0, 4), (4, 1), (5, 1)]) ∧ tkB Try.prog 124 = some (.sl 26) ∧ szOf Try.prog 124 = 1 ∧ isAggB Try.prog 124 = false := ⟨ty240, ty241, ty242, ty243, ty244, ty245, ty246, ty247, ty248, ty249, ty250, ty251, ty252, ty253, ty254, ty255, ty256, ty257, ty258, ty259, ty260, ty261, ty262, ty263, ty264, ty265, ty266, ty267, ty268, ty269, ty270, ty271, ty272, ty273, ty274, ty275, ty276, ty277, ty278, ty279⟩
theorem tyb7 : isArrB Try.prog 124 = false ∧ infoB Try.prog 124 = true ∧ undB Try.prog 124 = true ∧ Program.bytesOf Try.prog 124 = 24 ∧ elemB Try.prog 124 = some 26 ∧ zeroB Try.prog 124 = some [Value.slice none 0 0] ∧ tkB Try.prog 125 = some (.sl 3) ∧ szOf Try.prog 125 = 1 ∧ isAggB Try.prog 125 = false ∧ isArrB Try.prog 125 = false ∧ infoB Try.prog 125 = true ∧ undB Try.prog 125 = true ∧ Program.bytesOf Try.prog 125 = 24 ∧ elemB Try.prog 125 = some 3 ∧ zeroB Try.prog 125 = some [Value.slice none 0 0] ∧ tkB Try.prog 134 = some .other ∧ szOf Try.prog 134 = 1 ∧ isAggB Try.prog 134 = false ∧ isArrB Try.prog 134 = false ∧ infoB Try.prog 134 = true ∧ undB Try.prog 134 = true ∧ Program.bytesOf Try.prog 134 = 8 ∧ elemB Try.prog 134 = none ∧ tkB Try.prog 135 = some .other ∧ szOf Try.prog 135 = 1 ∧ isAggB Try.prog 135 = false ∧ isArrB Try.prog 135 = false ∧ infoB Try.prog 135 = true ∧ undB Try.prog 135 = true ∧ Program.bytesOf Try.prog 135 = 16 ∧ elemB Try.prog 135 = none ∧ tkB Try.prog 136 = some .other ∧ szOf Try.prog 136 = 1 ∧ isAggB Try.prog 136 = false ∧ isArrB Try.prog 136 = false ∧ infoB Try.prog 136 = true ∧ undB Try.prog 136 = true ∧ Program.bytesOf Try.prog 136 = 16 ∧ elemB Try.prog 136 = none ∧ tkB Try.prog 138 = some (.arr 64 4) := ⟨ty280, ty281, ty282, ty283, ty284, ty285, ty286, ty287, ty288, ty289, ty290, ty291, ty292, ty293, ty294, ty295, ty296, ty297, ty298, ty299, ty300, ty301, ty302, ty303, ty304, ty305, ty306, ty307, ty308, ty309, ty310, ty311, ty312, ty313, ty314, ty315, ty316, ty317, ty318, ty319⟩
theorem tyb8 : szOf Try.prog 138 = 64 ∧ isAggB Try.prog 138 = true ∧ isArrB Try.prog 138 = true ∧ infoB Try.prog 138 = true ∧ undB Try.prog 138 = true ∧ Program.bytesOf Try.prog 138 = 64 ∧ elemB Try.prog 138 = none ∧ zeroB Try.prog 138 = some [Value.bool false, Value.bool false, Value.bool false, Value.bool false, Value.bool false, Value.bool false, Value.bool false, Value.bool false, Value.bool false, Value.bool false, Value.bool false, Value.bool false, Value.bool false, Value.bool false, Value.bool false, Value.bool false, Value.bool false, Value.bool false, Value.bool false, Value.bool false, Value.bool false, Value.bool false, Value.bool false, Value.bool false, Value.bool false, Value.bool false, Value.bool false, Value.bool false, Value.bool false, Value.bool false, Value.bool false, Value.bool false, Value.bool false, Value.bool false, Value.bool false, Value.bool false, Value.bool false, Value.bool false, Value.bool false, Value.bool false, Value.bool false, Value.bool false, Value.bool false, Value.bool false, Value.bool false, Value.bool false, Value.bool false, Value.bool false, Value.bool false, Value.bool false, Value.bool false, Value.bool false, Value.bool false, Value.bool false, Value.bool false, Value.bool false, Value.bool false, Value.bool false, Value.bool false, Value.bool false, Value.bool false, Value.bool false, Value.bool false, Value.bool false] ∧ enterB Try.prog 2 = true ∧ enterB Try.prog 3 = true ∧ enterB Try.prog 4 = true ∧ enterB Try.prog 5 = true ∧ enterB Try.prog 6 = true ∧ enterB Try.prog 7 = true ∧ enterB Try.prog 8 = true ∧ enterB Try.prog 9 = true ∧ enterB Try.prog 10 = true ∧ enterB Try.prog 11 = true ∧ enterB Try.prog 12 = true ∧ enterB Try.prog 13 = true ∧ enterB Try.prog 14 = true ∧ enterB Try.prog 15 = true ∧ enterB Try.prog 16 = true ∧ enterB Try.prog 17 = true ∧ enterB Try.prog 18 = true ∧ enterB Try.prog 19 = true ∧ enterB Try.prog 20 = true ∧ enterB Try.prog 21 = true ∧ enterB Try.prog 22 = true ∧ enterB Try.prog 23 = true ∧ enterB Try.prog 24 = true ∧ enterB Try.prog 25 = true ∧ enterB Try.prog 26 = true ∧ enterB Try.prog 27 = true ∧ enterB Try.prog 28 = true ∧ enterB Try.prog 29 = true ∧ enterB Try.prog 30 = true ∧ enterB Try.prog 31 = true ∧ enterB Try.prog 32 = true ∧ enterB Try.prog 33 = true := ⟨ty320, ty321, ty322, ty323, ty324, ty325, ty326, ty327, ty328, ty329, ty330, ty331, ty332, ty333, ty334, ty335, ty336, ty337, ty338, ty339, ty340, ty341, ty342, ty343, ty344, ty345, ty346, ty347, ty348, ty349, ty350, ty351, ty352, ty353, ty354, ty355, ty356, ty357, ty358, ty359⟩
theorem tyb9 : enterB Try.prog 34 = true ∧ enterB Try.prog 35 = true ∧ enterB Try.prog 36 = true ∧ enterB Try.prog 37 = true ∧ enterB Try.prog 38 = true ∧ enterB Try.prog 39 = true ∧ enterB Try.prog 40 = true ∧ enterB Try.prog 41 = true ∧ enterB Try.prog 42 = true ∧ enterB Try.prog 43 = true ∧ enterB Try.prog 44 = true ∧ enterB Try.prog 45 = true ∧ enterB Try.prog 46 = true ∧ enterB Try.prog 47 = true ∧ enterB Try.prog 48 = true ∧ enterB Try.prog 49 = true ∧ enterB Try.prog 50 = true ∧ enterB Try.prog 51 = true ∧ enterB Try.prog 52 = true ∧ enterB Try.prog 53 = true ∧ enterB Try.prog 54 = true ∧ enterB Try.prog 55 = true ∧ enterB Try.prog 56 = true ∧ enterB Try.prog 57 = true ∧ enterB Try.prog 58 = true ∧ enterB Try.prog 59 = true ∧ enterB Try.prog 60 = true ∧ enterB Try.prog 61 = true ∧ enterB Try.prog 62 = true ∧ enterB Try.prog 63 = true ∧ enterB Try.prog 64 = true ∧ enterB Try.prog 65 = true ∧ enterB Try.prog 66 = true ∧ enterB Try.prog 67 = true ∧ enterB Try.prog 68 = true ∧ enterB Try.prog 69 = true ∧ enterB Try.prog 70 = true ∧ enterB Try.prog 71 = true ∧ enterB Try.prog 72 = true ∧ enterB Try.prog 73 = true := ⟨ty360, ty361, ty362, ty363, ty364, ty365, ty366, ty367, ty368, ty369, ty370, ty371, ty372, ty373, ty374, ty375, ty376, ty377, ty378, ty379, ty380, ty381, ty382, ty383, ty384, ty385, ty386, ty387, ty388, ty389, ty390, ty391, ty392, ty393, ty394, ty395, ty396, ty397, ty398, ty399⟩
theorem tyb10 : enterB Try.prog 74 = true ∧ enterB Try.prog 75 = true ∧ enterB Try.prog 76 = true ∧ enterB Try.prog 77 = true ∧ enterB Try.prog 78 = true ∧ enterB Try.prog 79 = true ∧ enterB Try.prog 80 = true ∧ enterB Try.prog 81 = true ∧ enterB Try.prog 82 = true ∧ enterB Try.prog 83 = true ∧ enterB Try.prog 84 = true ∧ enterB Try.prog 85 = true ∧ enterB Try.prog 86 = true ∧ enterB Try.prog 87 = true ∧ enterB Try.prog 88 = true ∧ enterB Try.prog 89 = true ∧ enterB Try.prog 90 = true ∧ enterB Try.prog 91 = true ∧ enterB Try.prog 92 = true ∧ enterB Try.prog 93 = true ∧ enterB Try.prog 94 = true ∧ enterB Try.prog 95 = true ∧ enterB Try.prog 96 = true ∧ enterB Try.prog 97 = true ∧ enterB Try.prog 98 = true ∧ enterB Try.prog 99 = true ∧ enterB Try.prog 100 = true ∧ enterB Try.prog 101 = true ∧ enterB Try.prog 102 = true ∧ enterB Try.prog 103 = true ∧ enterB Try.prog 104 = true ∧ enterB Try.prog 105 = true ∧ enterB Try.prog 106 = true ∧ enterB Try.prog 107 = true ∧ enterB Try.prog 108 = true ∧ enterB Try.prog 109 = true ∧ enterB Try.prog 110 = true ∧ enterB Try.prog 111 = true ∧ enterB Try.prog 112 = true ∧ enterB Try.prog 113 = true := ⟨ty400, ty401, ty402, ty403, ty404, ty405, ty406, ty407, ty408, ty409, ty410, ty411, ty412, ty413, ty414, ty415, ty416, ty417, ty418, ty419, ty420, ty421, ty422, ty423, ty424, ty425, ty426, ty427, ty428, ty429, ty430, ty431, ty432, ty433, ty434, ty435, ty436, ty437, ty438, ty439⟩
theorem tyb11 : enterB Try.prog 114 = true ∧ enterB Try.prog 115 = true ∧ enterB Try.prog 116 = true ∧ enterB Try.prog 117 = true ∧ enterB Try.prog 118 = true ∧ enterB Try.prog 119 = true ∧ enterB Try.prog 120 = true ∧ enterB Try.prog 121 = true ∧ enterB Try.prog 122 = true ∧ enterB Try.prog 123 = true ∧ enterB Try.prog 124 = true ∧ enterB Try.prog 125 = true ∧ enterB Try.prog 126 = true ∧ enterB Try.prog 127 = true := ⟨ty440, ty441, ty442, ty443, ty444, ty445, ty446, ty447, ty448, ty449, ty450, ty451, ty452, ty453⟩
theorem tys : (tkB Try.prog 2 = some (.int .i64) ∧ szOf Try.prog 2 = 1 ∧ isAggB Try.prog 2 = false ∧ isArrB Try.prog 2 = false ∧ infoB Try.prog 2 = true ∧ undB Try.prog 2 = true ∧ Program.bytesOf Try.prog 2 = 8 ∧ elemB Try.prog 2 = none ∧ zeroB Try.prog 2 = some [Value.int .i64 0] ∧ tkB Try.prog 3 = some (.int .i64) ∧ szOf Try.prog 3 = 1 ∧ isAggB Try.prog 3 = false ∧ isArrB Try.prog 3 = false ∧ infoB Try.prog 3 = true ∧ undB Try.prog 3 = true ∧ Program.bytesOf Try.prog 3 = 8 ∧ elemB Try.prog 3 = none ∧ zeroB Try.prog 3 = some [Value.int .i64 0] ∧ tkB Try.prog 4 = some .bool ∧ szOf Try.prog 4 = 1 ∧ isAggB Try.prog 4 = false ∧ isArrB Try.prog 4 = false ∧ infoB Try.prog 4 = true ∧ undB Try.prog 4 = true ∧ Program.bytesOf Try.prog 4 = 1 ∧ elemB Try.prog 4 = none ∧ zeroB Try.prog 4 = some [Value.bool false] ∧ tkB Try.prog 5 = some (.int .u8) ∧ szOf Try.prog 5 = 1 ∧ isAggB Try.prog 5 = false ∧ isArrB Try.prog 5 = false ∧ infoB Try.prog 5 = true ∧ undB Try.prog 5 = true ∧ Program.bytesOf Try.prog 5 = 1 ∧ elemB Try.prog 5 = none ∧ zeroB Try.prog 5 = some [Value.int .u8 0] ∧ tkB Try.prog 9 = some .str ∧ szOf Try.prog 9 = 1 ∧ isAggB Try.prog 9 = false ∧ isArrB Try.prog 9 = false) ∧ (infoB Try.prog 9 = true ∧ undB Try.prog 9 = true ∧ Program.bytesOf Try.prog 9 = 16 ∧ elemB Try.prog 9 = none ∧ zeroB Try.prog 9 = some [Value.string ByteArray.empty] ∧ tkB Try.prog 22 = some (.int .u64) ∧ szOf Try.prog 22 = 1 ∧ isAggB Try.prog 22 = false ∧ isArrB Try.prog 22 = false ∧ infoB Try.prog 22 = true ∧ undB Try.prog 22 = true ∧ Program.bytesOf Try.prog 22 = 8 ∧ elemB Try.prog 22 = none ∧ zeroB Try.prog 22 = some [Value.int .u64 0] ∧ tkB Try.prog 23 = some (.sl 22) ∧ szOf Try.prog 23 = 1 ∧ isAggB Try.prog 23 = false ∧ isArrB Try.prog 23 = false ∧ infoB Try.prog 23 = true ∧ undB Try.prog 23 = true ∧ Program.bytesOf Try.prog 23 = 24 ∧ elemB Try.prog 23 = some 22 ∧ zeroB Try.prog 23 = some [Value.slice none 0 0] ∧ tkB Try.prog 24 = some .other ∧ szOf Try.prog 24 = 3 ∧ isAggB Try.prog 24 = true ∧ isArrB Try.prog 24 = false ∧ infoB Try.prog 24 = true ∧ undB Try.prog 24 = true ∧ Program.bytesOf Try.prog 24 = 40 ∧ elemB Try.prog 24 = none ∧ zeroB Try.prog 24 = some [Value.int .i64 0, Value.int .i64 0, Value.slice none 0 0] ∧ fieldB Try.prog 24 0 = some (3, 0) ∧ fieldB Try.prog 24 1 = some (3, 1) ∧ fieldB Try.prog 24 2 = some (23, 2) ∧ placesOf Try.prog 24 = some (.st [(0, 1), (1, 1), (2, 1)]) ∧ tkB Try.prog 25 = some .other ∧ szOf Try.prog 25 = 3 ∧ isAggB Try.prog 25 = true ∧ isArrB Try.prog 25 = false) ∧ (infoB Try.prog 25 = true ∧ undB Try.prog 25 = true ∧ Program.bytesOf Try.prog 25 = 40 ∧ elemB Try.prog 25 = none ∧ zeroB Try.prog 25 = some [Value.int .i64 0, Value.int .i64 0, Value.slice none 0 0] ∧ fieldB Try.prog 25 0 = some (3, 0) ∧ fieldB Try.prog 25 1 = some (3, 1) ∧ fieldB Try.prog 25 2 = some (23, 2) ∧ placesOf Try.prog 25 = some (.st [(0, 1), (1, 1), (2, 1)]) ∧ tkB Try.prog 26 = some (.sl 3) ∧ szOf Try.prog 26 = 1 ∧ isAggB Try.prog 26 = false ∧ isArrB Try.prog 26 = false ∧ infoB Try.prog 26 = true ∧ undB Try.prog 26 = true ∧ Program.bytesOf Try.prog 26 = 24 ∧ elemB Try.prog 26 = some 3 ∧ zeroB Try.prog 26 = some [Value.slice none 0 0] ∧ tkB Try.prog 27 = some .other ∧ szOf Try.prog 27 = 5 ∧ isAggB Try.prog 27 = true ∧ isArrB Try.prog 27 = false ∧ infoB Try.prog 27 = true ∧ undB Try.prog 27 = true ∧ Program.bytesOf Try.prog 27 = 88 ∧ elemB Try.prog 27 = none ∧ zeroB Try.prog 27 = some [Value.int .i64 0, Value.int .i64 0, Value.slice none 0 0, Value.slice none 0 0, Value.slice none 0 0] ∧ fieldB Try.prog 27 0 = some (3, 0) ∧ fieldB Try.prog 27 1 = some (3, 1) ∧ fieldB Try.prog 27 2 = some (26, 2) ∧ fieldB Try.prog 27 3 = some (26, 3) ∧ fieldB Try.prog 27 4 = some (23, 4) ∧ placesOf Try.prog 27 = some (.st [(0, 1), (1, 1), (2, 1), (3, 1), (4, 1)]) ∧ tkB Try.prog 28 = some .other ∧ szOf Try.prog 28 = 5 ∧ isAggB Try.prog 28 = true ∧ isArrB Try.prog 28 = false ∧ infoB Try.prog 28 = true ∧ undB Try.prog 28 = true ∧ Program.bytesOf Try.prog 28 = 88) ∧ (elemB Try.prog 28 = none ∧ zeroB Try.prog 28 = some [Value.int .i64 0, Value.int .i64 0, Value.slice none 0 0, Value.slice none 0 0, Value.slice none 0 0] ∧ fieldB Try.prog 28 0 = some (3, 0) ∧ fieldB Try.prog 28 1 = some (3, 1) ∧ fieldB Try.prog 28 2 = some (26, 2) ∧ fieldB Try.prog 28 3 = some (26, 3) ∧ fieldB Try.prog 28 4 = some (23, 4) ∧ placesOf Try.prog 28 = some (.st [(0, 1), (1, 1), (2, 1), (3, 1), (4, 1)]) ∧ tkB Try.prog 30 = some (.int .i64) ∧ szOf Try.prog 30 = 1 ∧ isAggB Try.prog 30 = false ∧ isArrB Try.prog 30 = false ∧ infoB Try.prog 30 = true ∧ undB Try.prog 30 = true ∧ Program.bytesOf Try.prog 30 = 8 ∧ elemB Try.prog 30 = none ∧ zeroB Try.prog 30 = some [Value.int .i64 0] ∧ tkB Try.prog 64 = some .other ∧ szOf Try.prog 64 = 1 ∧ isAggB Try.prog 64 = false ∧ isArrB Try.prog 64 = false ∧ infoB Try.prog 64 = true ∧ undB Try.prog 64 = true ∧ Program.bytesOf Try.prog 64 = 8 ∧ elemB Try.prog 64 = none ∧ tkB Try.prog 65 = some .other ∧ szOf Try.prog 65 = 1 ∧ isAggB Try.prog 65 = false ∧ isArrB Try.prog 65 = false ∧ infoB Try.prog 65 = true ∧ undB Try.prog 65 = true ∧ Program.bytesOf Try.prog 65 = 8 ∧ elemB Try.prog 65 = none ∧ tkB Try.prog 67 = some .other ∧ szOf Try.prog 67 = 1 ∧ isAggB Try.prog 67 = false ∧ isArrB Try.prog 67 = false ∧ infoB Try.prog 67 = true ∧ undB Try.prog 67 = true ∧ Program.bytesOf Try.prog 67 = 8) ∧ (elemB Try.prog 67 = none ∧ tkB Try.prog 84 = some .other ∧ szOf Try.prog 84 = 1 ∧ isAggB Try.prog 84 = false ∧ isArrB Try.prog 84 = false ∧ infoB Try.prog 84 = true ∧ undB Try.prog 84 = true ∧ Program.bytesOf Try.prog 84 = 8 ∧ elemB Try.prog 84 = none ∧ tkB Try.prog 96 = some (.sl 23) ∧ szOf Try.prog 96 = 1 ∧ isAggB Try.prog 96 = false ∧ isArrB Try.prog 96 = false ∧ infoB Try.prog 96 = true ∧ undB Try.prog 96 = true ∧ Program.bytesOf Try.prog 96 = 24 ∧ elemB Try.prog 96 = some 23 ∧ zeroB Try.prog 96 = some [Value.slice none 0 0] ∧ tkB Try.prog 97 = some .other ∧ szOf Try.prog 97 = 4 ∧ isAggB Try.prog 97 = true ∧ isArrB Try.prog 97 = false ∧ infoB Try.prog 97 = true ∧ undB Try.prog 97 = true ∧ Program.bytesOf Try.prog 97 = 96 ∧ elemB Try.prog 97 = none ∧ zeroB Try.prog 97 = some [Value.slice none 0 0, Value.slice none 0 0, Value.slice none 0 0, Value.slice none 0 0] ∧ fieldB Try.prog 97 0 = some (26, 0) ∧ fieldB Try.prog 97 1 = some (26, 1) ∧ fieldB Try.prog 97 2 = some (96, 2) ∧ fieldB Try.prog 97 3 = some (96, 3) ∧ placesOf Try.prog 97 = some (.st [(0, 1), (1, 1), (2, 1), (3, 1)]) ∧ tkB Try.prog 98 = some .other ∧ szOf Try.prog 98 = 4 ∧ isAggB Try.prog 98 = true ∧ isArrB Try.prog 98 = false ∧ infoB Try.prog 98 = true ∧ undB Try.prog 98 = true ∧ Program.bytesOf Try.prog 98 = 96 ∧ elemB Try.prog 98 = none) ∧ (zeroB Try.prog 98 = some [Value.slice none 0 0, Value.slice none 0 0, Value.slice none 0 0, Value.slice none 0 0] ∧ fieldB Try.prog 98 0 = some (26, 0) ∧ fieldB Try.prog 98 1 = some (26, 1) ∧ fieldB Try.prog 98 2 = some (96, 2) ∧ fieldB Try.prog 98 3 = some (96, 3) ∧ placesOf Try.prog 98 = some (.st [(0, 1), (1, 1), (2, 1), (3, 1)]) ∧ tkB Try.prog 102 = some .other ∧ szOf Try.prog 102 = 9 ∧ isAggB Try.prog 102 = true ∧ isArrB Try.prog 102 = false ∧ infoB Try.prog 102 = true ∧ undB Try.prog 102 = true ∧ Program.bytesOf Try.prog 102 = 168 ∧ elemB Try.prog 102 = none ∧ zeroB Try.prog 102 = some [Value.slice none 0 0, Value.slice none 0 0, Value.slice none 0 0, Value.slice none 0 0, Value.int .u64 0, Value.int .i64 0, Value.int .i64 0, Value.slice none 0 0, Value.slice none 0 0] ∧ fieldB Try.prog 102 0 = some (98, 0) ∧ fieldB Try.prog 102 1 = some (22, 4) ∧ fieldB Try.prog 102 2 = some (25, 5) ∧ fieldB Try.prog 102 3 = some (23, 8) ∧ placesOf Try.prog 102 = some (.st [(0, 4), (4, 1), (5, 3), (8, 1)]) ∧ tkB Try.prog 103 = some .other ∧ szOf Try.prog 103 = 9 ∧ isAggB Try.prog 103 = true ∧ isArrB Try.prog 103 = false ∧ infoB Try.prog 103 = true ∧ undB Try.prog 103 = true ∧ Program.bytesOf Try.prog 103 = 168 ∧ elemB Try.prog 103 = none ∧ zeroB Try.prog 103 = some [Value.slice none 0 0, Value.slice none 0 0, Value.slice none 0 0, Value.slice none 0 0, Value.int .u64 0, Value.int .i64 0, Value.int .i64 0, Value.slice none 0 0, Value.slice none 0 0] ∧ fieldB Try.prog 103 0 = some (98, 0) ∧ fieldB Try.prog 103 1 = some (22, 4) ∧ fieldB Try.prog 103 2 = some (25, 5) ∧ fieldB Try.prog 103 3 = some (23, 8) ∧ placesOf Try.prog 103 = some (.st [(0, 4), (4, 1), (5, 3), (8, 1)]) ∧ tkB Try.prog 115 = some (.int .u64) ∧ szOf Try.prog 115 = 1 ∧ isAggB Try.prog 115 = false ∧ isArrB Try.prog 115 = false ∧ infoB Try.prog 115 = true ∧ undB Try.prog 115 = true) ∧ (Program.bytesOf Try.prog 115 = 8 ∧ elemB Try.prog 115 = none ∧ zeroB Try.prog 115 = some [Value.int .u64 0] ∧ tkB Try.prog 116 = some .other ∧ szOf Try.prog 116 = 1 ∧ isAggB Try.prog 116 = false ∧ isArrB Try.prog 116 = false ∧ infoB Try.prog 116 = true ∧ undB Try.prog 116 = true ∧ Program.bytesOf Try.prog 116 = 8 ∧ elemB Try.prog 116 = none ∧ tkB Try.prog 117 = some .other ∧ szOf Try.prog 117 = 6 ∧ isAggB Try.prog 117 = true ∧ isArrB Try.prog 117 = false ∧ infoB Try.prog 117 = true ∧ undB Try.prog 117 = true ∧ Program.bytesOf Try.prog 117 = 128 ∧ elemB Try.prog 117 = none ∧ zeroB Try.prog 117 = some [Value.slice none 0 0, Value.slice none 0 0, Value.slice none 0 0, Value.slice none 0 0, Value.int .u64 0, Value.slice none 0 0] ∧ fieldB Try.prog 117 0 = some (98, 0) ∧ fieldB Try.prog 117 1 = some (22, 4) ∧ fieldB Try.prog 117 2 = some (23, 5) ∧ placesOf Try.prog 117 = some (.st [(0, 4), (4, 1), (5, 1)]) ∧ tkB Try.prog 118 = some .other ∧ szOf Try.prog 118 = 6 ∧ isAggB Try.prog 118 = true ∧ isArrB Try.prog 118 = false ∧ infoB Try.prog 118 = true ∧ undB Try.prog 118 = true ∧ Program.bytesOf Try.prog 118 = 128 ∧ elemB Try.prog 118 = none ∧ zeroB Try.prog 118 = some [Value.slice none 0 0, Value.slice none 0 0, Value.slice none 0 0, Value.slice none 0 0, Value.int .u64 0, Value.slice none 0 0] ∧ fieldB Try.prog 118 0 = some (98, 0) ∧ fieldB Try.prog 118 1 = some (22, 4) ∧ fieldB Try.prog 118 2 = some (23, 5) ∧ placesOf Try.prog 118 = some (.st [(0, 4), (4, 1), (5, 1)]) ∧ tkB Try.prog 124 = some (.sl 26) ∧ szOf Try.prog 124 = 1 ∧ isAggB Try.prog 124 = false) ∧ (isArrB Try.prog 124 = false ∧ infoB Try.prog 124 = true ∧ undB Try.prog 124 = true ∧ Program.bytesOf Try.prog 124 = 24 ∧ elemB Try.prog 124 = some 26 ∧ zeroB Try.prog 124 = some [Value.slice none 0 0] ∧ tkB Try.prog 125 = some (.sl 3) ∧ szOf Try.prog 125 = 1 ∧ isAggB Try.prog 125 = false ∧ isArrB Try.prog 125 = false ∧ infoB Try.prog 125 = true ∧ undB Try.prog 125 = true ∧ Program.bytesOf Try.prog 125 = 24 ∧ elemB Try.prog 125 = some 3 ∧ zeroB Try.prog 125 = some [Value.slice none 0 0] ∧ tkB Try.prog 134 = some .other ∧ szOf Try.prog 134 = 1 ∧ isAggB Try.prog 134 = false ∧ isArrB Try.prog 134 = false ∧ infoB Try.prog 134 = true ∧ undB Try.prog 134 = true ∧ Program.bytesOf Try.prog 134 = 8 ∧ elemB Try.prog 134 = none ∧ tkB Try.prog 135 = some .other ∧ szOf Try.prog 135 = 1 ∧ isAggB Try.prog 135 = false ∧ isArrB Try.prog 135 = false ∧ infoB Try.prog 135 = true ∧ undB Try.prog 135 = true ∧ Program.bytesOf Try.prog 135 = 16 ∧ elemB Try.prog 135 = none ∧ tkB Try.prog 136 = some .other ∧ szOf Try.prog 136 = 1 ∧ isAggB Try.prog 136 = false ∧ isArrB Try.prog 136 = false ∧ infoB Try.prog 136 = true ∧ undB Try.prog 136 = true ∧ Program.bytesOf Try.prog 136 = 16 ∧ elemB Try.prog 136 = none ∧ tkB Try.prog 138 = some (.arr 64 4)) ∧ (szOf Try.prog 138 = 64 ∧ isAggB Try.prog 138 = true ∧ isArrB Try.prog 138 = true ∧ infoB Try.prog 138 = true ∧ undB Try.prog 138 = true ∧ Program.bytesOf Try.prog 138 = 64 ∧ elemB Try.prog 138 = none ∧ zeroB Try.prog 138 = some [Value.bool false, Value.bool false, Value.bool false, Value.bool false, Value.bool false, Value.bool false, Value.bool false, Value.bool false, Value.bool false, Value.bool false, Value.bool false, Value.bool false, Value.bool false, Value.bool false, Value.bool false, Value.bool false, Value.bool false, Value.bool false, Value.bool false, Value.bool false, Value.bool false, Value.bool false, Value.bool false, Value.bool false, Value.bool false, Value.bool false, Value.bool false, Value.bool false, Value.bool false, Value.bool false, Value.bool false, Value.bool false, Value.bool false, Value.bool false, Value.bool false, Value.bool false, Value.bool false, Value.bool false, Value.bool false, Value.bool false, Value.bool false, Value.bool false, Value.bool false, Value.bool false, Value.bool false, Value.bool false, Value.bool false, Value.bool false, Value.bool false, Value.bool false, Value.bool false, Value.bool false, Value.bool false, Value.bool false, Value.bool false, Value.bool false, Value.bool false, Value.bool false, Value.bool false, Value.bool false, Value.bool false, Value.bool false, Value.bool false, Value.bool false] ∧ enterB Try.prog 2 = true ∧ enterB Try.prog 3 = true ∧ enterB Try.prog 4 = true ∧ enterB Try.prog 5 = true ∧ enterB Try.prog 6 = true ∧ enterB Try.prog 7 = true ∧ enterB Try.prog 8 = true ∧ enterB Try.prog 9 = true ∧ enterB Try.prog 10 = true ∧ enterB Try.prog 11 = true ∧ enterB Try.prog 12 = true ∧ enterB Try.prog 13 = true ∧ enterB Try.prog 14 = true ∧ enterB Try.prog 15 = true ∧ enterB Try.prog 16 = true ∧ enterB Try.prog 17 = true ∧ enterB Try.prog 18 = true ∧ enterB Try.prog 19 = true ∧ enterB Try.prog 20 = true ∧ enterB Try.prog 21 = true ∧ enterB Try.prog 22 = true ∧ enterB Try.prog 23 = true ∧ enterB Try.prog 24 = true ∧ enterB Try.prog 25 = true ∧ enterB Try.prog 26 = true ∧ enterB Try.prog 27 = true ∧ enterB Try.prog 28 = true ∧ enterB Try.prog 29 = true ∧ enterB Try.prog 30 = true ∧ enterB Try.prog 31 = true ∧ enterB Try.prog 32 = true ∧ enterB Try.prog 33 = true) ∧ (enterB Try.prog 34 = true ∧ enterB Try.prog 35 = true ∧ enterB Try.prog 36 = true ∧ enterB Try.prog 37 = true ∧ enterB Try.prog 38 = true ∧ enterB Try.prog 39 = true ∧ enterB Try.prog 40 = true ∧ enterB Try.prog 41 = true ∧ enterB Try.prog 42 = true ∧ enterB Try.prog 43 = true ∧ enterB Try.prog 44 = true ∧ enterB Try.prog 45 = true ∧ enterB Try.prog 46 = true ∧ enterB Try.prog 47 = true ∧ enterB Try.prog 48 = true ∧ enterB Try.prog 49 = true ∧ enterB Try.prog 50 = true ∧ enterB Try.prog 51 = true ∧ enterB Try.prog 52 = true ∧ enterB Try.prog 53 = true ∧ enterB Try.prog 54 = true ∧ enterB Try.prog 55 = true ∧ enterB Try.prog 56 = true ∧ enterB Try.prog 57 = true ∧ enterB Try.prog 58 = true ∧ enterB Try.prog 59 = true ∧ enterB Try.prog 60 = true ∧ enterB Try.prog 61 = true ∧ enterB Try.prog 62 = true ∧ enterB Try.prog 63 = true ∧ enterB Try.prog 64 = true ∧ enterB Try.prog 65 = true ∧ enterB Try.prog 66 = true ∧ enterB Try.prog 67 = true ∧ enterB Try.prog 68 = true ∧ enterB Try.prog 69 = true ∧ enterB Try.prog 70 = true ∧ enterB Try.prog 71 = true ∧ enterB Try.prog 72 = true ∧ enterB Try.prog 73 = true) ∧ (enterB Try.prog 74 = true ∧ enterB Try.prog 75 = true ∧ enterB Try.prog 76 = true ∧ enterB Try.prog 77 = true ∧ enterB Try.prog 78 = true ∧ enterB Try.prog 79 = true ∧ enterB Try.prog 80 = true ∧ enterB Try.prog 81 = true ∧ enterB Try.prog 82 = true ∧ enterB Try.prog 83 = true ∧ enterB Try.prog 84 = true ∧ enterB Try.prog 85 = true ∧ enterB Try.prog 86 = true ∧ enterB Try.prog 87 = true ∧ enterB Try.prog 88 = true ∧ enterB Try.prog 89 = true ∧ enterB Try.prog 90 = true ∧ enterB Try.prog 91 = true ∧ enterB Try.prog 92 = true ∧ enterB Try.prog 93 = true ∧ enterB Try.prog 94 = true ∧ enterB Try.prog 95 = true ∧ enterB Try.prog 96 = true ∧ enterB Try.prog 97 = true ∧ enterB Try.prog 98 = true ∧ enterB Try.prog 99 = true ∧ enterB Try.prog 100 = true ∧ enterB Try.prog 101 = true ∧ enterB Try.prog 102 = true ∧ enterB Try.prog 103 = true ∧ enterB Try.prog 104 = true ∧ enterB Try.prog 105 = true ∧ enterB Try.prog 106 = true ∧ enterB Try.prog 107 = true ∧ enterB Try.prog 108 = true ∧ enterB Try.prog 109 = true ∧ enterB Try.prog 110 = true ∧ enterB Try.prog 111 = true ∧ enterB Try.prog 112 = true ∧ enterB Try.prog 113 = true) ∧ (enterB Try.prog 114 = true ∧ enterB Try.prog 115 = true ∧ enterB Try.prog 116 = true ∧ enterB Try.prog 117 = true ∧ enterB Try.prog 118 = true ∧ enterB Try.prog 119 = true ∧ enterB Try.prog 120 = true ∧ enterB Try.prog 121 = true ∧ enterB Try.prog 122 = true ∧ enterB Try.prog 123 = true ∧ enterB Try.prog 124 = true ∧ enterB Try.prog 125 = true ∧ enterB Try.prog 126 = true ∧ enterB Try.prog 127 = true) := ⟨tyb0, tyb1, tyb2, tyb3, tyb4, tyb5, tyb6, tyb7, tyb8, tyb9, tyb10, tyb11⟩
theorem mixed : Try.prog.follows .mixedOrders = true := by kernel_rfl
theorem extractR (vs : List PV) (k : Nat) : vs[k]? = vs[k]? := rfl
end Go.Proofs.Ytnnkoghmglpnmaa.TM
