/- The seat's table: what TM asks of the program's types and functions. Conditions: none; closed facts. -/
import Derived.Test.YtdfhkdddlfmceaaTm3
import Derived.Test.YtdfhkdddlfmceaaProg
namespace Go.Proofs.Ytdfhkdddlfmceaa.TM
open Go
theorem ty0 : tkB Try.prog 2 = some (.int .i64) := by kernel_rfl
theorem ty1 : szOf Try.prog 2 = 1 := by kernel_rfl
theorem ty2 : isAggB Try.prog 2 = false := by kernel_rfl
theorem ty3 : isArrB Try.prog 2 = false := by kernel_rfl
theorem ty4 : infoB Try.prog 2 = true := by kernel_rfl
theorem ty5 : undB Try.prog 2 = true := by kernel_rfl
theorem ty6 : Program.bytesOf Try.prog 2 = 8 := by kernel_rfl
theorem ty7 : elemB Try.prog 2 = none := by kernel_rfl
theorem ty8 : zeroB Try.prog 2 = some [Value.int .i64 0] := by kernel_rfl
theorem ty9 : tkB Try.prog 3 = some (.int .i64) := by kernel_rfl
theorem ty10 : szOf Try.prog 3 = 1 := by kernel_rfl
theorem ty11 : isAggB Try.prog 3 = false := by kernel_rfl
theorem ty12 : isArrB Try.prog 3 = false := by kernel_rfl
theorem ty13 : infoB Try.prog 3 = true := by kernel_rfl
theorem ty14 : undB Try.prog 3 = true := by kernel_rfl
theorem ty15 : Program.bytesOf Try.prog 3 = 8 := by kernel_rfl
theorem ty16 : elemB Try.prog 3 = none := by kernel_rfl
theorem ty17 : zeroB Try.prog 3 = some [Value.int .i64 0] := by kernel_rfl
theorem ty18 : tkB Try.prog 4 = some .bool := by kernel_rfl
theorem ty19 : szOf Try.prog 4 = 1 := by kernel_rfl
theorem ty20 : isAggB Try.prog 4 = false := by kernel_rfl
theorem ty21 : isArrB Try.prog 4 = false := by kernel_rfl
theorem ty22 : infoB Try.prog 4 = true := by kernel_rfl
theorem ty23 : undB Try.prog 4 = true := by kernel_rfl
theorem ty24 : Program.bytesOf Try.prog 4 = 1 := by kernel_rfl
theorem ty25 : elemB Try.prog 4 = none := by kernel_rfl
theorem ty26 : zeroB Try.prog 4 = some [Value.bool false] := by kernel_rfl
theorem ty27 : tkB Try.prog 5 = some (.int .u8) := by kernel_rfl
theorem ty28 : szOf Try.prog 5 = 1 := by kernel_rfl
theorem ty29 : isAggB Try.prog 5 = false := by kernel_rfl
theorem ty30 : isArrB Try.prog 5 = false := by kernel_rfl
theorem ty31 : infoB Try.prog 5 = true := by kernel_rfl
theorem ty32 : undB Try.prog 5 = true := by kernel_rfl
theorem ty33 : Program.bytesOf Try.prog 5 = 1 := by kernel_rfl
theorem ty34 : elemB Try.prog 5 = none := by kernel_rfl
theorem ty35 : zeroB Try.prog 5 = some [Value.int .u8 0] := by kernel_rfl
theorem ty36 : tkB Try.prog 9 = some .str := by kernel_rfl
theorem ty37 : szOf Try.prog 9 = 1 := by kernel_rfl
theorem ty38 : isAggB Try.prog 9 = false := by kernel_rfl
theorem ty39 : isArrB Try.prog 9 = false := by kernel_rfl
theorem ty40 : infoB Try.prog 9 = true := by kernel_rfl
theorem ty41 : undB Try.prog 9 = true := by kernel_rfl
theorem ty42 : Program.bytesOf Try.prog 9 = 16 := by kernel_rfl
theorem ty43 : elemB Try.prog 9 = none := by kernel_rfl
theorem ty44 : zeroB Try.prog 9 = some [Value.string ByteArray.empty] := by kernel_rfl
theorem ty45 : tkB Try.prog 22 = some (.int .u64) := by kernel_rfl
theorem ty46 : szOf Try.prog 22 = 1 := by kernel_rfl
theorem ty47 : isAggB Try.prog 22 = false := by kernel_rfl
theorem ty48 : isArrB Try.prog 22 = false := by kernel_rfl
theorem ty49 : infoB Try.prog 22 = true := by kernel_rfl
theorem ty50 : undB Try.prog 22 = true := by kernel_rfl
theorem ty51 : Program.bytesOf Try.prog 22 = 8 := by kernel_rfl
theorem ty52 : elemB Try.prog 22 = none := by kernel_rfl
theorem ty53 : zeroB Try.prog 22 = some [Value.int .u64 0] := by kernel_rfl
theorem ty54 : tkB Try.prog 23 = some (.sl 22) := by kernel_rfl
theorem ty55 : szOf Try.prog 23 = 1 := by kernel_rfl
theorem ty56 : isAggB Try.prog 23 = false := by kernel_rfl
theorem ty57 : isArrB Try.prog 23 = false := by kernel_rfl
theorem ty58 : infoB Try.prog 23 = true := by kernel_rfl
theorem ty59 : undB Try.prog 23 = true := by kernel_rfl
theorem ty60 : Program.bytesOf Try.prog 23 = 24 := by kernel_rfl
theorem ty61 : elemB Try.prog 23 = some 22 := by kernel_rfl
theorem ty62 : zeroB Try.prog 23 = some [Value.slice none 0 0] := by kernel_rfl
theorem ty63 : tkB Try.prog 24 = some .other := by kernel_rfl
theorem ty64 : szOf Try.prog 24 = 2 := by kernel_rfl
theorem ty65 : isAggB Try.prog 24 = true := by kernel_rfl
theorem ty66 : isArrB Try.prog 24 = false := by kernel_rfl
theorem ty67 : infoB Try.prog 24 = true := by kernel_rfl
theorem ty68 : undB Try.prog 24 = true := by kernel_rfl
theorem ty69 : Program.bytesOf Try.prog 24 = 32 := by kernel_rfl
theorem ty70 : elemB Try.prog 24 = none := by kernel_rfl
theorem ty71 : zeroB Try.prog 24 = some [Value.slice none 0 0, Value.int .i64 0] := by kernel_rfl
theorem ty72 : fieldB Try.prog 24 0 = some (23, 0) := by kernel_rfl
theorem ty73 : fieldB Try.prog 24 1 = some (3, 1) := by kernel_rfl
theorem ty74 : placesOf Try.prog 24 = some (.st [(0, 1), (1, 1)]) := by kernel_rfl
theorem ty75 : tkB Try.prog 25 = some .other := by kernel_rfl
theorem ty76 : szOf Try.prog 25 = 2 := by kernel_rfl
theorem ty77 : isAggB Try.prog 25 = true := by kernel_rfl
theorem ty78 : isArrB Try.prog 25 = false := by kernel_rfl
theorem ty79 : infoB Try.prog 25 = true := by kernel_rfl
theorem ty80 : undB Try.prog 25 = true := by kernel_rfl
theorem ty81 : Program.bytesOf Try.prog 25 = 32 := by kernel_rfl
theorem ty82 : elemB Try.prog 25 = none := by kernel_rfl
theorem ty83 : zeroB Try.prog 25 = some [Value.slice none 0 0, Value.int .i64 0] := by kernel_rfl
theorem ty84 : fieldB Try.prog 25 0 = some (23, 0) := by kernel_rfl
theorem ty85 : fieldB Try.prog 25 1 = some (3, 1) := by kernel_rfl
theorem ty86 : placesOf Try.prog 25 = some (.st [(0, 1), (1, 1)]) := by kernel_rfl
theorem ty87 : tkB Try.prog 28 = some (.int .i64) := by kernel_rfl
theorem ty88 : szOf Try.prog 28 = 1 := by kernel_rfl
theorem ty89 : isAggB Try.prog 28 = false := by kernel_rfl
theorem ty90 : isArrB Try.prog 28 = false := by kernel_rfl
theorem ty91 : infoB Try.prog 28 = true := by kernel_rfl
theorem ty92 : undB Try.prog 28 = true := by kernel_rfl
theorem ty93 : Program.bytesOf Try.prog 28 = 8 := by kernel_rfl
theorem ty94 : elemB Try.prog 28 = none := by kernel_rfl
theorem ty95 : zeroB Try.prog 28 = some [Value.int .i64 0] := by kernel_rfl
theorem ty96 : tkB Try.prog 35 = some .other := by kernel_rfl
theorem ty97 : szOf Try.prog 35 = 1 := by kernel_rfl
theorem ty98 : isAggB Try.prog 35 = false := by kernel_rfl
theorem ty99 : isArrB Try.prog 35 = false := by kernel_rfl
theorem ty100 : infoB Try.prog 35 = true := by kernel_rfl
theorem ty101 : undB Try.prog 35 = true := by kernel_rfl
theorem ty102 : Program.bytesOf Try.prog 35 = 8 := by kernel_rfl
theorem ty103 : elemB Try.prog 35 = none := by kernel_rfl
theorem ty104 : tkB Try.prog 42 = some (.arr 3000 4) := by kernel_rfl
theorem ty105 : szOf Try.prog 42 = 3000 := by kernel_rfl
theorem ty106 : isAggB Try.prog 42 = true := by kernel_rfl
theorem ty107 : isArrB Try.prog 42 = true := by kernel_rfl
theorem ty108 : infoB Try.prog 42 = true := by kernel_rfl
theorem ty109 : undB Try.prog 42 = true := by kernel_rfl
theorem ty110 : Program.bytesOf Try.prog 42 = 3000 := by kernel_rfl
theorem ty111 : elemB Try.prog 42 = none := by kernel_rfl
theorem ty112 : tkB Try.prog 46 = some (.int .u32) := by kernel_rfl
theorem ty113 : szOf Try.prog 46 = 1 := by kernel_rfl
theorem ty114 : isAggB Try.prog 46 = false := by kernel_rfl
theorem ty115 : isArrB Try.prog 46 = false := by kernel_rfl
theorem ty116 : infoB Try.prog 46 = true := by kernel_rfl
theorem ty117 : undB Try.prog 46 = true := by kernel_rfl
theorem ty118 : Program.bytesOf Try.prog 46 = 4 := by kernel_rfl
theorem ty119 : elemB Try.prog 46 = none := by kernel_rfl
theorem ty120 : zeroB Try.prog 46 = some [Value.int .u32 0] := by kernel_rfl
theorem ty121 : tkB Try.prog 61 = some .other := by kernel_rfl
theorem ty122 : szOf Try.prog 61 = 1 := by kernel_rfl
theorem ty123 : isAggB Try.prog 61 = false := by kernel_rfl
theorem ty124 : isArrB Try.prog 61 = false := by kernel_rfl
theorem ty125 : infoB Try.prog 61 = true := by kernel_rfl
theorem ty126 : undB Try.prog 61 = true := by kernel_rfl
theorem ty127 : Program.bytesOf Try.prog 61 = 8 := by kernel_rfl
theorem ty128 : elemB Try.prog 61 = none := by kernel_rfl
theorem ty129 : tkB Try.prog 68 = some (.int .u64) := by kernel_rfl
theorem ty130 : szOf Try.prog 68 = 1 := by kernel_rfl
theorem ty131 : isAggB Try.prog 68 = false := by kernel_rfl
theorem ty132 : isArrB Try.prog 68 = false := by kernel_rfl
theorem ty133 : infoB Try.prog 68 = true := by kernel_rfl
theorem ty134 : undB Try.prog 68 = true := by kernel_rfl
theorem ty135 : Program.bytesOf Try.prog 68 = 8 := by kernel_rfl
theorem ty136 : elemB Try.prog 68 = none := by kernel_rfl
theorem ty137 : zeroB Try.prog 68 = some [Value.int .u64 0] := by kernel_rfl
theorem ty138 : tkB Try.prog 75 = some .other := by kernel_rfl
theorem ty139 : szOf Try.prog 75 = 1 := by kernel_rfl
theorem ty140 : isAggB Try.prog 75 = false := by kernel_rfl
theorem ty141 : isArrB Try.prog 75 = false := by kernel_rfl
theorem ty142 : infoB Try.prog 75 = true := by kernel_rfl
theorem ty143 : undB Try.prog 75 = true := by kernel_rfl
theorem ty144 : Program.bytesOf Try.prog 75 = 16 := by kernel_rfl
theorem ty145 : elemB Try.prog 75 = none := by kernel_rfl
theorem ty146 : tkB Try.prog 76 = some .other := by kernel_rfl
theorem ty147 : szOf Try.prog 76 = 1 := by kernel_rfl
theorem ty148 : isAggB Try.prog 76 = false := by kernel_rfl
theorem ty149 : isArrB Try.prog 76 = false := by kernel_rfl
theorem ty150 : infoB Try.prog 76 = true := by kernel_rfl
theorem ty151 : undB Try.prog 76 = true := by kernel_rfl
theorem ty152 : Program.bytesOf Try.prog 76 = 16 := by kernel_rfl
theorem ty153 : elemB Try.prog 76 = none := by kernel_rfl
theorem ty154 : enterB Try.prog 2 = true := by kernel_rfl
theorem ty155 : enterB Try.prog 3 = true := by kernel_rfl
theorem ty156 : enterB Try.prog 4 = true := by kernel_rfl
theorem ty157 : enterB Try.prog 5 = true := by kernel_rfl
theorem ty158 : enterB Try.prog 6 = true := by kernel_rfl
theorem ty159 : enterB Try.prog 7 = true := by kernel_rfl
theorem ty160 : enterB Try.prog 8 = true := by kernel_rfl
theorem ty161 : enterB Try.prog 9 = true := by kernel_rfl
theorem ty162 : enterB Try.prog 10 = true := by kernel_rfl
theorem ty163 : enterB Try.prog 11 = true := by kernel_rfl
theorem ty164 : enterB Try.prog 12 = true := by kernel_rfl
theorem ty165 : enterB Try.prog 13 = true := by kernel_rfl
theorem ty166 : enterB Try.prog 14 = true := by kernel_rfl
theorem ty167 : enterB Try.prog 15 = true := by kernel_rfl
theorem ty168 : enterB Try.prog 16 = true := by kernel_rfl
theorem ty169 : enterB Try.prog 17 = true := by kernel_rfl
theorem ty170 : enterB Try.prog 18 = true := by kernel_rfl
theorem ty171 : enterB Try.prog 19 = true := by kernel_rfl
theorem ty172 : enterB Try.prog 20 = true := by kernel_rfl
theorem ty173 : enterB Try.prog 21 = true := by kernel_rfl
theorem ty174 : enterB Try.prog 22 = true := by kernel_rfl
theorem ty175 : enterB Try.prog 23 = true := by kernel_rfl
theorem ty176 : enterB Try.prog 24 = true := by kernel_rfl
theorem ty177 : enterB Try.prog 25 = true := by kernel_rfl
theorem ty178 : enterB Try.prog 26 = true := by kernel_rfl
theorem ty179 : enterB Try.prog 27 = true := by kernel_rfl
theorem ty180 : enterB Try.prog 28 = true := by kernel_rfl
theorem ty181 : enterB Try.prog 29 = true := by kernel_rfl
theorem ty182 : enterB Try.prog 30 = true := by kernel_rfl
theorem ty183 : enterB Try.prog 31 = true := by kernel_rfl
theorem ty184 : enterB Try.prog 32 = true := by kernel_rfl
theorem ty185 : enterB Try.prog 33 = true := by kernel_rfl
theorem ty186 : enterB Try.prog 34 = true := by kernel_rfl
theorem ty187 : enterB Try.prog 35 = true := by kernel_rfl
theorem ty188 : enterB Try.prog 36 = true := by kernel_rfl
theorem ty189 : enterB Try.prog 37 = true := by kernel_rfl
theorem ty190 : enterB Try.prog 38 = true := by kernel_rfl
theorem ty191 : enterB Try.prog 39 = true := by kernel_rfl
theorem ty192 : enterB Try.prog 40 = true := by kernel_rfl
theorem ty193 : enterB Try.prog 41 = true := by kernel_rfl
theorem ty194 : enterB Try.prog 42 = true := by kernel_rfl
theorem ty195 : enterB Try.prog 43 = true := by kernel_rfl
theorem ty196 : enterB Try.prog 44 = true := by kernel_rfl
theorem ty197 : enterB Try.prog 45 = true := by kernel_rfl
theorem ty198 : enterB Try.prog 46 = true := by kernel_rfl
theorem ty199 : enterB Try.prog 47 = true := by kernel_rfl
theorem ty200 : enterB Try.prog 48 = true := by kernel_rfl
theorem ty201 : enterB Try.prog 49 = true := by kernel_rfl
theorem ty202 : enterB Try.prog 50 = true := by kernel_rfl
theorem ty203 : enterB Try.prog 51 = true := by kernel_rfl
theorem ty204 : enterB Try.prog 52 = true := by kernel_rfl
theorem ty205 : enterB Try.prog 53 = true := by kernel_rfl
theorem ty206 : enterB Try.prog 54 = true := by kernel_rfl
theorem ty207 : enterB Try.prog 55 = true := by kernel_rfl
theorem ty208 : enterB Try.prog 56 = true := by kernel_rfl
theorem ty209 : enterB Try.prog 57 = true := by kernel_rfl
theorem ty210 : enterB Try.prog 58 = true := by kernel_rfl
theorem ty211 : enterB Try.prog 59 = true := by kernel_rfl
theorem ty212 : enterB Try.prog 60 = true := by kernel_rfl
theorem ty213 : enterB Try.prog 61 = true := by kernel_rfl
theorem tyb0 : tkB Try.prog 2 = some (.int .i64) ∧ szOf Try.prog 2 = 1 ∧ isAggB Try.prog 2 = false ∧ isArrB Try.prog 2 = false ∧ infoB Try.prog 2 = true ∧ undB Try.prog 2 = true ∧ Program.bytesOf Try.prog 2 = 8 ∧ elemB Try.prog 2 = none ∧ zeroB Try.prog 2 = some [Value.int .i64 0] ∧ tkB Try.prog 3 = some (.int .i64) ∧ szOf Try.prog 3 = 1 ∧ isAggB Try.prog 3 = false ∧ isArrB Try.prog 3 = false ∧ infoB Try.prog 3 = true ∧ undB Try.prog 3 = true ∧ Program.bytesOf Try.prog 3 = 8 ∧ elemB Try.prog 3 = none ∧ zeroB Try.prog 3 = some [Value.int .i64 0] ∧ tkB Try.prog 4 = some .bool ∧ szOf Try.prog 4 = 1 ∧ isAggB Try.prog 4 = false ∧ isArrB Try.prog 4 = false ∧ infoB Try.prog 4 = true ∧ undB Try.prog 4 = true ∧ Program.bytesOf Try.prog 4 = 1 ∧ elemB Try.prog 4 = none ∧ zeroB Try.prog 4 = some [Value.bool false] ∧ tkB Try.prog 5 = some (.int .u8) ∧ szOf Try.prog 5 = 1 ∧ isAggB Try.prog 5 = false ∧ isArrB Try.prog 5 = false ∧ infoB Try.prog 5 = true ∧ undB Try.prog 5 = true ∧ Program.bytesOf Try.prog 5 = 1 ∧ elemB Try.prog 5 = none ∧ zeroB Try.prog 5 = some [Value.int .u8 0] ∧ tkB Try.prog 9 = some .str ∧ szOf Try.prog 9 = 1 ∧ isAggB Try.prog 9 = false ∧ isArrB Try.prog 9 = false := ⟨ty0, ty1, ty2, ty3, ty4, ty5, ty6, ty7, ty8, ty9, ty10, ty11, ty12, ty13, ty14, ty15, ty16, ty17, ty18, ty19, ty20, ty21, ty22, ty23, ty24, ty25, ty26, ty27, ty28, ty29, ty30, ty31, ty32, ty33, ty34, ty35, ty36, ty37, ty38, ty39⟩
theorem tyb1 : infoB Try.prog 9 = true ∧ undB Try.prog 9 = true ∧ Program.bytesOf Try.prog 9 = 16 ∧ elemB Try.prog 9 = none ∧ zeroB Try.prog 9 = some [Value.string ByteArray.empty] ∧ tkB Try.prog 22 = some (.int .u64) ∧ szOf Try.prog 22 = 1 ∧ isAggB Try.prog 22 = false ∧ isArrB Try.prog 22 = false ∧ infoB Try.prog 22 = true ∧ undB Try.prog 22 = true ∧ Program.bytesOf Try.prog 22 = 8 ∧ elemB Try.prog 22 = none ∧ zeroB Try.prog 22 = some [Value.int .u64 0] ∧ tkB Try.prog 23 = some (.sl 22) ∧ szOf Try.prog 23 = 1 ∧ isAggB Try.prog 23 = false ∧ isArrB Try.prog 23 = false ∧ infoB Try.prog 23 = true ∧ undB Try.prog 23 = true ∧ Program.bytesOf Try.prog 23 = 24 ∧ elemB Try.prog 23 = some 22 ∧ zeroB Try.prog 23 = some [Value.slice none 0 0] ∧ tkB Try.prog 24 = some .other ∧ szOf Try.prog 24 = 2 ∧ isAggB Try.prog 24 = true ∧ isArrB Try.prog 24 = false ∧ infoB Try.prog 24 = true ∧ undB Try.prog 24 = true ∧ Program.bytesOf Try.prog 24 = 32 ∧ elemB Try.prog 24 = none ∧ zeroB Try.prog 24 = some [Value.slice none 0 0, Value.int .i64 0] ∧ fieldB Try.prog 24 0 = some (23, 0) ∧ fieldB Try.prog 24 1 = some (3, 1) ∧ placesOf Try.prog 24 = some (.st [(0, 1), (1, 1)]) ∧ tkB Try.prog 25 = some .other ∧ szOf Try.prog 25 = 2 ∧ isAggB Try.prog 25 = true ∧ isArrB Try.prog 25 = false ∧ infoB Try.prog 25 = true := ⟨ty40, ty41, ty42, ty43, ty44, ty45, ty46, ty47, ty48, ty49, ty50, ty51, ty52, ty53, ty54, ty55, ty56, ty57, ty58, ty59, ty60, ty61, ty62, ty63, ty64, ty65, ty66, ty67, ty68, ty69, ty70, ty71, ty72, ty73, ty74, ty75, ty76, ty77, ty78, ty79⟩
theorem tyb2 : undB Try.prog 25 = true ∧ Program.bytesOf Try.prog 25 = 32 ∧ elemB Try.prog 25 = none ∧ zeroB Try.prog 25 = some [Value.slice none 0 0, Value.int .i64 0] ∧ fieldB Try.prog 25 0 = some (23, 0) ∧ fieldB Try.prog 25 1 = some (3, 1) ∧ placesOf Try.prog 25 = some (.st [(0, 1), (1, 1)]) ∧ tkB Try.prog 28 = some (.int .i64) ∧ szOf Try.prog 28 = 1 ∧ isAggB Try.prog 28 = false ∧ isArrB Try.prog 28 = false ∧ infoB Try.prog 28 = true ∧ undB Try.prog 28 = true ∧ Program.bytesOf Try.prog 28 = 8 ∧ elemB Try.prog 28 = none ∧ zeroB Try.prog 28 = some [Value.int .i64 0] ∧ tkB Try.prog 35 = some .other ∧ szOf Try.prog 35 = 1 ∧ isAggB Try.prog 35 = false ∧ isArrB Try.prog 35 = false ∧ infoB Try.prog 35 = true ∧ undB Try.prog 35 = true ∧ Program.bytesOf Try.prog 35 = 8 ∧ elemB Try.prog 35 = none ∧ tkB Try.prog 42 = some (.arr 3000 4) ∧ szOf Try.prog 42 = 3000 ∧ isAggB Try.prog 42 = true ∧ isArrB Try.prog 42 = true ∧ infoB Try.prog 42 = true ∧ undB Try.prog 42 = true ∧ Program.bytesOf Try.prog 42 = 3000 ∧ elemB Try.prog 42 = none ∧ tkB Try.prog 46 = some (.int .u32) ∧ szOf Try.prog 46 = 1 ∧ isAggB Try.prog 46 = false ∧ isArrB Try.prog 46 = false ∧ infoB Try.prog 46 = true ∧ undB Try.prog 46 = true ∧ Program.bytesOf Try.prog 46 = 4 ∧ elemB Try.prog 46 = none := ⟨ty80, ty81, ty82, ty83, ty84, ty85, ty86, ty87, ty88, ty89, ty90, ty91, ty92, ty93, ty94, ty95, ty96, ty97, ty98, ty99, ty100, ty101, ty102, ty103, ty104, ty105, ty106, ty107, ty108, ty109, ty110, ty111, ty112, ty113, ty114, ty115, ty116, ty117, ty118, ty119⟩
theorem tyb3 : zeroB Try.prog 46 = some [Value.int .u32 0] ∧ tkB Try.prog 61 = some .other ∧ szOf Try.prog 61 = 1 ∧ isAggB Try.prog 61 = false ∧ isArrB Try.prog 61 = false ∧ infoB Try.prog 61 = true ∧ undB Try.prog 61 = true ∧ Program.bytesOf Try.prog 61 = 8 ∧ elemB Try.prog 61 = none ∧ tkB Try.prog 68 = some (.int .u64) ∧ szOf Try.prog 68 = 1 ∧ isAggB Try.prog 68 = false ∧ isArrB Try.prog 68 = false ∧ infoB Try.prog 68 = true ∧ undB Try.prog 68 = true ∧ Program.bytesOf Try.prog 68 = 8 ∧ elemB Try.prog 68 = none ∧ zeroB Try.prog 68 = some [Value.int .u64 0] ∧ tkB Try.prog 75 = some .other ∧ szOf Try.prog 75 = 1 ∧ isAggB Try.prog 75 = false ∧ isArrB Try.prog 75 = false ∧ infoB Try.prog 75 = true ∧ undB Try.prog 75 = true ∧ Program.bytesOf Try.prog 75 = 16 ∧ elemB Try.prog 75 = none ∧ tkB Try.prog 76 = some .other ∧ szOf Try.prog 76 = 1 ∧ isAggB Try.prog 76 = false ∧ isArrB Try.prog 76 = false ∧ infoB Try.prog 76 = true ∧ undB Try.prog 76 = true ∧ Program.bytesOf Try.prog 76 = 16 ∧ elemB Try.prog 76 = none ∧ enterB Try.prog 2 = true ∧ enterB Try.prog 3 = true ∧ enterB Try.prog 4 = true ∧ enterB Try.prog 5 = true ∧ enterB Try.prog 6 = true ∧ enterB Try.prog 7 = true := ⟨ty120, ty121, ty122, ty123, ty124, ty125, ty126, ty127, ty128, ty129, ty130, ty131, ty132, ty133, ty134, ty135, ty136, ty137, ty138, ty139, ty140, ty141, ty142, ty143, ty144, ty145, ty146, ty147, ty148, ty149, ty150, ty151, ty152, ty153, ty154, ty155, ty156, ty157, ty158, ty159⟩
theorem tyb4 : enterB Try.prog 8 = true ∧ enterB Try.prog 9 = true ∧ enterB Try.prog 10 = true ∧ enterB Try.prog 11 = true ∧ enterB Try.prog 12 = true ∧ enterB Try.prog 13 = true ∧ enterB Try.prog 14 = true ∧ enterB Try.prog 15 = true ∧ enterB Try.prog 16 = true ∧ enterB Try.prog 17 = true ∧ enterB Try.prog 18 = true ∧ enterB Try.prog 19 = true ∧ enterB Try.prog 20 = true ∧ enterB Try.prog 21 = true ∧ enterB Try.prog 22 = true ∧ enterB Try.prog 23 = true ∧ enterB Try.prog 24 = true ∧ enterB Try.prog 25 = true ∧ enterB Try.prog 26 = true ∧ enterB Try.prog 27 = true ∧ enterB Try.prog 28 = true ∧ enterB Try.prog 29 = true ∧ enterB Try.prog 30 = true ∧ enterB Try.prog 31 = true ∧ enterB Try.prog 32 = true ∧ enterB Try.prog 33 = true ∧ enterB Try.prog 34 = true ∧ enterB Try.prog 35 = true ∧ enterB Try.prog 36 = true ∧ enterB Try.prog 37 = true ∧ enterB Try.prog 38 = true ∧ enterB Try.prog 39 = true ∧ enterB Try.prog 40 = true ∧ enterB Try.prog 41 = true ∧ enterB Try.prog 42 = true ∧ enterB Try.prog 43 = true ∧ enterB Try.prog 44 = true ∧ enterB Try.prog 45 = true ∧ enterB Try.prog 46 = true ∧ enterB Try.prog 47 = true := ⟨ty160, ty161, ty162, ty163, ty164, ty165, ty166, ty167, ty168, ty169, ty170, ty171, ty172, ty173, ty174, ty175, ty176, ty177, ty178, ty179, ty180, ty181, ty182, ty183, ty184, ty185, ty186, ty187, ty188, ty189, ty190, ty191, ty192, ty193, ty194, ty195, ty196, ty197, ty198, ty199⟩
theorem tyb5 : enterB Try.prog 48 = true ∧ enterB Try.prog 49 = true ∧ enterB Try.prog 50 = true ∧ enterB Try.prog 51 = true ∧ enterB Try.prog 52 = true ∧ enterB Try.prog 53 = true ∧ enterB Try.prog 54 = true ∧ enterB Try.prog 55 = true ∧ enterB Try.prog 56 = true ∧ enterB Try.prog 57 = true ∧ enterB Try.prog 58 = true ∧ enterB Try.prog 59 = true ∧ enterB Try.prog 60 = true ∧ enterB Try.prog 61 = true := ⟨ty200, ty201, ty202, ty203, ty204, ty205, ty206, ty207, ty208, ty209, ty210, ty211, ty212, ty213⟩
theorem tys : (tkB Try.prog 2 = some (.int .i64) ∧ szOf Try.prog 2 = 1 ∧ isAggB Try.prog 2 = false ∧ isArrB Try.prog 2 = false ∧ infoB Try.prog 2 = true ∧ undB Try.prog 2 = true ∧ Program.bytesOf Try.prog 2 = 8 ∧ elemB Try.prog 2 = none ∧ zeroB Try.prog 2 = some [Value.int .i64 0] ∧ tkB Try.prog 3 = some (.int .i64) ∧ szOf Try.prog 3 = 1 ∧ isAggB Try.prog 3 = false ∧ isArrB Try.prog 3 = false ∧ infoB Try.prog 3 = true ∧ undB Try.prog 3 = true ∧ Program.bytesOf Try.prog 3 = 8 ∧ elemB Try.prog 3 = none ∧ zeroB Try.prog 3 = some [Value.int .i64 0] ∧ tkB Try.prog 4 = some .bool ∧ szOf Try.prog 4 = 1 ∧ isAggB Try.prog 4 = false ∧ isArrB Try.prog 4 = false ∧ infoB Try.prog 4 = true ∧ undB Try.prog 4 = true ∧ Program.bytesOf Try.prog 4 = 1 ∧ elemB Try.prog 4 = none ∧ zeroB Try.prog 4 = some [Value.bool false] ∧ tkB Try.prog 5 = some (.int .u8) ∧ szOf Try.prog 5 = 1 ∧ isAggB Try.prog 5 = false ∧ isArrB Try.prog 5 = false ∧ infoB Try.prog 5 = true ∧ undB Try.prog 5 = true ∧ Program.bytesOf Try.prog 5 = 1 ∧ elemB Try.prog 5 = none ∧ zeroB Try.prog 5 = some [Value.int .u8 0] ∧ tkB Try.prog 9 = some .str ∧ szOf Try.prog 9 = 1 ∧ isAggB Try.prog 9 = false ∧ isArrB Try.prog 9 = false) ∧ (infoB Try.prog 9 = true ∧ undB Try.prog 9 = true ∧ Program.bytesOf Try.prog 9 = 16 ∧ elemB Try.prog 9 = none ∧ zeroB Try.prog 9 = some [Value.string ByteArray.empty] ∧ tkB Try.prog 22 = some (.int .u64) ∧ szOf Try.prog 22 = 1 ∧ isAggB Try.prog 22 = false ∧ isArrB Try.prog 22 = false ∧ infoB Try.prog 22 = true ∧ undB Try.prog 22 = true ∧ Program.bytesOf Try.prog 22 = 8 ∧ elemB Try.prog 22 = none ∧ zeroB Try.prog 22 = some [Value.int .u64 0] ∧ tkB Try.prog 23 = some (.sl 22) ∧ szOf Try.prog 23 = 1 ∧ isAggB Try.prog 23 = false ∧ isArrB Try.prog 23 = false ∧ infoB Try.prog 23 = true ∧ undB Try.prog 23 = true ∧ Program.bytesOf Try.prog 23 = 24 ∧ elemB Try.prog 23 = some 22 ∧ zeroB Try.prog 23 = some [Value.slice none 0 0] ∧ tkB Try.prog 24 = some .other ∧ szOf Try.prog 24 = 2 ∧ isAggB Try.prog 24 = true ∧ isArrB Try.prog 24 = false ∧ infoB Try.prog 24 = true ∧ undB Try.prog 24 = true ∧ Program.bytesOf Try.prog 24 = 32 ∧ elemB Try.prog 24 = none ∧ zeroB Try.prog 24 = some [Value.slice none 0 0, Value.int .i64 0] ∧ fieldB Try.prog 24 0 = some (23, 0) ∧ fieldB Try.prog 24 1 = some (3, 1) ∧ placesOf Try.prog 24 = some (.st [(0, 1), (1, 1)]) ∧ tkB Try.prog 25 = some .other ∧ szOf Try.prog 25 = 2 ∧ isAggB Try.prog 25 = true ∧ isArrB Try.prog 25 = false ∧ infoB Try.prog 25 = true) ∧ (undB Try.prog 25 = true ∧ Program.bytesOf Try.prog 25 = 32 ∧ elemB Try.prog 25 = none ∧ zeroB Try.prog 25 = some [Value.slice none 0 0, Value.int .i64 0] ∧ fieldB Try.prog 25 0 = some (23, 0) ∧ fieldB Try.prog 25 1 = some (3, 1) ∧ placesOf Try.prog 25 = some (.st [(0, 1), (1, 1)]) ∧ tkB Try.prog 28 = some (.int .i64) ∧ szOf Try.prog 28 = 1 ∧ isAggB Try.prog 28 = false ∧ isArrB Try.prog 28 = false ∧ infoB Try.prog 28 = true ∧ undB Try.prog 28 = true ∧ Program.bytesOf Try.prog 28 = 8 ∧ elemB Try.prog 28 = none ∧ zeroB Try.prog 28 = some [Value.int .i64 0] ∧ tkB Try.prog 35 = some .other ∧ szOf Try.prog 35 = 1 ∧ isAggB Try.prog 35 = false ∧ isArrB Try.prog 35 = false ∧ infoB Try.prog 35 = true ∧ undB Try.prog 35 = true ∧ Program.bytesOf Try.prog 35 = 8 ∧ elemB Try.prog 35 = none ∧ tkB Try.prog 42 = some (.arr 3000 4) ∧ szOf Try.prog 42 = 3000 ∧ isAggB Try.prog 42 = true ∧ isArrB Try.prog 42 = true ∧ infoB Try.prog 42 = true ∧ undB Try.prog 42 = true ∧ Program.bytesOf Try.prog 42 = 3000 ∧ elemB Try.prog 42 = none ∧ tkB Try.prog 46 = some (.int .u32) ∧ szOf Try.prog 46 = 1 ∧ isAggB Try.prog 46 = false ∧ isArrB Try.prog 46 = false ∧ infoB Try.prog 46 = true ∧ undB Try.prog 46 = true ∧ Program.bytesOf Try.prog 46 = 4 ∧ elemB Try.prog 46 = none) ∧ (zeroB Try.prog 46 = some [Value.int .u32 0] ∧ tkB Try.prog 61 = some .other ∧ szOf Try.prog 61 = 1 ∧ isAggB Try.prog 61 = false ∧ isArrB Try.prog 61 = false ∧ infoB Try.prog 61 = true ∧ undB Try.prog 61 = true ∧ Program.bytesOf Try.prog 61 = 8 ∧ elemB Try.prog 61 = none ∧ tkB Try.prog 68 = some (.int .u64) ∧ szOf Try.prog 68 = 1 ∧ isAggB Try.prog 68 = false ∧ isArrB Try.prog 68 = false ∧ infoB Try.prog 68 = true ∧ undB Try.prog 68 = true ∧ Program.bytesOf Try.prog 68 = 8 ∧ elemB Try.prog 68 = none ∧ zeroB Try.prog 68 = some [Value.int .u64 0] ∧ tkB Try.prog 75 = some .other ∧ szOf Try.prog 75 = 1 ∧ isAggB Try.prog 75 = false ∧ isArrB Try.prog 75 = false ∧ infoB Try.prog 75 = true ∧ undB Try.prog 75 = true ∧ Program.bytesOf Try.prog 75 = 16 ∧ elemB Try.prog 75 = none ∧ tkB Try.prog 76 = some .other ∧ szOf Try.prog 76 = 1 ∧ isAggB Try.prog 76 = false ∧ isArrB Try.prog 76 = false ∧ infoB Try.prog 76 = true ∧ undB Try.prog 76 = true ∧ Program.bytesOf Try.prog 76 = 16 ∧ elemB Try.prog 76 = none ∧ enterB Try.prog 2 = true ∧ enterB Try.prog 3 = true ∧ enterB Try.prog 4 = true ∧ enterB Try.prog 5 = true ∧ enterB Try.prog 6 = true ∧ enterB Try.prog 7 = true) ∧ (enterB Try.prog 8 = true ∧ enterB Try.prog 9 = true ∧ enterB Try.prog 10 = true ∧ enterB Try.prog 11 = true ∧ enterB Try.prog 12 = true ∧ enterB Try.prog 13 = true ∧ enterB Try.prog 14 = true ∧ enterB Try.prog 15 = true ∧ enterB Try.prog 16 = true ∧ enterB Try.prog 17 = true ∧ enterB Try.prog 18 = true ∧ enterB Try.prog 19 = true ∧ enterB Try.prog 20 = true ∧ enterB Try.prog 21 = true ∧ enterB Try.prog 22 = true ∧ enterB Try.prog 23 = true ∧ enterB Try.prog 24 = true ∧ enterB Try.prog 25 = true ∧ enterB Try.prog 26 = true ∧ enterB Try.prog 27 = true ∧ enterB Try.prog 28 = true ∧ enterB Try.prog 29 = true ∧ enterB Try.prog 30 = true ∧ enterB Try.prog 31 = true ∧ enterB Try.prog 32 = true ∧ enterB Try.prog 33 = true ∧ enterB Try.prog 34 = true ∧ enterB Try.prog 35 = true ∧ enterB Try.prog 36 = true ∧ enterB Try.prog 37 = true ∧ enterB Try.prog 38 = true ∧ enterB Try.prog 39 = true ∧ enterB Try.prog 40 = true ∧ enterB Try.prog 41 = true ∧ enterB Try.prog 42 = true ∧ enterB Try.prog 43 = true ∧ enterB Try.prog 44 = true ∧ enterB Try.prog 45 = true ∧ enterB Try.prog 46 = true ∧ enterB Try.prog 47 = true) ∧ (enterB Try.prog 48 = true ∧ enterB Try.prog 49 = true ∧ enterB Try.prog 50 = true ∧ enterB Try.prog 51 = true ∧ enterB Try.prog 52 = true ∧ enterB Try.prog 53 = true ∧ enterB Try.prog 54 = true ∧ enterB Try.prog 55 = true ∧ enterB Try.prog 56 = true ∧ enterB Try.prog 57 = true ∧ enterB Try.prog 58 = true ∧ enterB Try.prog 59 = true ∧ enterB Try.prog 60 = true ∧ enterB Try.prog 61 = true) := ⟨tyb0, tyb1, tyb2, tyb3, tyb4, tyb5⟩
theorem mixed : Try.prog.follows .mixedOrders = true := by kernel_rfl
theorem extractR (vs : List PV) (k : Nat) : vs[k]? = vs[k]? := rfl
end Go.Proofs.Ytdfhkdddlfmceaa.TM
