/- What is proved of functions, and plain facts, part 4. Conditions: none. -/
import Derived.Test.YthnfphgjfpcpbaaSSolveRight3
import Derived.Test.YthnfphgjfpcpbaaProg
import Derived.Laws.BitsLemmas
open Nat (reduceSub reduceEqDiff reduceAdd reduceMul reduceLT reduceLeDiff)
open Int (reduceToNat reduceLE reduceNeg reduceEq)
set_option linter.defProp false
set_option linter.unusedSectionVars false
set_option linter.unusedSimpArgs false
set_option linter.unusedVariables false
namespace Go.Proofs.Ythnfphgjfpcpbaa.TM
open Go
theorem ty0:tkB Try.prog 2=some (.int .i64):=by kernel_rfl
theorem ty1:B2 Try.prog 2=1:=by kernel_rfl
theorem ty2:Bq Try.prog 2=false:=by kernel_rfl
theorem ty3:Br Try.prog 2=false:=by kernel_rfl
theorem ty4:B1 Try.prog 2=true:=by kernel_rfl
theorem ty5:Cb Try.prog 2=true:=by kernel_rfl
theorem ty6:Program.bytesOf Try.prog 2=8:=by kernel_rfl
theorem ty7:Bw Try.prog 2=none:=by kernel_rfl
theorem ty8:B6 Try.prog 2=some [Value.int .i64 0]:=by kernel_rfl
theorem ty9:tkB Try.prog 3=some (.int .i64):=by kernel_rfl
theorem ty10:B2 Try.prog 3=1:=by kernel_rfl
theorem ty11:Bq Try.prog 3=false:=by kernel_rfl
theorem ty12:Br Try.prog 3=false:=by kernel_rfl
theorem ty13:B1 Try.prog 3=true:=by kernel_rfl
theorem ty14:Cb Try.prog 3=true:=by kernel_rfl
theorem ty15:Program.bytesOf Try.prog 3=8:=by kernel_rfl
theorem ty16:Bw Try.prog 3=none:=by kernel_rfl
theorem ty17:B6 Try.prog 3=some [Value.int .i64 0]:=by kernel_rfl
theorem ty18:tkB Try.prog 4=some .bool:=by kernel_rfl
theorem ty19:B2 Try.prog 4=1:=by kernel_rfl
theorem ty20:Bq Try.prog 4=false:=by kernel_rfl
theorem ty21:Br Try.prog 4=false:=by kernel_rfl
theorem ty22:B1 Try.prog 4=true:=by kernel_rfl
theorem ty23:Cb Try.prog 4=true:=by kernel_rfl
theorem ty24:Program.bytesOf Try.prog 4=1:=by kernel_rfl
theorem ty25:Bw Try.prog 4=none:=by kernel_rfl
theorem ty26:B6 Try.prog 4=some [Value.bool false]:=by kernel_rfl
theorem ty27:Mo Try.prog 4=some (Value.bool false):=by kernel_rfl
theorem ty28:tkB Try.prog 5=some (.int .u8):=by kernel_rfl
theorem ty29:B2 Try.prog 5=1:=by kernel_rfl
theorem ty30:Bq Try.prog 5=false:=by kernel_rfl
theorem ty31:Br Try.prog 5=false:=by kernel_rfl
theorem ty32:B1 Try.prog 5=true:=by kernel_rfl
theorem ty33:Cb Try.prog 5=true:=by kernel_rfl
theorem ty34:Program.bytesOf Try.prog 5=1:=by kernel_rfl
theorem ty35:Bw Try.prog 5=none:=by kernel_rfl
theorem ty36:B6 Try.prog 5=some [Value.int .u8 0]:=by kernel_rfl
theorem ty37:tkB Try.prog 6=some (.int .u8):=by kernel_rfl
theorem ty38:B2 Try.prog 6=1:=by kernel_rfl
theorem ty39:Bq Try.prog 6=false:=by kernel_rfl
theorem ty40:Br Try.prog 6=false:=by kernel_rfl
theorem ty41:B1 Try.prog 6=true:=by kernel_rfl
theorem ty42:Cb Try.prog 6=true:=by kernel_rfl
theorem ty43:Program.bytesOf Try.prog 6=1:=by kernel_rfl
theorem ty44:Bw Try.prog 6=none:=by kernel_rfl
theorem ty45:B6 Try.prog 6=some [Value.int .u8 0]:=by kernel_rfl
theorem ty46:tkB Try.prog 7=some .other:=by kernel_rfl
theorem ty47:B2 Try.prog 7=4:=by kernel_rfl
theorem ty48:Bq Try.prog 7=true:=by kernel_rfl
theorem ty49:Br Try.prog 7=false:=by kernel_rfl
theorem ty50:B1 Try.prog 7=true:=by kernel_rfl
theorem ty51:Cb Try.prog 7=true:=by kernel_rfl
theorem ty52:Program.bytesOf Try.prog 7=24:=by kernel_rfl
theorem ty53:Bw Try.prog 7=none:=by kernel_rfl
theorem ty54:B6 Try.prog 7=some [Value.int .i64 0,Value.int .i64 0,Value.bool false,Value.int .u8 0]:=by kernel_rfl
theorem ty55:Bz Try.prog 7 0=some (2,0):=by kernel_rfl
theorem ty56:Bz Try.prog 7 1=some (3,1):=by kernel_rfl
theorem ty57:Bz Try.prog 7 2=some (4,2):=by kernel_rfl
theorem ty58:Bz Try.prog 7 3=some (6,3):=by kernel_rfl
theorem ty59:Ck Try.prog 7=some (.st [(0,1),(1,1),(2,1),(3,1)]):=by kernel_rfl
theorem ty60:tkB Try.prog 9=some .str:=by kernel_rfl
theorem ty61:B2 Try.prog 9=1:=by kernel_rfl
theorem ty62:Bq Try.prog 9=false:=by kernel_rfl
theorem ty63:Br Try.prog 9=false:=by kernel_rfl
theorem ty64:B1 Try.prog 9=true:=by kernel_rfl
theorem ty65:Cb Try.prog 9=true:=by kernel_rfl
theorem ty66:Program.bytesOf Try.prog 9=16:=by kernel_rfl
theorem ty67:Bw Try.prog 9=none:=by kernel_rfl
theorem ty68:B6 Try.prog 9=some [Value.string ByteArray.empty]:=by kernel_rfl
theorem ty69:tkB Try.prog 22=some (.int .u64):=by kernel_rfl
theorem ty70:B2 Try.prog 22=1:=by kernel_rfl
theorem ty71:Bq Try.prog 22=false:=by kernel_rfl
theorem ty72:Br Try.prog 22=false:=by kernel_rfl
theorem ty73:B1 Try.prog 22=true:=by kernel_rfl
theorem ty74:Cb Try.prog 22=true:=by kernel_rfl
theorem ty75:Program.bytesOf Try.prog 22=8:=by kernel_rfl
theorem ty76:Bw Try.prog 22=none:=by kernel_rfl
theorem ty77:B6 Try.prog 22=some [Value.int .u64 0]:=by kernel_rfl
theorem ty78:tkB Try.prog 23=some (.sl 22):=by kernel_rfl
theorem ty79:B2 Try.prog 23=1:=by kernel_rfl
theorem ty80:Bq Try.prog 23=false:=by kernel_rfl
theorem ty81:Br Try.prog 23=false:=by kernel_rfl
theorem ty82:B1 Try.prog 23=true:=by kernel_rfl
theorem ty83:Cb Try.prog 23=true:=by kernel_rfl
theorem ty84:Program.bytesOf Try.prog 23=24:=by kernel_rfl
theorem ty85:Bw Try.prog 23=some 22:=by kernel_rfl
theorem ty86:B6 Try.prog 23=some [Value.slice none 0 0]:=by kernel_rfl
theorem ty87:tkB Try.prog 24=some .other:=by kernel_rfl
theorem ty88:B2 Try.prog 24=3:=by kernel_rfl
theorem ty89:Bq Try.prog 24=true:=by kernel_rfl
theorem ty90:Br Try.prog 24=false:=by kernel_rfl
theorem ty91:B1 Try.prog 24=true:=by kernel_rfl
theorem ty92:Cb Try.prog 24=true:=by kernel_rfl
theorem ty93:Program.bytesOf Try.prog 24=40:=by kernel_rfl
theorem ty94:Bw Try.prog 24=none:=by kernel_rfl
theorem ty95:B6 Try.prog 24=some [Value.int .i64 0,Value.int .i64 0,Value.slice none 0 0]:=by kernel_rfl
theorem ty96:Bz Try.prog 24 0=some (3,0):=by kernel_rfl
theorem ty97:Bz Try.prog 24 1=some (3,1):=by kernel_rfl
theorem ty98:Bz Try.prog 24 2=some (23,2):=by kernel_rfl
theorem ty99:Ck Try.prog 24=some (.st [(0,1),(1,1),(2,1)]):=by kernel_rfl
theorem ty100:tkB Try.prog 25=some .other:=by kernel_rfl
theorem ty101:B2 Try.prog 25=3:=by kernel_rfl
theorem ty102:Bq Try.prog 25=true:=by kernel_rfl
theorem ty103:Br Try.prog 25=false:=by kernel_rfl
theorem ty104:B1 Try.prog 25=true:=by kernel_rfl
theorem ty105:Cb Try.prog 25=true:=by kernel_rfl
theorem ty106:Program.bytesOf Try.prog 25=40:=by kernel_rfl
theorem ty107:Bw Try.prog 25=none:=by kernel_rfl
theorem ty108:B6 Try.prog 25=some [Value.int .i64 0,Value.int .i64 0,Value.slice none 0 0]:=by kernel_rfl
theorem ty109:Bz Try.prog 25 0=some (3,0):=by kernel_rfl
theorem ty110:Bz Try.prog 25 1=some (3,1):=by kernel_rfl
theorem ty111:Bz Try.prog 25 2=some (23,2):=by kernel_rfl
theorem ty112:Ck Try.prog 25=some (.st [(0,1),(1,1),(2,1)]):=by kernel_rfl
theorem ty113:tkB Try.prog 27=some .other:=by kernel_rfl
theorem ty114:B2 Try.prog 27=1:=by kernel_rfl
theorem ty115:Bq Try.prog 27=false:=by kernel_rfl
theorem ty116:Br Try.prog 27=false:=by kernel_rfl
theorem ty117:B1 Try.prog 27=true:=by kernel_rfl
theorem ty118:Cb Try.prog 27=true:=by kernel_rfl
theorem ty119:Program.bytesOf Try.prog 27=8:=by kernel_rfl
theorem ty120:Bw Try.prog 27=none:=by kernel_rfl
theorem ty121:tkB Try.prog 28=some (.int .i64):=by kernel_rfl
theorem ty122:B2 Try.prog 28=1:=by kernel_rfl
theorem ty123:Bq Try.prog 28=false:=by kernel_rfl
theorem ty124:Br Try.prog 28=false:=by kernel_rfl
theorem ty125:B1 Try.prog 28=true:=by kernel_rfl
theorem ty126:Cb Try.prog 28=true:=by kernel_rfl
theorem ty127:Program.bytesOf Try.prog 28=8:=by kernel_rfl
theorem ty128:Bw Try.prog 28=none:=by kernel_rfl
theorem ty129:B6 Try.prog 28=some [Value.int .i64 0]:=by kernel_rfl
theorem ty130:tkB Try.prog 49=some (.sl 3):=by kernel_rfl
theorem ty131:B2 Try.prog 49=1:=by kernel_rfl
theorem ty132:Bq Try.prog 49=false:=by kernel_rfl
theorem ty133:Br Try.prog 49=false:=by kernel_rfl
theorem ty134:B1 Try.prog 49=true:=by kernel_rfl
theorem ty135:Cb Try.prog 49=true:=by kernel_rfl
theorem ty136:Program.bytesOf Try.prog 49=24:=by kernel_rfl
theorem ty137:Bw Try.prog 49=some 3:=by kernel_rfl
theorem ty138:B6 Try.prog 49=some [Value.slice none 0 0]:=by kernel_rfl
theorem ty139:tkB Try.prog 62=some (.sl 23):=by kernel_rfl
theorem ty140:B2 Try.prog 62=1:=by kernel_rfl
theorem ty141:Bq Try.prog 62=false:=by kernel_rfl
theorem ty142:Br Try.prog 62=false:=by kernel_rfl
theorem ty143:B1 Try.prog 62=true:=by kernel_rfl
theorem ty144:Cb Try.prog 62=true:=by kernel_rfl
theorem ty145:Program.bytesOf Try.prog 62=24:=by kernel_rfl
theorem ty146:Bw Try.prog 62=some 23:=by kernel_rfl
theorem ty147:B6 Try.prog 62=some [Value.slice none 0 0]:=by kernel_rfl
theorem ty148:tkB Try.prog 63=some .other:=by kernel_rfl
theorem ty149:B2 Try.prog 63=4:=by kernel_rfl
theorem ty150:Bq Try.prog 63=true:=by kernel_rfl
theorem ty151:Br Try.prog 63=false:=by kernel_rfl
theorem ty152:B1 Try.prog 63=true:=by kernel_rfl
theorem ty153:Cb Try.prog 63=true:=by kernel_rfl
theorem ty154:Program.bytesOf Try.prog 63=96:=by kernel_rfl
theorem ty155:Bw Try.prog 63=none:=by kernel_rfl
theorem ty156:B6 Try.prog 63=some [Value.slice none 0 0,Value.slice none 0 0,Value.slice none 0 0,Value.slice none 0 0]:=by kernel_rfl
theorem ty157:Bz Try.prog 63 0=some (49,0):=by kernel_rfl
theorem ty158:Bz Try.prog 63 1=some (49,1):=by kernel_rfl
theorem ty159:Bz Try.prog 63 2=some (62,2):=by kernel_rfl
theorem ty160:Bz Try.prog 63 3=some (62,3):=by kernel_rfl
theorem ty161:Ck Try.prog 63=some (.st [(0,1),(1,1),(2,1),(3,1)]):=by kernel_rfl
theorem ty162:tkB Try.prog 64=some .other:=by kernel_rfl
theorem ty163:B2 Try.prog 64=4:=by kernel_rfl
theorem ty164:Bq Try.prog 64=true:=by kernel_rfl
theorem ty165:Br Try.prog 64=false:=by kernel_rfl
theorem ty166:B1 Try.prog 64=true:=by kernel_rfl
theorem ty167:Cb Try.prog 64=true:=by kernel_rfl
theorem ty168:Program.bytesOf Try.prog 64=96:=by kernel_rfl
theorem ty169:Bw Try.prog 64=none:=by kernel_rfl
theorem ty170:B6 Try.prog 64=some [Value.slice none 0 0,Value.slice none 0 0,Value.slice none 0 0,Value.slice none 0 0]:=by kernel_rfl
theorem ty171:Bz Try.prog 64 0=some (49,0):=by kernel_rfl
theorem ty172:Bz Try.prog 64 1=some (49,1):=by kernel_rfl
theorem ty173:Bz Try.prog 64 2=some (62,2):=by kernel_rfl
theorem ty174:Bz Try.prog 64 3=some (62,3):=by kernel_rfl
theorem ty175:Ck Try.prog 64=some (.st [(0,1),(1,1),(2,1),(3,1)]):=by kernel_rfl
theorem ty176:tkB Try.prog 75=some .other:=by kernel_rfl
theorem ty177:B2 Try.prog 75=9:=by kernel_rfl
theorem ty178:Bq Try.prog 75=true:=by kernel_rfl
theorem ty179:Br Try.prog 75=false:=by kernel_rfl
theorem ty180:B1 Try.prog 75=true:=by kernel_rfl
theorem ty181:Cb Try.prog 75=true:=by kernel_rfl
theorem ty182:Program.bytesOf Try.prog 75=168:=by kernel_rfl
theorem ty183:Bw Try.prog 75=none:=by kernel_rfl
theorem ty184:B6 Try.prog 75=some [Value.slice none 0 0,Value.slice none 0 0,Value.slice none 0 0,Value.slice none 0 0,Value.int .u64 0,Value.int .i64 0,Value.int .i64 0,Value.slice none 0 0,Value.slice none 0 0]:=by kernel_rfl
theorem ty185:Bz Try.prog 75 0=some (64,0):=by kernel_rfl
theorem ty186:Bz Try.prog 75 1=some (22,4):=by kernel_rfl
theorem ty187:Bz Try.prog 75 2=some (25,5):=by kernel_rfl
theorem ty188:Bz Try.prog 75 3=some (23,8):=by kernel_rfl
theorem ty189:Ck Try.prog 75=some (.st [(0,4),(4,1),(5,3),(8,1)]):=by kernel_rfl
theorem ty190:tkB Try.prog 76=some .other:=by kernel_rfl
theorem ty191:B2 Try.prog 76=9:=by kernel_rfl
theorem ty192:Bq Try.prog 76=true:=by kernel_rfl
theorem ty193:Br Try.prog 76=false:=by kernel_rfl
theorem ty194:B1 Try.prog 76=true:=by kernel_rfl
theorem ty195:Cb Try.prog 76=true:=by kernel_rfl
theorem ty196:Program.bytesOf Try.prog 76=168:=by kernel_rfl
theorem ty197:Bw Try.prog 76=none:=by kernel_rfl
theorem ty198:B6 Try.prog 76=some [Value.slice none 0 0,Value.slice none 0 0,Value.slice none 0 0,Value.slice none 0 0,Value.int .u64 0,Value.int .i64 0,Value.int .i64 0,Value.slice none 0 0,Value.slice none 0 0]:=by kernel_rfl
theorem ty199:Bz Try.prog 76 0=some (64,0):=by kernel_rfl
theorem ty200:Bz Try.prog 76 1=some (22,4):=by kernel_rfl
theorem ty201:Bz Try.prog 76 2=some (25,5):=by kernel_rfl
theorem ty202:Bz Try.prog 76 3=some (23,8):=by kernel_rfl
theorem ty203:Ck Try.prog 76=some (.st [(0,4),(4,1),(5,3),(8,1)]):=by kernel_rfl
theorem ty204:tkB Try.prog 82=some .other:=by kernel_rfl
theorem ty205:B2 Try.prog 82=1:=by kernel_rfl
theorem ty206:Bq Try.prog 82=false:=by kernel_rfl
theorem ty207:Br Try.prog 82=false:=by kernel_rfl
theorem ty208:B1 Try.prog 82=true:=by kernel_rfl
theorem ty209:Cb Try.prog 82=true:=by kernel_rfl
theorem ty210:Program.bytesOf Try.prog 82=8:=by kernel_rfl
theorem ty211:Bw Try.prog 82=none:=by kernel_rfl
theorem ty212:tkB Try.prog 91=some .other:=by kernel_rfl
theorem ty213:B2 Try.prog 91=1:=by kernel_rfl
theorem ty214:Bq Try.prog 91=false:=by kernel_rfl
theorem ty215:Br Try.prog 91=false:=by kernel_rfl
theorem ty216:B1 Try.prog 91=true:=by kernel_rfl
theorem ty217:Cb Try.prog 91=true:=by kernel_rfl
theorem ty218:Program.bytesOf Try.prog 91=8:=by kernel_rfl
theorem ty219:Bw Try.prog 91=none:=by kernel_rfl
theorem ty220:tkB Try.prog 94=some .other:=by kernel_rfl
theorem ty221:B2 Try.prog 94=1:=by kernel_rfl
theorem ty222:Bq Try.prog 94=false:=by kernel_rfl
theorem ty223:Br Try.prog 94=false:=by kernel_rfl
theorem ty224:B1 Try.prog 94=true:=by kernel_rfl
theorem ty225:Cb Try.prog 94=true:=by kernel_rfl
theorem ty226:Program.bytesOf Try.prog 94=8:=by kernel_rfl
theorem ty227:Bw Try.prog 94=none:=by kernel_rfl
theorem ty228:tkB Try.prog 99=some .other:=by kernel_rfl
theorem ty229:B2 Try.prog 99=1:=by kernel_rfl
theorem ty230:Bq Try.prog 99=false:=by kernel_rfl
theorem ty231:Br Try.prog 99=false:=by kernel_rfl
theorem ty232:B1 Try.prog 99=true:=by kernel_rfl
theorem ty233:Cb Try.prog 99=true:=by kernel_rfl
theorem ty234:Program.bytesOf Try.prog 99=8:=by kernel_rfl
theorem ty235:Bw Try.prog 99=none:=by kernel_rfl
theorem ty236:tkB Try.prog 100=some .other:=by kernel_rfl
theorem ty237:B2 Try.prog 100=6:=by kernel_rfl
theorem ty238:Bq Try.prog 100=true:=by kernel_rfl
theorem ty239:Br Try.prog 100=false:=by kernel_rfl
theorem ty240:B1 Try.prog 100=true:=by kernel_rfl
theorem ty241:Cb Try.prog 100=true:=by kernel_rfl
theorem ty242:Program.bytesOf Try.prog 100=128:=by kernel_rfl
theorem ty243:Bw Try.prog 100=none:=by kernel_rfl
theorem ty244:B6 Try.prog 100=some [Value.slice none 0 0,Value.slice none 0 0,Value.slice none 0 0,Value.slice none 0 0,Value.int .u64 0,Value.slice none 0 0]:=by kernel_rfl
theorem ty245:Bz Try.prog 100 0=some (64,0):=by kernel_rfl
theorem ty246:Bz Try.prog 100 1=some (22,4):=by kernel_rfl
theorem ty247:Bz Try.prog 100 2=some (23,5):=by kernel_rfl
theorem ty248:Ck Try.prog 100=some (.st [(0,4),(4,1),(5,1)]):=by kernel_rfl
theorem ty249:tkB Try.prog 101=some .other:=by kernel_rfl
theorem ty250:B2 Try.prog 101=6:=by kernel_rfl
theorem ty251:Bq Try.prog 101=true:=by kernel_rfl
theorem ty252:Br Try.prog 101=false:=by kernel_rfl
theorem ty253:B1 Try.prog 101=true:=by kernel_rfl
theorem ty254:Cb Try.prog 101=true:=by kernel_rfl
theorem ty255:Program.bytesOf Try.prog 101=128:=by kernel_rfl
theorem ty256:Bw Try.prog 101=none:=by kernel_rfl
theorem ty257:B6 Try.prog 101=some [Value.slice none 0 0,Value.slice none 0 0,Value.slice none 0 0,Value.slice none 0 0,Value.int .u64 0,Value.slice none 0 0]:=by kernel_rfl
theorem ty258:Bz Try.prog 101 0=some (64,0):=by kernel_rfl
theorem ty259:Bz Try.prog 101 1=some (22,4):=by kernel_rfl
theorem ty260:Bz Try.prog 101 2=some (23,5):=by kernel_rfl
theorem ty261:Ck Try.prog 101=some (.st [(0,4),(4,1),(5,1)]):=by kernel_rfl
theorem ty262:tkB Try.prog 109=some .other:=by kernel_rfl
theorem ty263:B2 Try.prog 109=1:=by kernel_rfl
theorem ty264:Bq Try.prog 109=false:=by kernel_rfl
theorem ty265:Br Try.prog 109=false:=by kernel_rfl
theorem ty266:B1 Try.prog 109=true:=by kernel_rfl
theorem ty267:Cb Try.prog 109=true:=by kernel_rfl
theorem ty268:Program.bytesOf Try.prog 109=8:=by kernel_rfl
theorem ty269:Bw Try.prog 109=none:=by kernel_rfl
theorem ty270:tkB Try.prog 110=some .other:=by kernel_rfl
theorem ty271:B2 Try.prog 110=1:=by kernel_rfl
theorem ty272:Bq Try.prog 110=false:=by kernel_rfl
theorem ty273:Br Try.prog 110=false:=by kernel_rfl
theorem ty274:B1 Try.prog 110=true:=by kernel_rfl
theorem ty275:Cb Try.prog 110=true:=by kernel_rfl
theorem ty276:Program.bytesOf Try.prog 110=8:=by kernel_rfl
theorem ty277:Bw Try.prog 110=none:=by kernel_rfl
theorem ty278:tkB Try.prog 114=some (.sl 49):=by kernel_rfl
theorem ty279:B2 Try.prog 114=1:=by kernel_rfl
theorem ty280:Bq Try.prog 114=false:=by kernel_rfl
theorem ty281:Br Try.prog 114=false:=by kernel_rfl
theorem ty282:B1 Try.prog 114=true:=by kernel_rfl
theorem ty283:Cb Try.prog 114=true:=by kernel_rfl
theorem ty284:Program.bytesOf Try.prog 114=24:=by kernel_rfl
theorem ty285:Bw Try.prog 114=some 49:=by kernel_rfl
theorem ty286:B6 Try.prog 114=some [Value.slice none 0 0]:=by kernel_rfl
theorem ty287:tkB Try.prog 115=some (.sl 3):=by kernel_rfl
theorem ty288:B2 Try.prog 115=1:=by kernel_rfl
theorem ty289:Bq Try.prog 115=false:=by kernel_rfl
theorem ty290:Br Try.prog 115=false:=by kernel_rfl
theorem ty291:B1 Try.prog 115=true:=by kernel_rfl
theorem ty292:Cb Try.prog 115=true:=by kernel_rfl
theorem ty293:Program.bytesOf Try.prog 115=24:=by kernel_rfl
theorem ty294:Bw Try.prog 115=some 3:=by kernel_rfl
theorem ty295:B6 Try.prog 115=some [Value.slice none 0 0]:=by kernel_rfl
theorem ty296:tkB Try.prog 127=some (.int .u64):=by kernel_rfl
theorem ty297:B2 Try.prog 127=1:=by kernel_rfl
theorem ty298:Bq Try.prog 127=false:=by kernel_rfl
theorem ty299:Br Try.prog 127=false:=by kernel_rfl
theorem ty300:B1 Try.prog 127=true:=by kernel_rfl
theorem ty301:Cb Try.prog 127=true:=by kernel_rfl
theorem ty302:Program.bytesOf Try.prog 127=8:=by kernel_rfl
theorem ty303:Bw Try.prog 127=none:=by kernel_rfl
theorem ty304:B6 Try.prog 127=some [Value.int .u64 0]:=by kernel_rfl
theorem ty305:tkB Try.prog 131=some .other:=by kernel_rfl
theorem ty306:B2 Try.prog 131=1:=by kernel_rfl
theorem ty307:Bq Try.prog 131=false:=by kernel_rfl
theorem ty308:Br Try.prog 131=false:=by kernel_rfl
theorem ty309:B1 Try.prog 131=true:=by kernel_rfl
theorem ty310:Cb Try.prog 131=true:=by kernel_rfl
theorem ty311:Program.bytesOf Try.prog 131=8:=by kernel_rfl
theorem ty312:Bw Try.prog 131=none:=by kernel_rfl
theorem ty313:Vo Try.prog 131=some (.i64,4):=by kernel_rfl
theorem ty314:tkB Try.prog 135=some (.int .i64):=by kernel_rfl
theorem ty315:B2 Try.prog 135=1:=by kernel_rfl
theorem ty316:Bq Try.prog 135=false:=by kernel_rfl
theorem ty317:Br Try.prog 135=false:=by kernel_rfl
theorem ty318:B1 Try.prog 135=true:=by kernel_rfl
theorem ty319:Cb Try.prog 135=true:=by kernel_rfl
theorem ty320:Program.bytesOf Try.prog 135=8:=by kernel_rfl
theorem ty321:Bw Try.prog 135=none:=by kernel_rfl
theorem ty322:B6 Try.prog 135=some [Value.int .i64 0]:=by kernel_rfl
theorem ty323:tkB Try.prog 144=some (.int .u32):=by kernel_rfl
theorem ty324:B2 Try.prog 144=1:=by kernel_rfl
theorem ty325:Bq Try.prog 144=false:=by kernel_rfl
theorem ty326:Br Try.prog 144=false:=by kernel_rfl
theorem ty327:B1 Try.prog 144=true:=by kernel_rfl
theorem ty328:Cb Try.prog 144=true:=by kernel_rfl
theorem ty329:Program.bytesOf Try.prog 144=4:=by kernel_rfl
theorem ty330:Bw Try.prog 144=none:=by kernel_rfl
theorem ty331:B6 Try.prog 144=some [Value.int .u32 0]:=by kernel_rfl
theorem ty332:tkB Try.prog 147=some (.arr 64 4):=by kernel_rfl
theorem ty333:B2 Try.prog 147=64:=by kernel_rfl
theorem ty334:Bq Try.prog 147=true:=by kernel_rfl
theorem ty335:Br Try.prog 147=true:=by kernel_rfl
theorem ty336:B1 Try.prog 147=true:=by kernel_rfl
theorem ty337:Cb Try.prog 147=true:=by kernel_rfl
theorem ty338:Program.bytesOf Try.prog 147=64:=by kernel_rfl
theorem ty339:Bw Try.prog 147=none:=by kernel_rfl
theorem ty340:B6 Try.prog 147=some [Value.bool false,Value.bool false,Value.bool false,Value.bool false,Value.bool false,Value.bool false,Value.bool false,Value.bool false,Value.bool false,Value.bool false,Value.bool false,Value.bool false,Value.bool false,Value.bool false,Value.bool false,Value.bool false,Value.bool false,Value.bool false,Value.bool false,Value.bool false,Value.bool false,Value.bool false,Value.bool false,Value.bool false,Value.bool false,Value.bool false,Value.bool false,Value.bool false,Value.bool false,Value.bool false,Value.bool false,Value.bool false,Value.bool false,Value.bool false,Value.bool false,Value.bool false,Value.bool false,Value.bool false,Value.bool false,Value.bool false,Value.bool false,Value.bool false,Value.bool false,Value.bool false,Value.bool false,Value.bool false,Value.bool false,Value.bool false,Value.bool false,Value.bool false,Value.bool false,Value.bool false,Value.bool false,Value.bool false,Value.bool false,Value.bool false,Value.bool false,Value.bool false,Value.bool false,Value.bool false,Value.bool false,Value.bool false,Value.bool false,Value.bool false]:=by kernel_rfl
theorem ty341:tkB Try.prog 148=some .other:=by kernel_rfl
theorem ty342:B2 Try.prog 148=1:=by kernel_rfl
theorem ty343:Bq Try.prog 148=false:=by kernel_rfl
theorem ty344:Br Try.prog 148=false:=by kernel_rfl
theorem ty345:B1 Try.prog 148=true:=by kernel_rfl
theorem ty346:Cb Try.prog 148=true:=by kernel_rfl
theorem ty347:Program.bytesOf Try.prog 148=16:=by kernel_rfl
theorem ty348:Bw Try.prog 148=none:=by kernel_rfl
theorem ty349:tkB Try.prog 149=some .other:=by kernel_rfl
theorem ty350:B2 Try.prog 149=1:=by kernel_rfl
theorem ty351:Bq Try.prog 149=false:=by kernel_rfl
theorem ty352:Br Try.prog 149=false:=by kernel_rfl
theorem ty353:B1 Try.prog 149=true:=by kernel_rfl
theorem ty354:Cb Try.prog 149=true:=by kernel_rfl
theorem ty355:Program.bytesOf Try.prog 149=16:=by kernel_rfl
theorem ty356:Bw Try.prog 149=none:=by kernel_rfl
theorem ty357:tkB Try.prog 150=some (.int .u64):=by kernel_rfl
theorem ty358:B2 Try.prog 150=1:=by kernel_rfl
theorem ty359:Bq Try.prog 150=false:=by kernel_rfl
theorem ty360:Br Try.prog 150=false:=by kernel_rfl
theorem ty361:B1 Try.prog 150=true:=by kernel_rfl
theorem ty362:Cb Try.prog 150=true:=by kernel_rfl
theorem ty363:Program.bytesOf Try.prog 150=8:=by kernel_rfl
theorem ty364:Bw Try.prog 150=none:=by kernel_rfl
theorem ty365:B6 Try.prog 150=some [Value.int .u64 0]:=by kernel_rfl
theorem ty366:tkB Try.prog 154=some .other:=by kernel_rfl
theorem ty367:B2 Try.prog 154=1:=by kernel_rfl
theorem ty368:Bq Try.prog 154=false:=by kernel_rfl
theorem ty369:Br Try.prog 154=false:=by kernel_rfl
theorem ty370:B1 Try.prog 154=true:=by kernel_rfl
theorem ty371:Cb Try.prog 154=true:=by kernel_rfl
theorem ty372:Program.bytesOf Try.prog 154=8:=by kernel_rfl
theorem ty373:Bw Try.prog 154=none:=by kernel_rfl
theorem ty374:tkB Try.prog 157=some .other:=by kernel_rfl
theorem ty375:B2 Try.prog 157=1:=by kernel_rfl
theorem ty376:Bq Try.prog 157=false:=by kernel_rfl
theorem ty377:Br Try.prog 157=false:=by kernel_rfl
theorem ty378:B1 Try.prog 157=true:=by kernel_rfl
theorem ty379:Cb Try.prog 157=true:=by kernel_rfl
theorem ty380:Program.bytesOf Try.prog 157=8:=by kernel_rfl
theorem ty381:Bw Try.prog 157=none:=by kernel_rfl
theorem ty382:A7 Try.prog 2=true:=by kernel_rfl
theorem ty383:A7 Try.prog 3=true:=by kernel_rfl
theorem ty384:A7 Try.prog 4=true:=by kernel_rfl
theorem ty385:A7 Try.prog 5=true:=by kernel_rfl
theorem ty386:A7 Try.prog 6=true:=by kernel_rfl
theorem ty387:A7 Try.prog 7=true:=by kernel_rfl
theorem ty388:A7 Try.prog 8=true:=by kernel_rfl
theorem ty389:A7 Try.prog 9=true:=by kernel_rfl
theorem ty390:A7 Try.prog 10=true:=by kernel_rfl
theorem ty391:A7 Try.prog 11=true:=by kernel_rfl
theorem ty392:A7 Try.prog 12=true:=by kernel_rfl
theorem ty393:A7 Try.prog 13=true:=by kernel_rfl
theorem ty394:A7 Try.prog 14=true:=by kernel_rfl
theorem ty395:A7 Try.prog 15=true:=by kernel_rfl
theorem ty396:A7 Try.prog 16=true:=by kernel_rfl
theorem ty397:A7 Try.prog 17=true:=by kernel_rfl
theorem ty398:A7 Try.prog 18=true:=by kernel_rfl
theorem ty399:A7 Try.prog 19=true:=by kernel_rfl
theorem ty400:A7 Try.prog 20=true:=by kernel_rfl
theorem ty401:A7 Try.prog 21=true:=by kernel_rfl
theorem ty402:A7 Try.prog 22=true:=by kernel_rfl
theorem ty403:A7 Try.prog 23=true:=by kernel_rfl
theorem ty404:A7 Try.prog 24=true:=by kernel_rfl
theorem ty405:A7 Try.prog 25=true:=by kernel_rfl
theorem ty406:A7 Try.prog 26=true:=by kernel_rfl
theorem ty407:A7 Try.prog 27=true:=by kernel_rfl
theorem ty408:A7 Try.prog 28=true:=by kernel_rfl
theorem ty409:A7 Try.prog 29=true:=by kernel_rfl
theorem ty410:A7 Try.prog 30=true:=by kernel_rfl
theorem ty411:A7 Try.prog 31=true:=by kernel_rfl
theorem ty412:A7 Try.prog 32=true:=by kernel_rfl
theorem ty413:A7 Try.prog 33=true:=by kernel_rfl
theorem ty414:A7 Try.prog 34=true:=by kernel_rfl
theorem ty415:A7 Try.prog 35=true:=by kernel_rfl
theorem ty416:A7 Try.prog 36=true:=by kernel_rfl
theorem ty417:A7 Try.prog 37=true:=by kernel_rfl
theorem ty418:A7 Try.prog 38=true:=by kernel_rfl
theorem ty419:A7 Try.prog 39=true:=by kernel_rfl
theorem ty420:A7 Try.prog 40=true:=by kernel_rfl
theorem ty421:A7 Try.prog 41=true:=by kernel_rfl
theorem ty422:A7 Try.prog 42=true:=by kernel_rfl
theorem ty423:A7 Try.prog 43=true:=by kernel_rfl
theorem ty424:A7 Try.prog 44=true:=by kernel_rfl
theorem ty425:A7 Try.prog 45=true:=by kernel_rfl
theorem ty426:A7 Try.prog 46=true:=by kernel_rfl
theorem ty427:A7 Try.prog 47=true:=by kernel_rfl
theorem ty428:A7 Try.prog 48=true:=by kernel_rfl
theorem ty429:A7 Try.prog 49=true:=by kernel_rfl
theorem ty430:A7 Try.prog 50=true:=by kernel_rfl
theorem ty431:A7 Try.prog 51=true:=by kernel_rfl
theorem ty432:A7 Try.prog 52=true:=by kernel_rfl
theorem ty433:A7 Try.prog 53=true:=by kernel_rfl
theorem ty434:A7 Try.prog 54=true:=by kernel_rfl
theorem ty435:A7 Try.prog 55=true:=by kernel_rfl
theorem ty436:A7 Try.prog 56=true:=by kernel_rfl
theorem ty437:A7 Try.prog 57=true:=by kernel_rfl
theorem ty438:A7 Try.prog 58=true:=by kernel_rfl
theorem ty439:A7 Try.prog 59=true:=by kernel_rfl
theorem ty440:A7 Try.prog 60=true:=by kernel_rfl
theorem ty441:A7 Try.prog 61=true:=by kernel_rfl
theorem ty442:A7 Try.prog 62=true:=by kernel_rfl
theorem ty443:A7 Try.prog 63=true:=by kernel_rfl
theorem ty444:A7 Try.prog 64=true:=by kernel_rfl
theorem ty445:A7 Try.prog 65=true:=by kernel_rfl
theorem ty446:A7 Try.prog 66=true:=by kernel_rfl
theorem ty447:A7 Try.prog 67=true:=by kernel_rfl
theorem ty448:A7 Try.prog 68=true:=by kernel_rfl
theorem ty449:A7 Try.prog 69=true:=by kernel_rfl
theorem ty450:A7 Try.prog 70=true:=by kernel_rfl
theorem ty451:A7 Try.prog 71=true:=by kernel_rfl
theorem ty452:A7 Try.prog 72=true:=by kernel_rfl
theorem ty453:A7 Try.prog 73=true:=by kernel_rfl
theorem ty454:A7 Try.prog 74=true:=by kernel_rfl
theorem ty455:A7 Try.prog 75=true:=by kernel_rfl
theorem ty456:A7 Try.prog 76=true:=by kernel_rfl
theorem ty457:A7 Try.prog 77=true:=by kernel_rfl
theorem ty458:A7 Try.prog 78=true:=by kernel_rfl
theorem ty459:A7 Try.prog 79=true:=by kernel_rfl
theorem ty460:A7 Try.prog 80=true:=by kernel_rfl
theorem ty461:A7 Try.prog 81=true:=by kernel_rfl
theorem ty462:A7 Try.prog 82=true:=by kernel_rfl
theorem ty463:A7 Try.prog 83=true:=by kernel_rfl
theorem ty464:A7 Try.prog 84=true:=by kernel_rfl
theorem ty465:A7 Try.prog 85=true:=by kernel_rfl
theorem ty466:A7 Try.prog 86=true:=by kernel_rfl
theorem ty467:A7 Try.prog 87=true:=by kernel_rfl
theorem ty468:A7 Try.prog 88=true:=by kernel_rfl
theorem ty469:A7 Try.prog 89=true:=by kernel_rfl
theorem ty470:A7 Try.prog 90=true:=by kernel_rfl
theorem ty471:A7 Try.prog 91=true:=by kernel_rfl
theorem ty472:A7 Try.prog 92=true:=by kernel_rfl
theorem ty473:A7 Try.prog 93=true:=by kernel_rfl
theorem ty474:A7 Try.prog 94=true:=by kernel_rfl
theorem ty475:A7 Try.prog 95=true:=by kernel_rfl
theorem ty476:A7 Try.prog 96=true:=by kernel_rfl
theorem ty477:A7 Try.prog 97=true:=by kernel_rfl
theorem ty478:A7 Try.prog 98=true:=by kernel_rfl
theorem ty479:A7 Try.prog 99=true:=by kernel_rfl
theorem ty480:A7 Try.prog 100=true:=by kernel_rfl
theorem ty481:A7 Try.prog 101=true:=by kernel_rfl
theorem ty482:A7 Try.prog 102=true:=by kernel_rfl
theorem ty483:A7 Try.prog 103=true:=by kernel_rfl
theorem ty484:A7 Try.prog 104=true:=by kernel_rfl
theorem ty485:A7 Try.prog 105=true:=by kernel_rfl
theorem ty486:A7 Try.prog 106=true:=by kernel_rfl
theorem ty487:A7 Try.prog 107=true:=by kernel_rfl
theorem ty488:A7 Try.prog 108=true:=by kernel_rfl
theorem ty489:A7 Try.prog 109=true:=by kernel_rfl
theorem ty490:A7 Try.prog 110=true:=by kernel_rfl
theorem ty491:A7 Try.prog 111=true:=by kernel_rfl
theorem ty492:A7 Try.prog 112=true:=by kernel_rfl
theorem ty493:A7 Try.prog 113=true:=by kernel_rfl
theorem ty494:A7 Try.prog 114=true:=by kernel_rfl
theorem ty495:A7 Try.prog 115=true:=by kernel_rfl
theorem ty496:A7 Try.prog 116=true:=by kernel_rfl
theorem ty497:A7 Try.prog 117=true:=by kernel_rfl
theorem ty498:A7 Try.prog 118=true:=by kernel_rfl
theorem ty499:A7 Try.prog 119=true:=by kernel_rfl
theorem ty500:A7 Try.prog 120=true:=by kernel_rfl
theorem ty501:A7 Try.prog 121=true:=by kernel_rfl
theorem ty502:A7 Try.prog 122=true:=by kernel_rfl
theorem ty503:A7 Try.prog 123=true:=by kernel_rfl
theorem ty504:A7 Try.prog 124=true:=by kernel_rfl
theorem ty505:A7 Try.prog 125=true:=by kernel_rfl
theorem ty506:A7 Try.prog 126=true:=by kernel_rfl
theorem ty507:A7 Try.prog 127=true:=by kernel_rfl
theorem ty508:A7 Try.prog 128=true:=by kernel_rfl
theorem ty509:A7 Try.prog 129=true:=by kernel_rfl
theorem ty510:A7 Try.prog 130=true:=by kernel_rfl
theorem ty511:A7 Try.prog 131=true:=by kernel_rfl
theorem ty512:A7 Try.prog 132=true:=by kernel_rfl
theorem ty513:A7 Try.prog 133=true:=by kernel_rfl
theorem ty514:A7 Try.prog 134=true:=by kernel_rfl
theorem ty515:A7 Try.prog 135=true:=by kernel_rfl
theorem ty516:A7 Try.prog 136=true:=by kernel_rfl
theorem ty517:A7 Try.prog 137=true:=by kernel_rfl
theorem ty518:A7 Try.prog 138=true:=by kernel_rfl
theorem ty519:A7 Try.prog 139=true:=by kernel_rfl
theorem ty520:A7 Try.prog 140=true:=by kernel_rfl
theorem ty521:A7 Try.prog 141=true:=by kernel_rfl
theorem tyb0:tkB Try.prog 2=some (.int .i64) ∧ B2 Try.prog 2=1 ∧ Bq Try.prog 2=false ∧ Br Try.prog 2=false ∧ B1 Try.prog 2=true ∧ Cb Try.prog 2=true ∧ Program.bytesOf Try.prog 2=8 ∧ Bw Try.prog 2=none ∧ B6 Try.prog 2=some [Value.int .i64 0] ∧ tkB Try.prog 3=some (.int .i64) ∧ B2 Try.prog 3=1 ∧ Bq Try.prog 3=false ∧ Br Try.prog 3=false ∧ B1 Try.prog 3=true ∧ Cb Try.prog 3=true ∧ Program.bytesOf Try.prog 3=8 ∧ Bw Try.prog 3=none ∧ B6 Try.prog 3=some [Value.int .i64 0] ∧ tkB Try.prog 4=some .bool ∧ B2 Try.prog 4=1 ∧ Bq Try.prog 4=false ∧ Br Try.prog 4=false ∧ B1 Try.prog 4=true ∧ Cb Try.prog 4=true ∧ Program.bytesOf Try.prog 4=1 ∧ Bw Try.prog 4=none ∧ B6 Try.prog 4=some [Value.bool false] ∧ Mo Try.prog 4=some (Value.bool false) ∧ tkB Try.prog 5=some (.int .u8) ∧ B2 Try.prog 5=1 ∧ Bq Try.prog 5=false ∧ Br Try.prog 5=false ∧ B1 Try.prog 5=true ∧ Cb Try.prog 5=true ∧ Program.bytesOf Try.prog 5=1 ∧ Bw Try.prog 5=none ∧ B6 Try.prog 5=some [Value.int .u8 0] ∧ tkB Try.prog 6=some (.int .u8) ∧ B2 Try.prog 6=1 ∧ Bq Try.prog 6=false:=⟨ty0,ty1,ty2,ty3,ty4,ty5,ty6,ty7,ty8,ty9,ty10,ty11,ty12,ty13,ty14,ty15,ty16,ty17,ty18,ty19,ty20,ty21,ty22,ty23,ty24,ty25,ty26,ty27,ty28,ty29,ty30,ty31,ty32,ty33,ty34,ty35,ty36,ty37,ty38,ty39⟩
theorem tyb1:Br Try.prog 6=false ∧ B1 Try.prog 6=true ∧ Cb Try.prog 6=true ∧ Program.bytesOf Try.prog 6=1 ∧ Bw Try.prog 6=none ∧ B6 Try.prog 6=some [Value.int .u8 0] ∧ tkB Try.prog 7=some .other ∧ B2 Try.prog 7=4 ∧ Bq Try.prog 7=true ∧ Br Try.prog 7=false ∧ B1 Try.prog 7=true ∧ Cb Try.prog 7=true ∧ Program.bytesOf Try.prog 7=24 ∧ Bw Try.prog 7=none ∧ B6 Try.prog 7=some [Value.int .i64 0,Value.int .i64 0,Value.bool false,Value.int .u8 0] ∧ Bz Try.prog 7 0=some (2,0) ∧ Bz Try.prog 7 1=some (3,1) ∧ Bz Try.prog 7 2=some (4,2) ∧ Bz Try.prog 7 3=some (6,3) ∧ Ck Try.prog 7=some (.st [(0,1),(1,1),(2,1),(3,1)]) ∧ tkB Try.prog 9=some .str ∧ B2 Try.prog 9=1 ∧ Bq Try.prog 9=false ∧ Br Try.prog 9=false ∧ B1 Try.prog 9=true ∧ Cb Try.prog 9=true ∧ Program.bytesOf Try.prog 9=16 ∧ Bw Try.prog 9=none ∧ B6 Try.prog 9=some [Value.string ByteArray.empty] ∧ tkB Try.prog 22=some (.int .u64) ∧ B2 Try.prog 22=1 ∧ Bq Try.prog 22=false ∧ Br Try.prog 22=false ∧ B1 Try.prog 22=true ∧ Cb Try.prog 22=true ∧ Program.bytesOf Try.prog 22=8 ∧ Bw Try.prog 22=none ∧ B6 Try.prog 22=some [Value.int .u64 0] ∧ tkB Try.prog 23=some (.sl 22) ∧ B2 Try.prog 23=1:=⟨ty40,ty41,ty42,ty43,ty44,ty45,ty46,ty47,ty48,ty49,ty50,ty51,ty52,ty53,ty54,ty55,ty56,ty57,ty58,ty59,ty60,ty61,ty62,ty63,ty64,ty65,ty66,ty67,ty68,ty69,ty70,ty71,ty72,ty73,ty74,ty75,ty76,ty77,ty78,ty79⟩
theorem tyb2:Bq Try.prog 23=false ∧ Br Try.prog 23=false ∧ B1 Try.prog 23=true ∧ Cb Try.prog 23=true ∧ Program.bytesOf Try.prog 23=24 ∧ Bw Try.prog 23=some 22 ∧ B6 Try.prog 23=some [Value.slice none 0 0] ∧ tkB Try.prog 24=some .other ∧ B2 Try.prog 24=3 ∧ Bq Try.prog 24=true ∧ Br Try.prog 24=false ∧ B1 Try.prog 24=true ∧ Cb Try.prog 24=true ∧ Program.bytesOf Try.prog 24=40 ∧ Bw Try.prog 24=none ∧ B6 Try.prog 24=some [Value.int .i64 0,Value.int .i64 0,Value.slice none 0 0] ∧ Bz Try.prog 24 0=some (3,0) ∧ Bz Try.prog 24 1=some (3,1) ∧ Bz Try.prog 24 2=some (23,2) ∧ Ck Try.prog 24=some (.st [(0,1),(1,1),(2,1)]) ∧ tkB Try.prog 25=some .other ∧ B2 Try.prog 25=3 ∧ Bq Try.prog 25=true ∧ Br Try.prog 25=false ∧ B1 Try.prog 25=true ∧ Cb Try.prog 25=true ∧ Program.bytesOf Try.prog 25=40 ∧ Bw Try.prog 25=none ∧ B6 Try.prog 25=some [Value.int .i64 0,Value.int .i64 0,Value.slice none 0 0] ∧ Bz Try.prog 25 0=some (3,0) ∧ Bz Try.prog 25 1=some (3,1) ∧ Bz Try.prog 25 2=some (23,2) ∧ Ck Try.prog 25=some (.st [(0,1),(1,1),(2,1)]) ∧ tkB Try.prog 27=some .other ∧ B2 Try.prog 27=1 ∧ Bq Try.prog 27=false ∧ Br Try.prog 27=false ∧ B1 Try.prog 27=true ∧ Cb Try.prog 27=true ∧ Program.bytesOf Try.prog 27=8:=⟨ty80,ty81,ty82,ty83,ty84,ty85,ty86,ty87,ty88,ty89,ty90,ty91,ty92,ty93,ty94,ty95,ty96,ty97,ty98,ty99,ty100,ty101,ty102,ty103,ty104,ty105,ty106,ty107,ty108,ty109,ty110,ty111,ty112,ty113,ty114,ty115,ty116,ty117,ty118,ty119⟩
theorem tyb3:Bw Try.prog 27=none ∧ tkB Try.prog 28=some (.int .i64) ∧ B2 Try.prog 28=1 ∧ Bq Try.prog 28=false ∧ Br Try.prog 28=false ∧ B1 Try.prog 28=true ∧ Cb Try.prog 28=true ∧ Program.bytesOf Try.prog 28=8 ∧ Bw Try.prog 28=none ∧ B6 Try.prog 28=some [Value.int .i64 0] ∧ tkB Try.prog 49=some (.sl 3) ∧ B2 Try.prog 49=1 ∧ Bq Try.prog 49=false ∧ Br Try.prog 49=false ∧ B1 Try.prog 49=true ∧ Cb Try.prog 49=true ∧ Program.bytesOf Try.prog 49=24 ∧ Bw Try.prog 49=some 3 ∧ B6 Try.prog 49=some [Value.slice none 0 0] ∧ tkB Try.prog 62=some (.sl 23) ∧ B2 Try.prog 62=1 ∧ Bq Try.prog 62=false ∧ Br Try.prog 62=false ∧ B1 Try.prog 62=true ∧ Cb Try.prog 62=true ∧ Program.bytesOf Try.prog 62=24 ∧ Bw Try.prog 62=some 23 ∧ B6 Try.prog 62=some [Value.slice none 0 0] ∧ tkB Try.prog 63=some .other ∧ B2 Try.prog 63=4 ∧ Bq Try.prog 63=true ∧ Br Try.prog 63=false ∧ B1 Try.prog 63=true ∧ Cb Try.prog 63=true ∧ Program.bytesOf Try.prog 63=96 ∧ Bw Try.prog 63=none ∧ B6 Try.prog 63=some [Value.slice none 0 0,Value.slice none 0 0,Value.slice none 0 0,Value.slice none 0 0] ∧ Bz Try.prog 63 0=some (49,0) ∧ Bz Try.prog 63 1=some (49,1) ∧ Bz Try.prog 63 2=some (62,2):=⟨ty120,ty121,ty122,ty123,ty124,ty125,ty126,ty127,ty128,ty129,ty130,ty131,ty132,ty133,ty134,ty135,ty136,ty137,ty138,ty139,ty140,ty141,ty142,ty143,ty144,ty145,ty146,ty147,ty148,ty149,ty150,ty151,ty152,ty153,ty154,ty155,ty156,ty157,ty158,ty159⟩
theorem tyb4:Bz Try.prog 63 3=some (62,3) ∧ Ck Try.prog 63=some (.st [(0,1),(1,1),(2,1),(3,1)]) ∧ tkB Try.prog 64=some .other ∧ B2 Try.prog 64=4 ∧ Bq Try.prog 64=true ∧ Br Try.prog 64=false ∧ B1 Try.prog 64=true ∧ Cb Try.prog 64=true ∧ Program.bytesOf Try.prog 64=96 ∧ Bw Try.prog 64=none ∧ B6 Try.prog 64=some [Value.slice none 0 0,Value.slice none 0 0,Value.slice none 0 0,Value.slice none 0 0] ∧ Bz Try.prog 64 0=some (49,0) ∧ Bz Try.prog 64 1=some (49,1) ∧ Bz Try.prog 64 2=some (62,2) ∧ Bz Try.prog 64 3=some (62,3) ∧ Ck Try.prog 64=some (.st [(0,1),(1,1),(2,1),(3,1)]) ∧ tkB Try.prog 75=some .other ∧ B2 Try.prog 75=9 ∧ Bq Try.prog 75=true ∧ Br Try.prog 75=false ∧ B1 Try.prog 75=true ∧ Cb Try.prog 75=true ∧ Program.bytesOf Try.prog 75=168 ∧ Bw Try.prog 75=none ∧ B6 Try.prog 75=some [Value.slice none 0 0,Value.slice none 0 0,Value.slice none 0 0,Value.slice none 0 0,Value.int .u64 0,Value.int .i64 0,Value.int .i64 0,Value.slice none 0 0,Value.slice none 0 0] ∧ Bz Try.prog 75 0=some (64,0) ∧ Bz Try.prog 75 1=some (22,4) ∧ Bz Try.prog 75 2=some (25,5) ∧ Bz Try.prog 75 3=some (23,8) ∧ Ck Try.prog 75=some (.st [(0,4),(4,1),(5,3),(8,1)]) ∧ tkB Try.prog 76=some .other ∧ B2 Try.prog 76=9 ∧ Bq Try.prog 76=true ∧ Br Try.prog 76=false ∧ B1 Try.prog 76=true ∧ Cb Try.prog 76=true ∧ Program.bytesOf Try.prog 76=168 ∧ Bw Try.prog 76=none ∧ B6 Try.prog 76=some [Value.slice none 0 0,Value.slice none 0 0,Value.slice none 0 0,Value.slice none 0 0,Value.int .u64 0,Value.int .i64 0,Value.int .i64 0,Value.slice none 0 0,Value.slice none 0 0] ∧ Bz Try.prog 76 0=some (64,0):=⟨ty160,ty161,ty162,ty163,ty164,ty165,ty166,ty167,ty168,ty169,ty170,ty171,ty172,ty173,ty174,ty175,ty176,ty177,ty178,ty179,ty180,ty181,ty182,ty183,ty184,ty185,ty186,ty187,ty188,ty189,ty190,ty191,ty192,ty193,ty194,ty195,ty196,ty197,ty198,ty199⟩
theorem tyb5:Bz Try.prog 76 1=some (22,4) ∧ Bz Try.prog 76 2=some (25,5) ∧ Bz Try.prog 76 3=some (23,8) ∧ Ck Try.prog 76=some (.st [(0,4),(4,1),(5,3),(8,1)]) ∧ tkB Try.prog 82=some .other ∧ B2 Try.prog 82=1 ∧ Bq Try.prog 82=false ∧ Br Try.prog 82=false ∧ B1 Try.prog 82=true ∧ Cb Try.prog 82=true ∧ Program.bytesOf Try.prog 82=8 ∧ Bw Try.prog 82=none ∧ tkB Try.prog 91=some .other ∧ B2 Try.prog 91=1 ∧ Bq Try.prog 91=false ∧ Br Try.prog 91=false ∧ B1 Try.prog 91=true ∧ Cb Try.prog 91=true ∧ Program.bytesOf Try.prog 91=8 ∧ Bw Try.prog 91=none ∧ tkB Try.prog 94=some .other ∧ B2 Try.prog 94=1 ∧ Bq Try.prog 94=false ∧ Br Try.prog 94=false ∧ B1 Try.prog 94=true ∧ Cb Try.prog 94=true ∧ Program.bytesOf Try.prog 94=8 ∧ Bw Try.prog 94=none ∧ tkB Try.prog 99=some .other ∧ B2 Try.prog 99=1 ∧ Bq Try.prog 99=false ∧ Br Try.prog 99=false ∧ B1 Try.prog 99=true ∧ Cb Try.prog 99=true ∧ Program.bytesOf Try.prog 99=8 ∧ Bw Try.prog 99=none ∧ tkB Try.prog 100=some .other ∧ B2 Try.prog 100=6 ∧ Bq Try.prog 100=true ∧ Br Try.prog 100=false:=⟨ty200,ty201,ty202,ty203,ty204,ty205,ty206,ty207,ty208,ty209,ty210,ty211,ty212,ty213,ty214,ty215,ty216,ty217,ty218,ty219,ty220,ty221,ty222,ty223,ty224,ty225,ty226,ty227,ty228,ty229,ty230,ty231,ty232,ty233,ty234,ty235,ty236,ty237,ty238,ty239⟩
theorem tyb6:B1 Try.prog 100=true ∧ Cb Try.prog 100=true ∧ Program.bytesOf Try.prog 100=128 ∧ Bw Try.prog 100=none ∧ B6 Try.prog 100=some [Value.slice none 0 0,Value.slice none 0 0,Value.slice none 0 0,Value.slice none 0 0,Value.int .u64 0,Value.slice none 0 0] ∧ Bz Try.prog 100 0=some (64,0) ∧ Bz Try.prog 100 1=some (22,4) ∧ Bz Try.prog 100 2=some (23,5) ∧ Ck Try.prog 100=some (.st [(0,4),(4,1),(5,1)]) ∧ tkB Try.prog 101=some .other ∧ B2 Try.prog 101=6 ∧ Bq Try.prog 101=true ∧ Br Try.prog 101=false ∧ B1 Try.prog 101=true ∧ Cb Try.prog 101=true ∧ Program.bytesOf Try.prog 101=128 ∧ Bw Try.prog 101=none ∧ B6 Try.prog 101=some [Value.slice none 0 0,Value.slice none 0 0,Value.slice none 0 0,Value.slice none 0 0,Value.int .u64 0,Value.slice none 0 0] ∧ Bz Try.prog 101 0=some (64,0) ∧ Bz Try.prog 101 1=some (22,4) ∧ Bz Try.prog 101 2=some (23,5) ∧ Ck Try.prog 101=some (.st [(0,4),(4,1),(5,1)]) ∧ tkB Try.prog 109=some .other ∧ B2 Try.prog 109=1 ∧ Bq Try.prog 109=false ∧ Br Try.prog 109=false ∧ B1 Try.prog 109=true ∧ Cb Try.prog 109=true ∧ Program.bytesOf Try.prog 109=8 ∧ Bw Try.prog 109=none ∧ tkB Try.prog 110=some .other ∧ B2 Try.prog 110=1 ∧ Bq Try.prog 110=false ∧ Br Try.prog 110=false ∧ B1 Try.prog 110=true ∧ Cb Try.prog 110=true ∧ Program.bytesOf Try.prog 110=8 ∧ Bw Try.prog 110=none ∧ tkB Try.prog 114=some (.sl 49) ∧ B2 Try.prog 114=1:=⟨ty240,ty241,ty242,ty243,ty244,ty245,ty246,ty247,ty248,ty249,ty250,ty251,ty252,ty253,ty254,ty255,ty256,ty257,ty258,ty259,ty260,ty261,ty262,ty263,ty264,ty265,ty266,ty267,ty268,ty269,ty270,ty271,ty272,ty273,ty274,ty275,ty276,ty277,ty278,ty279⟩
theorem tyb7:Bq Try.prog 114=false ∧ Br Try.prog 114=false ∧ B1 Try.prog 114=true ∧ Cb Try.prog 114=true ∧ Program.bytesOf Try.prog 114=24 ∧ Bw Try.prog 114=some 49 ∧ B6 Try.prog 114=some [Value.slice none 0 0] ∧ tkB Try.prog 115=some (.sl 3) ∧ B2 Try.prog 115=1 ∧ Bq Try.prog 115=false ∧ Br Try.prog 115=false ∧ B1 Try.prog 115=true ∧ Cb Try.prog 115=true ∧ Program.bytesOf Try.prog 115=24 ∧ Bw Try.prog 115=some 3 ∧ B6 Try.prog 115=some [Value.slice none 0 0] ∧ tkB Try.prog 127=some (.int .u64) ∧ B2 Try.prog 127=1 ∧ Bq Try.prog 127=false ∧ Br Try.prog 127=false ∧ B1 Try.prog 127=true ∧ Cb Try.prog 127=true ∧ Program.bytesOf Try.prog 127=8 ∧ Bw Try.prog 127=none ∧ B6 Try.prog 127=some [Value.int .u64 0] ∧ tkB Try.prog 131=some .other ∧ B2 Try.prog 131=1 ∧ Bq Try.prog 131=false ∧ Br Try.prog 131=false ∧ B1 Try.prog 131=true ∧ Cb Try.prog 131=true ∧ Program.bytesOf Try.prog 131=8 ∧ Bw Try.prog 131=none ∧ Vo Try.prog 131=some (.i64,4) ∧ tkB Try.prog 135=some (.int .i64) ∧ B2 Try.prog 135=1 ∧ Bq Try.prog 135=false ∧ Br Try.prog 135=false ∧ B1 Try.prog 135=true ∧ Cb Try.prog 135=true:=⟨ty280,ty281,ty282,ty283,ty284,ty285,ty286,ty287,ty288,ty289,ty290,ty291,ty292,ty293,ty294,ty295,ty296,ty297,ty298,ty299,ty300,ty301,ty302,ty303,ty304,ty305,ty306,ty307,ty308,ty309,ty310,ty311,ty312,ty313,ty314,ty315,ty316,ty317,ty318,ty319⟩
theorem tyb8:Program.bytesOf Try.prog 135=8 ∧ Bw Try.prog 135=none ∧ B6 Try.prog 135=some [Value.int .i64 0] ∧ tkB Try.prog 144=some (.int .u32) ∧ B2 Try.prog 144=1 ∧ Bq Try.prog 144=false ∧ Br Try.prog 144=false ∧ B1 Try.prog 144=true ∧ Cb Try.prog 144=true ∧ Program.bytesOf Try.prog 144=4 ∧ Bw Try.prog 144=none ∧ B6 Try.prog 144=some [Value.int .u32 0] ∧ tkB Try.prog 147=some (.arr 64 4) ∧ B2 Try.prog 147=64 ∧ Bq Try.prog 147=true ∧ Br Try.prog 147=true ∧ B1 Try.prog 147=true ∧ Cb Try.prog 147=true ∧ Program.bytesOf Try.prog 147=64 ∧ Bw Try.prog 147=none ∧ B6 Try.prog 147=some [Value.bool false,Value.bool false,Value.bool false,Value.bool false,Value.bool false,Value.bool false,Value.bool false,Value.bool false,Value.bool false,Value.bool false,Value.bool false,Value.bool false,Value.bool false,Value.bool false,Value.bool false,Value.bool false,Value.bool false,Value.bool false,Value.bool false,Value.bool false,Value.bool false,Value.bool false,Value.bool false,Value.bool false,Value.bool false,Value.bool false,Value.bool false,Value.bool false,Value.bool false,Value.bool false,Value.bool false,Value.bool false,Value.bool false,Value.bool false,Value.bool false,Value.bool false,Value.bool false,Value.bool false,Value.bool false,Value.bool false,Value.bool false,Value.bool false,Value.bool false,Value.bool false,Value.bool false,Value.bool false,Value.bool false,Value.bool false,Value.bool false,Value.bool false,Value.bool false,Value.bool false,Value.bool false,Value.bool false,Value.bool false,Value.bool false,Value.bool false,Value.bool false,Value.bool false,Value.bool false,Value.bool false,Value.bool false,Value.bool false,Value.bool false] ∧ tkB Try.prog 148=some .other ∧ B2 Try.prog 148=1 ∧ Bq Try.prog 148=false ∧ Br Try.prog 148=false ∧ B1 Try.prog 148=true ∧ Cb Try.prog 148=true ∧ Program.bytesOf Try.prog 148=16 ∧ Bw Try.prog 148=none ∧ tkB Try.prog 149=some .other ∧ B2 Try.prog 149=1 ∧ Bq Try.prog 149=false ∧ Br Try.prog 149=false ∧ B1 Try.prog 149=true ∧ Cb Try.prog 149=true ∧ Program.bytesOf Try.prog 149=16 ∧ Bw Try.prog 149=none ∧ tkB Try.prog 150=some (.int .u64) ∧ B2 Try.prog 150=1 ∧ Bq Try.prog 150=false:=⟨ty320,ty321,ty322,ty323,ty324,ty325,ty326,ty327,ty328,ty329,ty330,ty331,ty332,ty333,ty334,ty335,ty336,ty337,ty338,ty339,ty340,ty341,ty342,ty343,ty344,ty345,ty346,ty347,ty348,ty349,ty350,ty351,ty352,ty353,ty354,ty355,ty356,ty357,ty358,ty359⟩
theorem tyb9:Br Try.prog 150=false ∧ B1 Try.prog 150=true ∧ Cb Try.prog 150=true ∧ Program.bytesOf Try.prog 150=8 ∧ Bw Try.prog 150=none ∧ B6 Try.prog 150=some [Value.int .u64 0] ∧ tkB Try.prog 154=some .other ∧ B2 Try.prog 154=1 ∧ Bq Try.prog 154=false ∧ Br Try.prog 154=false ∧ B1 Try.prog 154=true ∧ Cb Try.prog 154=true ∧ Program.bytesOf Try.prog 154=8 ∧ Bw Try.prog 154=none ∧ tkB Try.prog 157=some .other ∧ B2 Try.prog 157=1 ∧ Bq Try.prog 157=false ∧ Br Try.prog 157=false ∧ B1 Try.prog 157=true ∧ Cb Try.prog 157=true ∧ Program.bytesOf Try.prog 157=8 ∧ Bw Try.prog 157=none ∧ A7 Try.prog 2=true ∧ A7 Try.prog 3=true ∧ A7 Try.prog 4=true ∧ A7 Try.prog 5=true ∧ A7 Try.prog 6=true ∧ A7 Try.prog 7=true ∧ A7 Try.prog 8=true ∧ A7 Try.prog 9=true ∧ A7 Try.prog 10=true ∧ A7 Try.prog 11=true ∧ A7 Try.prog 12=true ∧ A7 Try.prog 13=true ∧ A7 Try.prog 14=true ∧ A7 Try.prog 15=true ∧ A7 Try.prog 16=true ∧ A7 Try.prog 17=true ∧ A7 Try.prog 18=true ∧ A7 Try.prog 19=true:=⟨ty360,ty361,ty362,ty363,ty364,ty365,ty366,ty367,ty368,ty369,ty370,ty371,ty372,ty373,ty374,ty375,ty376,ty377,ty378,ty379,ty380,ty381,ty382,ty383,ty384,ty385,ty386,ty387,ty388,ty389,ty390,ty391,ty392,ty393,ty394,ty395,ty396,ty397,ty398,ty399⟩
theorem tyb10:A7 Try.prog 20=true ∧ A7 Try.prog 21=true ∧ A7 Try.prog 22=true ∧ A7 Try.prog 23=true ∧ A7 Try.prog 24=true ∧ A7 Try.prog 25=true ∧ A7 Try.prog 26=true ∧ A7 Try.prog 27=true ∧ A7 Try.prog 28=true ∧ A7 Try.prog 29=true ∧ A7 Try.prog 30=true ∧ A7 Try.prog 31=true ∧ A7 Try.prog 32=true ∧ A7 Try.prog 33=true ∧ A7 Try.prog 34=true ∧ A7 Try.prog 35=true ∧ A7 Try.prog 36=true ∧ A7 Try.prog 37=true ∧ A7 Try.prog 38=true ∧ A7 Try.prog 39=true ∧ A7 Try.prog 40=true ∧ A7 Try.prog 41=true ∧ A7 Try.prog 42=true ∧ A7 Try.prog 43=true ∧ A7 Try.prog 44=true ∧ A7 Try.prog 45=true ∧ A7 Try.prog 46=true ∧ A7 Try.prog 47=true ∧ A7 Try.prog 48=true ∧ A7 Try.prog 49=true ∧ A7 Try.prog 50=true ∧ A7 Try.prog 51=true ∧ A7 Try.prog 52=true ∧ A7 Try.prog 53=true ∧ A7 Try.prog 54=true ∧ A7 Try.prog 55=true ∧ A7 Try.prog 56=true ∧ A7 Try.prog 57=true ∧ A7 Try.prog 58=true ∧ A7 Try.prog 59=true:=⟨ty400,ty401,ty402,ty403,ty404,ty405,ty406,ty407,ty408,ty409,ty410,ty411,ty412,ty413,ty414,ty415,ty416,ty417,ty418,ty419,ty420,ty421,ty422,ty423,ty424,ty425,ty426,ty427,ty428,ty429,ty430,ty431,ty432,ty433,ty434,ty435,ty436,ty437,ty438,ty439⟩
theorem tyb11:A7 Try.prog 60=true ∧ A7 Try.prog 61=true ∧ A7 Try.prog 62=true ∧ A7 Try.prog 63=true ∧ A7 Try.prog 64=true ∧ A7 Try.prog 65=true ∧ A7 Try.prog 66=true ∧ A7 Try.prog 67=true ∧ A7 Try.prog 68=true ∧ A7 Try.prog 69=true ∧ A7 Try.prog 70=true ∧ A7 Try.prog 71=true ∧ A7 Try.prog 72=true ∧ A7 Try.prog 73=true ∧ A7 Try.prog 74=true ∧ A7 Try.prog 75=true ∧ A7 Try.prog 76=true ∧ A7 Try.prog 77=true ∧ A7 Try.prog 78=true ∧ A7 Try.prog 79=true ∧ A7 Try.prog 80=true ∧ A7 Try.prog 81=true ∧ A7 Try.prog 82=true ∧ A7 Try.prog 83=true ∧ A7 Try.prog 84=true ∧ A7 Try.prog 85=true ∧ A7 Try.prog 86=true ∧ A7 Try.prog 87=true ∧ A7 Try.prog 88=true ∧ A7 Try.prog 89=true ∧ A7 Try.prog 90=true ∧ A7 Try.prog 91=true ∧ A7 Try.prog 92=true ∧ A7 Try.prog 93=true ∧ A7 Try.prog 94=true ∧ A7 Try.prog 95=true ∧ A7 Try.prog 96=true ∧ A7 Try.prog 97=true ∧ A7 Try.prog 98=true ∧ A7 Try.prog 99=true:=⟨ty440,ty441,ty442,ty443,ty444,ty445,ty446,ty447,ty448,ty449,ty450,ty451,ty452,ty453,ty454,ty455,ty456,ty457,ty458,ty459,ty460,ty461,ty462,ty463,ty464,ty465,ty466,ty467,ty468,ty469,ty470,ty471,ty472,ty473,ty474,ty475,ty476,ty477,ty478,ty479⟩
theorem tyb12:A7 Try.prog 100=true ∧ A7 Try.prog 101=true ∧ A7 Try.prog 102=true ∧ A7 Try.prog 103=true ∧ A7 Try.prog 104=true ∧ A7 Try.prog 105=true ∧ A7 Try.prog 106=true ∧ A7 Try.prog 107=true ∧ A7 Try.prog 108=true ∧ A7 Try.prog 109=true ∧ A7 Try.prog 110=true ∧ A7 Try.prog 111=true ∧ A7 Try.prog 112=true ∧ A7 Try.prog 113=true ∧ A7 Try.prog 114=true ∧ A7 Try.prog 115=true ∧ A7 Try.prog 116=true ∧ A7 Try.prog 117=true ∧ A7 Try.prog 118=true ∧ A7 Try.prog 119=true ∧ A7 Try.prog 120=true ∧ A7 Try.prog 121=true ∧ A7 Try.prog 122=true ∧ A7 Try.prog 123=true ∧ A7 Try.prog 124=true ∧ A7 Try.prog 125=true ∧ A7 Try.prog 126=true ∧ A7 Try.prog 127=true ∧ A7 Try.prog 128=true ∧ A7 Try.prog 129=true ∧ A7 Try.prog 130=true ∧ A7 Try.prog 131=true ∧ A7 Try.prog 132=true ∧ A7 Try.prog 133=true ∧ A7 Try.prog 134=true ∧ A7 Try.prog 135=true ∧ A7 Try.prog 136=true ∧ A7 Try.prog 137=true ∧ A7 Try.prog 138=true ∧ A7 Try.prog 139=true:=⟨ty480,ty481,ty482,ty483,ty484,ty485,ty486,ty487,ty488,ty489,ty490,ty491,ty492,ty493,ty494,ty495,ty496,ty497,ty498,ty499,ty500,ty501,ty502,ty503,ty504,ty505,ty506,ty507,ty508,ty509,ty510,ty511,ty512,ty513,ty514,ty515,ty516,ty517,ty518,ty519⟩
theorem tyb13:A7 Try.prog 140=true ∧ A7 Try.prog 141=true:=⟨ty520,ty521⟩
theorem tys:(tkB Try.prog 2=some (.int .i64) ∧ B2 Try.prog 2=1 ∧ Bq Try.prog 2=false ∧ Br Try.prog 2=false ∧ B1 Try.prog 2=true ∧ Cb Try.prog 2=true ∧ Program.bytesOf Try.prog 2=8 ∧ Bw Try.prog 2=none ∧ B6 Try.prog 2=some [Value.int .i64 0] ∧ tkB Try.prog 3=some (.int .i64) ∧ B2 Try.prog 3=1 ∧ Bq Try.prog 3=false ∧ Br Try.prog 3=false ∧ B1 Try.prog 3=true ∧ Cb Try.prog 3=true ∧ Program.bytesOf Try.prog 3=8 ∧ Bw Try.prog 3=none ∧ B6 Try.prog 3=some [Value.int .i64 0] ∧ tkB Try.prog 4=some .bool ∧ B2 Try.prog 4=1 ∧ Bq Try.prog 4=false ∧ Br Try.prog 4=false ∧ B1 Try.prog 4=true ∧ Cb Try.prog 4=true ∧ Program.bytesOf Try.prog 4=1 ∧ Bw Try.prog 4=none ∧ B6 Try.prog 4=some [Value.bool false] ∧ Mo Try.prog 4=some (Value.bool false) ∧ tkB Try.prog 5=some (.int .u8) ∧ B2 Try.prog 5=1 ∧ Bq Try.prog 5=false ∧ Br Try.prog 5=false ∧ B1 Try.prog 5=true ∧ Cb Try.prog 5=true ∧ Program.bytesOf Try.prog 5=1 ∧ Bw Try.prog 5=none ∧ B6 Try.prog 5=some [Value.int .u8 0] ∧ tkB Try.prog 6=some (.int .u8) ∧ B2 Try.prog 6=1 ∧ Bq Try.prog 6=false) ∧ (Br Try.prog 6=false ∧ B1 Try.prog 6=true ∧ Cb Try.prog 6=true ∧ Program.bytesOf Try.prog 6=1 ∧ Bw Try.prog 6=none ∧ B6 Try.prog 6=some [Value.int .u8 0] ∧ tkB Try.prog 7=some .other ∧ B2 Try.prog 7=4 ∧ Bq Try.prog 7=true ∧ Br Try.prog 7=false ∧ B1 Try.prog 7=true ∧ Cb Try.prog 7=true ∧ Program.bytesOf Try.prog 7=24 ∧ Bw Try.prog 7=none ∧ B6 Try.prog 7=some [Value.int .i64 0,Value.int .i64 0,Value.bool false,Value.int .u8 0] ∧ Bz Try.prog 7 0=some (2,0) ∧ Bz Try.prog 7 1=some (3,1) ∧ Bz Try.prog 7 2=some (4,2) ∧ Bz Try.prog 7 3=some (6,3) ∧ Ck Try.prog 7=some (.st [(0,1),(1,1),(2,1),(3,1)]) ∧ tkB Try.prog 9=some .str ∧ B2 Try.prog 9=1 ∧ Bq Try.prog 9=false ∧ Br Try.prog 9=false ∧ B1 Try.prog 9=true ∧ Cb Try.prog 9=true ∧ Program.bytesOf Try.prog 9=16 ∧ Bw Try.prog 9=none ∧ B6 Try.prog 9=some [Value.string ByteArray.empty] ∧ tkB Try.prog 22=some (.int .u64) ∧ B2 Try.prog 22=1 ∧ Bq Try.prog 22=false ∧ Br Try.prog 22=false ∧ B1 Try.prog 22=true ∧ Cb Try.prog 22=true ∧ Program.bytesOf Try.prog 22=8 ∧ Bw Try.prog 22=none ∧ B6 Try.prog 22=some [Value.int .u64 0] ∧ tkB Try.prog 23=some (.sl 22) ∧ B2 Try.prog 23=1) ∧ (Bq Try.prog 23=false ∧ Br Try.prog 23=false ∧ B1 Try.prog 23=true ∧ Cb Try.prog 23=true ∧ Program.bytesOf Try.prog 23=24 ∧ Bw Try.prog 23=some 22 ∧ B6 Try.prog 23=some [Value.slice none 0 0] ∧ tkB Try.prog 24=some .other ∧ B2 Try.prog 24=3 ∧ Bq Try.prog 24=true ∧ Br Try.prog 24=false ∧ B1 Try.prog 24=true ∧ Cb Try.prog 24=true ∧ Program.bytesOf Try.prog 24=40 ∧ Bw Try.prog 24=none ∧ B6 Try.prog 24=some [Value.int .i64 0,Value.int .i64 0,Value.slice none 0 0] ∧ Bz Try.prog 24 0=some (3,0) ∧ Bz Try.prog 24 1=some (3,1) ∧ Bz Try.prog 24 2=some (23,2) ∧ Ck Try.prog 24=some (.st [(0,1),(1,1),(2,1)]) ∧ tkB Try.prog 25=some .other ∧ B2 Try.prog 25=3 ∧ Bq Try.prog 25=true ∧ Br Try.prog 25=false ∧ B1 Try.prog 25=true ∧ Cb Try.prog 25=true ∧ Program.bytesOf Try.prog 25=40 ∧ Bw Try.prog 25=none ∧ B6 Try.prog 25=some [Value.int .i64 0,Value.int .i64 0,Value.slice none 0 0] ∧ Bz Try.prog 25 0=some (3,0) ∧ Bz Try.prog 25 1=some (3,1) ∧ Bz Try.prog 25 2=some (23,2) ∧ Ck Try.prog 25=some (.st [(0,1),(1,1),(2,1)]) ∧ tkB Try.prog 27=some .other ∧ B2 Try.prog 27=1 ∧ Bq Try.prog 27=false ∧ Br Try.prog 27=false ∧ B1 Try.prog 27=true ∧ Cb Try.prog 27=true ∧ Program.bytesOf Try.prog 27=8) ∧ (Bw Try.prog 27=none ∧ tkB Try.prog 28=some (.int .i64) ∧ B2 Try.prog 28=1 ∧ Bq Try.prog 28=false ∧ Br Try.prog 28=false ∧ B1 Try.prog 28=true ∧ Cb Try.prog 28=true ∧ Program.bytesOf Try.prog 28=8 ∧ Bw Try.prog 28=none ∧ B6 Try.prog 28=some [Value.int .i64 0] ∧ tkB Try.prog 49=some (.sl 3) ∧ B2 Try.prog 49=1 ∧ Bq Try.prog 49=false ∧ Br Try.prog 49=false ∧ B1 Try.prog 49=true ∧ Cb Try.prog 49=true ∧ Program.bytesOf Try.prog 49=24 ∧ Bw Try.prog 49=some 3 ∧ B6 Try.prog 49=some [Value.slice none 0 0] ∧ tkB Try.prog 62=some (.sl 23) ∧ B2 Try.prog 62=1 ∧ Bq Try.prog 62=false ∧ Br Try.prog 62=false ∧ B1 Try.prog 62=true ∧ Cb Try.prog 62=true ∧ Program.bytesOf Try.prog 62=24 ∧ Bw Try.prog 62=some 23 ∧ B6 Try.prog 62=some [Value.slice none 0 0] ∧ tkB Try.prog 63=some .other ∧ B2 Try.prog 63=4 ∧ Bq Try.prog 63=true ∧ Br Try.prog 63=false ∧ B1 Try.prog 63=true ∧ Cb Try.prog 63=true ∧ Program.bytesOf Try.prog 63=96 ∧ Bw Try.prog 63=none ∧ B6 Try.prog 63=some [Value.slice none 0 0,Value.slice none 0 0,Value.slice none 0 0,Value.slice none 0 0] ∧ Bz Try.prog 63 0=some (49,0) ∧ Bz Try.prog 63 1=some (49,1) ∧ Bz Try.prog 63 2=some (62,2)) ∧ (Bz Try.prog 63 3=some (62,3) ∧ Ck Try.prog 63=some (.st [(0,1),(1,1),(2,1),(3,1)]) ∧ tkB Try.prog 64=some .other ∧ B2 Try.prog 64=4 ∧ Bq Try.prog 64=true ∧ Br Try.prog 64=false ∧ B1 Try.prog 64=true ∧ Cb Try.prog 64=true ∧ Program.bytesOf Try.prog 64=96 ∧ Bw Try.prog 64=none ∧ B6 Try.prog 64=some [Value.slice none 0 0,Value.slice none 0 0,Value.slice none 0 0,Value.slice none 0 0] ∧ Bz Try.prog 64 0=some (49,0) ∧ Bz Try.prog 64 1=some (49,1) ∧ Bz Try.prog 64 2=some (62,2) ∧ Bz Try.prog 64 3=some (62,3) ∧ Ck Try.prog 64=some (.st [(0,1),(1,1),(2,1),(3,1)]) ∧ tkB Try.prog 75=some .other ∧ B2 Try.prog 75=9 ∧ Bq Try.prog 75=true ∧ Br Try.prog 75=false ∧ B1 Try.prog 75=true ∧ Cb Try.prog 75=true ∧ Program.bytesOf Try.prog 75=168 ∧ Bw Try.prog 75=none ∧ B6 Try.prog 75=some [Value.slice none 0 0,Value.slice none 0 0,Value.slice none 0 0,Value.slice none 0 0,Value.int .u64 0,Value.int .i64 0,Value.int .i64 0,Value.slice none 0 0,Value.slice none 0 0] ∧ Bz Try.prog 75 0=some (64,0) ∧ Bz Try.prog 75 1=some (22,4) ∧ Bz Try.prog 75 2=some (25,5) ∧ Bz Try.prog 75 3=some (23,8) ∧ Ck Try.prog 75=some (.st [(0,4),(4,1),(5,3),(8,1)]) ∧ tkB Try.prog 76=some .other ∧ B2 Try.prog 76=9 ∧ Bq Try.prog 76=true ∧ Br Try.prog 76=false ∧ B1 Try.prog 76=true ∧ Cb Try.prog 76=true ∧ Program.bytesOf Try.prog 76=168 ∧ Bw Try.prog 76=none ∧ B6 Try.prog 76=some [Value.slice none 0 0,Value.slice none 0 0,Value.slice none 0 0,Value.slice none 0 0,Value.int .u64 0,Value.int .i64 0,Value.int .i64 0,Value.slice none 0 0,Value.slice none 0 0] ∧ Bz Try.prog 76 0=some (64,0)) ∧ (Bz Try.prog 76 1=some (22,4) ∧ Bz Try.prog 76 2=some (25,5) ∧ Bz Try.prog 76 3=some (23,8) ∧ Ck Try.prog 76=some (.st [(0,4),(4,1),(5,3),(8,1)]) ∧ tkB Try.prog 82=some .other ∧ B2 Try.prog 82=1 ∧ Bq Try.prog 82=false ∧ Br Try.prog 82=false ∧ B1 Try.prog 82=true ∧ Cb Try.prog 82=true ∧ Program.bytesOf Try.prog 82=8 ∧ Bw Try.prog 82=none ∧ tkB Try.prog 91=some .other ∧ B2 Try.prog 91=1 ∧ Bq Try.prog 91=false ∧ Br Try.prog 91=false ∧ B1 Try.prog 91=true ∧ Cb Try.prog 91=true ∧ Program.bytesOf Try.prog 91=8 ∧ Bw Try.prog 91=none ∧ tkB Try.prog 94=some .other ∧ B2 Try.prog 94=1 ∧ Bq Try.prog 94=false ∧ Br Try.prog 94=false ∧ B1 Try.prog 94=true ∧ Cb Try.prog 94=true ∧ Program.bytesOf Try.prog 94=8 ∧ Bw Try.prog 94=none ∧ tkB Try.prog 99=some .other ∧ B2 Try.prog 99=1 ∧ Bq Try.prog 99=false ∧ Br Try.prog 99=false ∧ B1 Try.prog 99=true ∧ Cb Try.prog 99=true ∧ Program.bytesOf Try.prog 99=8 ∧ Bw Try.prog 99=none ∧ tkB Try.prog 100=some .other ∧ B2 Try.prog 100=6 ∧ Bq Try.prog 100=true ∧ Br Try.prog 100=false) ∧ (B1 Try.prog 100=true ∧ Cb Try.prog 100=true ∧ Program.bytesOf Try.prog 100=128 ∧ Bw Try.prog 100=none ∧ B6 Try.prog 100=some [Value.slice none 0 0,Value.slice none 0 0,Value.slice none 0 0,Value.slice none 0 0,Value.int .u64 0,Value.slice none 0 0] ∧ Bz Try.prog 100 0=some (64,0) ∧ Bz Try.prog 100 1=some (22,4) ∧ Bz Try.prog 100 2=some (23,5) ∧ Ck Try.prog 100=some (.st [(0,4),(4,1),(5,1)]) ∧ tkB Try.prog 101=some .other ∧ B2 Try.prog 101=6 ∧ Bq Try.prog 101=true ∧ Br Try.prog 101=false ∧ B1 Try.prog 101=true ∧ Cb Try.prog 101=true ∧ Program.bytesOf Try.prog 101=128 ∧ Bw Try.prog 101=none ∧ B6 Try.prog 101=some [Value.slice none 0 0,Value.slice none 0 0,Value.slice none 0 0,Value.slice none 0 0,Value.int .u64 0,Value.slice none 0 0] ∧ Bz Try.prog 101 0=some (64,0) ∧ Bz Try.prog 101 1=some (22,4) ∧ Bz Try.prog 101 2=some (23,5) ∧ Ck Try.prog 101=some (.st [(0,4),(4,1),(5,1)]) ∧ tkB Try.prog 109=some .other ∧ B2 Try.prog 109=1 ∧ Bq Try.prog 109=false ∧ Br Try.prog 109=false ∧ B1 Try.prog 109=true ∧ Cb Try.prog 109=true ∧ Program.bytesOf Try.prog 109=8 ∧ Bw Try.prog 109=none ∧ tkB Try.prog 110=some .other ∧ B2 Try.prog 110=1 ∧ Bq Try.prog 110=false ∧ Br Try.prog 110=false ∧ B1 Try.prog 110=true ∧ Cb Try.prog 110=true ∧ Program.bytesOf Try.prog 110=8 ∧ Bw Try.prog 110=none ∧ tkB Try.prog 114=some (.sl 49) ∧ B2 Try.prog 114=1) ∧ (Bq Try.prog 114=false ∧ Br Try.prog 114=false ∧ B1 Try.prog 114=true ∧ Cb Try.prog 114=true ∧ Program.bytesOf Try.prog 114=24 ∧ Bw Try.prog 114=some 49 ∧ B6 Try.prog 114=some [Value.slice none 0 0] ∧ tkB Try.prog 115=some (.sl 3) ∧ B2 Try.prog 115=1 ∧ Bq Try.prog 115=false ∧ Br Try.prog 115=false ∧ B1 Try.prog 115=true ∧ Cb Try.prog 115=true ∧ Program.bytesOf Try.prog 115=24 ∧ Bw Try.prog 115=some 3 ∧ B6 Try.prog 115=some [Value.slice none 0 0] ∧ tkB Try.prog 127=some (.int .u64) ∧ B2 Try.prog 127=1 ∧ Bq Try.prog 127=false ∧ Br Try.prog 127=false ∧ B1 Try.prog 127=true ∧ Cb Try.prog 127=true ∧ Program.bytesOf Try.prog 127=8 ∧ Bw Try.prog 127=none ∧ B6 Try.prog 127=some [Value.int .u64 0] ∧ tkB Try.prog 131=some .other ∧ B2 Try.prog 131=1 ∧ Bq Try.prog 131=false ∧ Br Try.prog 131=false ∧ B1 Try.prog 131=true ∧ Cb Try.prog 131=true ∧ Program.bytesOf Try.prog 131=8 ∧ Bw Try.prog 131=none ∧ Vo Try.prog 131=some (.i64,4) ∧ tkB Try.prog 135=some (.int .i64) ∧ B2 Try.prog 135=1 ∧ Bq Try.prog 135=false ∧ Br Try.prog 135=false ∧ B1 Try.prog 135=true ∧ Cb Try.prog 135=true) ∧ (Program.bytesOf Try.prog 135=8 ∧ Bw Try.prog 135=none ∧ B6 Try.prog 135=some [Value.int .i64 0] ∧ tkB Try.prog 144=some (.int .u32) ∧ B2 Try.prog 144=1 ∧ Bq Try.prog 144=false ∧ Br Try.prog 144=false ∧ B1 Try.prog 144=true ∧ Cb Try.prog 144=true ∧ Program.bytesOf Try.prog 144=4 ∧ Bw Try.prog 144=none ∧ B6 Try.prog 144=some [Value.int .u32 0] ∧ tkB Try.prog 147=some (.arr 64 4) ∧ B2 Try.prog 147=64 ∧ Bq Try.prog 147=true ∧ Br Try.prog 147=true ∧ B1 Try.prog 147=true ∧ Cb Try.prog 147=true ∧ Program.bytesOf Try.prog 147=64 ∧ Bw Try.prog 147=none ∧ B6 Try.prog 147=some [Value.bool false,Value.bool false,Value.bool false,Value.bool false,Value.bool false,Value.bool false,Value.bool false,Value.bool false,Value.bool false,Value.bool false,Value.bool false,Value.bool false,Value.bool false,Value.bool false,Value.bool false,Value.bool false,Value.bool false,Value.bool false,Value.bool false,Value.bool false,Value.bool false,Value.bool false,Value.bool false,Value.bool false,Value.bool false,Value.bool false,Value.bool false,Value.bool false,Value.bool false,Value.bool false,Value.bool false,Value.bool false,Value.bool false,Value.bool false,Value.bool false,Value.bool false,Value.bool false,Value.bool false,Value.bool false,Value.bool false,Value.bool false,Value.bool false,Value.bool false,Value.bool false,Value.bool false,Value.bool false,Value.bool false,Value.bool false,Value.bool false,Value.bool false,Value.bool false,Value.bool false,Value.bool false,Value.bool false,Value.bool false,Value.bool false,Value.bool false,Value.bool false,Value.bool false,Value.bool false,Value.bool false,Value.bool false,Value.bool false,Value.bool false] ∧ tkB Try.prog 148=some .other ∧ B2 Try.prog 148=1 ∧ Bq Try.prog 148=false ∧ Br Try.prog 148=false ∧ B1 Try.prog 148=true ∧ Cb Try.prog 148=true ∧ Program.bytesOf Try.prog 148=16 ∧ Bw Try.prog 148=none ∧ tkB Try.prog 149=some .other ∧ B2 Try.prog 149=1 ∧ Bq Try.prog 149=false ∧ Br Try.prog 149=false ∧ B1 Try.prog 149=true ∧ Cb Try.prog 149=true ∧ Program.bytesOf Try.prog 149=16 ∧ Bw Try.prog 149=none ∧ tkB Try.prog 150=some (.int .u64) ∧ B2 Try.prog 150=1 ∧ Bq Try.prog 150=false) ∧ (Br Try.prog 150=false ∧ B1 Try.prog 150=true ∧ Cb Try.prog 150=true ∧ Program.bytesOf Try.prog 150=8 ∧ Bw Try.prog 150=none ∧ B6 Try.prog 150=some [Value.int .u64 0] ∧ tkB Try.prog 154=some .other ∧ B2 Try.prog 154=1 ∧ Bq Try.prog 154=false ∧ Br Try.prog 154=false ∧ B1 Try.prog 154=true ∧ Cb Try.prog 154=true ∧ Program.bytesOf Try.prog 154=8 ∧ Bw Try.prog 154=none ∧ tkB Try.prog 157=some .other ∧ B2 Try.prog 157=1 ∧ Bq Try.prog 157=false ∧ Br Try.prog 157=false ∧ B1 Try.prog 157=true ∧ Cb Try.prog 157=true ∧ Program.bytesOf Try.prog 157=8 ∧ Bw Try.prog 157=none ∧ A7 Try.prog 2=true ∧ A7 Try.prog 3=true ∧ A7 Try.prog 4=true ∧ A7 Try.prog 5=true ∧ A7 Try.prog 6=true ∧ A7 Try.prog 7=true ∧ A7 Try.prog 8=true ∧ A7 Try.prog 9=true ∧ A7 Try.prog 10=true ∧ A7 Try.prog 11=true ∧ A7 Try.prog 12=true ∧ A7 Try.prog 13=true ∧ A7 Try.prog 14=true ∧ A7 Try.prog 15=true ∧ A7 Try.prog 16=true ∧ A7 Try.prog 17=true ∧ A7 Try.prog 18=true ∧ A7 Try.prog 19=true) ∧ (A7 Try.prog 20=true ∧ A7 Try.prog 21=true ∧ A7 Try.prog 22=true ∧ A7 Try.prog 23=true ∧ A7 Try.prog 24=true ∧ A7 Try.prog 25=true ∧ A7 Try.prog 26=true ∧ A7 Try.prog 27=true ∧ A7 Try.prog 28=true ∧ A7 Try.prog 29=true ∧ A7 Try.prog 30=true ∧ A7 Try.prog 31=true ∧ A7 Try.prog 32=true ∧ A7 Try.prog 33=true ∧ A7 Try.prog 34=true ∧ A7 Try.prog 35=true ∧ A7 Try.prog 36=true ∧ A7 Try.prog 37=true ∧ A7 Try.prog 38=true ∧ A7 Try.prog 39=true ∧ A7 Try.prog 40=true ∧ A7 Try.prog 41=true ∧ A7 Try.prog 42=true ∧ A7 Try.prog 43=true ∧ A7 Try.prog 44=true ∧ A7 Try.prog 45=true ∧ A7 Try.prog 46=true ∧ A7 Try.prog 47=true ∧ A7 Try.prog 48=true ∧ A7 Try.prog 49=true ∧ A7 Try.prog 50=true ∧ A7 Try.prog 51=true ∧ A7 Try.prog 52=true ∧ A7 Try.prog 53=true ∧ A7 Try.prog 54=true ∧ A7 Try.prog 55=true ∧ A7 Try.prog 56=true ∧ A7 Try.prog 57=true ∧ A7 Try.prog 58=true ∧ A7 Try.prog 59=true) ∧ (A7 Try.prog 60=true ∧ A7 Try.prog 61=true ∧ A7 Try.prog 62=true ∧ A7 Try.prog 63=true ∧ A7 Try.prog 64=true ∧ A7 Try.prog 65=true ∧ A7 Try.prog 66=true ∧ A7 Try.prog 67=true ∧ A7 Try.prog 68=true ∧ A7 Try.prog 69=true ∧ A7 Try.prog 70=true ∧ A7 Try.prog 71=true ∧ A7 Try.prog 72=true ∧ A7 Try.prog 73=true ∧ A7 Try.prog 74=true ∧ A7 Try.prog 75=true ∧ A7 Try.prog 76=true ∧ A7 Try.prog 77=true ∧ A7 Try.prog 78=true ∧ A7 Try.prog 79=true ∧ A7 Try.prog 80=true ∧ A7 Try.prog 81=true ∧ A7 Try.prog 82=true ∧ A7 Try.prog 83=true ∧ A7 Try.prog 84=true ∧ A7 Try.prog 85=true ∧ A7 Try.prog 86=true ∧ A7 Try.prog 87=true ∧ A7 Try.prog 88=true ∧ A7 Try.prog 89=true ∧ A7 Try.prog 90=true ∧ A7 Try.prog 91=true ∧ A7 Try.prog 92=true ∧ A7 Try.prog 93=true ∧ A7 Try.prog 94=true ∧ A7 Try.prog 95=true ∧ A7 Try.prog 96=true ∧ A7 Try.prog 97=true ∧ A7 Try.prog 98=true ∧ A7 Try.prog 99=true) ∧ (A7 Try.prog 100=true ∧ A7 Try.prog 101=true ∧ A7 Try.prog 102=true ∧ A7 Try.prog 103=true ∧ A7 Try.prog 104=true ∧ A7 Try.prog 105=true ∧ A7 Try.prog 106=true ∧ A7 Try.prog 107=true ∧ A7 Try.prog 108=true ∧ A7 Try.prog 109=true ∧ A7 Try.prog 110=true ∧ A7 Try.prog 111=true ∧ A7 Try.prog 112=true ∧ A7 Try.prog 113=true ∧ A7 Try.prog 114=true ∧ A7 Try.prog 115=true ∧ A7 Try.prog 116=true ∧ A7 Try.prog 117=true ∧ A7 Try.prog 118=true ∧ A7 Try.prog 119=true ∧ A7 Try.prog 120=true ∧ A7 Try.prog 121=true ∧ A7 Try.prog 122=true ∧ A7 Try.prog 123=true ∧ A7 Try.prog 124=true ∧ A7 Try.prog 125=true ∧ A7 Try.prog 126=true ∧ A7 Try.prog 127=true ∧ A7 Try.prog 128=true ∧ A7 Try.prog 129=true ∧ A7 Try.prog 130=true ∧ A7 Try.prog 131=true ∧ A7 Try.prog 132=true ∧ A7 Try.prog 133=true ∧ A7 Try.prog 134=true ∧ A7 Try.prog 135=true ∧ A7 Try.prog 136=true ∧ A7 Try.prog 137=true ∧ A7 Try.prog 138=true ∧ A7 Try.prog 139=true) ∧ (A7 Try.prog 140=true ∧ A7 Try.prog 141=true):=⟨tyb0,tyb1,tyb2,tyb3,tyb4,tyb5,tyb6,tyb7,tyb8,tyb9,tyb10,tyb11,tyb12,tyb13⟩
theorem mixed:Try.prog.follows .mixedOrders=true:=by kernel_rfl
end Go.Proofs.Ythnfphgjfpcpbaa.TM
namespace Go.Proofs.Ythnfphgjfpcpbaa.TM
open Go Go.RowKit
abbrev u64 (n:Int):PV:=.i (.v (.int .u64 n))
abbrev i64 (n:Int):PV:=.i (.v (.int .i64 n))
abbrev bl (b:Bool):PV:=.i (.v (.bool b))
abbrev iu (x:Int):IV:=.v (.int .u64 x)
abbrev ii (x:Int):IV:=.v (.int .i64 x)
abbrev lu (l:List Int):PV:=.i (.l l.length (l.map iu))
abbrev li (l:List Int):PV:=.i (.l l.length (l.map ii))
abbrev fnc (f:Nat):PV:=.i (.v (.func (.func f) #[] #[]))
abbrev Dk:PV:=.i (.v (.slice none 0 0))
theorem uw (n:Int):IntKind.u64.wrap n=n % 18446744073709551616:=by simp [IntKind.wrap,IntKind.bits,IntKind.signed]
theorem D6 {n:Int} (h0:0 ≤ n) (h1:n < 18446744073709551616):IntKind.u64.wrap n=n:=by rw [uw]; omega
theorem Fa {n:Int} (h0:-9223372036854775808 ≤ n) (h1:n < 9223372036854775808):IntKind.i64.wrap n=n:=by rw [IntKind.wrap_i64]; omega
theorem and32 {x:Int} (h0:0 ≤ x) (h1:x < 18446744073709551616):Go.bits .and .u64 x 4294967295=x % 4294967296 :=
  bits_mask .u64 64 (by decide) (fun n a b => D6 a b) 32 (by decide) x h0 h1
theorem Sv {a b:Int} (h:0 ≤ a):Int.tmod a b=a % b:=Int.tmod_eq_emod_of_nonneg h
theorem Sw {a b:Int} (h:0 ≤ a):Int.tdiv a b=a / b:=Int.tdiv_eq_ediv_of_nonneg h
def W64 (a:Int):Prop:=0 ≤ a ∧ a < 18446744073709551616
def Ep (p:Int):Bool:=decide (2 ≤ p) && decide (p < 9223372036854775808)
def Fe (p:Int) (l:List Int):Bool:=l.all (fun a => decide (a < p)) && Ep p
theorem wf_iff {k:IntKind} {a:Int}:(Lit.int k a).wf=true ↔ k.min ≤ a ∧ a ≤ k.max:=by simp [Lit.wf]
theorem Am3 {a:Int} (h:(Lit.int .u64 a).wf=true):W64 a:=by
  have:=wf_iff.1 h
  have e1:IntKind.u64.min=0:=rfl
  have e2:IntKind.u64.max=18446744073709551615:=rfl
  exact ⟨by omega,by omega⟩
theorem Zi {l:List Int} (h:∀ a ∈ l,(Lit.int .u64 a).wf=true):∀ a ∈ l,W64 a:=fun a ha => Am3 (h a ha)
theorem Ei (p:Int) (l:List Int):Fe p l=true ↔ (∀ a ∈ l,a < p) ∧ 2 ≤ p ∧ p < 9223372036854775808:=by simp [Fe,Ep]
theorem B3:maxLen=9223372036854775807:=rfl
theorem mm_l (p a b:Int):a % p * b % p=a * b % p:=by rw [Int.mul_emod,Int.emod_emod_of_dvd _ (Int.dvd_refl p),← Int.mul_emod]
theorem Ba7 (p a b:Int):a * (b % p) % p=a * b % p:=by rw [Int.mul_emod,Int.emod_emod_of_dvd _ (Int.dvd_refl p),← Int.mul_emod]
theorem Yx (p a b:Int):(a % p + b) % p=(a + b) % p:=by rw [Int.add_emod,Int.emod_emod_of_dvd _ (Int.dvd_refl p),← Int.add_emod]
theorem Bc2 (p a b:Int):(a + b % p) % p=(a + b) % p:=by rw [Int.add_emod,Int.emod_emod_of_dvd _ (Int.dvd_refl p),← Int.add_emod]
theorem sm_l (p a b:Int):(a % p - b) % p=(a - b) % p:=by rw [Int.sub_emod,Int.emod_emod_of_dvd _ (Int.dvd_refl p),← Int.sub_emod]
theorem Az4 (p a b:Int):(a - b % p) % p=(a - b) % p:=by rw [Int.sub_emod,Int.emod_emod_of_dvd _ (Int.dvd_refl p),← Int.sub_emod]
def In (p a:Int):Prop:=0 ≤ a ∧ a < p
theorem In.w64 {p a:Int} (hp:p ≤ 9223372036854775808) (h:In p a):W64 a:=by unfold In W64 at *; omega
theorem E8 {p:Int} (a:Int) (h:0 < p):In p (a % p):=⟨Int.emod_nonneg _ (by omega),Int.emod_lt_of_pos _ h⟩
theorem In.emod {p a:Int} (h:In p a):a % p=a:=Int.emod_eq_of_lt h.1 h.2
theorem I5 {a b m n:Int} (ha:0 ≤ a) (hb:0 ≤ b) (hm:a ≤ m) (hn:b ≤ n):0 ≤ a * b ∧ a * b ≤ m * n :=
  ⟨Int.mul_nonneg ha hb,Int.mul_le_mul hm hn hb (by omega)⟩
theorem Is (a:Int) {b:Int} (h:0 ≤ b):a.fdiv b=a / b:=Int.fdiv_eq_ediv_of_nonneg a h
theorem shr32 (a:Int):a.fdiv (2 ^ (min 32 IntKind.u64.bits))=a / 4294967296:=Is a (by decide)
theorem shr16 (a:Int):a.fdiv (2 ^ (min 16 IntKind.u64.bits))=a / 65536:=Is a (by decide)
theorem shr8 (a:Int):a.fdiv (2 ^ (min 8 IntKind.u64.bits))=a / 256:=Is a (by decide)
theorem shr1 (a:Int):a.fdiv (2 ^ (min 1 IntKind.u64.bits))=a / 2:=Is a (by decide)
theorem Au1 {p:Prop} [Decidable p] (h:p):decide p=true:=decide_eq_true h
theorem Aj6 {p:Prop} [Decidable p] (h:¬ p):decide p=false:=decide_eq_false h
theorem beq_tt {a b:Int} (h:a=b):(a == b)=true:=by subst h; simp
theorem beq_ff {a b:Int} (h:a ≠ b):(a == b)=false:=by simp [h]
theorem bne_tt {a b:Int} (h:a ≠ b):(a != b)=true:=by simp [h]
theorem bne_ff {a b:Int} (h:a=b):(a != b)=false:=by subst h; simp
theorem ifneg0 {α:Type} {a:Int} {x y:α} (h:0 ≤ a):(if a < 0 then x else y)=y:=if_neg (by omega)
theorem ifz {α:Type} {a:Int} {x y:α} (h:a ≠ 0):(if a=0 then x else y)=y:=if_neg h
def gos :=
  And.intro @beq_tt<|And.intro @beq_ff<|And.intro @bne_tt<|And.intro @bne_ff<|And.intro @ifneg0<|And.intro @D6<|And.intro @Fa<|And.intro @Au1<|And.intro @Aj6<|And.intro @shr32<|And.intro @shr16<|And.intro @shr8<|And.intro @shr1<|And.intro @Sw<|And.intro @Sv<|@ifz
end Go.Proofs.Ythnfphgjfpcpbaa.TM
namespace Go.Proofs.Ythnfphgjfpcpbaa.TM
open Go Go.RowKit
theorem Aq4 (a b:Int) (ha:0 ≤ a) (ha':a < 18446744073709551616) (hb:0 ≤ b) (hb':b < 18446744073709551616) :
    IntKind.u64.wrap (IntKind.u64.wrap (IntKind.u64.wrap (a / 4294967296 * (b / 4294967296)) + IntKind.u64.wrap (IntKind.u64.wrap (a / 4294967296 * (b % 4294967296)) + IntKind.u64.wrap (a % 4294967296 * (b % 4294967296)) / 4294967296) / 4294967296) + IntKind.u64.wrap (Go.bits .and .u64 (IntKind.u64.wrap (IntKind.u64.wrap (a / 4294967296 * (b % 4294967296)) + IntKind.u64.wrap (a % 4294967296 * (b % 4294967296)) / 4294967296)) 4294967295 + IntKind.u64.wrap (a % 4294967296 * (b / 4294967296))) / 4294967296)=a * b / 18446744073709551616:=by
  obtain ⟨a1,ea1⟩:∃ z,z=a / 4294967296:=⟨_,rfl⟩
  obtain ⟨a0,ea0⟩:∃ z,z=a % 4294967296:=⟨_,rfl⟩
  obtain ⟨b1,eb1⟩:∃ z,z=b / 4294967296:=⟨_,rfl⟩
  obtain ⟨b0,eb0⟩:∃ z,z=b % 4294967296:=⟨_,rfl⟩
  rw [← ea1,← ea0,← eb1,← eb0]
  have hab:a * b=a1 * b1 * 18446744073709551616 + (a1 * b0 + a0 * b1) * 4294967296 + a0 * b0:=by
    have h1:a=a1 * 4294967296 + a0:=by omega
    have h2:b=b1 * 4294967296 + b0:=by omega
    rw [h1,h2]; grind
  have c11:=I5 (a:=a1) (b:=b1) (m:=4294967295) (n:=4294967295) (by omega) (by omega) (by omega) (by omega)
  have c10:=I5 (a:=a1) (b:=b0) (m:=4294967295) (n:=4294967295) (by omega) (by omega) (by omega) (by omega)
  have c01:=I5 (a:=a0) (b:=b1) (m:=4294967295) (n:=4294967295) (by omega) (by omega) (by omega) (by omega)
  have c00:=I5 (a:=a0) (b:=b0) (m:=4294967295) (n:=4294967295) (by omega) (by omega) (by omega) (by omega)
  rw [hab]
  generalize a1 * b1=p11 at *
  generalize a1 * b0=p10 at *
  generalize a0 * b1=p01 at *
  generalize a0 * b0=p00 at *
  clear hab ea1 ea0 eb1 eb0
  rw [D6 (n:=p11) (by omega) (by omega),D6 (n:=p10) (by omega) (by omega),D6 (n:=p00) (by omega) (by omega),D6 (n:=p01) (by omega) (by omega)]
  rw [D6 (n:=p10 + p00 / 4294967296) (by omega) (by omega),and32 (by omega) (by omega)]
  rw [D6 (n:=p11 + (p10 + p00 / 4294967296) / 4294967296) (by omega) (by omega),D6 (n:=(p10 + p00 / 4294967296) % 4294967296 + p01) (by omega) (by omega)]
  rw [D6 (by omega) (by omega)]
  omega
theorem Xy (a b:Int) (ha:W64 a) (hb:W64 b):CallsP Try.prog 103 [u64 a,u64 b] (.tup [u64 (a * b / 18446744073709551616),u64 (a * b % 18446744073709551616)]):=by
  have e:=Aq4 a b ha.1 ha.2 hb.1 hb.2
  have e1:=and32 ha.1 ha.2
  have e2:=and32 hb.1 hb.2
  refine CallsP.start (n:=51) (rs:=[.tmp 4,.tmp 5]) Try.func103 rfl rfl rfl fun base => ?_
  simp (maxSteps:=20000000) only [List.length_cons,List.length_nil,reduceAdd,reduceSub,List.replicate,List.cons_append,List.nil_append]
  simp (maxSteps:=20000000) (disch:=omega) only [zzB,tys,ite_self,A8,A2,Ax,Aq,Ao,At,Az,Ac,A5,PV.sk,Ai,Ar,As,Ap,Ay,Ab,Aj,Am,A9,Value.oneCell',Ah,Ba,Aw,A4,A1,Al,An,Ae,Ak,isZ,A6,A3,Ad,Aa,Ag,A0,Af,↓reduceIte,reduceSub,reduceEqDiff,reduceAdd,reduceMul,reduceLT,reduceLeDiff,reduceToNat,reduceLE,Int.reduceLT,reduceNeg,reduceCtorEq,zzR,gos,Int.reduceAdd,Int.reduceSub,Int.reduceMul,reduceEq,shr32,e1,e2,e,uw (a * b)]
def tab:ByteArray:=⟨#[0,1,2,2,3,3,3,3,4,4,4,4,4,4,4,4,5,5,5,5,5,5,5,5,5,5,5,5,5,5,5,5,6,6,6,6,6,6,6,6,6,6,6,6,6,6,6,6,6,6,6,6,6,6,6,6,6,6,6,6,6,6,6,6,7,7,7,7,7,7,7,7,7,7,7,7,7,7,7,7,7,7,7,7,7,7,7,7,7,7,7,7,7,7,7,7,7,7,7,7,7,7,7,7,7,7,7,7,7,7,7,7,7,7,7,7,7,7,7,7,7,7,7,7,7,7,7,7,8,8,8,8,8,8,8,8,8,8,8,8,8,8,8,8,8,8,8,8,8,8,8,8,8,8,8,8,8,8,8,8,8,8,8,8,8,8,8,8,8,8,8,8,8,8,8,8,8,8,8,8,8,8,8,8,8,8,8,8,8,8,8,8,8,8,8,8,8,8,8,8,8,8,8,8,8,8,8,8,8,8,8,8,8,8,8,8,8,8,8,8,8,8,8,8,8,8,8,8,8,8,8,8,8,8,8,8,8,8,8,8,8,8,8,8,8,8,8,8,8,8,8,8,8,8,8,8]⟩
theorem Ay9:∀ i:Fin 256,1 ≤ i.val → 1 ≤ tab.data.toList.getD i.val 0 ∧ (tab.data.toList.getD i.val 0).toNat ≤ 8 ∧ 2 ^ ((tab.data.toList.getD i.val 0).toNat - 1) ≤ i.val ∧ i.val < 2 ^ (tab.data.toList.getD i.val 0).toNat:=by decide +kernel
theorem An2:tab.size=256:=by decide +kernel
theorem tab_bt (i:Nat) (h1:1 ≤ i) (h:i < 256):∃ n:Nat,(tab.data.toList.getD i 0).toNat=n ∧ 1 ≤ n ∧ n ≤ 8 ∧ 2 ^ (n - 1) ≤ i ∧ i < 2 ^ n:=by
  obtain ⟨h2,h3,h4,h5⟩:=Ay9 ⟨i,h⟩ h1
  refine ⟨(tab.data.toList.getD i 0).toNat,rfl,?_,h3,h4,h5⟩
  · have:=UInt8.le_iff_toNat_le.1 h2
    simpa using this
theorem Hy {P:Program} {t:TypeId} {s:ByteArray} {i:Int} (ht:tkB P t=some .str) (hs:s=tab) (h0:0 ≤ i) (h1:i < 256):Option.map (fun v => (⟨v,[]⟩:Out)) (L4 P t (.i (.v (.string s))) (.i (.v (.int .u8 i))))=some ⟨.i (.v (.int .u8 (tab.data.toList.getD i.toNat 0).toNat)),[]⟩:=by
  subst hs
  unfold L4
  rw [ht]
  have h2:i.toNat < tab.size:=by rw [An2]; omega
  simp only [Ay,h0,if_true,h2,dif_pos,Option.map_some]
  congr 6
  rw [List.getD_eq_getElem?_getD,List.getElem?_eq_getElem (show i.toNat < tab.data.toList.length from h2)]
  rfl
theorem Jw (x:Int):IntKind.u8.wrap x=x % 256:=by simp [IntKind.wrap,IntKind.bits,IntKind.signed]
theorem Hx (x:Nat) (m:Nat) (h0:1 ≤ x / 2 ^ m) (h1:x / 2 ^ m < 256):∃ n:Nat,(tab.data.toList.getD (x / 2 ^ m) 0).toNat=n ∧ 1 ≤ n ∧ n ≤ 8 ∧ 2 ^ (m + n - 1) ≤ x ∧ x < 2 ^ (m + n):=by
  obtain ⟨n,hb,g1,g2,g3,g4⟩:=tab_bt (x / 2 ^ m) h0 h1
  refine ⟨n,hb,g1,g2,?_,?_⟩
  · have:m + n - 1=(n - 1) + m:=by omega
    rw [this,Nat.pow_add]
    exact (Nat.le_div_iff_mul_le (Nat.two_pow_pos m)).1 g3
  · have:m + n=n + m:=by omega
    rw [this,Nat.pow_add]
    exact (Nat.div_lt_iff_lt_mul (Nat.two_pow_pos m)).1 g4
set_option maxRecDepth 10000 in
theorem Ah6 (x:Nat) (hx:x < 18446744073709551616) (h0:1 ≤ x) (c0:¬ 4294967296 ≤ (x:Int)) (c1:¬ 65536 ≤ (x:Int)) (c2:¬ 256 ≤ (x:Int)):∃ n:Nat,CallsP Try.prog 130 [u64 x] (i64 n) ∧ 1 ≤ n ∧ n ≤ 64 ∧ 2 ^ (n - 1) ≤ x ∧ x < 2 ^ n:=by
  obtain ⟨n,hb,g1,g2,g3,g4⟩:=Hx x 0 (by omega) (by omega)
  refine ⟨0 + n,?_,by omega,by omega,g3,g4⟩
  have e:((x:Int)).toNat=x / 2 ^ 0:=by omega
  refine CallsP.start (n:=25) (rs:=[.tmp 2]) Try.func130 rfl rfl rfl fun base => ?_
  simp (maxSteps:=20000000) only [List.length_cons,List.length_nil,reduceAdd,reduceSub,List.replicate,List.cons_append,List.nil_append]
  simp (maxSteps:=20000000) (disch:=omega) only [zzB,tys,ite_self,A8,A2,Ax,Aq,Ao,At,Az,Ac,A5,PV.sk,Ai,Ar,As,Ap,Ay,Ab,Aj,Am,A9,Value.oneCell',Ah,Ba,Aw,A4,A1,Al,An,Ae,Ak,isZ,A6,A3,Ad,Aa,Ag,A0,Af,↓reduceIte,reduceSub,reduceEqDiff,reduceAdd,reduceMul,reduceLT,reduceLeDiff,reduceToNat,reduceLE,Int.reduceLT,reduceNeg,reduceCtorEq,gos,Int.reduceAdd,Int.reduceSub,Int.reduceMul,reduceEq,c0,c1,c2,Jw]
  rw [show ((x:Int)) % 256=(x:Int) by omega]
  refine Hz (Hy (by simp only [tys]) (by kernel_rfl) (by omega) (by omega)) ?_
  rw [e,hb]
  simp (maxSteps:=20000000) (disch:=omega) only [zzB,tys,ite_self,A8,A2,Ax,Aq,Ao,At,Az,Ac,A5,PV.sk,Ai,Ar,As,Ap,Ay,Ab,Aj,Am,A9,Value.oneCell',Ah,Ba,Aw,A4,A1,Al,An,Ae,Ak,isZ,A6,A3,Ad,Aa,Ag,A0,Af,↓reduceIte,reduceSub,reduceEqDiff,reduceAdd,reduceMul,reduceLT,reduceLeDiff,reduceToNat,reduceLE,Int.reduceLT,reduceNeg,reduceCtorEq,gos,Int.reduceAdd,Int.reduceSub,Int.reduceMul,reduceEq]
  rw [show ((0:Int) + (n:Int))=((0 + n:Nat):Int) by omega]
  all_goals simp (maxSteps:=20000000) (disch:=omega) only [zzB,tys,ite_self,A8,A2,Ax,Aq,Ao,At,Az,Ac,A5,PV.sk,Ai,Ar,As,Ap,Ay,Ab,Aj,Am,A9,Value.oneCell',Ah,Ba,Aw,A4,A1,Al,An,Ae,Ak,isZ,A6,A3,Ad,Aa,Ag,A0,Af,↓reduceIte,reduceSub,reduceEqDiff,reduceAdd,reduceMul,reduceLT,reduceLeDiff,reduceToNat,reduceLE,Int.reduceLT,reduceNeg,reduceCtorEq,zzR,gos,Int.reduceAdd,Int.reduceSub,Int.reduceMul,reduceEq]
set_option maxRecDepth 10000 in
theorem Ah5 (x:Nat) (hx:x < 18446744073709551616) (h0:1 ≤ x) (c0:¬ 4294967296 ≤ (x:Int)) (c1:¬ 65536 ≤ (x:Int)) (c2:256 ≤ (x:Int)):∃ n:Nat,CallsP Try.prog 130 [u64 x] (i64 n) ∧ 1 ≤ n ∧ n ≤ 64 ∧ 2 ^ (n - 1) ≤ x ∧ x < 2 ^ n:=by
  obtain ⟨n,hb,g1,g2,g3,g4⟩:=Hx x 8 (by omega) (by omega)
  refine ⟨8 + n,?_,by omega,by omega,g3,g4⟩
  have e:((x:Int) / 256).toNat=x / 2 ^ 8:=by omega
  refine CallsP.start (n:=25) (rs:=[.tmp 2]) Try.func130 rfl rfl rfl fun base => ?_
  simp (maxSteps:=20000000) only [List.length_cons,List.length_nil,reduceAdd,reduceSub,List.replicate,List.cons_append,List.nil_append]
  simp (maxSteps:=20000000) (disch:=omega) only [zzB,tys,ite_self,A8,A2,Ax,Aq,Ao,At,Az,Ac,A5,PV.sk,Ai,Ar,As,Ap,Ay,Ab,Aj,Am,A9,Value.oneCell',Ah,Ba,Aw,A4,A1,Al,An,Ae,Ak,isZ,A6,A3,Ad,Aa,Ag,A0,Af,↓reduceIte,reduceSub,reduceEqDiff,reduceAdd,reduceMul,reduceLT,reduceLeDiff,reduceToNat,reduceLE,Int.reduceLT,reduceNeg,reduceCtorEq,gos,Int.reduceAdd,Int.reduceSub,Int.reduceMul,reduceEq,c0,c1,c2,Jw]
  rw [show ((x:Int) / 256) % 256=(x:Int) / 256 by omega]
  refine Hz (Hy (by simp only [tys]) (by kernel_rfl) (by omega) (by omega)) ?_
  rw [e,hb]
  simp (maxSteps:=20000000) (disch:=omega) only [zzB,tys,ite_self,A8,A2,Ax,Aq,Ao,At,Az,Ac,A5,PV.sk,Ai,Ar,As,Ap,Ay,Ab,Aj,Am,A9,Value.oneCell',Ah,Ba,Aw,A4,A1,Al,An,Ae,Ak,isZ,A6,A3,Ad,Aa,Ag,A0,Af,↓reduceIte,reduceSub,reduceEqDiff,reduceAdd,reduceMul,reduceLT,reduceLeDiff,reduceToNat,reduceLE,Int.reduceLT,reduceNeg,reduceCtorEq,gos,Int.reduceAdd,Int.reduceSub,Int.reduceMul,reduceEq]
  rw [show ((8:Int) + (n:Int))=((8 + n:Nat):Int) by omega]
  all_goals simp (maxSteps:=20000000) (disch:=omega) only [zzB,tys,ite_self,A8,A2,Ax,Aq,Ao,At,Az,Ac,A5,PV.sk,Ai,Ar,As,Ap,Ay,Ab,Aj,Am,A9,Value.oneCell',Ah,Ba,Aw,A4,A1,Al,An,Ae,Ak,isZ,A6,A3,Ad,Aa,Ag,A0,Af,↓reduceIte,reduceSub,reduceEqDiff,reduceAdd,reduceMul,reduceLT,reduceLeDiff,reduceToNat,reduceLE,Int.reduceLT,reduceNeg,reduceCtorEq,zzR,gos,Int.reduceAdd,Int.reduceSub,Int.reduceMul,reduceEq]
set_option maxRecDepth 10000 in
theorem Ah4 (x:Nat) (hx:x < 18446744073709551616) (h0:1 ≤ x) (c0:¬ 4294967296 ≤ (x:Int)) (c1:65536 ≤ (x:Int)) (c2:¬ 256 ≤ (x:Int) / 65536):∃ n:Nat,CallsP Try.prog 130 [u64 x] (i64 n) ∧ 1 ≤ n ∧ n ≤ 64 ∧ 2 ^ (n - 1) ≤ x ∧ x < 2 ^ n:=by
  obtain ⟨n,hb,g1,g2,g3,g4⟩:=Hx x 16 (by omega) (by omega)
  refine ⟨16 + n,?_,by omega,by omega,g3,g4⟩
  have e:((x:Int) / 65536).toNat=x / 2 ^ 16:=by omega
  refine CallsP.start (n:=25) (rs:=[.tmp 2]) Try.func130 rfl rfl rfl fun base => ?_
  simp (maxSteps:=20000000) only [List.length_cons,List.length_nil,reduceAdd,reduceSub,List.replicate,List.cons_append,List.nil_append]
  simp (maxSteps:=20000000) (disch:=omega) only [zzB,tys,ite_self,A8,A2,Ax,Aq,Ao,At,Az,Ac,A5,PV.sk,Ai,Ar,As,Ap,Ay,Ab,Aj,Am,A9,Value.oneCell',Ah,Ba,Aw,A4,A1,Al,An,Ae,Ak,isZ,A6,A3,Ad,Aa,Ag,A0,Af,↓reduceIte,reduceSub,reduceEqDiff,reduceAdd,reduceMul,reduceLT,reduceLeDiff,reduceToNat,reduceLE,Int.reduceLT,reduceNeg,reduceCtorEq,gos,Int.reduceAdd,Int.reduceSub,Int.reduceMul,reduceEq,c0,c1,c2,Jw]
  rw [show ((x:Int) / 65536) % 256=(x:Int) / 65536 by omega]
  refine Hz (Hy (by simp only [tys]) (by kernel_rfl) (by omega) (by omega)) ?_
  rw [e,hb]
  simp (maxSteps:=20000000) (disch:=omega) only [zzB,tys,ite_self,A8,A2,Ax,Aq,Ao,At,Az,Ac,A5,PV.sk,Ai,Ar,As,Ap,Ay,Ab,Aj,Am,A9,Value.oneCell',Ah,Ba,Aw,A4,A1,Al,An,Ae,Ak,isZ,A6,A3,Ad,Aa,Ag,A0,Af,↓reduceIte,reduceSub,reduceEqDiff,reduceAdd,reduceMul,reduceLT,reduceLeDiff,reduceToNat,reduceLE,Int.reduceLT,reduceNeg,reduceCtorEq,gos,Int.reduceAdd,Int.reduceSub,Int.reduceMul,reduceEq]
  rw [show ((16:Int) + (n:Int))=((16 + n:Nat):Int) by omega]
  all_goals simp (maxSteps:=20000000) (disch:=omega) only [zzB,tys,ite_self,A8,A2,Ax,Aq,Ao,At,Az,Ac,A5,PV.sk,Ai,Ar,As,Ap,Ay,Ab,Aj,Am,A9,Value.oneCell',Ah,Ba,Aw,A4,A1,Al,An,Ae,Ak,isZ,A6,A3,Ad,Aa,Ag,A0,Af,↓reduceIte,reduceSub,reduceEqDiff,reduceAdd,reduceMul,reduceLT,reduceLeDiff,reduceToNat,reduceLE,Int.reduceLT,reduceNeg,reduceCtorEq,zzR,gos,Int.reduceAdd,Int.reduceSub,Int.reduceMul,reduceEq]
set_option maxRecDepth 10000 in
theorem Ah3 (x:Nat) (hx:x < 18446744073709551616) (h0:1 ≤ x) (c0:¬ 4294967296 ≤ (x:Int)) (c1:65536 ≤ (x:Int)) (c2:256 ≤ (x:Int) / 65536):∃ n:Nat,CallsP Try.prog 130 [u64 x] (i64 n) ∧ 1 ≤ n ∧ n ≤ 64 ∧ 2 ^ (n - 1) ≤ x ∧ x < 2 ^ n:=by
  obtain ⟨n,hb,g1,g2,g3,g4⟩:=Hx x 24 (by omega) (by omega)
  refine ⟨24 + n,?_,by omega,by omega,g3,g4⟩
  have e:((x:Int) / 65536 / 256).toNat=x / 2 ^ 24:=by omega
  refine CallsP.start (n:=25) (rs:=[.tmp 2]) Try.func130 rfl rfl rfl fun base => ?_
  simp (maxSteps:=20000000) only [List.length_cons,List.length_nil,reduceAdd,reduceSub,List.replicate,List.cons_append,List.nil_append]
  simp (maxSteps:=20000000) (disch:=omega) only [zzB,tys,ite_self,A8,A2,Ax,Aq,Ao,At,Az,Ac,A5,PV.sk,Ai,Ar,As,Ap,Ay,Ab,Aj,Am,A9,Value.oneCell',Ah,Ba,Aw,A4,A1,Al,An,Ae,Ak,isZ,A6,A3,Ad,Aa,Ag,A0,Af,↓reduceIte,reduceSub,reduceEqDiff,reduceAdd,reduceMul,reduceLT,reduceLeDiff,reduceToNat,reduceLE,Int.reduceLT,reduceNeg,reduceCtorEq,gos,Int.reduceAdd,Int.reduceSub,Int.reduceMul,reduceEq,c0,c1,c2,Jw]
  rw [show ((x:Int) / 65536 / 256) % 256=(x:Int) / 65536 / 256 by omega]
  refine Hz (Hy (by simp only [tys]) (by kernel_rfl) (by omega) (by omega)) ?_
  rw [e,hb]
  simp (maxSteps:=20000000) (disch:=omega) only [zzB,tys,ite_self,A8,A2,Ax,Aq,Ao,At,Az,Ac,A5,PV.sk,Ai,Ar,As,Ap,Ay,Ab,Aj,Am,A9,Value.oneCell',Ah,Ba,Aw,A4,A1,Al,An,Ae,Ak,isZ,A6,A3,Ad,Aa,Ag,A0,Af,↓reduceIte,reduceSub,reduceEqDiff,reduceAdd,reduceMul,reduceLT,reduceLeDiff,reduceToNat,reduceLE,Int.reduceLT,reduceNeg,reduceCtorEq,gos,Int.reduceAdd,Int.reduceSub,Int.reduceMul,reduceEq]
  rw [show ((24:Int) + (n:Int))=((24 + n:Nat):Int) by omega]
  all_goals simp (maxSteps:=20000000) (disch:=omega) only [zzB,tys,ite_self,A8,A2,Ax,Aq,Ao,At,Az,Ac,A5,PV.sk,Ai,Ar,As,Ap,Ay,Ab,Aj,Am,A9,Value.oneCell',Ah,Ba,Aw,A4,A1,Al,An,Ae,Ak,isZ,A6,A3,Ad,Aa,Ag,A0,Af,↓reduceIte,reduceSub,reduceEqDiff,reduceAdd,reduceMul,reduceLT,reduceLeDiff,reduceToNat,reduceLE,Int.reduceLT,reduceNeg,reduceCtorEq,zzR,gos,Int.reduceAdd,Int.reduceSub,Int.reduceMul,reduceEq]
set_option maxRecDepth 10000 in
theorem Ah2 (x:Nat) (hx:x < 18446744073709551616) (h0:1 ≤ x) (c0:4294967296 ≤ (x:Int)) (c1:¬ 65536 ≤ (x:Int) / 4294967296) (c2:¬ 256 ≤ (x:Int) / 4294967296):∃ n:Nat,CallsP Try.prog 130 [u64 x] (i64 n) ∧ 1 ≤ n ∧ n ≤ 64 ∧ 2 ^ (n - 1) ≤ x ∧ x < 2 ^ n:=by
  obtain ⟨n,hb,g1,g2,g3,g4⟩:=Hx x 32 (by omega) (by omega)
  refine ⟨32 + n,?_,by omega,by omega,g3,g4⟩
  have e:((x:Int) / 4294967296).toNat=x / 2 ^ 32:=by omega
  refine CallsP.start (n:=25) (rs:=[.tmp 2]) Try.func130 rfl rfl rfl fun base => ?_
  simp (maxSteps:=20000000) only [List.length_cons,List.length_nil,reduceAdd,reduceSub,List.replicate,List.cons_append,List.nil_append]
  simp (maxSteps:=20000000) (disch:=omega) only [zzB,tys,ite_self,A8,A2,Ax,Aq,Ao,At,Az,Ac,A5,PV.sk,Ai,Ar,As,Ap,Ay,Ab,Aj,Am,A9,Value.oneCell',Ah,Ba,Aw,A4,A1,Al,An,Ae,Ak,isZ,A6,A3,Ad,Aa,Ag,A0,Af,↓reduceIte,reduceSub,reduceEqDiff,reduceAdd,reduceMul,reduceLT,reduceLeDiff,reduceToNat,reduceLE,Int.reduceLT,reduceNeg,reduceCtorEq,gos,Int.reduceAdd,Int.reduceSub,Int.reduceMul,reduceEq,c0,c1,c2,Jw]
  rw [show ((x:Int) / 4294967296) % 256=(x:Int) / 4294967296 by omega]
  refine Hz (Hy (by simp only [tys]) (by kernel_rfl) (by omega) (by omega)) ?_
  rw [e,hb]
  simp (maxSteps:=20000000) (disch:=omega) only [zzB,tys,ite_self,A8,A2,Ax,Aq,Ao,At,Az,Ac,A5,PV.sk,Ai,Ar,As,Ap,Ay,Ab,Aj,Am,A9,Value.oneCell',Ah,Ba,Aw,A4,A1,Al,An,Ae,Ak,isZ,A6,A3,Ad,Aa,Ag,A0,Af,↓reduceIte,reduceSub,reduceEqDiff,reduceAdd,reduceMul,reduceLT,reduceLeDiff,reduceToNat,reduceLE,Int.reduceLT,reduceNeg,reduceCtorEq,gos,Int.reduceAdd,Int.reduceSub,Int.reduceMul,reduceEq]
  rw [show ((32:Int) + (n:Int))=((32 + n:Nat):Int) by omega]
  all_goals simp (maxSteps:=20000000) (disch:=omega) only [zzB,tys,ite_self,A8,A2,Ax,Aq,Ao,At,Az,Ac,A5,PV.sk,Ai,Ar,As,Ap,Ay,Ab,Aj,Am,A9,Value.oneCell',Ah,Ba,Aw,A4,A1,Al,An,Ae,Ak,isZ,A6,A3,Ad,Aa,Ag,A0,Af,↓reduceIte,reduceSub,reduceEqDiff,reduceAdd,reduceMul,reduceLT,reduceLeDiff,reduceToNat,reduceLE,Int.reduceLT,reduceNeg,reduceCtorEq,zzR,gos,Int.reduceAdd,Int.reduceSub,Int.reduceMul,reduceEq]
set_option maxRecDepth 10000 in
theorem Ah1 (x:Nat) (hx:x < 18446744073709551616) (h0:1 ≤ x) (c0:4294967296 ≤ (x:Int)) (c1:¬ 65536 ≤ (x:Int) / 4294967296) (c2:256 ≤ (x:Int) / 4294967296):∃ n:Nat,CallsP Try.prog 130 [u64 x] (i64 n) ∧ 1 ≤ n ∧ n ≤ 64 ∧ 2 ^ (n - 1) ≤ x ∧ x < 2 ^ n:=by
  obtain ⟨n,hb,g1,g2,g3,g4⟩:=Hx x 40 (by omega) (by omega)
  refine ⟨40 + n,?_,by omega,by omega,g3,g4⟩
  have e:((x:Int) / 4294967296 / 256).toNat=x / 2 ^ 40:=by omega
  refine CallsP.start (n:=25) (rs:=[.tmp 2]) Try.func130 rfl rfl rfl fun base => ?_
  simp (maxSteps:=20000000) only [List.length_cons,List.length_nil,reduceAdd,reduceSub,List.replicate,List.cons_append,List.nil_append]
  simp (maxSteps:=20000000) (disch:=omega) only [zzB,tys,ite_self,A8,A2,Ax,Aq,Ao,At,Az,Ac,A5,PV.sk,Ai,Ar,As,Ap,Ay,Ab,Aj,Am,A9,Value.oneCell',Ah,Ba,Aw,A4,A1,Al,An,Ae,Ak,isZ,A6,A3,Ad,Aa,Ag,A0,Af,↓reduceIte,reduceSub,reduceEqDiff,reduceAdd,reduceMul,reduceLT,reduceLeDiff,reduceToNat,reduceLE,Int.reduceLT,reduceNeg,reduceCtorEq,gos,Int.reduceAdd,Int.reduceSub,Int.reduceMul,reduceEq,c0,c1,c2,Jw]
  rw [show ((x:Int) / 4294967296 / 256) % 256=(x:Int) / 4294967296 / 256 by omega]
  refine Hz (Hy (by simp only [tys]) (by kernel_rfl) (by omega) (by omega)) ?_
  rw [e,hb]
  simp (maxSteps:=20000000) (disch:=omega) only [zzB,tys,ite_self,A8,A2,Ax,Aq,Ao,At,Az,Ac,A5,PV.sk,Ai,Ar,As,Ap,Ay,Ab,Aj,Am,A9,Value.oneCell',Ah,Ba,Aw,A4,A1,Al,An,Ae,Ak,isZ,A6,A3,Ad,Aa,Ag,A0,Af,↓reduceIte,reduceSub,reduceEqDiff,reduceAdd,reduceMul,reduceLT,reduceLeDiff,reduceToNat,reduceLE,Int.reduceLT,reduceNeg,reduceCtorEq,gos,Int.reduceAdd,Int.reduceSub,Int.reduceMul,reduceEq]
  rw [show ((40:Int) + (n:Int))=((40 + n:Nat):Int) by omega]
  all_goals simp (maxSteps:=20000000) (disch:=omega) only [zzB,tys,ite_self,A8,A2,Ax,Aq,Ao,At,Az,Ac,A5,PV.sk,Ai,Ar,As,Ap,Ay,Ab,Aj,Am,A9,Value.oneCell',Ah,Ba,Aw,A4,A1,Al,An,Ae,Ak,isZ,A6,A3,Ad,Aa,Ag,A0,Af,↓reduceIte,reduceSub,reduceEqDiff,reduceAdd,reduceMul,reduceLT,reduceLeDiff,reduceToNat,reduceLE,Int.reduceLT,reduceNeg,reduceCtorEq,zzR,gos,Int.reduceAdd,Int.reduceSub,Int.reduceMul,reduceEq]
set_option maxRecDepth 10000 in
theorem Ah0 (x:Nat) (hx:x < 18446744073709551616) (h0:1 ≤ x) (c0:4294967296 ≤ (x:Int)) (c1:65536 ≤ (x:Int) / 4294967296) (c2:¬ 256 ≤ (x:Int) / 4294967296 / 65536):∃ n:Nat,CallsP Try.prog 130 [u64 x] (i64 n) ∧ 1 ≤ n ∧ n ≤ 64 ∧ 2 ^ (n - 1) ≤ x ∧ x < 2 ^ n:=by
  obtain ⟨n,hb,g1,g2,g3,g4⟩:=Hx x 48 (by omega) (by omega)
  refine ⟨48 + n,?_,by omega,by omega,g3,g4⟩
  have e:((x:Int) / 4294967296 / 65536).toNat=x / 2 ^ 48:=by omega
  refine CallsP.start (n:=25) (rs:=[.tmp 2]) Try.func130 rfl rfl rfl fun base => ?_
  simp (maxSteps:=20000000) only [List.length_cons,List.length_nil,reduceAdd,reduceSub,List.replicate,List.cons_append,List.nil_append]
  simp (maxSteps:=20000000) (disch:=omega) only [zzB,tys,ite_self,A8,A2,Ax,Aq,Ao,At,Az,Ac,A5,PV.sk,Ai,Ar,As,Ap,Ay,Ab,Aj,Am,A9,Value.oneCell',Ah,Ba,Aw,A4,A1,Al,An,Ae,Ak,isZ,A6,A3,Ad,Aa,Ag,A0,Af,↓reduceIte,reduceSub,reduceEqDiff,reduceAdd,reduceMul,reduceLT,reduceLeDiff,reduceToNat,reduceLE,Int.reduceLT,reduceNeg,reduceCtorEq,gos,Int.reduceAdd,Int.reduceSub,Int.reduceMul,reduceEq,c0,c1,c2,Jw]
  rw [show ((x:Int) / 4294967296 / 65536) % 256=(x:Int) / 4294967296 / 65536 by omega]
  refine Hz (Hy (by simp only [tys]) (by kernel_rfl) (by omega) (by omega)) ?_
  rw [e,hb]
  simp (maxSteps:=20000000) (disch:=omega) only [zzB,tys,ite_self,A8,A2,Ax,Aq,Ao,At,Az,Ac,A5,PV.sk,Ai,Ar,As,Ap,Ay,Ab,Aj,Am,A9,Value.oneCell',Ah,Ba,Aw,A4,A1,Al,An,Ae,Ak,isZ,A6,A3,Ad,Aa,Ag,A0,Af,↓reduceIte,reduceSub,reduceEqDiff,reduceAdd,reduceMul,reduceLT,reduceLeDiff,reduceToNat,reduceLE,Int.reduceLT,reduceNeg,reduceCtorEq,gos,Int.reduceAdd,Int.reduceSub,Int.reduceMul,reduceEq]
  rw [show ((48:Int) + (n:Int))=((48 + n:Nat):Int) by omega]
  all_goals simp (maxSteps:=20000000) (disch:=omega) only [zzB,tys,ite_self,A8,A2,Ax,Aq,Ao,At,Az,Ac,A5,PV.sk,Ai,Ar,As,Ap,Ay,Ab,Aj,Am,A9,Value.oneCell',Ah,Ba,Aw,A4,A1,Al,An,Ae,Ak,isZ,A6,A3,Ad,Aa,Ag,A0,Af,↓reduceIte,reduceSub,reduceEqDiff,reduceAdd,reduceMul,reduceLT,reduceLeDiff,reduceToNat,reduceLE,Int.reduceLT,reduceNeg,reduceCtorEq,zzR,gos,Int.reduceAdd,Int.reduceSub,Int.reduceMul,reduceEq]
set_option maxRecDepth 10000 in
theorem Ag9 (x:Nat) (hx:x < 18446744073709551616) (h0:1 ≤ x) (c0:4294967296 ≤ (x:Int)) (c1:65536 ≤ (x:Int) / 4294967296) (c2:256 ≤ (x:Int) / 4294967296 / 65536):∃ n:Nat,CallsP Try.prog 130 [u64 x] (i64 n) ∧ 1 ≤ n ∧ n ≤ 64 ∧ 2 ^ (n - 1) ≤ x ∧ x < 2 ^ n:=by
  obtain ⟨n,hb,g1,g2,g3,g4⟩:=Hx x 56 (by omega) (by omega)
  refine ⟨56 + n,?_,by omega,by omega,g3,g4⟩
  have e:((x:Int) / 4294967296 / 65536 / 256).toNat=x / 2 ^ 56:=by omega
  refine CallsP.start (n:=25) (rs:=[.tmp 2]) Try.func130 rfl rfl rfl fun base => ?_
  simp (maxSteps:=20000000) only [List.length_cons,List.length_nil,reduceAdd,reduceSub,List.replicate,List.cons_append,List.nil_append]
  simp (maxSteps:=20000000) (disch:=omega) only [zzB,tys,ite_self,A8,A2,Ax,Aq,Ao,At,Az,Ac,A5,PV.sk,Ai,Ar,As,Ap,Ay,Ab,Aj,Am,A9,Value.oneCell',Ah,Ba,Aw,A4,A1,Al,An,Ae,Ak,isZ,A6,A3,Ad,Aa,Ag,A0,Af,↓reduceIte,reduceSub,reduceEqDiff,reduceAdd,reduceMul,reduceLT,reduceLeDiff,reduceToNat,reduceLE,Int.reduceLT,reduceNeg,reduceCtorEq,gos,Int.reduceAdd,Int.reduceSub,Int.reduceMul,reduceEq,c0,c1,c2,Jw]
  rw [show ((x:Int) / 4294967296 / 65536 / 256) % 256=(x:Int) / 4294967296 / 65536 / 256 by omega]
  refine Hz (Hy (by simp only [tys]) (by kernel_rfl) (by omega) (by omega)) ?_
  rw [e,hb]
  simp (maxSteps:=20000000) (disch:=omega) only [zzB,tys,ite_self,A8,A2,Ax,Aq,Ao,At,Az,Ac,A5,PV.sk,Ai,Ar,As,Ap,Ay,Ab,Aj,Am,A9,Value.oneCell',Ah,Ba,Aw,A4,A1,Al,An,Ae,Ak,isZ,A6,A3,Ad,Aa,Ag,A0,Af,↓reduceIte,reduceSub,reduceEqDiff,reduceAdd,reduceMul,reduceLT,reduceLeDiff,reduceToNat,reduceLE,Int.reduceLT,reduceNeg,reduceCtorEq,gos,Int.reduceAdd,Int.reduceSub,Int.reduceMul,reduceEq]
  rw [show ((56:Int) + (n:Int))=((56 + n:Nat):Int) by omega]
  all_goals simp (maxSteps:=20000000) (disch:=omega) only [zzB,tys,ite_self,A8,A2,Ax,Aq,Ao,At,Az,Ac,A5,PV.sk,Ai,Ar,As,Ap,Ay,Ab,Aj,Am,A9,Value.oneCell',Ah,Ba,Aw,A4,A1,Al,An,Ae,Ak,isZ,A6,A3,Ad,Aa,Ag,A0,Af,↓reduceIte,reduceSub,reduceEqDiff,reduceAdd,reduceMul,reduceLT,reduceLeDiff,reduceToNat,reduceLE,Int.reduceLT,reduceNeg,reduceCtorEq,zzR,gos,Int.reduceAdd,Int.reduceSub,Int.reduceMul,reduceEq]
theorem X3 (x:Nat) (h0:1 ≤ x) (hx:x < 18446744073709551616):∃ n:Nat,CallsP Try.prog 130 [u64 x] (i64 n) ∧ 1 ≤ n ∧ n ≤ 64 ∧ 2 ^ (n - 1) ≤ x ∧ x < 2 ^ n:=by
  by_cases c0:4294967296 ≤ (x:Int)
  · by_cases c1:65536 ≤ (x:Int) / 4294967296
    · by_cases c2:256 ≤ (x:Int) / 4294967296 / 65536
      · exact Ag9 x hx h0 c0 c1 c2
      · exact Ah0 x hx h0 c0 c1 c2
    · by_cases c2:256 ≤ (x:Int) / 4294967296
      · exact Ah1 x hx h0 c0 c1 c2
      · exact Ah2 x hx h0 c0 c1 c2
  · by_cases c1:65536 ≤ (x:Int)
    · by_cases c2:256 ≤ (x:Int) / 65536
      · exact Ah3 x hx h0 c0 c1 c2
      · exact Ah4 x hx h0 c0 c1 c2
    · by_cases c2:256 ≤ (x:Int)
      · exact Ah5 x hx h0 c0 c1 c2
      · exact Ah6 x hx h0 c0 c1 c2
theorem Af0 (y:Nat) (h1:1 ≤ y) (h:y < 18446744073709551616) :
    ∃ s:Nat,CallsP Try.prog 133 [u64 y] (i64 s) ∧ s ≤ 63 ∧ 2 ^ 63 ≤ y * 2 ^ s ∧ y * 2 ^ s < 2 ^ 64:=by
  obtain ⟨n,hn,g1,g2,g3,g4⟩:=X3 y h1 h
  refine ⟨64 - n,?_,by omega,?_,?_⟩
  · refine CallsP.start (n:=6) (rs:=[.tmp 2]) Try.func133 rfl rfl rfl fun base => ?_
    simp (maxSteps:=20000000) only [List.length_cons,List.length_nil,reduceAdd,reduceSub,List.replicate,List.cons_append,List.nil_append]
    simp (maxSteps:=20000000) (disch:=omega) only [zzB,tys,ite_self,A8,A2,Ax,Aq,Ao,At,Az,Ac,A5,PV.sk,Ai,Ar,As,Ap,Ay,Ab,Aj,Am,A9,Value.oneCell',Ah,Ba,Aw,A4,A1,Al,An,Ae,Ak,isZ,A6,A3,Ad,Aa,Ag,A0,Af,↓reduceIte,reduceSub,reduceEqDiff,reduceAdd,reduceMul,reduceLT,reduceLeDiff,reduceToNat,reduceLE,Int.reduceLT,reduceNeg,reduceCtorEq,gos,Int.reduceAdd,Int.reduceSub,Int.reduceMul,reduceEq]
    refine Gj (hn) rfl rfl (by simp only [tys]) (by first|rfl|simp [sim7,Az,Cr,zzL,if_true,if_false,ite_self,reduceEqDiff,reduceMul,reduceAdd,reduceCtorEq]) ?_
    simp (maxSteps:=20000000) (disch:=omega) only [zzB,tys,ite_self,A8,A2,Ax,Aq,Ao,At,Az,Ac,A5,PV.sk,Ai,Ar,As,Ap,Ay,Ab,Aj,Am,A9,Value.oneCell',Ah,Ba,Aw,A4,A1,Al,An,Ae,Ak,isZ,A6,A3,Ad,Aa,Ag,A0,Af,↓reduceIte,reduceSub,reduceEqDiff,reduceAdd,reduceMul,reduceLT,reduceLeDiff,reduceToNat,reduceLE,Int.reduceLT,reduceNeg,reduceCtorEq,gos,Int.reduceAdd,Int.reduceSub,Int.reduceMul,reduceEq]
    rw [show (64:Int) - (n:Int)=((64 - n:Nat):Int) by omega]
    all_goals simp (maxSteps:=20000000) (disch:=omega) only [zzB,tys,ite_self,A8,A2,Ax,Aq,Ao,At,Az,Ac,A5,PV.sk,Ai,Ar,As,Ap,Ay,Ab,Aj,Am,A9,Value.oneCell',Ah,Ba,Aw,A4,A1,Al,An,Ae,Ak,isZ,A6,A3,Ad,Aa,Ag,A0,Af,↓reduceIte,reduceSub,reduceEqDiff,reduceAdd,reduceMul,reduceLT,reduceLeDiff,reduceToNat,reduceLE,Int.reduceLT,reduceNeg,reduceCtorEq,zzR,gos,Int.reduceAdd,Int.reduceSub,Int.reduceMul,reduceEq]
  · have:=Nat.mul_le_mul_right (2 ^ (64 - n)) g3
    rwa [← Nat.pow_add,show n - 1 + (64 - n)=63 by omega] at this
  · have:=Nat.mul_lt_mul_of_pos_right g4 (Nat.two_pow_pos (64 - n))
    rwa [← Nat.pow_add,show n + (64 - n)=64 by omega] at this
structure Dv (V v1 v0 U u:Int):Prop where
  hV:V=v1 * 4294967296 + v0
  h1:2147483648 ≤ v1
  h1':v1 < 4294967296
  h0:0 ≤ v0
  h0':v0 < 4294967296
  hU:0 ≤ U
  hUV:U < V
  hu:0 ≤ u
  hu':u < 4294967296
structure Gs (v1 U q r qt:Int):Prop where
  hr:r=U - q * v1
  hr0:0 ≤ r
  hr1:r < 4294967296
  hq:q ≤ 4294967297
  ht:qt ≤ q
section
variable {V v1 v0 U u q r:Int}
theorem U4 (D:Dv V v1 v0 U u):0 ≤ (U * 4294967296 + u) / V ∧ (U * 4294967296 + u) / V < 4294967296:=by
  obtain ⟨hV,h1,h1',h0,h0',hU,hUV,hu,hu'⟩:=D
  refine ⟨Int.ediv_nonneg (by omega) (by omega),?_⟩
  rw [Int.ediv_lt_iff_lt_mul (by omega)]
  omega
theorem le_qt (D:Dv V v1 v0 U u) (hr:r=U - q * v1) (h:q * v0 ≤ 4294967296 * r + u):q ≤ (U * 4294967296 + u) / V:=by
  obtain ⟨hV,h1,h1',h0,h0',hU,hUV,hu,hu'⟩:=D
  rw [Int.le_ediv_iff_mul_le (by omega)]
  have:q * V=q * v1 * 4294967296 + q * v0:=by rw [hV]; grind
  omega
theorem qt_lt (D:Dv V v1 v0 U u) (hr:r=U - q * v1) (h:4294967296 * r + u < q * v0):(U * 4294967296 + u) / V < q:=by
  obtain ⟨hV,h1,h1',h0,h0',hU,hUV,hu,hu'⟩:=D
  rw [Int.ediv_lt_iff_lt_mul (by omega)]
  have:q * V=q * v1 * 4294967296 + q * v0:=by rw [hV]; grind
  omega
theorem down (D:Dv V v1 v0 U u) (G:Gs v1 U q r ((U * 4294967296 + u) / V)) (hc:(U * 4294967296 + u) / V < q) :
    (r + v1 ≥ 4294967296 → q - 1=(U * 4294967296 + u) / V) ∧ (r + v1 < 4294967296 → Gs v1 U (q - 1) (r + v1) ((U * 4294967296 + u) / V)):=by
  have D':=D
  have hb:=U4 D
  obtain ⟨hV,h1,h1',h0,h0',hU,hUV,hu,hu'⟩:=D
  obtain ⟨hr,hr0,hr1,hq,ht⟩:=G
  have hm:(q - 1) * v1=q * v1 - v1:=by grind
  constructor
  · intro h
    have hle:q - 1 ≤ 4294967295:=by
      rcases Int.lt_or_le (q - 1) 4294967296 with g|g
      · omega
      · have:(4294967296:Int) * v1 ≤ (q - 1) * v1:=Int.mul_le_mul_of_nonneg_right g (by omega)
        omega
    have hp:=I5 (a:=q - 1) (b:=v0) (m:=4294967295) (n:=4294967295) (by omega) h0 hle (by omega)
    have:=le_qt (q:=q - 1) (r:=r + v1) D' (by omega) (by omega)
    omega
  · intro h
    exact ⟨by omega,by omega,h,by omega,by omega⟩
theorem ends (D:Dv V v1 v0 U u) (G:Gs v1 U q r ((U * 4294967296 + u) / V)) (h:q * v0 ≤ 4294967296 * r + u):q=(U * 4294967296 + u) / V:=by
  have:=le_qt D G.hr h
  have:=G.ht
  omega
theorem starts (D:Dv V v1 v0 U u):Gs v1 U (U / v1) (U % v1) ((U * 4294967296 + u) / V):=by
  have D':=D
  obtain ⟨hV,h1,h1',h0,h0',hU,hUV,hu,hu'⟩:=D
  have he:=Int.emod_add_mul_ediv U v1
  have hc:v1 * (U / v1)=U / v1 * v1:=Int.mul_comm _ _
  have hm0:=Int.emod_nonneg U (show v1 ≠ 0 by omega)
  have hm1:=Int.emod_lt_of_pos U (show 0 < v1 by omega)
  refine ⟨by omega,hm0,by omega,?_,?_⟩
  · have:U / v1 < 4294967298:=by
      rw [Int.ediv_lt_iff_lt_mul (by omega)]
      omega
    omega
  · rcases Int.lt_or_le (U / v1) ((U * 4294967296 + u) / V) with g|g
    · exfalso
      have h2:U / v1 + 1 ≤ (U * 4294967296 + u) / V:=g
      rw [Int.le_ediv_iff_mul_le (by omega)] at h2
      have h3:(U / v1 + 1) * V=(U / v1 * v1 + v1) * 4294967296 + (U / v1 + 1) * v0:=by rw [hV]; grind
      have h4:0 ≤ (U / v1 + 1) * v0:=Int.mul_nonneg (by have:=Int.ediv_nonneg hU (show 0 ≤ v1 by omega); omega) h0
      omega
    · exact g
end
theorem test_ {q v0 r u v1 U qt:Int} (G:Gs v1 U q r qt) (hq0:0 ≤ q) (h0:0 ≤ v0) (h0':v0 < 4294967296) (hu:0 ≤ u) (hu':u < 4294967296) :
    IntKind.u64.wrap (q * v0)=q * v0 ∧ IntKind.u64.wrap (IntKind.u64.wrap (4294967296 * r) + u)=4294967296 * r + u ∧ 0 ≤ q * v0:=by
  obtain ⟨hr,hr0,hr1,hq,ht⟩:=G
  have hp:=I5 (a:=q) (b:=v0) (m:=4294967297) (n:=4294967295) hq0 h0 hq (by omega)
  refine ⟨D6 (by omega) (by omega),?_,hp.1⟩
  rw [D6 (n:=4294967296 * r) (by omega) (by omega),D6 (by omega) (by omega)]
end Go.Proofs.Ythnfphgjfpcpbaa.TM
namespace Go.Proofs.Ythnfphgjfpcpbaa.TM
open Go Go.RowKit
def GI (v1 U qt:Int) (T:Int → Int → List PV) (j:Nat) (t:List PV) (h:Heap):Prop :=
  ∃ q r,q=qt + j ∧ Gs v1 U q r qt ∧ t=T q r ∧ h=Heap.none
theorem Aa5 {V v1 v0 U u q r:Int} (D:Dv V v1 v0 U u) (G:Gs v1 U q r ((U * 4294967296 + u) / V)) (hc:(U * 4294967296 + u) / V < q):4294967296 ≤ q ∨ 4294967296 * r + u < q * v0:=by
  rcases Int.lt_or_le (4294967296 * r + u) (q * v0) with h|h
  · exact .inr h
  · have:=ends D G h; omega
theorem qt_ge {V v1 v0 U u q r:Int} (D:Dv V v1 v0 U u) (G:Gs v1 U q r ((U * 4294967296 + u) / V)) (hc:q=(U * 4294967296 + u) / V):¬ 4294967296 * r + u < q * v0:=fun h => by
  have:=qt_lt D G.hr h; omega
theorem test2 {V v1 v0 U u q r qt:Int} (G:Gs v1 U q r qt) (hq0:0 ≤ q) (D:Dv V v1 v0 U u):IntKind.u64.wrap (q * v0)=q * v0 ∧ IntKind.u64.wrap (4294967296 * r + u)=4294967296 * r + u:=by
  obtain ⟨t1,t2,t3⟩:=test_ (v0:=v0) (u:=u) G hq0 D.h0 D.h0' D.hu D.hu'
  refine ⟨t1,?_⟩
  rwa [D6 (n:=4294967296 * r) (by have:=G.hr0; omega) (by have:=G.hr1; omega)] at t2
structure Dz (hi lo:Int) (n s:Nat) (V v1 v0 U L u1 u0 Q1 R1 Q0 M:Int):Prop where
  D:Dv V v1 v0 U u1
  D2:Dv V v1 v0 R1 u0
  hQ1:Q1=(U * 4294967296 + u1) / V
  hQ0:Q0=(R1 * 4294967296 + u0) / V
  a1:(hi * 18446744073709551616 + lo) / n=Q1 * 4294967296 + Q0
  a2:(hi * 18446744073709551616 + lo) % n=M / 2 ^ s
  hmin:min s IntKind.u64.bits=s
  hmin2:min (64 - (s:Int)).toNat IntKind.u64.bits=64 - s
  sV:IntKind.u64.wrap ((n:Int) * 2 ^ s)=V
  sH:IntKind.u64.wrap (hi * 2 ^ s)=hi * 2 ^ s
  sL:IntKind.u64.wrap (lo * 2 ^ s)=L
  sR:lo.fdiv (2 ^ (64 - s))=lo / 2 ^ (64 - s)
  sO:Go.bits .or .u64 (hi * 2 ^ s) (lo / 2 ^ (64 - s))=U
  sM:M.fdiv (2 ^ s)=M / 2 ^ s
  aV:Go.bits .and .u64 V 4294967295=v0
  aL:Go.bits .and .u64 L 4294967295=u0
  v1e:V / 4294967296=v1
  u1e:L / 4294967296=u1
  wq:IntKind.u64.wrap (U / v1)=U / v1
  wm:IntKind.u64.wrap (U / v1 * v1)=U / v1 * v1
  wr:IntKind.u64.wrap (U - U / v1 * v1)=U % v1
  e1:IntKind.u64.wrap (IntKind.u64.wrap (IntKind.u64.wrap (U * 4294967296) + u1) - IntKind.u64.wrap (Q1 * V))=R1
  f1:IntKind.u64.wrap (IntKind.u64.wrap (Q1 * 4294967296) + Q0)=Q1 * 4294967296 + Q0
  f2:IntKind.u64.wrap (IntKind.u64.wrap (IntKind.u64.wrap (R1 * 4294967296) + u0) - IntKind.u64.wrap (Q0 * V))=M
  w2q:IntKind.u64.wrap (R1 / v1)=R1 / v1
  w2m:IntKind.u64.wrap (R1 / v1 * v1)=R1 / v1 * v1
  w2r:IntKind.u64.wrap (R1 - R1 / v1 * v1)=R1 % v1
theorem dz_of (hi lo:Int) (n s:Nat) (hh:0 < hi) (h1:hi < (n:Int)) (h2:(n:Int) < 18446744073709551616) (h3:W64 lo) (s1:s ≤ 63) (s2:2 ^ 63 ≤ n * 2 ^ s) (s3:n * 2 ^ s < 2 ^ 64) :
    ∃ V v1 v0 U L u1 u0 Q1 R1 Q0 M:Int,Dz hi lo n s V v1 v0 U L u1 u0 Q1 R1 Q0 M:=by
  have h0:0 ≤ hi:=by omega
  obtain ⟨h3,h4⟩:=h3
  have hpos:(0:Int) < 2 ^ s:=Int.pow_pos (by decide)
  have pow_nat:((n * 2 ^ s:Nat):Int)=(n:Int) * 2 ^ s:=by push_cast; rfl
  have s2':(9223372036854775808:Int) ≤ (n:Int) * 2 ^ s:=by rw [← pow_nat]; exact Int.ofNat_le.2 (show 9223372036854775808 ≤ n * 2 ^ s from s2)
  have s3':(n:Int) * 2 ^ s < 18446744073709551616:=by rw [← pow_nat]; exact Int.ofNat_lt.2 (show n * 2 ^ s < 18446744073709551616 from s3)
  have hpow:(2:Int) ^ s * 2 ^ (64 - s)=18446744073709551616:=by
    rw [← Int.pow_add,show s + (64 - s)=64 by omega]; rfl
  have hpos2:(0:Int) < 2 ^ (64 - s):=Int.pow_pos (by decide)
  -- the parts
  obtain ⟨V,hV⟩:∃ V,V=(n:Int) * 2 ^ s:=⟨_,rfl⟩
  obtain ⟨v1,hv1⟩:∃ v,v=V / 4294967296:=⟨_,rfl⟩
  obtain ⟨v0,hv0⟩:∃ v,v=V % 4294967296:=⟨_,rfl⟩
  have hhi:hi * 2 ^ s + 2 ^ s ≤ V:=by
    have:=Int.mul_le_mul_of_nonneg_right (show hi + 1 ≤ (n:Int) by omega) (Int.le_of_lt hpos)
    rw [Int.add_mul,Int.one_mul] at this
    omega
  have hhi0:0 ≤ hi * 2 ^ s:=Int.mul_nonneg h0 (Int.le_of_lt hpos)
  have hl0:0 ≤ lo / 2 ^ (64 - s):=Int.ediv_nonneg h3 (Int.le_of_lt hpos2)
  have hl1:lo / 2 ^ (64 - s) < 2 ^ s:=by
    rw [Int.ediv_lt_iff_lt_mul hpos2,hpow]; exact h4
  obtain ⟨U,hU⟩:∃ U,U=hi * 2 ^ s + lo / 2 ^ (64 - s):=⟨_,rfl⟩
  obtain ⟨L,hL⟩:∃ L,L=lo * 2 ^ s % 18446744073709551616:=⟨_,rfl⟩
  obtain ⟨u1,hu1⟩:∃ v,v=L / 4294967296:=⟨_,rfl⟩
  obtain ⟨u0,hu0⟩:∃ v,v=L % 4294967296:=⟨_,rfl⟩
  have D:Dv V v1 v0 U u1:=⟨by omega,by omega,by omega,by omega,by omega,by omega,by omega,by omega,by omega⟩
  have S:=starts D
  have hall:(hi * 18446744073709551616 + lo) * 2 ^ s=(U * 4294967296 + u1) * 4294967296 + u0:=by
    have e1:lo * 2 ^ s=(lo / 2 ^ (64 - s)) * 18446744073709551616 + L:=by
      have e2:=Int.emod_add_mul_ediv (lo * 2 ^ s) 18446744073709551616
      have e3:lo * 2 ^ s / 18446744073709551616=lo / 2 ^ (64 - s):=by
        rw [← hpow,Int.mul_comm lo,Int.mul_ediv_mul_of_pos _ _ hpos]
      rw [e3] at e2
      omega
    have e4:(hi * 18446744073709551616 + lo) * 2 ^ s=hi * 2 ^ s * 18446744073709551616 + lo * 2 ^ s:=by grind
    rw [e4,e1]
    omega
  have hq0:=Int.ediv_nonneg D.hU (show 0 ≤ v1 by omega)
  have hqb:=S.hq
  have hm:=Int.emod_add_mul_ediv U v1
  have hmc:v1 * (U / v1)=U / v1 * v1:=Int.mul_comm _ _
  have hm0:=Int.emod_nonneg U (show v1 ≠ 0 by omega)
  have hm1:=Int.emod_lt_of_pos U (show 0 < v1 by omega)
  have hmp:0 ≤ U / v1 * v1:=Int.mul_nonneg hq0 (by omega)
  -- the answer
  have hVp:0 < V:=by omega
  have qb:=U4 D
  have hN:=Int.emod_add_mul_ediv (U * 4294967296 + u1) V
  have hR0:=Int.emod_nonneg (U * 4294967296 + u1) (show V ≠ 0 by omega)
  have hR1:=Int.emod_lt_of_pos (U * 4294967296 + u1) (show 0 < V by omega)
  obtain ⟨Q1,hQ1⟩:∃ z,z=(U * 4294967296 + u1) / V:=⟨_,rfl⟩
  obtain ⟨R1,hR1'⟩:∃ z,z=(U * 4294967296 + u1) % V:=⟨_,rfl⟩
  have D2:Dv V v1 v0 R1 u0:=⟨D.hV,D.h1,D.h1',D.h0,D.h0',by omega,by omega,by omega,by omega⟩
  have S2:=starts D2
  have qb2:=U4 D2
  have hN2:=Int.emod_add_mul_ediv (R1 * 4294967296 + u0) V
  have hM0:=Int.emod_nonneg (R1 * 4294967296 + u0) (show V ≠ 0 by omega)
  have hM1:=Int.emod_lt_of_pos (R1 * 4294967296 + u0) hVp
  obtain ⟨Q0,hQ0⟩:∃ z,z=(R1 * 4294967296 + u0) / V:=⟨_,rfl⟩
  obtain ⟨M,hM⟩:∃ z,z=(R1 * 4294967296 + u0) % V:=⟨_,rfl⟩
  rw [← hQ1,← hR1'] at hN
  rw [← hQ0,← hM] at hN2
  rw [← hR1'] at hR0 hR1
  rw [← hM] at hM0 hM1
  rw [← hQ1] at qb
  rw [← hQ0] at qb2
  have hX:(hi * 18446744073709551616 + lo) * 2 ^ s=(Q1 * 4294967296 + Q0) * V + M:=by
    rw [hall]
    have:(Q1 * 4294967296 + Q0) * V=V * Q1 * 4294967296 + V * Q0:=by grind
    rw [this]
    omega
  have hn0:(0:Int) < n:=by omega
  have hdm:(hi * 18446744073709551616 + lo) / n=Q1 * 4294967296 + Q0 ∧ (hi * 18446744073709551616 + lo) % n=M / 2 ^ s:=by
    have e5:M % 2 ^ s=0:=by
      have:M=((hi * 18446744073709551616 + lo) - (Q1 * 4294967296 + Q0) * n) * 2 ^ s:=by
        have:((hi * 18446744073709551616 + lo) - (Q1 * 4294967296 + Q0) * n) * 2 ^ s=(hi * 18446744073709551616 + lo) * 2 ^ s - (Q1 * 4294967296 + Q0) * (n * 2 ^ s):=by grind
        rw [this,← hV]; omega
      rw [this]; exact Int.mul_emod_left _ _
    have e6:M=M / 2 ^ s * 2 ^ s:=by
      have:=Int.emod_add_mul_ediv M (2 ^ s)
      rw [e5,Int.zero_add,Int.mul_comm] at this
      exact this.symm
    have e7:(hi * 18446744073709551616 + lo)=(Q1 * 4294967296 + Q0) * n + M / 2 ^ s:=by
      have:(hi * 18446744073709551616 + lo) * 2 ^ s=((Q1 * 4294967296 + Q0) * n + M / 2 ^ s) * 2 ^ s:=by
        rw [hX,Int.add_mul (_ * _) (M / 2 ^ s),← e6,hV]; grind
      exact Int.eq_of_mul_eq_mul_right (by omega) this
    have e8:0 ≤ M / 2 ^ s:=Int.ediv_nonneg hM0 (Int.le_of_lt hpos)
    have e9:M / 2 ^ s < n:=by
      rw [Int.ediv_lt_iff_lt_mul hpos,← hV]; exact hM1
    have e10:(hi * 18446744073709551616 + lo)=M / 2 ^ s + n * (Q1 * 4294967296 + Q0):=by rw [Int.mul_comm (n:Int),Int.add_comm (M / 2 ^ s)]; exact e7
    exact (Int.ediv_emod_unique (a:=hi * 18446744073709551616 + lo) (b:=n) (q:=Q1 * 4294967296 + Q0) (r:=M / 2 ^ s) hn0).2 ⟨e10.symm,e8,e9⟩
  have hmin:min s IntKind.u64.bits=s:=Nat.min_eq_left (show s ≤ IntKind.u64.bits by simp [IntKind.bits]; omega)
  have hmin2:min (64 - (s:Int)).toNat IntKind.u64.bits=64 - s:=by
    rw [show (64 - (s:Int)).toNat=64 - s by omega]
    exact Nat.min_eq_left (show 64 - s ≤ IntKind.u64.bits by simp [IntKind.bits])
  have sV:IntKind.u64.wrap ((n:Int) * 2 ^ s)=V:=by rw [← hV,D6 (by omega) (by omega)]
  have sH:IntKind.u64.wrap (hi * 2 ^ s)=hi * 2 ^ s:=D6 (by omega) (by omega)
  have sL:IntKind.u64.wrap (lo * 2 ^ s)=L:=by rw [uw,hL]
  have sR:lo.fdiv (2 ^ (64 - s))=lo / 2 ^ (64 - s):=Is _ (Int.le_of_lt hpos2)
  have sO:Go.bits .or .u64 (hi * 2 ^ s) (lo / 2 ^ (64 - s))=U:=by
    rw [hU]
    exact bits_join .u64 64 (by decide) (fun n a b => D6 a b) s _ _ hhi0 (Int.mul_emod_left _ _) (by omega) hl0 hl1 (by omega)
  have sM:M.fdiv (2 ^ s)=M / 2 ^ s:=Is _ (Int.le_of_lt hpos)
  have aV:Go.bits .and .u64 V 4294967295=v0:=by rw [and32 (by omega) (by omega),hv0]
  have aL:Go.bits .and .u64 L 4294967295=u0:=by rw [and32 (by omega) (by omega),hu0]
  have wq:IntKind.u64.wrap (U / v1)=U / v1:=D6 hq0 (by omega)
  have wm:IntKind.u64.wrap (U / v1 * v1)=U / v1 * v1:=D6 hmp (by omega)
  have wr:IntKind.u64.wrap (U - U / v1 * v1)=U % v1:=by rw [D6 (by omega) (by omega)]; omega
  have e1:IntKind.u64.wrap (IntKind.u64.wrap (IntKind.u64.wrap (U * 4294967296) + u1) - IntKind.u64.wrap (Q1 * V))=R1:=by
    have hc:V * Q1=Q1 * V:=Int.mul_comm _ _
    clear hX hall hdm
    rw [uw,uw,uw,uw]
    generalize Q1 * V=P at *
    generalize V * Q1=P2 at *
    omega
  have f1:IntKind.u64.wrap (IntKind.u64.wrap (Q1 * 4294967296) + Q0)=Q1 * 4294967296 + Q0:=by rw [D6 (n:=Q1 * 4294967296) (by omega) (by omega),D6 (by omega) (by omega)]
  have f2:IntKind.u64.wrap (IntKind.u64.wrap (IntKind.u64.wrap (R1 * 4294967296) + u0) - IntKind.u64.wrap (Q0 * V))=M:=by
    have hc:V * Q0=Q0 * V:=Int.mul_comm _ _
    clear hX hall hdm
    rw [uw,uw,uw,uw]
    generalize Q0 * V=P at *
    generalize V * Q0=P2 at *
    omega
  obtain ⟨i1,i2,i3,i4,i5,i6⟩:0 ≤ R1 / v1 ∧ R1 / v1 ≤ 4294967297 ∧ 0 ≤ R1 / v1 * v1 ∧ R1 / v1 * v1 + R1 % v1=R1 ∧ 0 ≤ R1 % v1 ∧ R1 % v1 < v1:=by
    have h:=Int.ediv_nonneg hR0 (show 0 ≤ v1 by omega)
    refine ⟨h,S2.hq,Int.mul_nonneg h (by omega),by have:=Int.emod_add_mul_ediv R1 v1; have:v1 * (R1 / v1)=R1 / v1 * v1:=Int.mul_comm _ _; omega,Int.emod_nonneg R1 (by omega),Int.emod_lt_of_pos R1 (by omega)⟩
  have w2q:IntKind.u64.wrap (R1 / v1)=R1 / v1:=D6 i1 (by omega)
  have w2m:IntKind.u64.wrap (R1 / v1 * v1)=R1 / v1 * v1:=D6 i3 (by omega)
  have w2r:IntKind.u64.wrap (R1 - R1 / v1 * v1)=R1 % v1:=by rw [D6 (by omega) (by omega)]; omega
  exact ⟨V,v1,v0,U,L,u1,u0,Q1,R1,Q0,M,D,D2,hQ1,hQ0,hdm.1,hdm.2,hmin,hmin2,sV,sH,sL,sR,sO,sM,aV,aL,hv1.symm,hu1.symm,wq,wm,wr,e1,f1,f2,w2q,w2m,w2r⟩
set_option maxRecDepth 10000 in
set_option maxHeartbeats 2000000 in
theorem At9 (hi lo y:Int) (hh:0 < hi) (h1:hi < y) (h2:y < 18446744073709551616) (h3:W64 lo) :
    CallsP Try.prog 118 [u64 hi,u64 lo,u64 y] (.tup [u64 ((hi * 18446744073709551616 + lo) / y),u64 ((hi * 18446744073709551616 + lo) % y)]):=by
  obtain ⟨n,rfl⟩:=Int.eq_ofNat_of_zero_le (show 0 ≤ y by omega)
  obtain ⟨s,hs,s1,s2,s3⟩:=Af0 n (by omega) (by omega)
  obtain ⟨V,v1,v0,U,L,u1,u0,Q1,R1,Q0,M,Z⟩:=dz_of hi lo n s hh h1 h2 h3 s1 s2 s3
  rw [Z.a1,Z.a2]
  clear s2 s3
  have d0:0 < v1:=by have:=Z.D.h1; omega
  have hU:=Z.D.hU
  have hR:=Z.D2.hU
  refine CallsP.start (n:=135) (rs:=[.tmp 6,.tmp 7]) Try.func118 rfl rfl rfl fun base => ?_
  simp (maxSteps:=20000000) only [List.length_cons,List.length_nil,reduceAdd,reduceSub,List.replicate,List.cons_append,List.nil_append]
  simp (maxSteps:=20000000) (disch:=omega) only [zzB,tys,ite_self,A8,A2,Ax,Aq,Ao,At,Az,Ac,A5,PV.sk,Ai,Ar,As,Ap,Ay,Ab,Aj,Am,A9,Value.oneCell',Ah,Ba,Aw,A4,A1,Al,An,Ae,Ak,isZ,A6,A3,Ad,Aa,Ag,A0,Af,↓reduceIte,reduceSub,reduceEqDiff,reduceAdd,reduceMul,reduceLT,reduceLeDiff,reduceToNat,reduceLE,Int.reduceLT,reduceNeg,reduceCtorEq,gos,Int.reduceAdd,Int.reduceSub,Int.reduceMul,reduceEq]
  refine Gj (hs) rfl rfl (by simp only [tys]) (by first|rfl|simp [sim7,Az,Cr,zzL,if_true,if_false,ite_self,reduceEqDiff,reduceMul,reduceAdd,reduceCtorEq]) ?_
  simp (maxSteps:=20000000) (disch:=omega) only [zzB,tys,ite_self,A8,A2,Ax,Aq,Ao,At,Az,Ac,A5,PV.sk,Ai,Ar,As,Ap,Ay,Ab,Aj,Am,A9,Value.oneCell',Ah,Ba,Aw,A4,A1,Al,An,Ae,Ak,isZ,A6,A3,Ad,Aa,Ag,A0,Af,↓reduceIte,reduceSub,reduceEqDiff,reduceAdd,reduceMul,reduceLT,reduceLeDiff,reduceToNat,reduceLE,Int.reduceLT,reduceNeg,reduceCtorEq,gos,Int.reduceAdd,Int.reduceSub,Int.reduceMul,reduceEq,Z.hmin,Z.hmin2,Z.sV,Z.sH,Z.sL,Z.sR,Z.sO,Z.aV,Z.aL,Z.v1e,Z.u1e,Z.wq,Z.wm,Z.wr]
  clear hs
  refine Ab4 (false::false::true::false::false::false::false::false::true::true::true::true::false::true::true::true::true::false::false::false::false::false::false::false::false::false::false::false::false::false::false::false::false::false::false::false::false::false::false::false::false::false::false::false::false::false::false::false::false::false::false::false::false::false::false::false::false::false::false::false::false::false::false::false::false::false::false::false::false::false::false::false::false::false::false::false::false::false::false::false::false::false::false::false::false::false::false::false::false::false::false::false::false::false::false::false::false::false::false::false::false::false::false::false::false::false::false::false::false::false::false::false::false::false::false::false::false::false::false::false::false::false::false::[false,false,false,false,false,false,false,false,false,false,false,false]) [] (U / v1 - Q1).toNat (GI v1 U Q1 (fun q r => (.dead::.dead::(u64 V)::.dead::.dead::.dead::.dead::.dead::(u64 s)::(u64 v1)::(u64 v0)::(u64 U)::.dead::(u64 u1)::(u64 u0)::(u64 q)::(u64 r)::.dead::.dead::.dead::.dead::.dead::.dead::.dead::.dead::.dead::.dead::.dead::.dead::.dead::.dead::.dead::.dead::.dead::.dead::.dead::.dead::.dead::.dead::.dead::.dead::.dead::.dead::.dead::.dead::.dead::.dead::.dead::.dead::.dead::.dead::.dead::.dead::.dead::.dead::.dead::.dead::.dead::.dead::.dead::.dead::.dead::.dead::.dead::.dead::.dead::.dead::.dead::.dead::.dead::.dead::.dead::.dead::.dead::.dead::.dead::.dead::.dead::.dead::.dead::.dead::.dead::.dead::.dead::.dead::.dead::.dead::.dead::.dead::.dead::.dead::.dead::.dead::.dead::.dead::.dead::.dead::.dead::.dead::.dead::.dead::.dead::.dead::.dead::.dead::.dead::.dead::.dead::.dead::.dead::.dead::.dead::.dead::.dead::.dead::.dead::.dead::.dead::.dead::.dead::.dead::.dead::.dead::[.dead,.dead,.dead,.dead,.dead,.dead,.dead,.dead,.dead,.dead,.dead,.dead]))) 0 (fun t h => Shape (fun ff:Nat → PV => ((ff 0)::(ff 1)::(u64 V)::(ff 3)::(ff 4)::(ff 5)::(ff 6)::(ff 7)::(u64 s)::(u64 v1)::(u64 v0)::(u64 U)::(ff 12)::(u64 u1)::(u64 u0)::(u64 Q1)::(ff 16)::(ff 17)::(ff 18)::(ff 19)::(ff 20)::(ff 21)::(ff 22)::(ff 23)::(ff 24)::(ff 25)::(ff 26)::(ff 27)::(ff 28)::(ff 29)::(ff 30)::(ff 31)::(ff 32)::(ff 33)::(ff 34)::(ff 35)::(ff 36)::(ff 37)::(ff 38)::(ff 39)::(ff 40)::(ff 41)::(ff 42)::(ff 43)::(ff 44)::(ff 45)::(ff 46)::(ff 47)::(ff 48)::(ff 49)::(ff 50)::(ff 51)::(ff 52)::(ff 53)::(ff 54)::(ff 55)::(ff 56)::(ff 57)::(ff 58)::(ff 59)::(ff 60)::(ff 61)::(ff 62)::(ff 63)::(ff 64)::(ff 65)::(ff 66)::(ff 67)::(ff 68)::(ff 69)::(ff 70)::(ff 71)::(ff 72)::(ff 73)::(ff 74)::(ff 75)::(ff 76)::(ff 77)::(ff 78)::(ff 79)::(ff 80)::(ff 81)::(ff 82)::(ff 83)::(ff 84)::(ff 85)::(ff 86)::(ff 87)::(ff 88)::(ff 89)::(ff 90)::(ff 91)::(ff 92)::(ff 93)::(ff 94)::(ff 95)::(ff 96)::(ff 97)::(ff 98)::(ff 99)::(ff 100)::(ff 101)::(ff 102)::(ff 103)::(ff 104)::(ff 105)::(ff 106)::(ff 107)::(ff 108)::(ff 109)::(ff 110)::(ff 111)::(ff 112)::(ff 113)::(ff 114)::(ff 115)::(ff 116)::(ff 117)::(ff 118)::(ff 119)::(ff 120)::(ff 121)::(ff 122)::[ff 123,ff 124,ff 125,ff 126,ff 127,ff 128,ff 129,ff 130,ff 131,ff 132,ff 133,ff 134])) t ∧ h=Heap.none) ?_ ?_ ?_ ?_
  · exact E6 rfl
  · exact ⟨U / v1,U % v1,by have:=(starts Z.D).ht; rw [← Z.hQ1] at this; omega,Z.hQ1 ▸ starts Z.D,rfl,drop_nil _⟩
  · rintro j t h ⟨q,r,hq,G,rfl,rfl⟩
    have G':Gs v1 U q r ((U * 4294967296 + u1) / V):=Z.hQ1 ▸ G
    obtain ⟨q0,q1⟩:=U4 Z.D
    rw [← Z.hQ1] at q0 q1
    obtain ⟨t1,t2⟩:=test2 G' (by omega) Z.D
    obtain ⟨b1,b2,b3⟩:0 ≤ r ∧ r < 4294967296 ∧ q ≤ 4294967297:=⟨G.hr0,G.hr1,G.hq⟩
    obtain ⟨d1,d2⟩:0 ≤ v1 ∧ v1 < 4294967296:=⟨by have:=Z.D.h1; omega,Z.D.h1'⟩
    rcases Nat.eq_zero_or_pos j with c|c
    · have hn:=qt_ge Z.D G' (by rw [← Z.hQ1]; omega)
      have hqq:q=Q1:=by omega
      rw [hqq] at t1 hn ⊢
      clear G' G hq
      simp (maxSteps:=20000000) (disch:=omega) only [zzB,tys,ite_self,A8,A2,Ax,Aq,Ao,At,Az,Ac,A5,PV.sk,Ai,Ar,As,Ap,Ay,Ab,Aj,Am,A9,Value.oneCell',Ah,Ba,Aw,A4,A1,Al,An,Ae,Ak,isZ,A6,A3,Ad,Aa,Ag,A0,Af,↓reduceIte,reduceSub,reduceEqDiff,reduceAdd,reduceMul,reduceLT,reduceLeDiff,reduceToNat,reduceLE,Int.reduceLT,reduceNeg,reduceCtorEq,gos,Int.reduceAdd,Int.reduceSub,Int.reduceMul,reduceEq,t1,t2]
      exact Shape.of rfl
    · have dn:=down Z.D G' (by rw [← Z.hQ1]; omega)
      have dt:=Aa5 Z.D G' (by rw [← Z.hQ1]; omega)
      rw [← Z.hQ1] at dn
      clear G' G
      by_cases c0:4294967296 ≤ q
      · by_cases c2:4294967296 ≤ r + v1
        · have hqq:=dn.1 c2
          clear dn dt
          simp (maxSteps:=20000000) (disch:=omega) only [zzB,tys,ite_self,A8,A2,Ax,Aq,Ao,At,Az,Ac,A5,PV.sk,Ai,Ar,As,Ap,Ay,Ab,Aj,Am,A9,Value.oneCell',Ah,Ba,Aw,A4,A1,Al,An,Ae,Ak,isZ,A6,A3,Ad,Aa,Ag,A0,Af,↓reduceIte,reduceSub,reduceEqDiff,reduceAdd,reduceMul,reduceLT,reduceLeDiff,reduceToNat,reduceLE,Int.reduceLT,reduceNeg,reduceCtorEq,gos,Int.reduceAdd,Int.reduceSub,Int.reduceMul,reduceEq,t1,t2,hqq]
          exact Shape.of rfl
        · have hG:=dn.2 (by omega)
          clear dn dt
          simp (maxSteps:=20000000) (disch:=omega) only [zzB,tys,ite_self,A8,A2,Ax,Aq,Ao,At,Az,Ac,A5,PV.sk,Ai,Ar,As,Ap,Ay,Ab,Aj,Am,A9,Value.oneCell',Ah,Ba,Aw,A4,A1,Al,An,Ae,Ak,isZ,A6,A3,Ad,Aa,Ag,A0,Af,↓reduceIte,reduceSub,reduceEqDiff,reduceAdd,reduceMul,reduceLT,reduceLeDiff,reduceToNat,reduceLE,Int.reduceLT,reduceNeg,reduceCtorEq,gos,Int.reduceAdd,Int.reduceSub,Int.reduceMul,reduceEq,t1,t2]
          refine ⟨j - 1,by omega,E6 rfl,⟨q - 1,r + v1,by omega,hG,?_,drop_nil _⟩⟩
          simp (maxSteps:=20000000) only [Di,if_true,if_false,Bool.false_eq_true]
      · have c1:4294967296 * r + u1 < q * v0:=by
          rcases dt with c1|c1
          · omega
          · exact c1
        by_cases c2:4294967296 ≤ r + v1
        · have hqq:=dn.1 c2
          clear dn dt
          simp (maxSteps:=20000000) (disch:=omega) only [zzB,tys,ite_self,A8,A2,Ax,Aq,Ao,At,Az,Ac,A5,PV.sk,Ai,Ar,As,Ap,Ay,Ab,Aj,Am,A9,Value.oneCell',Ah,Ba,Aw,A4,A1,Al,An,Ae,Ak,isZ,A6,A3,Ad,Aa,Ag,A0,Af,↓reduceIte,reduceSub,reduceEqDiff,reduceAdd,reduceMul,reduceLT,reduceLeDiff,reduceToNat,reduceLE,Int.reduceLT,reduceNeg,reduceCtorEq,gos,Int.reduceAdd,Int.reduceSub,Int.reduceMul,reduceEq,t1,t2,hqq]
          exact Shape.of rfl
        · have hG:=dn.2 (by omega)
          clear dn dt
          simp (maxSteps:=20000000) (disch:=omega) only [zzB,tys,ite_self,A8,A2,Ax,Aq,Ao,At,Az,Ac,A5,PV.sk,Ai,Ar,As,Ap,Ay,Ab,Aj,Am,A9,Value.oneCell',Ah,Ba,Aw,A4,A1,Al,An,Ae,Ak,isZ,A6,A3,Ad,Aa,Ag,A0,Af,↓reduceIte,reduceSub,reduceEqDiff,reduceAdd,reduceMul,reduceLT,reduceLeDiff,reduceToNat,reduceLE,Int.reduceLT,reduceNeg,reduceCtorEq,gos,Int.reduceAdd,Int.reduceSub,Int.reduceMul,reduceEq,t1,t2]
          refine ⟨j - 1,by omega,E6 rfl,⟨q - 1,r + v1,by omega,hG,?_,drop_nil _⟩⟩
          simp (maxSteps:=20000000) only [Di,if_true,if_false,Bool.false_eq_true]
  · rintro t h ⟨⟨ff,rfl⟩,rfl⟩

    simp (maxSteps:=20000000) (disch:=omega) only [zzB,tys,ite_self,A8,A2,Ax,Aq,Ao,At,Az,Ac,A5,PV.sk,Ai,Ar,As,Ap,Ay,Ab,Aj,Am,A9,Value.oneCell',Ah,Ba,Aw,A4,A1,Al,An,Ae,Ak,isZ,A6,A3,Ad,Aa,Ag,A0,Af,↓reduceIte,reduceSub,reduceEqDiff,reduceAdd,reduceMul,reduceLT,reduceLeDiff,reduceToNat,reduceLE,Int.reduceLT,reduceNeg,reduceCtorEq,gos,Int.reduceAdd,Int.reduceSub,Int.reduceMul,reduceEq,Z.e1,Z.w2q,Z.w2m,Z.w2r]
    refine Ab4 (false::false::true::false::false::false::false::false::true::true::true::false::false::false::true::true::true::true::true::false::false::false::false::false::false::false::false::false::false::false::false::false::false::false::false::false::false::false::false::false::false::false::false::false::false::false::false::false::false::false::false::false::false::false::false::false::false::false::false::false::false::false::false::false::false::false::false::false::false::false::false::false::false::false::false::false::false::false::false::false::false::false::false::false::false::false::false::false::false::false::false::false::false::false::false::false::false::false::false::false::false::false::false::false::false::false::false::false::false::false::false::false::false::false::false::false::false::false::false::false::false::false::false::[false,false,false,false,false,false,false,false,false,false,false,false]) [] (R1 / v1 - Q0).toNat (GI v1 R1 Q0 (fun q r => (.dead::.dead::(u64 V)::.dead::.dead::.dead::.dead::.dead::(u64 s)::(u64 v1)::(u64 v0)::.dead::.dead::.dead::(u64 u0)::(u64 Q1)::(u64 r)::(u64 R1)::(u64 q)::.dead::.dead::.dead::.dead::.dead::.dead::.dead::.dead::.dead::.dead::.dead::.dead::.dead::.dead::.dead::.dead::.dead::.dead::.dead::.dead::.dead::.dead::.dead::.dead::.dead::.dead::.dead::.dead::.dead::.dead::.dead::.dead::.dead::.dead::.dead::.dead::.dead::.dead::.dead::.dead::.dead::.dead::.dead::.dead::.dead::.dead::.dead::.dead::.dead::.dead::.dead::.dead::.dead::.dead::.dead::.dead::.dead::.dead::.dead::.dead::.dead::.dead::.dead::.dead::.dead::.dead::.dead::.dead::.dead::.dead::.dead::.dead::.dead::.dead::.dead::.dead::.dead::.dead::.dead::.dead::.dead::.dead::.dead::.dead::.dead::.dead::.dead::.dead::.dead::.dead::.dead::.dead::.dead::.dead::.dead::.dead::.dead::.dead::.dead::.dead::.dead::.dead::.dead::.dead::[.dead,.dead,.dead,.dead,.dead,.dead,.dead,.dead,.dead,.dead,.dead,.dead]))) 2 (fun t h => Shape (fun ff:Nat → PV => ((ff 0)::(ff 1)::(u64 V)::(ff 3)::(ff 4)::(ff 5)::(ff 6)::(ff 7)::(u64 s)::(u64 v1)::(u64 v0)::(ff 11)::(ff 12)::(ff 13)::(u64 u0)::(u64 Q1)::(ff 16)::(u64 R1)::(u64 Q0)::(ff 19)::(ff 20)::(ff 21)::(ff 22)::(ff 23)::(ff 24)::(ff 25)::(ff 26)::(ff 27)::(ff 28)::(ff 29)::(ff 30)::(ff 31)::(ff 32)::(ff 33)::(ff 34)::(ff 35)::(ff 36)::(ff 37)::(ff 38)::(ff 39)::(ff 40)::(ff 41)::(ff 42)::(ff 43)::(ff 44)::(ff 45)::(ff 46)::(ff 47)::(ff 48)::(ff 49)::(ff 50)::(ff 51)::(ff 52)::(ff 53)::(ff 54)::(ff 55)::(ff 56)::(ff 57)::(ff 58)::(ff 59)::(ff 60)::(ff 61)::(ff 62)::(ff 63)::(ff 64)::(ff 65)::(ff 66)::(ff 67)::(ff 68)::(ff 69)::(ff 70)::(ff 71)::(ff 72)::(ff 73)::(ff 74)::(ff 75)::(ff 76)::(ff 77)::(ff 78)::(ff 79)::(ff 80)::(ff 81)::(ff 82)::(ff 83)::(ff 84)::(ff 85)::(ff 86)::(ff 87)::(ff 88)::(ff 89)::(ff 90)::(ff 91)::(ff 92)::(ff 93)::(ff 94)::(ff 95)::(ff 96)::(ff 97)::(ff 98)::(ff 99)::(ff 100)::(ff 101)::(ff 102)::(ff 103)::(ff 104)::(ff 105)::(ff 106)::(ff 107)::(ff 108)::(ff 109)::(ff 110)::(ff 111)::(ff 112)::(ff 113)::(ff 114)::(ff 115)::(ff 116)::(ff 117)::(ff 118)::(ff 119)::(ff 120)::(ff 121)::(ff 122)::[ff 123,ff 124,ff 125,ff 126,ff 127,ff 128,ff 129,ff 130,ff 131,ff 132,ff 133,ff 134])) t ∧ h=Heap.none) ?_ ?_ ?_ ?_
    · exact E6 rfl
    · exact ⟨R1 / v1,R1 % v1,by have:=(starts Z.D2).ht; rw [← Z.hQ0] at this; omega,Z.hQ0 ▸ starts Z.D2,rfl,drop_nil _⟩
    · rintro j t h ⟨q,r,hq,G,rfl,rfl⟩
      have G':Gs v1 R1 q r ((R1 * 4294967296 + u0) / V):=Z.hQ0 ▸ G
      obtain ⟨q0,q1⟩:=U4 Z.D2
      rw [← Z.hQ0] at q0 q1
      obtain ⟨t1,t2⟩:=test2 G' (by omega) Z.D2
      obtain ⟨b1,b2,b3⟩:0 ≤ r ∧ r < 4294967296 ∧ q ≤ 4294967297:=⟨G.hr0,G.hr1,G.hq⟩
      obtain ⟨d1,d2⟩:0 ≤ v1 ∧ v1 < 4294967296:=⟨by have:=Z.D.h1; omega,Z.D.h1'⟩
      rcases Nat.eq_zero_or_pos j with c|c
      · have hn:=qt_ge Z.D2 G' (by rw [← Z.hQ0]; omega)
        have hqq:q=Q0:=by omega
        rw [hqq] at t1 hn ⊢
        clear G' G hq
        simp (maxSteps:=20000000) (disch:=omega) only [zzB,tys,ite_self,A8,A2,Ax,Aq,Ao,At,Az,Ac,A5,PV.sk,Ai,Ar,As,Ap,Ay,Ab,Aj,Am,A9,Value.oneCell',Ah,Ba,Aw,A4,A1,Al,An,Ae,Ak,isZ,A6,A3,Ad,Aa,Ag,A0,Af,↓reduceIte,reduceSub,reduceEqDiff,reduceAdd,reduceMul,reduceLT,reduceLeDiff,reduceToNat,reduceLE,Int.reduceLT,reduceNeg,reduceCtorEq,gos,Int.reduceAdd,Int.reduceSub,Int.reduceMul,reduceEq,t1,t2]
        exact Shape.of rfl
      · have dn:=down Z.D2 G' (by rw [← Z.hQ0]; omega)
        have dt:=Aa5 Z.D2 G' (by rw [← Z.hQ0]; omega)
        rw [← Z.hQ0] at dn
        clear G' G
        by_cases c0:4294967296 ≤ q
        · by_cases c2:4294967296 ≤ r + v1
          · have hqq:=dn.1 c2
            clear dn dt
            simp (maxSteps:=20000000) (disch:=omega) only [zzB,tys,ite_self,A8,A2,Ax,Aq,Ao,At,Az,Ac,A5,PV.sk,Ai,Ar,As,Ap,Ay,Ab,Aj,Am,A9,Value.oneCell',Ah,Ba,Aw,A4,A1,Al,An,Ae,Ak,isZ,A6,A3,Ad,Aa,Ag,A0,Af,↓reduceIte,reduceSub,reduceEqDiff,reduceAdd,reduceMul,reduceLT,reduceLeDiff,reduceToNat,reduceLE,Int.reduceLT,reduceNeg,reduceCtorEq,gos,Int.reduceAdd,Int.reduceSub,Int.reduceMul,reduceEq,t1,t2,hqq]
            exact Shape.of rfl
          · have hG:=dn.2 (by omega)
            clear dn dt
            simp (maxSteps:=20000000) (disch:=omega) only [zzB,tys,ite_self,A8,A2,Ax,Aq,Ao,At,Az,Ac,A5,PV.sk,Ai,Ar,As,Ap,Ay,Ab,Aj,Am,A9,Value.oneCell',Ah,Ba,Aw,A4,A1,Al,An,Ae,Ak,isZ,A6,A3,Ad,Aa,Ag,A0,Af,↓reduceIte,reduceSub,reduceEqDiff,reduceAdd,reduceMul,reduceLT,reduceLeDiff,reduceToNat,reduceLE,Int.reduceLT,reduceNeg,reduceCtorEq,gos,Int.reduceAdd,Int.reduceSub,Int.reduceMul,reduceEq,t1,t2]
            refine ⟨j - 1,by omega,E6 rfl,⟨q - 1,r + v1,by omega,hG,?_,drop_nil _⟩⟩
            simp (maxSteps:=20000000) only [Di,if_true,if_false,Bool.false_eq_true]
        · have c1:4294967296 * r + u0 < q * v0:=by
            rcases dt with c1|c1
            · omega
            · exact c1
          by_cases c2:4294967296 ≤ r + v1
          · have hqq:=dn.1 c2
            clear dn dt
            simp (maxSteps:=20000000) (disch:=omega) only [zzB,tys,ite_self,A8,A2,Ax,Aq,Ao,At,Az,Ac,A5,PV.sk,Ai,Ar,As,Ap,Ay,Ab,Aj,Am,A9,Value.oneCell',Ah,Ba,Aw,A4,A1,Al,An,Ae,Ak,isZ,A6,A3,Ad,Aa,Ag,A0,Af,↓reduceIte,reduceSub,reduceEqDiff,reduceAdd,reduceMul,reduceLT,reduceLeDiff,reduceToNat,reduceLE,Int.reduceLT,reduceNeg,reduceCtorEq,gos,Int.reduceAdd,Int.reduceSub,Int.reduceMul,reduceEq,t1,t2,hqq]
            exact Shape.of rfl
          · have hG:=dn.2 (by omega)
            clear dn dt
            simp (maxSteps:=20000000) (disch:=omega) only [zzB,tys,ite_self,A8,A2,Ax,Aq,Ao,At,Az,Ac,A5,PV.sk,Ai,Ar,As,Ap,Ay,Ab,Aj,Am,A9,Value.oneCell',Ah,Ba,Aw,A4,A1,Al,An,Ae,Ak,isZ,A6,A3,Ad,Aa,Ag,A0,Af,↓reduceIte,reduceSub,reduceEqDiff,reduceAdd,reduceMul,reduceLT,reduceLeDiff,reduceToNat,reduceLE,Int.reduceLT,reduceNeg,reduceCtorEq,gos,Int.reduceAdd,Int.reduceSub,Int.reduceMul,reduceEq,t1,t2]
            refine ⟨j - 1,by omega,E6 rfl,⟨q - 1,r + v1,by omega,hG,?_,drop_nil _⟩⟩
            simp (maxSteps:=20000000) only [Di,if_true,if_false,Bool.false_eq_true]
    · rintro t h ⟨⟨ff,rfl⟩,rfl⟩

      simp (maxSteps:=20000000) (disch:=omega) only [zzB,tys,ite_self,A8,A2,Ax,Aq,Ao,At,Az,Ac,A5,PV.sk,Ai,Ar,As,Ap,Ay,Ab,Aj,Am,A9,Value.oneCell',Ah,Ba,Aw,A4,A1,Al,An,Ae,Ak,isZ,A6,A3,Ad,Aa,Ag,A0,Af,↓reduceIte,reduceSub,reduceEqDiff,reduceAdd,reduceMul,reduceLT,reduceLeDiff,reduceToNat,reduceLE,Int.reduceLT,reduceNeg,reduceCtorEq,zzR,gos,Int.reduceAdd,Int.reduceSub,Int.reduceMul,reduceEq,Z.hmin,Z.sM,Z.f1,Z.f2]
theorem At8 (lo y:Int) (h1:0 < y) (h2:y < 18446744073709551616) (h3:W64 lo) :
    CallsP Try.prog 118 [u64 0,u64 lo,u64 y] (.tup [u64 (lo / y),u64 (lo % y)]):=by
  obtain ⟨h3,h4⟩:=h3
  have b1:=Int.ediv_nonneg h3 (show 0 ≤ y by omega)
  have b2:lo / y ≤ lo:=Int.ediv_le_self _ h3
  refine CallsP.start (n:=135) (rs:=[.tmp 6,.tmp 7]) Try.func118 rfl rfl rfl fun base => ?_
  simp (maxSteps:=20000000) only [List.length_cons,List.length_nil,reduceAdd,reduceSub,List.replicate,List.cons_append,List.nil_append]
  simp (maxSteps:=20000000) (disch:=omega) only [zzB,tys,ite_self,A8,A2,Ax,Aq,Ao,At,Az,Ac,A5,PV.sk,Ai,Ar,As,Ap,Ay,Ab,Aj,Am,A9,Value.oneCell',Ah,Ba,Aw,A4,A1,Al,An,Ae,Ak,isZ,A6,A3,Ad,Aa,Ag,A0,Af,↓reduceIte,reduceSub,reduceEqDiff,reduceAdd,reduceMul,reduceLT,reduceLeDiff,reduceToNat,reduceLE,Int.reduceLT,reduceNeg,reduceCtorEq,gos,Int.reduceAdd,Int.reduceSub,Int.reduceMul,reduceEq]
  refine ⟨by kernel_rfl,?_⟩
  simp (maxSteps:=20000000) (disch:=omega) only [zzB,tys,ite_self,A8,A2,Ax,Aq,Ao,At,Az,Ac,A5,PV.sk,Ai,Ar,As,Ap,Ay,Ab,Aj,Am,A9,Value.oneCell',Ah,Ba,Aw,A4,A1,Al,An,Ae,Ak,isZ,A6,A3,Ad,Aa,Ag,A0,Af,↓reduceIte,reduceSub,reduceEqDiff,reduceAdd,reduceMul,reduceLT,reduceLeDiff,reduceToNat,reduceLE,Int.reduceLT,reduceNeg,reduceCtorEq,zzR,gos,Int.reduceAdd,Int.reduceSub,Int.reduceMul,reduceEq]
theorem Ym (hi lo y:Int) (h0:0 ≤ hi) (h1:hi < y) (h2:y < 18446744073709551616) (h3:W64 lo) :
    CallsP Try.prog 118 [u64 hi,u64 lo,u64 y] (.tup [u64 ((hi * 18446744073709551616 + lo) / y),u64 ((hi * 18446744073709551616 + lo) % y)]):=by
  by_cases c:hi=0
  · subst c
    rw [Int.zero_mul,Int.zero_add]
    exact At8 lo y h1 h2 h3
  · exact At9 hi lo y (by omega) h1 h2 h3
theorem Xm (hi lo y:Int) (h0:0 ≤ hi) (h1:0 < y) (h2:y < 18446744073709551616) (h3:W64 lo) :
    CallsP Try.prog 104 [u64 hi,u64 lo,u64 y] (u64 ((hi * 18446744073709551616 + lo) % y)):=by
  have hm0:=Int.emod_nonneg hi (show y ≠ 0 by omega)
  have hm1:=Int.emod_lt_of_pos hi h1
  have ev:=Ym (hi % y) lo y hm0 hm1 h2 h3
  have e:(hi % y * 18446744073709551616 + lo) % y=(hi * 18446744073709551616 + lo) % y:=by
    rw [Int.add_emod,Int.mul_emod,Int.emod_emod_of_dvd hi (Int.dvd_refl y),← Int.mul_emod,← Int.add_emod]
  rw [e] at ev
  refine CallsP.start (n:=19) (rs:=[.tmp 6]) Try.func104 rfl rfl rfl fun base => ?_
  simp (maxSteps:=20000000) only [List.length_cons,List.length_nil,reduceAdd,reduceSub,List.replicate,List.cons_append,List.nil_append]
  simp (maxSteps:=20000000) (disch:=omega) only [zzB,tys,ite_self,A8,A2,Ax,Aq,Ao,At,Az,Ac,A5,PV.sk,Ai,Ar,As,Ap,Ay,Ab,Aj,Am,A9,Value.oneCell',Ah,Ba,Aw,A4,A1,Al,An,Ae,Ak,isZ,A6,A3,Ad,Aa,Ag,A0,Af,↓reduceIte,reduceSub,reduceEqDiff,reduceAdd,reduceMul,reduceLT,reduceLeDiff,reduceToNat,reduceLE,Int.reduceLT,reduceNeg,reduceCtorEq,gos,Int.reduceAdd,Int.reduceSub,Int.reduceMul,reduceEq]
  refine Gj (ev) rfl rfl (by simp only [tys]) (by first|rfl|simp [sim7,Az,Cr,zzL,if_true,if_false,ite_self,reduceEqDiff,reduceMul,reduceAdd,reduceCtorEq]) ?_
  simp (maxSteps:=20000000) (disch:=omega) only [zzB,tys,ite_self,A8,A2,Ax,Aq,Ao,At,Az,Ac,A5,PV.sk,Ai,Ar,As,Ap,Ay,Ab,Aj,Am,A9,Value.oneCell',Ah,Ba,Aw,A4,A1,Al,An,Ae,Ak,isZ,A6,A3,Ad,Aa,Ag,A0,Af,↓reduceIte,reduceSub,reduceEqDiff,reduceAdd,reduceMul,reduceLT,reduceLeDiff,reduceToNat,reduceLE,Int.reduceLT,reduceNeg,reduceCtorEq,zzR,gos,Int.reduceAdd,Int.reduceSub,Int.reduceMul,reduceEq]
end Go.Proofs.Ythnfphgjfpcpbaa.TM
namespace Go.Proofs.Ythnfphgjfpcpbaa.TM
open Go Go.RowKit
theorem Ri {α:Type} {a b:List α} {j:Nat} (h1:j < a.length) (h2:j < b.length) (h:a.take j=b.take j) (e:a[j]=b[j]):a.take (j + 1)=b.take (j + 1):=by
  rw [List.take_succ_eq_append_getElem h1,List.take_succ_eq_append_getElem h2,h,e]
theorem Ih (a b:List Int) (hl:a.length ≤ maxLen):CallsP Try.prog 24 [lu a,lu b] (bl (decide (a=b))):=by
  rw [B3] at hl
  by_cases c0:a.length=b.length
  · have c0':(a.length:Int)=(b.length:Int):=by omega
    refine CallsP.start (n:=26) (rs:=[.tmp 4]) Try.func24 rfl rfl rfl fun base => ?_
    simp (maxSteps:=20000000) only [List.length_cons,List.length_nil,reduceAdd,reduceSub,List.replicate,List.cons_append,List.nil_append]
    simp (maxSteps:=20000000) (disch:=omega) only [zzB,tys,ite_self,A8,A2,Ax,Aq,Ao,At,Az,Ac,A5,PV.sk,Ai,Ar,As,Ap,Ay,Ab,Aj,Am,A9,Value.oneCell',Ah,Ba,Aw,A4,A1,Al,An,Ae,Ak,isZ,A6,A3,Ad,Aa,Ag,A0,Af,↓reduceIte,reduceSub,reduceEqDiff,reduceAdd,reduceMul,reduceLT,reduceLeDiff,reduceToNat,reduceLE,Int.reduceLT,reduceNeg,reduceCtorEq,gos,Int.reduceAdd,Int.reduceSub,Int.reduceMul,reduceEq]
    refine Bd6 (true::true::false::false::false::true::false::false::false::false::false::false::false::false::[false,false,false,false,false,false,false,false,false,false,false,false]) [] (0) (a.length) (fun j => a.take j=b.take j) (fun j => [(5,i64 j)]) (fun j => Heap.none) ?_ ?_ ?_ ?_ ?_ ?_
    · exact E6 rfl
    · rfl
    · exact drop_nil _
    · omega
    · rfl
    · intro j hj hf
      by_cases c:j < a.length
      · have c':j < b.length:=by omega
        have g1:a[j]?=some a[j]:=List.getElem?_eq_getElem c
        have g2:b[j]?=some b[j]:=List.getElem?_eq_getElem c'
        by_cases e:a[j]=b[j]
        · have nx:=Ri c c' hf e
          simp (maxSteps:=20000000) (disch:=omega) only [zzB,tys,ite_self,A8,A2,Ax,Aq,Ao,At,Az,Ac,A5,PV.sk,Ai,Ar,As,Ap,Ay,Ab,Aj,Am,A9,Value.oneCell',Ah,Ba,Aw,A4,A1,Al,An,Ae,Ak,isZ,A6,A3,Ad,Aa,Ag,A0,Af,↓reduceIte,reduceSub,reduceEqDiff,reduceAdd,reduceMul,reduceLT,reduceLeDiff,reduceToNat,reduceLE,Int.reduceLT,reduceNeg,reduceCtorEq,gos,Int.reduceAdd,Int.reduceSub,Int.reduceMul,reduceEq,c,c',g1,g2]
          refine ⟨by kernel_rfl,?_⟩
          exact ⟨c,E6 rfl,nx,rfl,drop_nil _⟩
        · have ne:¬ a=b:=fun h => e (by subst h; rfl)
          simp (maxSteps:=20000000) (disch:=omega) only [zzB,tys,ite_self,A8,A2,Ax,Aq,Ao,At,Az,Ac,A5,PV.sk,Ai,Ar,As,Ap,Ay,Ab,Aj,Am,A9,Value.oneCell',Ah,Ba,Aw,A4,A1,Al,An,Ae,Ak,isZ,A6,A3,Ad,Aa,Ag,A0,Af,↓reduceIte,reduceSub,reduceEqDiff,reduceAdd,reduceMul,reduceLT,reduceLeDiff,reduceToNat,reduceLE,Int.reduceLT,reduceNeg,reduceCtorEq,gos,Int.reduceAdd,Int.reduceSub,Int.reduceMul,reduceEq,c,c',g1,g2]
          refine ⟨by kernel_rfl,?_⟩
          simp (maxSteps:=20000000) (disch:=omega) only [zzB,tys,ite_self,A8,A2,Ax,Aq,Ao,At,Az,Ac,A5,PV.sk,Ai,Ar,As,Ap,Ay,Ab,Aj,Am,A9,Value.oneCell',Ah,Ba,Aw,A4,A1,Al,An,Ae,Ak,isZ,A6,A3,Ad,Aa,Ag,A0,Af,↓reduceIte,reduceSub,reduceEqDiff,reduceAdd,reduceMul,reduceLT,reduceLeDiff,reduceToNat,reduceLE,Int.reduceLT,reduceNeg,reduceCtorEq,zzR,gos,Int.reduceAdd,Int.reduceSub,Int.reduceMul,reduceEq,ne]
      · have hj:j=a.length:=by omega
        subst hj
        have e:a=b:=by rw [List.take_length,c0,List.take_length] at hf; exact hf
        simp (maxSteps:=20000000) (disch:=omega) only [zzB,tys,ite_self,A8,A2,Ax,Aq,Ao,At,Az,Ac,A5,PV.sk,Ai,Ar,As,Ap,Ay,Ab,Aj,Am,A9,Value.oneCell',Ah,Ba,Aw,A4,A1,Al,An,Ae,Ak,isZ,A6,A3,Ad,Aa,Ag,A0,Af,↓reduceIte,reduceSub,reduceEqDiff,reduceAdd,reduceMul,reduceLT,reduceLeDiff,reduceToNat,reduceLE,Int.reduceLT,reduceNeg,reduceCtorEq,zzR,gos,Int.reduceAdd,Int.reduceSub,Int.reduceMul,reduceEq,e]
  · have ne:¬ a=b:=fun h => c0 (by rw [h])
    have c0':¬ (a.length:Int)=(b.length:Int):=by omega
    refine CallsP.start (n:=26) (rs:=[.tmp 4]) Try.func24 rfl rfl rfl fun base => ?_
    simp (maxSteps:=20000000) only [List.length_cons,List.length_nil,reduceAdd,reduceSub,List.replicate,List.cons_append,List.nil_append]
    simp (maxSteps:=20000000) (disch:=omega) only [zzB,tys,ite_self,A8,A2,Ax,Aq,Ao,At,Az,Ac,A5,PV.sk,Ai,Ar,As,Ap,Ay,Ab,Aj,Am,A9,Value.oneCell',Ah,Ba,Aw,A4,A1,Al,An,Ae,Ak,isZ,A6,A3,Ad,Aa,Ag,A0,Af,↓reduceIte,reduceSub,reduceEqDiff,reduceAdd,reduceMul,reduceLT,reduceLeDiff,reduceToNat,reduceLE,Int.reduceLT,reduceNeg,reduceCtorEq,zzR,gos,Int.reduceAdd,Int.reduceSub,Int.reduceMul,reduceEq,ne]
theorem Xl (p:Int):CallsP Try.prog 77 [u64 p] (bl (Ep p)):=by
  by_cases c1:2 ≤ p
  · by_cases c2:p < 9223372036854775808
    · rw [show Ep p=true by simp [Ep,c1,c2]]
      refine CallsP.start (n:=9) (rs:=[.tmp 2]) Try.func77 rfl rfl rfl fun base => ?_
      simp (maxSteps:=20000000) only [List.length_cons,List.length_nil,reduceAdd,reduceSub,List.replicate,List.cons_append,List.nil_append]
      simp (maxSteps:=20000000) (disch:=omega) only [zzB,tys,ite_self,A8,A2,Ax,Aq,Ao,At,Az,Ac,A5,PV.sk,Ai,Ar,As,Ap,Ay,Ab,Aj,Am,A9,Value.oneCell',Ah,Ba,Aw,A4,A1,Al,An,Ae,Ak,isZ,A6,A3,Ad,Aa,Ag,A0,Af,↓reduceIte,reduceSub,reduceEqDiff,reduceAdd,reduceMul,reduceLT,reduceLeDiff,reduceToNat,reduceLE,Int.reduceLT,reduceNeg,reduceCtorEq,zzR,gos,Int.reduceAdd,Int.reduceSub,Int.reduceMul,reduceEq]
    · rw [show Ep p=false by simp [Ep,c2]]
      refine CallsP.start (n:=9) (rs:=[.tmp 2]) Try.func77 rfl rfl rfl fun base => ?_
      simp (maxSteps:=20000000) only [List.length_cons,List.length_nil,reduceAdd,reduceSub,List.replicate,List.cons_append,List.nil_append]
      simp (maxSteps:=20000000) (disch:=omega) only [zzB,tys,ite_self,A8,A2,Ax,Aq,Ao,At,Az,Ac,A5,PV.sk,Ai,Ar,As,Ap,Ay,Ab,Aj,Am,A9,Value.oneCell',Ah,Ba,Aw,A4,A1,Al,An,Ae,Ak,isZ,A6,A3,Ad,Aa,Ag,A0,Af,↓reduceIte,reduceSub,reduceEqDiff,reduceAdd,reduceMul,reduceLT,reduceLeDiff,reduceToNat,reduceLE,Int.reduceLT,reduceNeg,reduceCtorEq,zzR,gos,Int.reduceAdd,Int.reduceSub,Int.reduceMul,reduceEq]
  · rw [show Ep p=false by simp [Ep,c1]]
    refine CallsP.start (n:=9) (rs:=[.tmp 2]) Try.func77 rfl rfl rfl fun base => ?_
    simp (maxSteps:=20000000) only [List.length_cons,List.length_nil,reduceAdd,reduceSub,List.replicate,List.cons_append,List.nil_append]
    simp (maxSteps:=20000000) (disch:=omega) only [zzB,tys,ite_self,A8,A2,Ax,Aq,Ao,At,Az,Ac,A5,PV.sk,Ai,Ar,As,Ap,Ay,Ab,Aj,Am,A9,Value.oneCell',Ah,Ba,Aw,A4,A1,Al,An,Ae,Ak,isZ,A6,A3,Ad,Aa,Ag,A0,Af,↓reduceIte,reduceSub,reduceEqDiff,reduceAdd,reduceMul,reduceLT,reduceLeDiff,reduceToNat,reduceLE,Int.reduceLT,reduceNeg,reduceCtorEq,zzR,gos,Int.reduceAdd,Int.reduceSub,Int.reduceMul,reduceEq]
theorem Ux (p:Int):CallsP Try.prog 66 [u64 p] (bl (Ep p)):=by
  by_cases c1:2 ≤ p
  · by_cases c2:p < 9223372036854775808
    · rw [show Ep p=true by simp [Ep,c1,c2]]
      refine CallsP.start (n:=9) (rs:=[.tmp 2]) Try.func66 rfl rfl rfl fun base => ?_
      simp (maxSteps:=20000000) only [List.length_cons,List.length_nil,reduceAdd,reduceSub,List.replicate,List.cons_append,List.nil_append]
      simp (maxSteps:=20000000) (disch:=omega) only [zzB,tys,ite_self,A8,A2,Ax,Aq,Ao,At,Az,Ac,A5,PV.sk,Ai,Ar,As,Ap,Ay,Ab,Aj,Am,A9,Value.oneCell',Ah,Ba,Aw,A4,A1,Al,An,Ae,Ak,isZ,A6,A3,Ad,Aa,Ag,A0,Af,↓reduceIte,reduceSub,reduceEqDiff,reduceAdd,reduceMul,reduceLT,reduceLeDiff,reduceToNat,reduceLE,Int.reduceLT,reduceNeg,reduceCtorEq,zzR,gos,Int.reduceAdd,Int.reduceSub,Int.reduceMul,reduceEq]
    · rw [show Ep p=false by simp [Ep,c2]]
      refine CallsP.start (n:=9) (rs:=[.tmp 2]) Try.func66 rfl rfl rfl fun base => ?_
      simp (maxSteps:=20000000) only [List.length_cons,List.length_nil,reduceAdd,reduceSub,List.replicate,List.cons_append,List.nil_append]
      simp (maxSteps:=20000000) (disch:=omega) only [zzB,tys,ite_self,A8,A2,Ax,Aq,Ao,At,Az,Ac,A5,PV.sk,Ai,Ar,As,Ap,Ay,Ab,Aj,Am,A9,Value.oneCell',Ah,Ba,Aw,A4,A1,Al,An,Ae,Ak,isZ,A6,A3,Ad,Aa,Ag,A0,Af,↓reduceIte,reduceSub,reduceEqDiff,reduceAdd,reduceMul,reduceLT,reduceLeDiff,reduceToNat,reduceLE,Int.reduceLT,reduceNeg,reduceCtorEq,zzR,gos,Int.reduceAdd,Int.reduceSub,Int.reduceMul,reduceEq]
  · rw [show Ep p=false by simp [Ep,c1]]
    refine CallsP.start (n:=9) (rs:=[.tmp 2]) Try.func66 rfl rfl rfl fun base => ?_
    simp (maxSteps:=20000000) only [List.length_cons,List.length_nil,reduceAdd,reduceSub,List.replicate,List.cons_append,List.nil_append]
    simp (maxSteps:=20000000) (disch:=omega) only [zzB,tys,ite_self,A8,A2,Ax,Aq,Ao,At,Az,Ac,A5,PV.sk,Ai,Ar,As,Ap,Ay,Ab,Aj,Am,A9,Value.oneCell',Ah,Ba,Aw,A4,A1,Al,An,Ae,Ak,isZ,A6,A3,Ad,Aa,Ag,A0,Af,↓reduceIte,reduceSub,reduceEqDiff,reduceAdd,reduceMul,reduceLT,reduceLeDiff,reduceToNat,reduceLE,Int.reduceLT,reduceNeg,reduceCtorEq,zzR,gos,Int.reduceAdd,Int.reduceSub,Int.reduceMul,reduceEq]
end Go.Proofs.Ythnfphgjfpcpbaa.TM
namespace Go.Proofs.Ythnfphgjfpcpbaa.TM
open Go Go.RowKit
attribute [local irreducible] K W Dg Effs Xg Xo Xr Xdg Xdo Xdr Xif CallsP CallR
theorem Wm {l:List Int} {p:Int} {j:Nat} (h:j < l.length):(l.take (j + 1)).all (fun a => decide (a < p))=((l.take j).all (fun a => decide (a < p)) && decide (l[j] < p)):=by
  rw [List.take_succ_eq_append_getElem h,List.all_append]; simp
theorem At0 {l:List Int} {p:Int} {j:Nat} (h:j < l.length) (hp:p ≤ l[j]):Fe p l=false:=by
  have:l.all (fun a => decide (a < p))=false:=by
    rw [List.all_eq_false]
    exact ⟨l[j],List.getElem_mem h,by simp; omega⟩
  rw [Fe,this]; rfl
theorem Gg (p:Int) (l:List Int) (hl:l.length ≤ maxLen):CallsP Try.prog 29 [u64 p,lu l] (bl (Fe p l)):=by
  rw [B3] at hl
  have r:=Xl p
  refine Bj (n:=19) (m:=2) (rs:=[.tmp 4]) Try.func29 rfl rfl rfl rfl (by decide) fun base => ?_
  repeat (first|refine Bg rfl ?_|refine Bb rfl ?_|refine ⟨(dxX (by kernel_rfl)),?_⟩|exact (dxX (by kernel_rfl))|simp -dsimp (maxSteps:=20000000) (disch:=omega) only [simx,zzC,zzB,tys,ite_self,A8,A2,Ax,Aq,Ao,At,Az,Ac,A5,PV.sk,Ai,Ar,As,Ap,Ay,Ab,Aj,Am,A9,Value.oneCell',Ah,Ba,Aw,A4,A1,Al,An,Ae,Ak,isZ,A6,A3,Ad,Aa,Ag,A0,Af,↓reduceIte,reduceSub,reduceEqDiff,reduceAdd,reduceMul,reduceLT,reduceLeDiff,reduceToNat,reduceLE,Int.reduceLT,reduceNeg,reduceCtorEq,gos,Int.reduceAdd,Int.reduceSub,Int.reduceMul,reduceEq])
  refine B5 [0,7,8,9] [] (0) (l.length) (fun j => (l.take j).all (fun a => decide (a < p))=true) (fun j => [(9,i64 j)]) (fun j => Heap.none) ?_ ?_ ?_ ?_ ?_ (by decide) ?_
  · exact (Bl)
  · ((simp -dsimp (disch:=omega) only [simx,zzB,tys,ite_self,A8,A2,Ax,Aq,Ao,At,Az,Ac,A5,PV.sk,Ai,Ar,As,Ap,Ay,Ab,Aj,Am,A9,Value.oneCell',Ah,Ba,Aw,A4,A1,Al,An,Ae,Ak,isZ,A6,A3,Ad,Aa,Ag,A0,Af,↓reduceIte,reduceSub,reduceEqDiff,reduceAdd,reduceMul,reduceLT,reduceLeDiff,reduceToNat,reduceLE,Int.reduceLT,reduceNeg,reduceCtorEq,gos,Int.reduceAdd,Int.reduceSub,Int.reduceMul,reduceEq]) <;> first|rfl|simp)
  · exact drop_nil _
  · omega
  · rfl
  · intro j hj hf
    by_cases c:j < l.length
    · have g1:l[j]?=some l[j]:=List.getElem?_eq_getElem c
      by_cases e:p ≤ l[j]
      · rw [At0 c e]
        repeat (first|refine Bg rfl ?_|refine Bb rfl ?_|refine ⟨(dxX (by kernel_rfl)),?_⟩|exact (dxX (by kernel_rfl))|simp -dsimp (maxSteps:=20000000) (disch:=omega) only [simx,zzC,zzB,tys,ite_self,A8,A2,Ax,Aq,Ao,At,Az,Ac,A5,PV.sk,Ai,Ar,As,Ap,Ay,Ab,Aj,Am,A9,Value.oneCell',Ah,Ba,Aw,A4,A1,Al,An,Ae,Ak,isZ,A6,A3,Ad,Aa,Ag,A0,Af,↓reduceIte,reduceSub,reduceEqDiff,reduceAdd,reduceMul,reduceLT,reduceLeDiff,reduceToNat,reduceLE,Int.reduceLT,reduceNeg,reduceCtorEq,zzR,gos,Int.reduceAdd,Int.reduceSub,Int.reduceMul,reduceEq,c,g1])
      · have nx:(l.take (j + 1)).all (fun a => decide (a < p))=true:=by rw [Wm c,hf]; simp; omega
        repeat (first|refine Bg rfl ?_|refine Bb rfl ?_|refine ⟨(dxX (by kernel_rfl)),?_⟩|exact (dxX (by kernel_rfl))|simp -dsimp (maxSteps:=20000000) (disch:=omega) only [simx,zzC,zzB,tys,ite_self,A8,A2,Ax,Aq,Ao,At,Az,Ac,A5,PV.sk,Ai,Ar,As,Ap,Ay,Ab,Aj,Am,A9,Value.oneCell',Ah,Ba,Aw,A4,A1,Al,An,Ae,Ak,isZ,A6,A3,Ad,Aa,Ag,A0,Af,↓reduceIte,reduceSub,reduceEqDiff,reduceAdd,reduceMul,reduceLT,reduceLeDiff,reduceToNat,reduceLE,Int.reduceLT,reduceNeg,reduceCtorEq,gos,Int.reduceAdd,Int.reduceSub,Int.reduceMul,reduceEq,c,g1])
        exact ⟨c,(Bl),nx,rfl,drop_nil _⟩
    · have hj:j=l.length:=by omega
      subst hj
      rw [show Fe p l=Ep p by rw [List.take_length] at hf; simp [Fe,hf]]
      repeat (first|((first|refine Bd rfl (by simp only [tys]) ?_|refine Bc rfl (by simp only [tys]) ?_); apply Exists.intro; apply And.intro; (focus (simp -dsimp only [simx,zzC,zzB,tys,ite_self,A8,A2,Ax,Aq,Ao,At,Az,Ac,A5,PV.sk,Ai,Ar,As,Ap,Ay,Ab,Aj,Am,A9,Value.oneCell',Ah,Ba,Aw,A4,A1,Al,An,Ae,Ak,isZ,A6,A3,Ad,Aa,Ag,A0,Af,↓reduceIte,reduceSub,reduceEqDiff,reduceAdd,reduceMul,reduceLT,reduceLeDiff,reduceToNat,reduceLE,Int.reduceLT,reduceNeg,reduceCtorEq,zzL,if_true,if_false] <;> rfl)); apply Exists.intro; apply And.intro; (focus (first|exact r)))|refine Bg rfl ?_|refine Bb rfl ?_|refine ⟨(dxX (by kernel_rfl)),?_⟩|exact (dxX (by kernel_rfl))|simp -dsimp (maxSteps:=20000000) (disch:=omega) only [simx,zzC,zzB,tys,ite_self,A8,A2,Ax,Aq,Ao,At,Az,Ac,A5,PV.sk,Ai,Ar,As,Ap,Ay,Ab,Aj,Am,A9,Value.oneCell',Ah,Ba,Aw,A4,A1,Al,An,Ae,Ak,isZ,A6,A3,Ad,Aa,Ag,A0,Af,↓reduceIte,reduceSub,reduceEqDiff,reduceAdd,reduceMul,reduceLT,reduceLeDiff,reduceToNat,reduceLE,Int.reduceLT,reduceNeg,reduceCtorEq,zzR,gos,Int.reduceAdd,Int.reduceSub,Int.reduceMul,reduceEq])
theorem Rw (p:Int) (l:List Int) (hl:l.length ≤ maxLen):CallsP Try.prog 21 [u64 p,lu l] (bl (Fe p l)):=by
  rw [B3] at hl
  have r:=Ux p
  refine Bj (n:=20) (m:=2) (rs:=[.tmp 4]) Try.func21 rfl rfl rfl rfl (by decide) fun base => ?_
  repeat (first|refine Bg rfl ?_|refine Bb rfl ?_|refine ⟨(dxX (by kernel_rfl)),?_⟩|exact (dxX (by kernel_rfl))|simp -dsimp (maxSteps:=20000000) (disch:=omega) only [simx,zzC,zzB,tys,ite_self,A8,A2,Ax,Aq,Ao,At,Az,Ac,A5,PV.sk,Ai,Ar,As,Ap,Ay,Ab,Aj,Am,A9,Value.oneCell',Ah,Ba,Aw,A4,A1,Al,An,Ae,Ak,isZ,A6,A3,Ad,Aa,Ag,A0,Af,↓reduceIte,reduceSub,reduceEqDiff,reduceAdd,reduceMul,reduceLT,reduceLeDiff,reduceToNat,reduceLE,Int.reduceLT,reduceNeg,reduceCtorEq,gos,Int.reduceAdd,Int.reduceSub,Int.reduceMul,reduceEq])
  refine B5 [0,1,5] [] (0) (l.length) (fun j => (l.take j).all (fun a => decide (a < p))=true) (fun j => [(5,i64 j)]) (fun j => Heap.none) ?_ ?_ ?_ ?_ ?_ (by decide) ?_
  · exact (Bl)
  · ((simp -dsimp (disch:=omega) only [simx,zzB,tys,ite_self,A8,A2,Ax,Aq,Ao,At,Az,Ac,A5,PV.sk,Ai,Ar,As,Ap,Ay,Ab,Aj,Am,A9,Value.oneCell',Ah,Ba,Aw,A4,A1,Al,An,Ae,Ak,isZ,A6,A3,Ad,Aa,Ag,A0,Af,↓reduceIte,reduceSub,reduceEqDiff,reduceAdd,reduceMul,reduceLT,reduceLeDiff,reduceToNat,reduceLE,Int.reduceLT,reduceNeg,reduceCtorEq,gos,Int.reduceAdd,Int.reduceSub,Int.reduceMul,reduceEq]) <;> first|rfl|simp)
  · exact drop_nil _
  · omega
  · rfl
  · intro j hj hf
    by_cases c:j < l.length
    · have g1:l[j]?=some l[j]:=List.getElem?_eq_getElem c
      by_cases e:p ≤ l[j]
      · rw [At0 c e]
        repeat (first|refine Bg rfl ?_|refine Bb rfl ?_|refine ⟨(dxX (by kernel_rfl)),?_⟩|exact (dxX (by kernel_rfl))|simp -dsimp (maxSteps:=20000000) (disch:=omega) only [simx,zzC,zzB,tys,ite_self,A8,A2,Ax,Aq,Ao,At,Az,Ac,A5,PV.sk,Ai,Ar,As,Ap,Ay,Ab,Aj,Am,A9,Value.oneCell',Ah,Ba,Aw,A4,A1,Al,An,Ae,Ak,isZ,A6,A3,Ad,Aa,Ag,A0,Af,↓reduceIte,reduceSub,reduceEqDiff,reduceAdd,reduceMul,reduceLT,reduceLeDiff,reduceToNat,reduceLE,Int.reduceLT,reduceNeg,reduceCtorEq,zzR,gos,Int.reduceAdd,Int.reduceSub,Int.reduceMul,reduceEq,c,g1])
      · have nx:(l.take (j + 1)).all (fun a => decide (a < p))=true:=by rw [Wm c,hf]; simp; omega
        repeat (first|refine Bg rfl ?_|refine Bb rfl ?_|refine ⟨(dxX (by kernel_rfl)),?_⟩|exact (dxX (by kernel_rfl))|simp -dsimp (maxSteps:=20000000) (disch:=omega) only [simx,zzC,zzB,tys,ite_self,A8,A2,Ax,Aq,Ao,At,Az,Ac,A5,PV.sk,Ai,Ar,As,Ap,Ay,Ab,Aj,Am,A9,Value.oneCell',Ah,Ba,Aw,A4,A1,Al,An,Ae,Ak,isZ,A6,A3,Ad,Aa,Ag,A0,Af,↓reduceIte,reduceSub,reduceEqDiff,reduceAdd,reduceMul,reduceLT,reduceLeDiff,reduceToNat,reduceLE,Int.reduceLT,reduceNeg,reduceCtorEq,gos,Int.reduceAdd,Int.reduceSub,Int.reduceMul,reduceEq,c,g1])
        exact ⟨c,(Bl),nx,rfl,drop_nil _⟩
    · have hj:j=l.length:=by omega
      subst hj
      rw [show Fe p l=Ep p by rw [List.take_length] at hf; simp [Fe,hf]]
      repeat (first|((first|refine Bd rfl (by simp only [tys]) ?_|refine Bc rfl (by simp only [tys]) ?_); apply Exists.intro; apply And.intro; (focus (simp -dsimp only [simx,zzC,zzB,tys,ite_self,A8,A2,Ax,Aq,Ao,At,Az,Ac,A5,PV.sk,Ai,Ar,As,Ap,Ay,Ab,Aj,Am,A9,Value.oneCell',Ah,Ba,Aw,A4,A1,Al,An,Ae,Ak,isZ,A6,A3,Ad,Aa,Ag,A0,Af,↓reduceIte,reduceSub,reduceEqDiff,reduceAdd,reduceMul,reduceLT,reduceLeDiff,reduceToNat,reduceLE,Int.reduceLT,reduceNeg,reduceCtorEq,zzL,if_true,if_false] <;> rfl)); apply Exists.intro; apply And.intro; (focus (first|exact r)))|refine Bg rfl ?_|refine Bb rfl ?_|refine ⟨(dxX (by kernel_rfl)),?_⟩|exact (dxX (by kernel_rfl))|simp -dsimp (maxSteps:=20000000) (disch:=omega) only [simx,zzC,zzB,tys,ite_self,A8,A2,Ax,Aq,Ao,At,Az,Ac,A5,PV.sk,Ai,Ar,As,Ap,Ay,Ab,Aj,Am,A9,Value.oneCell',Ah,Ba,Aw,A4,A1,Al,An,Ae,Ak,isZ,A6,A3,Ad,Aa,Ag,A0,Af,↓reduceIte,reduceSub,reduceEqDiff,reduceAdd,reduceMul,reduceLT,reduceLeDiff,reduceToNat,reduceLE,Int.reduceLT,reduceNeg,reduceCtorEq,zzR,gos,Int.reduceAdd,Int.reduceSub,Int.reduceMul,reduceEq])
def Md (p:Int):Prop:=2 ≤ p ∧ p < 9223372036854775808
theorem Bc3 {p a b:Int} (ha:In p a) (hb:In p b) (h:a + b < p):(a + b) % p=a + b:=Int.emod_eq_of_lt (by have:=ha.1; have:=hb.1; omega) h
theorem Bc4 {p a b:Int} (ha:In p a) (hb:In p b) (h:¬ a + b < p):(a + b) % p=a + b - p:=by
  have h1:(a + b) % p=(a + b - p) % p:=by rw [Int.sub_emod_right]
  have:=ha.2; have:=hb.2
  rw [h1]; exact Int.emod_eq_of_lt (by omega) (by omega)
theorem Av8 (p a b:Int) (hp:Md p) (ha:In p a) (hb:In p b):CallsP Try.prog 79 [u64 p,u64 a,u64 b] (u64 ((a + b) % p)):=by
  obtain ⟨h1,h2⟩:=hp
  by_cases c:a + b < p
  · rw [Bc3 ha hb c]
    obtain ⟨a1,a2⟩:=ha; obtain ⟨b1,b2⟩:=hb
    refine Bj (n:=20) (m:=3) (rs:=[.tmp 6]) Try.func79 rfl rfl rfl rfl (by decide) fun base => ?_
    repeat (first|refine Bg rfl ?_|refine Bb rfl ?_|refine ⟨(dxX (by kernel_rfl)),?_⟩|exact (dxX (by kernel_rfl))|simp -dsimp (maxSteps:=20000000) (disch:=omega) only [simx,zzC,zzB,tys,ite_self,A8,A2,Ax,Aq,Ao,At,Az,Ac,A5,PV.sk,Ai,Ar,As,Ap,Ay,Ab,Aj,Am,A9,Value.oneCell',Ah,Ba,Aw,A4,A1,Al,An,Ae,Ak,isZ,A6,A3,Ad,Aa,Ag,A0,Af,↓reduceIte,reduceSub,reduceEqDiff,reduceAdd,reduceMul,reduceLT,reduceLeDiff,reduceToNat,reduceLE,Int.reduceLT,reduceNeg,reduceCtorEq,zzR,gos,Int.reduceAdd,Int.reduceSub,Int.reduceMul,reduceEq])
  · rw [Bc4 ha hb c]
    obtain ⟨a1,a2⟩:=ha; obtain ⟨b1,b2⟩:=hb
    refine Bj (n:=20) (m:=3) (rs:=[.tmp 6]) Try.func79 rfl rfl rfl rfl (by decide) fun base => ?_
    repeat (first|refine Bg rfl ?_|refine Bb rfl ?_|refine ⟨(dxX (by kernel_rfl)),?_⟩|exact (dxX (by kernel_rfl))|simp -dsimp (maxSteps:=20000000) (disch:=omega) only [simx,zzC,zzB,tys,ite_self,A8,A2,Ax,Aq,Ao,At,Az,Ac,A5,PV.sk,Ai,Ar,As,Ap,Ay,Ab,Aj,Am,A9,Value.oneCell',Ah,Ba,Aw,A4,A1,Al,An,Ae,Ak,isZ,A6,A3,Ad,Aa,Ag,A0,Af,↓reduceIte,reduceSub,reduceEqDiff,reduceAdd,reduceMul,reduceLT,reduceLeDiff,reduceToNat,reduceLE,Int.reduceLT,reduceNeg,reduceCtorEq,zzR,gos,Int.reduceAdd,Int.reduceSub,Int.reduceMul,reduceEq])
theorem Vk (p a b:Int) (hp:Md p) (ha:In p a) (hb:In p b):CallsP Try.prog 81 [u64 p,u64 a,u64 b] (u64 (a * b % p)):=by
  obtain ⟨h1,h2⟩:=hp
  obtain ⟨a1,a2⟩:=ha; obtain ⟨b1,b2⟩:=hb
  have m:=I5 (a:=a) (b:=b) (m:=9223372036854775807) (n:=9223372036854775807) a1 b1 (by omega) (by omega)
  have d1:=Xy a b ⟨a1,by omega⟩ ⟨b1,by omega⟩
  have d2:=Xm (a * b / 18446744073709551616) (a * b % 18446744073709551616) p (by omega) (by omega) (by omega) ⟨by omega,by omega⟩
  rw [show a * b / 18446744073709551616 * 18446744073709551616 + a * b % 18446744073709551616=a * b by omega] at d2
  refine Bj (n:=19) (m:=3) (rs:=[.tmp 6]) Try.func81 rfl rfl rfl rfl (by decide) fun base => ?_
  repeat (first|((first|refine Bd rfl (by simp only [tys]) ?_|refine Bc rfl (by simp only [tys]) ?_); apply Exists.intro; apply And.intro; (focus (simp -dsimp only [simx,zzC,zzB,tys,ite_self,A8,A2,Ax,Aq,Ao,At,Az,Ac,A5,PV.sk,Ai,Ar,As,Ap,Ay,Ab,Aj,Am,A9,Value.oneCell',Ah,Ba,Aw,A4,A1,Al,An,Ae,Ak,isZ,A6,A3,Ad,Aa,Ag,A0,Af,↓reduceIte,reduceSub,reduceEqDiff,reduceAdd,reduceMul,reduceLT,reduceLeDiff,reduceToNat,reduceLE,Int.reduceLT,reduceNeg,reduceCtorEq,zzL,if_true,if_false] <;> rfl)); apply Exists.intro; apply And.intro; (focus (first|exact d1|exact d2)))|refine Bg rfl ?_|refine Bb rfl ?_|refine ⟨(dxX (by kernel_rfl)),?_⟩|exact (dxX (by kernel_rfl))|simp -dsimp (maxSteps:=20000000) (disch:=omega) only [simx,zzC,zzB,tys,ite_self,A8,A2,Ax,Aq,Ao,At,Az,Ac,A5,PV.sk,Ai,Ar,As,Ap,Ay,Ab,Aj,Am,A9,Value.oneCell',Ah,Ba,Aw,A4,A1,Al,An,Ae,Ak,isZ,A6,A3,Ad,Aa,Ag,A0,Af,↓reduceIte,reduceSub,reduceEqDiff,reduceAdd,reduceMul,reduceLT,reduceLeDiff,reduceToNat,reduceLE,Int.reduceLT,reduceNeg,reduceCtorEq,zzR,gos,Int.reduceAdd,Int.reduceSub,Int.reduceMul,reduceEq])
theorem Ik (p a b:Int) (hp:Md p) (ha:In p a) (hb:In p b):CallsP Try.prog 84 [u64 p,u64 a,u64 b] (u64 ((a + b) % p)):=by
  obtain ⟨h1,h2⟩:=hp
  obtain ⟨a1,a2⟩:=ha; obtain ⟨b1,b2⟩:=hb
  refine Bj (n:=12) (m:=3) (rs:=[.tmp 6]) Try.func84 rfl rfl rfl rfl (by decide) fun base => ?_
  repeat (first|refine Bg rfl ?_|refine Bb rfl ?_|refine ⟨(dxX (by kernel_rfl)),?_⟩|exact (dxX (by kernel_rfl))|simp -dsimp (maxSteps:=20000000) (disch:=omega) only [simx,zzC,zzB,tys,ite_self,A8,A2,Ax,Aq,Ao,At,Az,Ac,A5,PV.sk,Ai,Ar,As,Ap,Ay,Ab,Aj,Am,A9,Value.oneCell',Ah,Ba,Aw,A4,A1,Al,An,Ae,Ak,isZ,A6,A3,Ad,Aa,Ag,A0,Af,↓reduceIte,reduceSub,reduceEqDiff,reduceAdd,reduceMul,reduceLT,reduceLeDiff,reduceToNat,reduceLE,Int.reduceLT,reduceNeg,reduceCtorEq,zzR,gos,Int.reduceAdd,Int.reduceSub,Int.reduceMul,reduceEq])
theorem At1 (p a b:Int) (hb:0 ≤ b) (h:b % 2=0):(a * (b / 2) % p + a * (b / 2) % p) % p=a * b % p:=by
  rw [Yx,Bc2]
  congr 1
  have:b=2 * (b / 2):=by omega
  rw [show a * b=a * (2 * (b / 2)) by rw [← this]]
  grind
theorem Aj2 (p a b:Int) (hb:0 ≤ b) (h:b % 2=1):((a * (b / 2) % p + a * (b / 2) % p) % p + a) % p=a * b % p:=by
  rw [Yx,Int.add_assoc,Yx,Int.add_left_comm,Yx]
  congr 1
  have:b=2 * (b / 2) + 1:=by omega
  rw [show a * b=a * (2 * (b / 2) + 1) by rw [← this]]
  grind
theorem Ru (p a:Int) (hp:Md p) (ha:In p a):∀ (n:Nat) (b:Int),0 ≤ b → b < 18446744073709551616 → b.toNat ≤ n → CallsP Try.prog 83 [u64 p,u64 a,u64 b] (u64 (a * b % p)):=by
  intro n
  induction n with
  | zero =>
    intro b b1 b2 hn
    have:b=0:=by omega
    subst this
    rw [Int.mul_zero,Int.zero_emod]
    refine Bj (n:=27) (m:=3) (rs:=[.tmp 6]) Try.func83 rfl rfl rfl rfl (by decide) fun base => ?_
    repeat (first|refine Bg rfl ?_|refine Bb rfl ?_|refine ⟨(dxX (by kernel_rfl)),?_⟩|exact (dxX (by kernel_rfl))|simp -dsimp (maxSteps:=20000000) (disch:=omega) only [simx,zzC,zzB,tys,ite_self,A8,A2,Ax,Aq,Ao,At,Az,Ac,A5,PV.sk,Ai,Ar,As,Ap,Ay,Ab,Aj,Am,A9,Value.oneCell',Ah,Ba,Aw,A4,A1,Al,An,Ae,Ak,isZ,A6,A3,Ad,Aa,Ag,A0,Af,↓reduceIte,reduceSub,reduceEqDiff,reduceAdd,reduceMul,reduceLT,reduceLeDiff,reduceToNat,reduceLE,Int.reduceLT,reduceNeg,reduceCtorEq,zzR,gos,Int.reduceAdd,Int.reduceSub,Int.reduceMul,reduceEq])
  | succ n ih =>
    intro b b1 b2 hn
    by_cases c:b=0
    · subst c
      rw [Int.mul_zero,Int.zero_emod]
      refine Bj (n:=27) (m:=3) (rs:=[.tmp 6]) Try.func83 rfl rfl rfl rfl (by decide) fun base => ?_
      repeat (first|refine Bg rfl ?_|refine Bb rfl ?_|refine ⟨(dxX (by kernel_rfl)),?_⟩|exact (dxX (by kernel_rfl))|simp -dsimp (maxSteps:=20000000) (disch:=omega) only [simx,zzC,zzB,tys,ite_self,A8,A2,Ax,Aq,Ao,At,Az,Ac,A5,PV.sk,Ai,Ar,As,Ap,Ay,Ab,Aj,Am,A9,Value.oneCell',Ah,Ba,Aw,A4,A1,Al,An,Ae,Ak,isZ,A6,A3,Ad,Aa,Ag,A0,Af,↓reduceIte,reduceSub,reduceEqDiff,reduceAdd,reduceMul,reduceLT,reduceLeDiff,reduceToNat,reduceLE,Int.reduceLT,reduceNeg,reduceCtorEq,zzR,gos,Int.reduceAdd,Int.reduceSub,Int.reduceMul,reduceEq])
    · have r:=ih (b / 2) (by omega) (by omega) (by omega)
      have hp1:=hp.1
      have i1:=E8 (p:=p) (a * (b / 2)) (by omega)
      have d1:=Ik p _ _ hp i1 i1
      by_cases e:b % 2=0
      · rw [At1 p a b b1 e] at d1
        clear i1 ih
        refine Bj (n:=27) (m:=3) (rs:=[.tmp 6]) Try.func83 rfl rfl rfl rfl (by decide) fun base => ?_
        repeat (first|((first|refine Bd rfl (by simp only [tys]) ?_|refine Bc rfl (by simp only [tys]) ?_); apply Exists.intro; apply And.intro; (focus (simp -dsimp only [simx,zzC,zzB,tys,ite_self,A8,A2,Ax,Aq,Ao,At,Az,Ac,A5,PV.sk,Ai,Ar,As,Ap,Ay,Ab,Aj,Am,A9,Value.oneCell',Ah,Ba,Aw,A4,A1,Al,An,Ae,Ak,isZ,A6,A3,Ad,Aa,Ag,A0,Af,↓reduceIte,reduceSub,reduceEqDiff,reduceAdd,reduceMul,reduceLT,reduceLeDiff,reduceToNat,reduceLE,Int.reduceLT,reduceNeg,reduceCtorEq,zzL,if_true,if_false] <;> rfl)); apply Exists.intro; apply And.intro; (focus (first|exact r|exact d1)))|refine Bg rfl ?_|refine Bb rfl ?_|refine ⟨(dxX (by kernel_rfl)),?_⟩|exact (dxX (by kernel_rfl))|simp -dsimp (maxSteps:=20000000) (disch:=omega) only [simx,zzC,zzB,tys,ite_self,A8,A2,Ax,Aq,Ao,At,Az,Ac,A5,PV.sk,Ai,Ar,As,Ap,Ay,Ab,Aj,Am,A9,Value.oneCell',Ah,Ba,Aw,A4,A1,Al,An,Ae,Ak,isZ,A6,A3,Ad,Aa,Ag,A0,Af,↓reduceIte,reduceSub,reduceEqDiff,reduceAdd,reduceMul,reduceLT,reduceLeDiff,reduceToNat,reduceLE,Int.reduceLT,reduceNeg,reduceCtorEq,zzR,gos,Int.reduceAdd,Int.reduceSub,Int.reduceMul,reduceEq])
      · have e1:b % 2=1:=by omega
        have i2:=E8 (p:=p) (a * (b / 2) % p + a * (b / 2) % p) (by omega)
        have d2:=Ik p _ _ hp i2 ha
        rw [Aj2 p a b b1 e1] at d2
        clear i1 i2 ih
        refine Bj (n:=27) (m:=3) (rs:=[.tmp 6]) Try.func83 rfl rfl rfl rfl (by decide) fun base => ?_
        repeat (first|((first|refine Bd rfl (by simp only [tys]) ?_|refine Bc rfl (by simp only [tys]) ?_); apply Exists.intro; apply And.intro; (focus (simp -dsimp only [simx,zzC,zzB,tys,ite_self,A8,A2,Ax,Aq,Ao,At,Az,Ac,A5,PV.sk,Ai,Ar,As,Ap,Ay,Ab,Aj,Am,A9,Value.oneCell',Ah,Ba,Aw,A4,A1,Al,An,Ae,Ak,isZ,A6,A3,Ad,Aa,Ag,A0,Af,↓reduceIte,reduceSub,reduceEqDiff,reduceAdd,reduceMul,reduceLT,reduceLeDiff,reduceToNat,reduceLE,Int.reduceLT,reduceNeg,reduceCtorEq,zzL,if_true,if_false] <;> rfl)); apply Exists.intro; apply And.intro; (focus (first|exact r|exact d1|exact d2)))|refine Bg rfl ?_|refine Bb rfl ?_|refine ⟨(dxX (by kernel_rfl)),?_⟩|exact (dxX (by kernel_rfl))|simp -dsimp (maxSteps:=20000000) (disch:=omega) only [simx,zzC,zzB,tys,ite_self,A8,A2,Ax,Aq,Ao,At,Az,Ac,A5,PV.sk,Ai,Ar,As,Ap,Ay,Ab,Aj,Am,A9,Value.oneCell',Ah,Ba,Aw,A4,A1,Al,An,Ae,Ak,isZ,A6,A3,Ad,Aa,Ag,A0,Af,↓reduceIte,reduceSub,reduceEqDiff,reduceAdd,reduceMul,reduceLT,reduceLeDiff,reduceToNat,reduceLE,Int.reduceLT,reduceNeg,reduceCtorEq,zzR,gos,Int.reduceAdd,Int.reduceSub,Int.reduceMul,reduceEq])
end Go.Proofs.Ythnfphgjfpcpbaa.TM
namespace Go.Proofs.Ythnfphgjfpcpbaa.TM
open Go Go.RowKit
def D5:List Int → List Int → Int
  | x::a,y::b => x * y + D5 a b
  | _,_ => 0
theorem P9 (b:List Int):D5 [] b=0:=by cases b <;> rfl
theorem Sd:∀ (a b:List Int) (x y:Int),a.length=b.length → D5 (a ++ [x]) (b ++ [y])=D5 a b + x * y
  | [],[],x,y,_ => by simp [D5]
  | u::a,v::b,x,y,h => by
    simp only [List.cons_append,D5]
    rw [Sd a b x y (by simpa using h)]; omega
  | [],_::_,_,_,h => by simp at h
  | _::_,[],_,_,h => by simp at h
theorem Nb {a b:List Int} {j:Nat} (ha:j < a.length) (hb:j < b.length):D5 (a.take (j + 1)) (b.take (j + 1))=D5 (a.take j) (b.take j) + a[j] * b[j]:=by
  rw [List.take_succ_eq_append_getElem ha,List.take_succ_eq_append_getElem hb]
  exact Sd _ _ _ _ (by rw [List.length_take,List.length_take]; omega)
abbrev C3 (r c:Int) (l:List Int):PV:=.agg [i64 r,i64 c,lu l]
def Fl (n:Int):Bool:=decide (1 ≤ n) && decide (n ≤ 64)
theorem J0 (n:Int):Fl n=true ↔ 1 ≤ n ∧ n ≤ 64:=by simp [Fl]
def Ju (p r c:Int) (l:List Int):Bool:=Fl r && (Fl c && (decide ((l.length:Int)=r * c) && Fe p l))
structure Mt (p:Int) (r c:Nat) (l:List Int):Prop where
  hp:Md p
  r1:1 ≤ r
  r2:r ≤ 64
  c1:1 ≤ c
  c2:c ≤ 64
  len:l.length=r * c
  has:∀ a ∈ l,a < p
theorem Ti {p r c:Int} {l:List Int} (h:Ju p r c l=true):∃ R C:Nat,r=R ∧ c=C ∧ Mt p R C l:=by
  simp only [Ju,Bool.and_eq_true,J0,decide_eq_true_eq] at h
  obtain ⟨h1,h2,h3,h4⟩:=h
  obtain ⟨R,rfl⟩:=Int.eq_ofNat_of_zero_le (show 0 ≤ r by omega)
  obtain ⟨C,rfl⟩:=Int.eq_ofNat_of_zero_le (show 0 ≤ c by omega)
  obtain ⟨g1,g2,g3⟩:=(Ei p l).1 h4
  refine ⟨R,C,rfl,rfl,⟨g2,g3⟩,by omega,by omega,by omega,by omega,?_,g1⟩
  have:(l.length:Int)=((R * C:Nat):Int):=by rw [h3]; push_cast; rfl
  omega
theorem Xz {p:Int} {r c:Nat} {l:List Int} (h:Mt p r c l):Ju p r c l=true:=by
  simp only [Ju,Bool.and_eq_true,J0,decide_eq_true_eq]
  have h1:=h.r1; have h2:=h.r2; have h3:=h.c1; have h4:=h.c2
  refine ⟨by omega,by omega,?_,(Ei p l).2 ⟨h.has,h.hp.1,h.hp.2⟩⟩
  rw [h.len]; push_cast; rfl
theorem J4 {r c:Nat} (h1:r ≤ 64) (h2:c ≤ 64):r * c ≤ 4096:=Nat.mul_le_mul h1 h2
theorem Fb {i r c:Nat} (h:i < r):i * c + c ≤ r * c:=by rw [← Nat.succ_mul]; exact Nat.mul_le_mul_right c h
def Df (c:Nat) (l:List Int) (i:Nat):List Int:=(l.drop (i * c)).take c
theorem Gd {r c i:Nat} {l:List Int} (hl:l.length=r * c) (h:i < r):(Df c l i).length=c:=by
  have:=Fb (c:=c) h
  unfold Df; rw [List.length_take,List.length_drop]; omega
theorem Hc {c i:Nat} {l:List Int} {a:Int} (h:a ∈ Df c l i):a ∈ l:=List.mem_of_mem_drop (List.mem_of_mem_take h)
def Ea (p:Int) (r c:Nat) (l x:List Int):List Int:=(List.range r).map fun i => D5 (Df c l i) x % p
theorem Nl {p:Int} {r c:Nat} {l x:List Int} {j:Nat} (h:j < r):(List.range (j + 1)).map (fun i => D5 (Df c l i) x % p)=(List.range j).map (fun i => D5 (Df c l i) x % p) ++ [D5 (Df c l j) x % p]:=by
  rw [List.range_succ,List.map_append]; rfl
def W64s (l:List Int):Prop:=∀ a ∈ l,W64 a
theorem Pz {p:Int} {l:List Int} (h:∀ a ∈ l,a < p) (hw:W64s l) {a:Int} (ha:a ∈ l):In p a:=⟨(hw a ha).1,h a ha⟩
def Jx (r c q:Nat):Nat:=(q % r) * c + q / r
def Ee (r c:Nat) (l:List Int):List Int:=(List.range (c * r)).map fun q => l.getD (Jx r c q) 0
def E9 (r c:Nat) (l:List Int) (j:Nat):List Int:=(List.range (c * r)).map fun q => if Jx r c q < j then l.getD (Jx r c q) 0 else 0
theorem Ou {r c q:Nat} (hr:0 < r) (hq:q < c * r):Jx r c q < r * c ∧ Jx r c q % c=q / r ∧ Jx r c q / c=q % r:=by
  have h1:q / r < c:=(Nat.div_lt_iff_lt_mul hr).2 hq
  have h2:q % r < r:=Nat.mod_lt _ hr
  have hc:0 < c:=Nat.lt_of_le_of_lt (Nat.zero_le _) h1
  have h3:=Fb (c:=c) h2
  unfold Jx
  refine ⟨by omega,?_,?_⟩
  · rw [Nat.add_comm,Nat.add_mul_mod_self_right,Nat.mod_eq_of_lt h1]
  · rw [Nat.add_comm,Nat.add_mul_div_right _ _ hc,Nat.div_eq_of_lt h1,Nat.zero_add]
theorem Uk {r c j:Nat} (hc:0 < c) (hj:j < r * c):j % c * r + j / c < c * r ∧ Jx r c (j % c * r + j / c)=j:=by
  have h1:j / c < r:=(Nat.div_lt_iff_lt_mul hc).2 hj
  have h2:j % c < c:=Nat.mod_lt _ hc
  have h3:=Fb (c:=r) h2
  refine ⟨by omega,?_⟩
  unfold Jx
  rw [Nat.add_comm (j % c * r),Nat.add_mul_mod_self_right,Nat.mod_eq_of_lt h1,Nat.add_mul_div_right _ _ (Nat.lt_of_le_of_lt (Nat.zero_le _) h1),Nat.div_eq_of_lt h1,Nat.zero_add,Nat.mul_comm]
  exact Nat.div_add_mod j c
theorem Re {r c j q:Nat} (hr:0 < r) (hq:q < c * r) (h:Jx r c q=j):q=j % c * r + j / c:=by
  obtain ⟨_,h2,h3⟩:=Ou hr hq
  subst h
  rw [h2,h3,Nat.mul_comm]
  exact (Nat.div_add_mod q r).symm
theorem Ib (r c:Nat) (l:List Int) (j:Nat):(E9 r c l j).length=c * r:=by simp [E9]
theorem Gx (r c:Nat) (l:List Int):(Ee r c l).length=c * r:=by simp [Ee]
theorem Wx (r c:Nat) (l:List Int):E9 r c l 0=List.replicate (c * r) 0:=by
  apply List.ext_getElem?
  intro i
  unfold E9
  rw [List.getElem?_map,List.getElem?_replicate]
  by_cases h:i < c * r
  · rw [if_pos h,List.getElem?_range h]; simp
  · rw [if_neg h,List.getElem?_eq_none (by simp; omega)]; rfl
theorem Wy {r c j:Nat} {l:List Int} (hr:0 < r) (hc:0 < c) (hl:l.length=r * c) (hj:j < r * c):(E9 r c l j).take (j % c * r + j / c) ++ [l[j]] ++ (E9 r c l j).drop (j % c * r + j / c + 1)=E9 r c l (j + 1):=by
  obtain ⟨d1,d2⟩:=Uk (r:=r) hc hj
  generalize hd:j % c * r + j / c=d at d1 d2 ⊢
  have g:∀ k i,i < c * r → (E9 r c l k)[i]?=some (if Jx r c i < k then l.getD (Jx r c i) 0 else 0):=by
    intro k i hi; unfold E9; rw [List.getElem?_map,List.getElem?_range hi]; rfl
  apply List.ext_getElem?
  intro i
  have hlen:((E9 r c l j).take d).length=d:=by rw [List.length_take,Ib]; omega
  by_cases hi:i < c * r
  · rw [g _ _ hi,List.append_assoc,List.getElem?_append,hlen]
    by_cases h1:i < d
    · rw [if_pos h1,List.getElem?_take,if_pos h1,g _ _ hi]
      have:Jx r c i ≠ j:=fun h => by have:=Re hr hi h; omega
      congr 2
      simp only [eq_iff_iff]; omega
    · rw [if_neg h1,List.getElem?_append]
      by_cases h2:i=d
      · subst h2
        rw [if_pos (by simp),d2,if_pos (by omega)]
        simp [List.getD_eq_getElem?_getD,hl ▸ hj]
      · rw [if_neg (by simp; omega),List.getElem?_drop,List.length_singleton,show d + 1 + (i - d - 1)=i by omega,g _ _ hi]
        have:Jx r c i ≠ j:=fun h => by have:=Re hr hi h; omega
        congr 2
        simp only [eq_iff_iff]; omega
  · rw [List.getElem?_eq_none (by simp [Ib]; omega),List.getElem?_eq_none (by rw [Ib]; omega)]
theorem Ac3 {r c:Nat} {l:List Int} (hr:0 < r):E9 r c l (r * c)=Ee r c l:=by
  unfold E9 Ee
  apply List.map_congr_left
  intro q hq
  rw [if_pos (Ou hr (List.mem_range.1 hq)).1]
theorem Ac2 {r c:Nat} {l:List Int} {a:Int} (hr:0 < r) (hl:l.length=r * c) (h:a ∈ Ee r c l):a ∈ l:=by
  unfold Ee at h
  obtain ⟨q,hq,rfl⟩:=List.mem_map.1 h
  have h1:=(Ou hr (List.mem_range.1 hq)).1
  rw [List.getD_eq_getElem?_getD,List.getElem?_eq_getElem (by omega)]
  exact List.getElem_mem _
end Go.Proofs.Ythnfphgjfpcpbaa.TM
namespace Go.Proofs.Ythnfphgjfpcpbaa.TM
open Go Go.RowKit
def tbl (n:Nat) (f:Nat → Int):List Int:=(List.range n).map f
theorem Ca (n:Nat) (f:Nat → Int):(tbl n f).length=n:=by simp [tbl]
theorem G7 {n:Nat} (f:Nat → Int) {i:Nat} (h:i < n):(tbl n f)[i]?=some (f i):=by unfold tbl; rw [List.getElem?_map,List.getElem?_range h]; rfl
theorem Ct {n:Nat} (f:Nat → Int) {i:Nat} (h:i < n):(tbl n f).getD i 0=f i:=by rw [List.getD_eq_getElem?_getD,G7 f h]; rfl
theorem Fx (n:Nat) (f:Nat → Int):tbl (n + 1) f=tbl n f ++ [f n]:=by unfold tbl; rw [List.range_succ,List.map_append]; rfl
theorem F2 {n:Nat} {f g:Nat → Int} (h:∀ i,i < n → f i=g i):tbl n f=tbl n g:=by
  unfold tbl
  exact List.map_congr_left fun i hi => h i (List.mem_range.1 hi)
theorem Mr {n:Nat} {l:List Int} (h:l.length=n):l=tbl n (fun i => l.getD i 0):=by
  apply List.ext_getElem?
  intro i
  by_cases hi:i < n
  · rw [G7 _ hi,List.getD_eq_getElem?_getD,List.getElem?_eq_getElem (by omega)]; rfl
  · rw [List.getElem?_eq_none (by omega),List.getElem?_eq_none (by rw [Ca]; omega)]
theorem Am9 (n:Nat):tbl n (fun _ => 0)=List.replicate n 0:=by
  unfold tbl
  rw [List.map_const',List.length_range]
theorem Dh {n:Nat} {f:Nat → Int} {a:Int} (h:a ∈ tbl n f):∃ i,i < n ∧ f i=a:=by
  unfold tbl at h
  obtain ⟨i,hi,e⟩:=List.mem_map.1 h
  exact ⟨i,List.mem_range.1 hi,e⟩
theorem Ay8 {n d:Nat} (f:Nat → Int) (x:Int) (hd:d < n):(tbl n f).take d ++ [x] ++ (tbl n f).drop (d + 1)=tbl n (fun q => if q=d then x else f q):=by
  have h1:((tbl n f).take d).length=d:=by rw [List.length_take,Ca]; omega
  apply List.ext_getElem?
  intro i
  rw [List.append_assoc,List.getElem?_append,h1]
  by_cases hi:i < n
  · rw [G7 _ hi]
    by_cases a:i < d
    · rw [if_pos a,List.getElem?_take,if_pos a,G7 _ hi,if_neg (by omega)]
    · rw [if_neg a,List.getElem?_append]
      by_cases b:i=d
      · subst b; rw [if_pos (by simp),if_pos rfl]; simp
      · rw [if_neg (by simp; omega),List.getElem?_drop,List.length_singleton,show d + 1 + (i - d - 1)=i by omega,G7 _ hi,if_neg b]
  · rw [List.getElem?_eq_none (l:=tbl n _) (by rw [Ca]; omega),if_neg (by omega),List.getElem?_append_right (by simp; omega),List.getElem?_drop,List.length_singleton,List.getElem?_eq_none (by rw [Ca]; omega)]
theorem Du {n d:Nat} (f:Nat → Int) (x:Int) (hd:d < n):((tbl n f).map iu).take d ++ [iu x] ++ ((tbl n f).map iu).drop (d + 1)=(tbl n (fun q => if q=d then x else f q)).map iu:=by
  rw [← Ay8 f x hd]; simp
theorem Ey (n:Nat):List.map IV.v (Cc [Value.int .u64 0] n)=(tbl n (fun _ => 0)).map iu:=by
  rw [Am9,List.map_replicate]
  induction n with
  | zero => rfl
  | succ n ih => rw [I0,List.map_append,ih]; rfl
end Go.Proofs.Ythnfphgjfpcpbaa.TM
namespace Go.Proofs.Ythnfphgjfpcpbaa.TM
open Go Go.RowKit
def B8:Nat → (Nat → Int) → Int
  | 0,_ => 0
  | n + 1,f => B8 n f + f n
theorem By {n:Nat} {f g:Nat → Int} (h:∀ i,i < n → f i=g i):B8 n f=B8 n g:=by
  induction n with
  | zero => rfl
  | succ n ih => rw [B8,B8,ih (fun i hi => h i (by omega)),h n (by omega)]
theorem Fg (n:Nat) (f g:Nat → Int):B8 n (fun i => f i + g i)=B8 n f + B8 n g:=by
  induction n with
  | zero => rfl
  | succ n ih => simp only [B8,ih]; omega
theorem An6 (n:Nat) (f g:Nat → Int):B8 n (fun i => f i - g i)=B8 n f - B8 n g:=by
  induction n with
  | zero => rfl
  | succ n ih => simp only [B8,ih]; omega
theorem G8 (n:Nat) (a:Int) (f:Nat → Int):B8 n (fun i => a * f i)=a * B8 n f:=by
  induction n with
  | zero => simp [B8]
  | succ n ih => simp only [B8,ih,Int.mul_add]
theorem Mv (n:Nat) (a:Int) (f:Nat → Int):B8 n (fun i => f i * a)=B8 n f * a:=by
  induction n with
  | zero => simp [B8]
  | succ n ih => simp only [B8,ih,Int.add_mul]
theorem Ie (n:Nat):B8 n (fun _ => 0)=0:=by
  induction n with
  | zero => rfl
  | succ n ih => simp [B8,ih]
theorem W5 {n:Nat} {f:Nat → Int} (h:∀ i,i < n → f i=0):B8 n f=0:=(By h).trans (Ie n)
theorem If (m n:Nat) (f:Nat → Nat → Int):B8 m (fun i => B8 n (fun j => f i j))=B8 n (fun j => B8 m (fun i => f i j)):=by
  induction m with
  | zero => simp [B8,Ie]
  | succ m ih => simp only [B8,ih,Fg]
theorem Dn {p:Int} {n:Nat} {f g:Nat → Int} (h:∀ i,i < n → f i % p=g i % p):B8 n f % p=B8 n g % p:=by
  induction n with
  | zero => rfl
  | succ n ih => rw [B8,B8,Int.add_emod,ih (fun i hi => h i (by omega)),h n (by omega),← Int.add_emod]
theorem Dm {n i:Nat} (f:Nat → Int) (hi:i < n):B8 n (fun k => if k=i then f k else 0)=f i:=by
  induction n with
  | zero => omega
  | succ n ih =>
    rw [B8]
    by_cases h:i=n
    · subst h
      rw [W5 (fun k hk => if_neg (by omega)),if_pos rfl,Int.zero_add]
    · rw [ih (by omega),if_neg (by omega),Int.add_zero]
theorem K8 (m n:Nat) (f:Nat → Int):B8 (m + n) f=B8 m f + B8 n (fun i => f (m + i)):=by
  induction n with
  | zero => simp [B8]
  | succ n ih => rw [← Nat.add_assoc,B8,ih,B8]; omega
theorem Aa6:∀ (n:Nat) (a b:List Int),a.length=n → b.length=n → D5 a b=B8 n (fun k => a.getD k 0 * b.getD k 0)
  | 0,[],[],_,_ => rfl
  | n + 1,x::a,y::b,ha,hb => by
    rw [D5,Aa6 n a b (by simpa using ha) (by simpa using hb),Nat.add_comm,K8 1 n]
    simp only [B8,Int.zero_add]
    congr 1
    apply By
    intro i _
    rw [Nat.add_comm 1 i]; simp
  | 0,_::_,_,h,_ => by simp at h
  | 0,[],_::_,_,h => by simp at h
  | n + 1,[],_,h,_ => by simp at h
  | n + 1,_::_,[],_,h => by simp at h
def cl (c:Nat) (l:List Int) (i k:Nat):Int:=l.getD (i * c + k) 0
theorem Zu {r c i k:Nat} {l:List Int} (hl:l.length=r * c) (hi:i < r) (hk:k < c):(Df c l i).getD k 0=cl c l i k:=by
  have b1:=Fb (c:=c) hi
  have e3:i * c + k < l.length:=by omega
  unfold cl Df
  rw [List.getD_eq_getElem?_getD,List.getD_eq_getElem?_getD,List.getElem?_take,if_pos hk,List.getElem?_drop]
theorem Tw {r c i k:Nat} (f:Nat → Int) (hi:i < r) (hk:k < c):cl c (tbl (r * c) f) i k=f (i * c + k):=by
  have b1:=Fb (c:=c) hi
  exact Ct f (by omega)
theorem Lm {c i k:Nat} (hk:k < c):(i * c + k) / c=i:=by
  rw [Nat.add_comm,Nat.add_mul_div_right _ _ (by omega),Nat.div_eq_of_lt hk,Nat.zero_add]
theorem Nc {c i k:Nat} (hk:k < c):(i * c + k) % c=k:=by
  rw [Nat.add_comm,Nat.add_mul_mod_self_right,Nat.mod_eq_of_lt hk]
theorem cl_mem {r c i k:Nat} {l:List Int} (hl:l.length=r * c) (hi:i < r) (hk:k < c):cl c l i k ∈ l:=by
  have b1:=Fb (c:=c) hi
  have e3:i * c + k < l.length:=by omega
  unfold cl
  rw [List.getD_eq_getElem?_getD,List.getElem?_eq_getElem e3]
  exact List.getElem_mem e3
theorem dotRow {r c i:Nat} {l x:List Int} (hl:l.length=r * c) (hi:i < r) (hx:x.length=c):D5 (Df c l i) x=B8 c (fun k => cl c l i k * x.getD k 0):=by
  rw [Aa6 c _ _ (Gd hl hi) hx]
  exact By fun k hk => by rw [Zu hl hi hk]
theorem W3 {p:Int} {r c:Nat} {l x:List Int} (hl:l.length=r * c) (hx:x.length=c):Ea p r c l x=tbl r (fun i => B8 c (fun k => cl c l i k * x.getD k 0) % p):=by
  unfold Ea tbl
  exact List.map_congr_left fun i hi => by rw [dotRow hl (List.mem_range.1 hi) hx]
theorem Of {r c i k:Nat} (l:List Int) (hi:i < r) (hk:k < c):cl r (Ee r c l) k i=cl c l i k:=by
  have b1:=Fb (c:=r) hk
  unfold cl Ee
  rw [show (List.range (c * r)).map (fun q => l.getD (Jx r c q) 0)=tbl (c * r) (fun q => l.getD (Jx r c q) 0) from rfl,Ct _ (by omega)]
  unfold Jx
  rw [Lm hi,Nc hi]
end Go.Proofs.Ythnfphgjfpcpbaa.TM
