/- What is proved of functions, and plain facts, part 4. Conditions: none. -/
import Derived.Test.YtmalpmnmknpphaaSShapeParts3
import Derived.Test.YtmalpmnmknpphaaProg
import Derived.Laws.BitsLemmas
set_option linter.defProp false
set_option linter.unusedSectionVars false
set_option linter.unusedSimpArgs false
set_option linter.unusedVariables false
namespace Go.Proofs.Ytmalpmnmknpphaa.TM
open Go
theorem ty0:tkB Try.prog 2=some (.int .i64):=by kernel_rfl
theorem ty1:szOf Try.prog 2=1:=by kernel_rfl
theorem ty2:isAggB Try.prog 2=false:=by kernel_rfl
theorem ty3:isArrB Try.prog 2=false:=by kernel_rfl
theorem ty4:infoB Try.prog 2=true:=by kernel_rfl
theorem ty5:undB Try.prog 2=true:=by kernel_rfl
theorem ty6:Program.bytesOf Try.prog 2=8:=by kernel_rfl
theorem ty7:elemB Try.prog 2=none:=by kernel_rfl
theorem ty8:zeroB Try.prog 2=some [Value.int .i64 0]:=by kernel_rfl
theorem ty9:tkB Try.prog 3=some (.int .i64):=by kernel_rfl
theorem ty10:szOf Try.prog 3=1:=by kernel_rfl
theorem ty11:isAggB Try.prog 3=false:=by kernel_rfl
theorem ty12:isArrB Try.prog 3=false:=by kernel_rfl
theorem ty13:infoB Try.prog 3=true:=by kernel_rfl
theorem ty14:undB Try.prog 3=true:=by kernel_rfl
theorem ty15:Program.bytesOf Try.prog 3=8:=by kernel_rfl
theorem ty16:elemB Try.prog 3=none:=by kernel_rfl
theorem ty17:zeroB Try.prog 3=some [Value.int .i64 0]:=by kernel_rfl
theorem ty18:tkB Try.prog 4=some .bool:=by kernel_rfl
theorem ty19:szOf Try.prog 4=1:=by kernel_rfl
theorem ty20:isAggB Try.prog 4=false:=by kernel_rfl
theorem ty21:isArrB Try.prog 4=false:=by kernel_rfl
theorem ty22:infoB Try.prog 4=true:=by kernel_rfl
theorem ty23:undB Try.prog 4=true:=by kernel_rfl
theorem ty24:Program.bytesOf Try.prog 4=1:=by kernel_rfl
theorem ty25:elemB Try.prog 4=none:=by kernel_rfl
theorem ty26:zeroB Try.prog 4=some [Value.bool false]:=by kernel_rfl
theorem ty27:zero1B Try.prog 4=some (Value.bool false):=by kernel_rfl
theorem ty28:tkB Try.prog 5=some (.int .u8):=by kernel_rfl
theorem ty29:szOf Try.prog 5=1:=by kernel_rfl
theorem ty30:isAggB Try.prog 5=false:=by kernel_rfl
theorem ty31:isArrB Try.prog 5=false:=by kernel_rfl
theorem ty32:infoB Try.prog 5=true:=by kernel_rfl
theorem ty33:undB Try.prog 5=true:=by kernel_rfl
theorem ty34:Program.bytesOf Try.prog 5=1:=by kernel_rfl
theorem ty35:elemB Try.prog 5=none:=by kernel_rfl
theorem ty36:zeroB Try.prog 5=some [Value.int .u8 0]:=by kernel_rfl
theorem ty37:tkB Try.prog 9=some .str:=by kernel_rfl
theorem ty38:szOf Try.prog 9=1:=by kernel_rfl
theorem ty39:isAggB Try.prog 9=false:=by kernel_rfl
theorem ty40:isArrB Try.prog 9=false:=by kernel_rfl
theorem ty41:infoB Try.prog 9=true:=by kernel_rfl
theorem ty42:undB Try.prog 9=true:=by kernel_rfl
theorem ty43:Program.bytesOf Try.prog 9=16:=by kernel_rfl
theorem ty44:elemB Try.prog 9=none:=by kernel_rfl
theorem ty45:zeroB Try.prog 9=some [Value.string ByteArray.empty]:=by kernel_rfl
theorem ty46:tkB Try.prog 22=some (.int .u64):=by kernel_rfl
theorem ty47:szOf Try.prog 22=1:=by kernel_rfl
theorem ty48:isAggB Try.prog 22=false:=by kernel_rfl
theorem ty49:isArrB Try.prog 22=false:=by kernel_rfl
theorem ty50:infoB Try.prog 22=true:=by kernel_rfl
theorem ty51:undB Try.prog 22=true:=by kernel_rfl
theorem ty52:Program.bytesOf Try.prog 22=8:=by kernel_rfl
theorem ty53:elemB Try.prog 22=none:=by kernel_rfl
theorem ty54:zeroB Try.prog 22=some [Value.int .u64 0]:=by kernel_rfl
theorem ty55:tkB Try.prog 23=some (.sl 22):=by kernel_rfl
theorem ty56:szOf Try.prog 23=1:=by kernel_rfl
theorem ty57:isAggB Try.prog 23=false:=by kernel_rfl
theorem ty58:isArrB Try.prog 23=false:=by kernel_rfl
theorem ty59:infoB Try.prog 23=true:=by kernel_rfl
theorem ty60:undB Try.prog 23=true:=by kernel_rfl
theorem ty61:Program.bytesOf Try.prog 23=24:=by kernel_rfl
theorem ty62:elemB Try.prog 23=some 22:=by kernel_rfl
theorem ty63:zeroB Try.prog 23=some [Value.slice none 0 0]:=by kernel_rfl
theorem ty64:tkB Try.prog 24=some .other:=by kernel_rfl
theorem ty65:szOf Try.prog 24=3:=by kernel_rfl
theorem ty66:isAggB Try.prog 24=true:=by kernel_rfl
theorem ty67:isArrB Try.prog 24=false:=by kernel_rfl
theorem ty68:infoB Try.prog 24=true:=by kernel_rfl
theorem ty69:undB Try.prog 24=true:=by kernel_rfl
theorem ty70:Program.bytesOf Try.prog 24=40:=by kernel_rfl
theorem ty71:elemB Try.prog 24=none:=by kernel_rfl
theorem ty72:zeroB Try.prog 24=some [Value.int .i64 0,Value.int .i64 0,Value.slice none 0 0]:=by kernel_rfl
theorem ty73:fieldB Try.prog 24 0=some (3,0):=by kernel_rfl
theorem ty74:fieldB Try.prog 24 1=some (3,1):=by kernel_rfl
theorem ty75:fieldB Try.prog 24 2=some (23,2):=by kernel_rfl
theorem ty76:placesOf Try.prog 24=some (.st [(0,1),(1,1),(2,1)]):=by kernel_rfl
theorem ty77:tkB Try.prog 25=some .other:=by kernel_rfl
theorem ty78:szOf Try.prog 25=3:=by kernel_rfl
theorem ty79:isAggB Try.prog 25=true:=by kernel_rfl
theorem ty80:isArrB Try.prog 25=false:=by kernel_rfl
theorem ty81:infoB Try.prog 25=true:=by kernel_rfl
theorem ty82:undB Try.prog 25=true:=by kernel_rfl
theorem ty83:Program.bytesOf Try.prog 25=40:=by kernel_rfl
theorem ty84:elemB Try.prog 25=none:=by kernel_rfl
theorem ty85:zeroB Try.prog 25=some [Value.int .i64 0,Value.int .i64 0,Value.slice none 0 0]:=by kernel_rfl
theorem ty86:fieldB Try.prog 25 0=some (3,0):=by kernel_rfl
theorem ty87:fieldB Try.prog 25 1=some (3,1):=by kernel_rfl
theorem ty88:fieldB Try.prog 25 2=some (23,2):=by kernel_rfl
theorem ty89:placesOf Try.prog 25=some (.st [(0,1),(1,1),(2,1)]):=by kernel_rfl
theorem ty90:tkB Try.prog 27=some .other:=by kernel_rfl
theorem ty91:szOf Try.prog 27=1:=by kernel_rfl
theorem ty92:isAggB Try.prog 27=false:=by kernel_rfl
theorem ty93:isArrB Try.prog 27=false:=by kernel_rfl
theorem ty94:infoB Try.prog 27=true:=by kernel_rfl
theorem ty95:undB Try.prog 27=true:=by kernel_rfl
theorem ty96:Program.bytesOf Try.prog 27=8:=by kernel_rfl
theorem ty97:elemB Try.prog 27=none:=by kernel_rfl
theorem ty98:tkB Try.prog 30=some (.int .i64):=by kernel_rfl
theorem ty99:szOf Try.prog 30=1:=by kernel_rfl
theorem ty100:isAggB Try.prog 30=false:=by kernel_rfl
theorem ty101:isArrB Try.prog 30=false:=by kernel_rfl
theorem ty102:infoB Try.prog 30=true:=by kernel_rfl
theorem ty103:undB Try.prog 30=true:=by kernel_rfl
theorem ty104:Program.bytesOf Try.prog 30=8:=by kernel_rfl
theorem ty105:elemB Try.prog 30=none:=by kernel_rfl
theorem ty106:zeroB Try.prog 30=some [Value.int .i64 0]:=by kernel_rfl
theorem ty107:tkB Try.prog 38=some .other:=by kernel_rfl
theorem ty108:szOf Try.prog 38=1:=by kernel_rfl
theorem ty109:isAggB Try.prog 38=false:=by kernel_rfl
theorem ty110:isArrB Try.prog 38=false:=by kernel_rfl
theorem ty111:infoB Try.prog 38=true:=by kernel_rfl
theorem ty112:undB Try.prog 38=true:=by kernel_rfl
theorem ty113:Program.bytesOf Try.prog 38=8:=by kernel_rfl
theorem ty114:elemB Try.prog 38=none:=by kernel_rfl
theorem ty115:tkB Try.prog 52=some (.sl 3):=by kernel_rfl
theorem ty116:szOf Try.prog 52=1:=by kernel_rfl
theorem ty117:isAggB Try.prog 52=false:=by kernel_rfl
theorem ty118:isArrB Try.prog 52=false:=by kernel_rfl
theorem ty119:infoB Try.prog 52=true:=by kernel_rfl
theorem ty120:undB Try.prog 52=true:=by kernel_rfl
theorem ty121:Program.bytesOf Try.prog 52=24:=by kernel_rfl
theorem ty122:elemB Try.prog 52=some 3:=by kernel_rfl
theorem ty123:zeroB Try.prog 52=some [Value.slice none 0 0]:=by kernel_rfl
theorem ty124:tkB Try.prog 53=some (.sl 23):=by kernel_rfl
theorem ty125:szOf Try.prog 53=1:=by kernel_rfl
theorem ty126:isAggB Try.prog 53=false:=by kernel_rfl
theorem ty127:isArrB Try.prog 53=false:=by kernel_rfl
theorem ty128:infoB Try.prog 53=true:=by kernel_rfl
theorem ty129:undB Try.prog 53=true:=by kernel_rfl
theorem ty130:Program.bytesOf Try.prog 53=24:=by kernel_rfl
theorem ty131:elemB Try.prog 53=some 23:=by kernel_rfl
theorem ty132:zeroB Try.prog 53=some [Value.slice none 0 0]:=by kernel_rfl
theorem ty133:tkB Try.prog 54=some .other:=by kernel_rfl
theorem ty134:szOf Try.prog 54=4:=by kernel_rfl
theorem ty135:isAggB Try.prog 54=true:=by kernel_rfl
theorem ty136:isArrB Try.prog 54=false:=by kernel_rfl
theorem ty137:infoB Try.prog 54=true:=by kernel_rfl
theorem ty138:undB Try.prog 54=true:=by kernel_rfl
theorem ty139:Program.bytesOf Try.prog 54=96:=by kernel_rfl
theorem ty140:elemB Try.prog 54=none:=by kernel_rfl
theorem ty141:zeroB Try.prog 54=some [Value.slice none 0 0,Value.slice none 0 0,Value.slice none 0 0,Value.slice none 0 0]:=by kernel_rfl
theorem ty142:fieldB Try.prog 54 0=some (52,0):=by kernel_rfl
theorem ty143:fieldB Try.prog 54 1=some (52,1):=by kernel_rfl
theorem ty144:fieldB Try.prog 54 2=some (53,2):=by kernel_rfl
theorem ty145:fieldB Try.prog 54 3=some (53,3):=by kernel_rfl
theorem ty146:placesOf Try.prog 54=some (.st [(0,1),(1,1),(2,1),(3,1)]):=by kernel_rfl
theorem ty147:tkB Try.prog 55=some .other:=by kernel_rfl
theorem ty148:szOf Try.prog 55=4:=by kernel_rfl
theorem ty149:isAggB Try.prog 55=true:=by kernel_rfl
theorem ty150:isArrB Try.prog 55=false:=by kernel_rfl
theorem ty151:infoB Try.prog 55=true:=by kernel_rfl
theorem ty152:undB Try.prog 55=true:=by kernel_rfl
theorem ty153:Program.bytesOf Try.prog 55=96:=by kernel_rfl
theorem ty154:elemB Try.prog 55=none:=by kernel_rfl
theorem ty155:zeroB Try.prog 55=some [Value.slice none 0 0,Value.slice none 0 0,Value.slice none 0 0,Value.slice none 0 0]:=by kernel_rfl
theorem ty156:fieldB Try.prog 55 0=some (52,0):=by kernel_rfl
theorem ty157:fieldB Try.prog 55 1=some (52,1):=by kernel_rfl
theorem ty158:fieldB Try.prog 55 2=some (53,2):=by kernel_rfl
theorem ty159:fieldB Try.prog 55 3=some (53,3):=by kernel_rfl
theorem ty160:placesOf Try.prog 55=some (.st [(0,1),(1,1),(2,1),(3,1)]):=by kernel_rfl
theorem ty161:tkB Try.prog 83=some .other:=by kernel_rfl
theorem ty162:szOf Try.prog 83=1:=by kernel_rfl
theorem ty163:isAggB Try.prog 83=false:=by kernel_rfl
theorem ty164:isArrB Try.prog 83=false:=by kernel_rfl
theorem ty165:infoB Try.prog 83=true:=by kernel_rfl
theorem ty166:undB Try.prog 83=true:=by kernel_rfl
theorem ty167:Program.bytesOf Try.prog 83=8:=by kernel_rfl
theorem ty168:elemB Try.prog 83=none:=by kernel_rfl
theorem ty169:tkB Try.prog 86=some .other:=by kernel_rfl
theorem ty170:szOf Try.prog 86=9:=by kernel_rfl
theorem ty171:isAggB Try.prog 86=true:=by kernel_rfl
theorem ty172:isArrB Try.prog 86=false:=by kernel_rfl
theorem ty173:infoB Try.prog 86=true:=by kernel_rfl
theorem ty174:undB Try.prog 86=true:=by kernel_rfl
theorem ty175:Program.bytesOf Try.prog 86=168:=by kernel_rfl
theorem ty176:elemB Try.prog 86=none:=by kernel_rfl
theorem ty177:zeroB Try.prog 86=some [Value.slice none 0 0,Value.slice none 0 0,Value.slice none 0 0,Value.slice none 0 0,Value.int .u64 0,Value.int .i64 0,Value.int .i64 0,Value.slice none 0 0,Value.slice none 0 0]:=by kernel_rfl
theorem ty178:fieldB Try.prog 86 0=some (55,0):=by kernel_rfl
theorem ty179:fieldB Try.prog 86 1=some (22,4):=by kernel_rfl
theorem ty180:fieldB Try.prog 86 2=some (25,5):=by kernel_rfl
theorem ty181:fieldB Try.prog 86 3=some (23,8):=by kernel_rfl
theorem ty182:placesOf Try.prog 86=some (.st [(0,4),(4,1),(5,3),(8,1)]):=by kernel_rfl
theorem ty183:tkB Try.prog 87=some .other:=by kernel_rfl
theorem ty184:szOf Try.prog 87=9:=by kernel_rfl
theorem ty185:isAggB Try.prog 87=true:=by kernel_rfl
theorem ty186:isArrB Try.prog 87=false:=by kernel_rfl
theorem ty187:infoB Try.prog 87=true:=by kernel_rfl
theorem ty188:undB Try.prog 87=true:=by kernel_rfl
theorem ty189:Program.bytesOf Try.prog 87=168:=by kernel_rfl
theorem ty190:elemB Try.prog 87=none:=by kernel_rfl
theorem ty191:zeroB Try.prog 87=some [Value.slice none 0 0,Value.slice none 0 0,Value.slice none 0 0,Value.slice none 0 0,Value.int .u64 0,Value.int .i64 0,Value.int .i64 0,Value.slice none 0 0,Value.slice none 0 0]:=by kernel_rfl
theorem ty192:fieldB Try.prog 87 0=some (55,0):=by kernel_rfl
theorem ty193:fieldB Try.prog 87 1=some (22,4):=by kernel_rfl
theorem ty194:fieldB Try.prog 87 2=some (25,5):=by kernel_rfl
theorem ty195:fieldB Try.prog 87 3=some (23,8):=by kernel_rfl
theorem ty196:placesOf Try.prog 87=some (.st [(0,4),(4,1),(5,3),(8,1)]):=by kernel_rfl
theorem ty197:tkB Try.prog 104=some .other:=by kernel_rfl
theorem ty198:szOf Try.prog 104=1:=by kernel_rfl
theorem ty199:isAggB Try.prog 104=false:=by kernel_rfl
theorem ty200:isArrB Try.prog 104=false:=by kernel_rfl
theorem ty201:infoB Try.prog 104=true:=by kernel_rfl
theorem ty202:undB Try.prog 104=true:=by kernel_rfl
theorem ty203:Program.bytesOf Try.prog 104=8:=by kernel_rfl
theorem ty204:elemB Try.prog 104=none:=by kernel_rfl
theorem ty205:tkB Try.prog 107=some .other:=by kernel_rfl
theorem ty206:szOf Try.prog 107=1:=by kernel_rfl
theorem ty207:isAggB Try.prog 107=false:=by kernel_rfl
theorem ty208:isArrB Try.prog 107=false:=by kernel_rfl
theorem ty209:infoB Try.prog 107=true:=by kernel_rfl
theorem ty210:undB Try.prog 107=true:=by kernel_rfl
theorem ty211:Program.bytesOf Try.prog 107=8:=by kernel_rfl
theorem ty212:elemB Try.prog 107=none:=by kernel_rfl
theorem ty213:tkB Try.prog 108=some .other:=by kernel_rfl
theorem ty214:szOf Try.prog 108=1:=by kernel_rfl
theorem ty215:isAggB Try.prog 108=true:=by kernel_rfl
theorem ty216:isArrB Try.prog 108=false:=by kernel_rfl
theorem ty217:infoB Try.prog 108=true:=by kernel_rfl
theorem ty218:undB Try.prog 108=true:=by kernel_rfl
theorem ty219:Program.bytesOf Try.prog 108=24:=by kernel_rfl
theorem ty220:elemB Try.prog 108=none:=by kernel_rfl
theorem ty221:zeroB Try.prog 108=some [Value.slice none 0 0]:=by kernel_rfl
theorem ty222:fieldB Try.prog 108 0=some (23,0):=by kernel_rfl
theorem ty223:placesOf Try.prog 108=some (.st [(0,1)]):=by kernel_rfl
theorem ty224:tkB Try.prog 109=some .other:=by kernel_rfl
theorem ty225:szOf Try.prog 109=1:=by kernel_rfl
theorem ty226:isAggB Try.prog 109=true:=by kernel_rfl
theorem ty227:isArrB Try.prog 109=false:=by kernel_rfl
theorem ty228:infoB Try.prog 109=true:=by kernel_rfl
theorem ty229:undB Try.prog 109=true:=by kernel_rfl
theorem ty230:Program.bytesOf Try.prog 109=24:=by kernel_rfl
theorem ty231:elemB Try.prog 109=none:=by kernel_rfl
theorem ty232:zeroB Try.prog 109=some [Value.slice none 0 0]:=by kernel_rfl
theorem ty233:fieldB Try.prog 109 0=some (23,0):=by kernel_rfl
theorem ty234:placesOf Try.prog 109=some (.st [(0,1)]):=by kernel_rfl
theorem ty235:tkB Try.prog 113=some .other:=by kernel_rfl
theorem ty236:szOf Try.prog 113=1:=by kernel_rfl
theorem ty237:isAggB Try.prog 113=false:=by kernel_rfl
theorem ty238:isArrB Try.prog 113=false:=by kernel_rfl
theorem ty239:infoB Try.prog 113=true:=by kernel_rfl
theorem ty240:undB Try.prog 113=true:=by kernel_rfl
theorem ty241:Program.bytesOf Try.prog 113=8:=by kernel_rfl
theorem ty242:elemB Try.prog 113=none:=by kernel_rfl
theorem ty243:tkB Try.prog 114=some .other:=by kernel_rfl
theorem ty244:szOf Try.prog 114=6:=by kernel_rfl
theorem ty245:isAggB Try.prog 114=true:=by kernel_rfl
theorem ty246:isArrB Try.prog 114=false:=by kernel_rfl
theorem ty247:infoB Try.prog 114=true:=by kernel_rfl
theorem ty248:undB Try.prog 114=true:=by kernel_rfl
theorem ty249:Program.bytesOf Try.prog 114=128:=by kernel_rfl
theorem ty250:elemB Try.prog 114=none:=by kernel_rfl
theorem ty251:zeroB Try.prog 114=some [Value.slice none 0 0,Value.slice none 0 0,Value.slice none 0 0,Value.slice none 0 0,Value.int .u64 0,Value.slice none 0 0]:=by kernel_rfl
theorem ty252:fieldB Try.prog 114 0=some (55,0):=by kernel_rfl
theorem ty253:fieldB Try.prog 114 1=some (22,4):=by kernel_rfl
theorem ty254:fieldB Try.prog 114 2=some (23,5):=by kernel_rfl
theorem ty255:placesOf Try.prog 114=some (.st [(0,4),(4,1),(5,1)]):=by kernel_rfl
theorem ty256:tkB Try.prog 115=some .other:=by kernel_rfl
theorem ty257:szOf Try.prog 115=6:=by kernel_rfl
theorem ty258:isAggB Try.prog 115=true:=by kernel_rfl
theorem ty259:isArrB Try.prog 115=false:=by kernel_rfl
theorem ty260:infoB Try.prog 115=true:=by kernel_rfl
theorem ty261:undB Try.prog 115=true:=by kernel_rfl
theorem ty262:Program.bytesOf Try.prog 115=128:=by kernel_rfl
theorem ty263:elemB Try.prog 115=none:=by kernel_rfl
theorem ty264:zeroB Try.prog 115=some [Value.slice none 0 0,Value.slice none 0 0,Value.slice none 0 0,Value.slice none 0 0,Value.int .u64 0,Value.slice none 0 0]:=by kernel_rfl
theorem ty265:fieldB Try.prog 115 0=some (55,0):=by kernel_rfl
theorem ty266:fieldB Try.prog 115 1=some (22,4):=by kernel_rfl
theorem ty267:fieldB Try.prog 115 2=some (23,5):=by kernel_rfl
theorem ty268:placesOf Try.prog 115=some (.st [(0,4),(4,1),(5,1)]):=by kernel_rfl
theorem ty269:tkB Try.prog 119=some (.int .u64):=by kernel_rfl
theorem ty270:szOf Try.prog 119=1:=by kernel_rfl
theorem ty271:isAggB Try.prog 119=false:=by kernel_rfl
theorem ty272:isArrB Try.prog 119=false:=by kernel_rfl
theorem ty273:infoB Try.prog 119=true:=by kernel_rfl
theorem ty274:undB Try.prog 119=true:=by kernel_rfl
theorem ty275:Program.bytesOf Try.prog 119=8:=by kernel_rfl
theorem ty276:elemB Try.prog 119=none:=by kernel_rfl
theorem ty277:zeroB Try.prog 119=some [Value.int .u64 0]:=by kernel_rfl
theorem ty278:tkB Try.prog 127=some (.sl 52):=by kernel_rfl
theorem ty279:szOf Try.prog 127=1:=by kernel_rfl
theorem ty280:isAggB Try.prog 127=false:=by kernel_rfl
theorem ty281:isArrB Try.prog 127=false:=by kernel_rfl
theorem ty282:infoB Try.prog 127=true:=by kernel_rfl
theorem ty283:undB Try.prog 127=true:=by kernel_rfl
theorem ty284:Program.bytesOf Try.prog 127=24:=by kernel_rfl
theorem ty285:elemB Try.prog 127=some 52:=by kernel_rfl
theorem ty286:zeroB Try.prog 127=some [Value.slice none 0 0]:=by kernel_rfl
theorem ty287:tkB Try.prog 128=some (.sl 3):=by kernel_rfl
theorem ty288:szOf Try.prog 128=1:=by kernel_rfl
theorem ty289:isAggB Try.prog 128=false:=by kernel_rfl
theorem ty290:isArrB Try.prog 128=false:=by kernel_rfl
theorem ty291:infoB Try.prog 128=true:=by kernel_rfl
theorem ty292:undB Try.prog 128=true:=by kernel_rfl
theorem ty293:Program.bytesOf Try.prog 128=24:=by kernel_rfl
theorem ty294:elemB Try.prog 128=some 3:=by kernel_rfl
theorem ty295:zeroB Try.prog 128=some [Value.slice none 0 0]:=by kernel_rfl
theorem ty296:tkB Try.prog 130=some .other:=by kernel_rfl
theorem ty297:szOf Try.prog 130=1:=by kernel_rfl
theorem ty298:isAggB Try.prog 130=false:=by kernel_rfl
theorem ty299:isArrB Try.prog 130=false:=by kernel_rfl
theorem ty300:infoB Try.prog 130=true:=by kernel_rfl
theorem ty301:undB Try.prog 130=true:=by kernel_rfl
theorem ty302:Program.bytesOf Try.prog 130=8:=by kernel_rfl
theorem ty303:elemB Try.prog 130=none:=by kernel_rfl
theorem ty304:mapB Try.prog 130=some (.i64,4):=by kernel_rfl
theorem ty305:tkB Try.prog 143=some (.arr 64 4):=by kernel_rfl
theorem ty306:szOf Try.prog 143=64:=by kernel_rfl
theorem ty307:isAggB Try.prog 143=true:=by kernel_rfl
theorem ty308:isArrB Try.prog 143=true:=by kernel_rfl
theorem ty309:infoB Try.prog 143=true:=by kernel_rfl
theorem ty310:undB Try.prog 143=true:=by kernel_rfl
theorem ty311:Program.bytesOf Try.prog 143=64:=by kernel_rfl
theorem ty312:elemB Try.prog 143=none:=by kernel_rfl
theorem ty313:zeroB Try.prog 143=some [Value.bool false,Value.bool false,Value.bool false,Value.bool false,Value.bool false,Value.bool false,Value.bool false,Value.bool false,Value.bool false,Value.bool false,Value.bool false,Value.bool false,Value.bool false,Value.bool false,Value.bool false,Value.bool false,Value.bool false,Value.bool false,Value.bool false,Value.bool false,Value.bool false,Value.bool false,Value.bool false,Value.bool false,Value.bool false,Value.bool false,Value.bool false,Value.bool false,Value.bool false,Value.bool false,Value.bool false,Value.bool false,Value.bool false,Value.bool false,Value.bool false,Value.bool false,Value.bool false,Value.bool false,Value.bool false,Value.bool false,Value.bool false,Value.bool false,Value.bool false,Value.bool false,Value.bool false,Value.bool false,Value.bool false,Value.bool false,Value.bool false,Value.bool false,Value.bool false,Value.bool false,Value.bool false,Value.bool false,Value.bool false,Value.bool false,Value.bool false,Value.bool false,Value.bool false,Value.bool false,Value.bool false,Value.bool false,Value.bool false,Value.bool false]:=by kernel_rfl
theorem ty314:tkB Try.prog 144=some .other:=by kernel_rfl
theorem ty315:szOf Try.prog 144=1:=by kernel_rfl
theorem ty316:isAggB Try.prog 144=false:=by kernel_rfl
theorem ty317:isArrB Try.prog 144=false:=by kernel_rfl
theorem ty318:infoB Try.prog 144=true:=by kernel_rfl
theorem ty319:undB Try.prog 144=true:=by kernel_rfl
theorem ty320:Program.bytesOf Try.prog 144=16:=by kernel_rfl
theorem ty321:elemB Try.prog 144=none:=by kernel_rfl
theorem ty322:tkB Try.prog 145=some .other:=by kernel_rfl
theorem ty323:szOf Try.prog 145=1:=by kernel_rfl
theorem ty324:isAggB Try.prog 145=false:=by kernel_rfl
theorem ty325:isArrB Try.prog 145=false:=by kernel_rfl
theorem ty326:infoB Try.prog 145=true:=by kernel_rfl
theorem ty327:undB Try.prog 145=true:=by kernel_rfl
theorem ty328:Program.bytesOf Try.prog 145=16:=by kernel_rfl
theorem ty329:elemB Try.prog 145=none:=by kernel_rfl
theorem ty330:enterB Try.prog 2=true:=by kernel_rfl
theorem ty331:enterB Try.prog 3=true:=by kernel_rfl
theorem ty332:enterB Try.prog 4=true:=by kernel_rfl
theorem ty333:enterB Try.prog 5=true:=by kernel_rfl
theorem ty334:enterB Try.prog 6=true:=by kernel_rfl
theorem ty335:enterB Try.prog 7=true:=by kernel_rfl
theorem ty336:enterB Try.prog 8=true:=by kernel_rfl
theorem ty337:enterB Try.prog 9=true:=by kernel_rfl
theorem ty338:enterB Try.prog 10=true:=by kernel_rfl
theorem ty339:enterB Try.prog 11=true:=by kernel_rfl
theorem ty340:enterB Try.prog 12=true:=by kernel_rfl
theorem ty341:enterB Try.prog 13=true:=by kernel_rfl
theorem ty342:enterB Try.prog 14=true:=by kernel_rfl
theorem ty343:enterB Try.prog 15=true:=by kernel_rfl
theorem ty344:enterB Try.prog 16=true:=by kernel_rfl
theorem ty345:enterB Try.prog 17=true:=by kernel_rfl
theorem ty346:enterB Try.prog 18=true:=by kernel_rfl
theorem ty347:enterB Try.prog 19=true:=by kernel_rfl
theorem ty348:enterB Try.prog 20=true:=by kernel_rfl
theorem ty349:enterB Try.prog 21=true:=by kernel_rfl
theorem ty350:enterB Try.prog 22=true:=by kernel_rfl
theorem ty351:enterB Try.prog 23=true:=by kernel_rfl
theorem ty352:enterB Try.prog 24=true:=by kernel_rfl
theorem ty353:enterB Try.prog 25=true:=by kernel_rfl
theorem ty354:enterB Try.prog 26=true:=by kernel_rfl
theorem ty355:enterB Try.prog 27=true:=by kernel_rfl
theorem ty356:enterB Try.prog 28=true:=by kernel_rfl
theorem ty357:enterB Try.prog 29=true:=by kernel_rfl
theorem ty358:enterB Try.prog 30=true:=by kernel_rfl
theorem ty359:enterB Try.prog 31=true:=by kernel_rfl
theorem ty360:enterB Try.prog 32=true:=by kernel_rfl
theorem ty361:enterB Try.prog 33=true:=by kernel_rfl
theorem ty362:enterB Try.prog 34=true:=by kernel_rfl
theorem ty363:enterB Try.prog 35=true:=by kernel_rfl
theorem ty364:enterB Try.prog 36=true:=by kernel_rfl
theorem ty365:enterB Try.prog 37=true:=by kernel_rfl
theorem ty366:enterB Try.prog 38=true:=by kernel_rfl
theorem ty367:enterB Try.prog 39=true:=by kernel_rfl
theorem ty368:enterB Try.prog 40=true:=by kernel_rfl
theorem ty369:enterB Try.prog 41=true:=by kernel_rfl
theorem ty370:enterB Try.prog 42=true:=by kernel_rfl
theorem ty371:enterB Try.prog 43=true:=by kernel_rfl
theorem ty372:enterB Try.prog 44=true:=by kernel_rfl
theorem ty373:enterB Try.prog 45=true:=by kernel_rfl
theorem ty374:enterB Try.prog 46=true:=by kernel_rfl
theorem ty375:enterB Try.prog 47=true:=by kernel_rfl
theorem ty376:enterB Try.prog 48=true:=by kernel_rfl
theorem ty377:enterB Try.prog 49=true:=by kernel_rfl
theorem ty378:enterB Try.prog 50=true:=by kernel_rfl
theorem ty379:enterB Try.prog 51=true:=by kernel_rfl
theorem ty380:enterB Try.prog 52=true:=by kernel_rfl
theorem ty381:enterB Try.prog 53=true:=by kernel_rfl
theorem ty382:enterB Try.prog 54=true:=by kernel_rfl
theorem ty383:enterB Try.prog 55=true:=by kernel_rfl
theorem ty384:enterB Try.prog 56=true:=by kernel_rfl
theorem ty385:enterB Try.prog 57=true:=by kernel_rfl
theorem ty386:enterB Try.prog 58=true:=by kernel_rfl
theorem ty387:enterB Try.prog 59=true:=by kernel_rfl
theorem ty388:enterB Try.prog 60=true:=by kernel_rfl
theorem ty389:enterB Try.prog 61=true:=by kernel_rfl
theorem ty390:enterB Try.prog 62=true:=by kernel_rfl
theorem ty391:enterB Try.prog 63=true:=by kernel_rfl
theorem ty392:enterB Try.prog 64=true:=by kernel_rfl
theorem ty393:enterB Try.prog 65=true:=by kernel_rfl
theorem ty394:enterB Try.prog 66=true:=by kernel_rfl
theorem ty395:enterB Try.prog 67=true:=by kernel_rfl
theorem ty396:enterB Try.prog 68=true:=by kernel_rfl
theorem ty397:enterB Try.prog 69=true:=by kernel_rfl
theorem ty398:enterB Try.prog 70=true:=by kernel_rfl
theorem ty399:enterB Try.prog 71=true:=by kernel_rfl
theorem ty400:enterB Try.prog 72=true:=by kernel_rfl
theorem ty401:enterB Try.prog 73=true:=by kernel_rfl
theorem ty402:enterB Try.prog 74=true:=by kernel_rfl
theorem ty403:enterB Try.prog 75=true:=by kernel_rfl
theorem ty404:enterB Try.prog 76=true:=by kernel_rfl
theorem ty405:enterB Try.prog 77=true:=by kernel_rfl
theorem ty406:enterB Try.prog 78=true:=by kernel_rfl
theorem ty407:enterB Try.prog 79=true:=by kernel_rfl
theorem ty408:enterB Try.prog 80=true:=by kernel_rfl
theorem ty409:enterB Try.prog 81=true:=by kernel_rfl
theorem ty410:enterB Try.prog 82=true:=by kernel_rfl
theorem ty411:enterB Try.prog 83=true:=by kernel_rfl
theorem ty412:enterB Try.prog 84=true:=by kernel_rfl
theorem ty413:enterB Try.prog 85=true:=by kernel_rfl
theorem ty414:enterB Try.prog 86=true:=by kernel_rfl
theorem ty415:enterB Try.prog 87=true:=by kernel_rfl
theorem ty416:enterB Try.prog 88=true:=by kernel_rfl
theorem ty417:enterB Try.prog 89=true:=by kernel_rfl
theorem ty418:enterB Try.prog 90=true:=by kernel_rfl
theorem ty419:enterB Try.prog 91=true:=by kernel_rfl
theorem ty420:enterB Try.prog 92=true:=by kernel_rfl
theorem ty421:enterB Try.prog 93=true:=by kernel_rfl
theorem ty422:enterB Try.prog 94=true:=by kernel_rfl
theorem ty423:enterB Try.prog 95=true:=by kernel_rfl
theorem ty424:enterB Try.prog 96=true:=by kernel_rfl
theorem ty425:enterB Try.prog 97=true:=by kernel_rfl
theorem ty426:enterB Try.prog 98=true:=by kernel_rfl
theorem ty427:enterB Try.prog 99=true:=by kernel_rfl
theorem ty428:enterB Try.prog 100=true:=by kernel_rfl
theorem ty429:enterB Try.prog 101=true:=by kernel_rfl
theorem ty430:enterB Try.prog 102=true:=by kernel_rfl
theorem ty431:enterB Try.prog 103=true:=by kernel_rfl
theorem ty432:enterB Try.prog 104=true:=by kernel_rfl
theorem ty433:enterB Try.prog 105=true:=by kernel_rfl
theorem ty434:enterB Try.prog 106=true:=by kernel_rfl
theorem ty435:enterB Try.prog 107=true:=by kernel_rfl
theorem ty436:enterB Try.prog 108=true:=by kernel_rfl
theorem ty437:enterB Try.prog 109=true:=by kernel_rfl
theorem ty438:enterB Try.prog 110=true:=by kernel_rfl
theorem ty439:enterB Try.prog 111=true:=by kernel_rfl
theorem ty440:enterB Try.prog 112=true:=by kernel_rfl
theorem ty441:enterB Try.prog 113=true:=by kernel_rfl
theorem ty442:enterB Try.prog 114=true:=by kernel_rfl
theorem ty443:enterB Try.prog 115=true:=by kernel_rfl
theorem ty444:enterB Try.prog 116=true:=by kernel_rfl
theorem ty445:enterB Try.prog 117=true:=by kernel_rfl
theorem ty446:enterB Try.prog 118=true:=by kernel_rfl
theorem ty447:enterB Try.prog 119=true:=by kernel_rfl
theorem ty448:enterB Try.prog 120=true:=by kernel_rfl
theorem ty449:enterB Try.prog 121=true:=by kernel_rfl
theorem ty450:enterB Try.prog 122=true:=by kernel_rfl
theorem ty451:enterB Try.prog 123=true:=by kernel_rfl
theorem ty452:enterB Try.prog 124=true:=by kernel_rfl
theorem ty453:enterB Try.prog 125=true:=by kernel_rfl
theorem ty454:enterB Try.prog 126=true:=by kernel_rfl
theorem ty455:enterB Try.prog 127=true:=by kernel_rfl
theorem ty456:enterB Try.prog 128=true:=by kernel_rfl
theorem ty457:enterB Try.prog 129=true:=by kernel_rfl
theorem ty458:enterB Try.prog 130=true:=by kernel_rfl
theorem ty459:enterB Try.prog 131=true:=by kernel_rfl
theorem ty460:enterB Try.prog 132=true:=by kernel_rfl
theorem ty461:enterB Try.prog 133=true:=by kernel_rfl
theorem ty462:enterB Try.prog 134=true:=by kernel_rfl
theorem ty463:enterB Try.prog 135=true:=by kernel_rfl
theorem ty464:enterB Try.prog 136=true:=by kernel_rfl
theorem ty465:enterB Try.prog 137=true:=by kernel_rfl
theorem ty466:enterB Try.prog 138=true:=by kernel_rfl
theorem ty467:enterB Try.prog 139=true:=by kernel_rfl
theorem ty468:enterB Try.prog 140=true:=by kernel_rfl
theorem tyb0:tkB Try.prog 2=some (.int .i64) ∧ szOf Try.prog 2=1 ∧ isAggB Try.prog 2=false ∧ isArrB Try.prog 2=false ∧ infoB Try.prog 2=true ∧ undB Try.prog 2=true ∧ Program.bytesOf Try.prog 2=8 ∧ elemB Try.prog 2=none ∧ zeroB Try.prog 2=some [Value.int .i64 0] ∧ tkB Try.prog 3=some (.int .i64) ∧ szOf Try.prog 3=1 ∧ isAggB Try.prog 3=false ∧ isArrB Try.prog 3=false ∧ infoB Try.prog 3=true ∧ undB Try.prog 3=true ∧ Program.bytesOf Try.prog 3=8 ∧ elemB Try.prog 3=none ∧ zeroB Try.prog 3=some [Value.int .i64 0] ∧ tkB Try.prog 4=some .bool ∧ szOf Try.prog 4=1 ∧ isAggB Try.prog 4=false ∧ isArrB Try.prog 4=false ∧ infoB Try.prog 4=true ∧ undB Try.prog 4=true ∧ Program.bytesOf Try.prog 4=1 ∧ elemB Try.prog 4=none ∧ zeroB Try.prog 4=some [Value.bool false] ∧ zero1B Try.prog 4=some (Value.bool false) ∧ tkB Try.prog 5=some (.int .u8) ∧ szOf Try.prog 5=1 ∧ isAggB Try.prog 5=false ∧ isArrB Try.prog 5=false ∧ infoB Try.prog 5=true ∧ undB Try.prog 5=true ∧ Program.bytesOf Try.prog 5=1 ∧ elemB Try.prog 5=none ∧ zeroB Try.prog 5=some [Value.int .u8 0] ∧ tkB Try.prog 9=some .str ∧ szOf Try.prog 9=1 ∧ isAggB Try.prog 9=false:=⟨ty0,ty1,ty2,ty3,ty4,ty5,ty6,ty7,ty8,ty9,ty10,ty11,ty12,ty13,ty14,ty15,ty16,ty17,ty18,ty19,ty20,ty21,ty22,ty23,ty24,ty25,ty26,ty27,ty28,ty29,ty30,ty31,ty32,ty33,ty34,ty35,ty36,ty37,ty38,ty39⟩
theorem tyb1:isArrB Try.prog 9=false ∧ infoB Try.prog 9=true ∧ undB Try.prog 9=true ∧ Program.bytesOf Try.prog 9=16 ∧ elemB Try.prog 9=none ∧ zeroB Try.prog 9=some [Value.string ByteArray.empty] ∧ tkB Try.prog 22=some (.int .u64) ∧ szOf Try.prog 22=1 ∧ isAggB Try.prog 22=false ∧ isArrB Try.prog 22=false ∧ infoB Try.prog 22=true ∧ undB Try.prog 22=true ∧ Program.bytesOf Try.prog 22=8 ∧ elemB Try.prog 22=none ∧ zeroB Try.prog 22=some [Value.int .u64 0] ∧ tkB Try.prog 23=some (.sl 22) ∧ szOf Try.prog 23=1 ∧ isAggB Try.prog 23=false ∧ isArrB Try.prog 23=false ∧ infoB Try.prog 23=true ∧ undB Try.prog 23=true ∧ Program.bytesOf Try.prog 23=24 ∧ elemB Try.prog 23=some 22 ∧ zeroB Try.prog 23=some [Value.slice none 0 0] ∧ tkB Try.prog 24=some .other ∧ szOf Try.prog 24=3 ∧ isAggB Try.prog 24=true ∧ isArrB Try.prog 24=false ∧ infoB Try.prog 24=true ∧ undB Try.prog 24=true ∧ Program.bytesOf Try.prog 24=40 ∧ elemB Try.prog 24=none ∧ zeroB Try.prog 24=some [Value.int .i64 0,Value.int .i64 0,Value.slice none 0 0] ∧ fieldB Try.prog 24 0=some (3,0) ∧ fieldB Try.prog 24 1=some (3,1) ∧ fieldB Try.prog 24 2=some (23,2) ∧ placesOf Try.prog 24=some (.st [(0,1),(1,1),(2,1)]) ∧ tkB Try.prog 25=some .other ∧ szOf Try.prog 25=3 ∧ isAggB Try.prog 25=true:=⟨ty40,ty41,ty42,ty43,ty44,ty45,ty46,ty47,ty48,ty49,ty50,ty51,ty52,ty53,ty54,ty55,ty56,ty57,ty58,ty59,ty60,ty61,ty62,ty63,ty64,ty65,ty66,ty67,ty68,ty69,ty70,ty71,ty72,ty73,ty74,ty75,ty76,ty77,ty78,ty79⟩
theorem tyb2:isArrB Try.prog 25=false ∧ infoB Try.prog 25=true ∧ undB Try.prog 25=true ∧ Program.bytesOf Try.prog 25=40 ∧ elemB Try.prog 25=none ∧ zeroB Try.prog 25=some [Value.int .i64 0,Value.int .i64 0,Value.slice none 0 0] ∧ fieldB Try.prog 25 0=some (3,0) ∧ fieldB Try.prog 25 1=some (3,1) ∧ fieldB Try.prog 25 2=some (23,2) ∧ placesOf Try.prog 25=some (.st [(0,1),(1,1),(2,1)]) ∧ tkB Try.prog 27=some .other ∧ szOf Try.prog 27=1 ∧ isAggB Try.prog 27=false ∧ isArrB Try.prog 27=false ∧ infoB Try.prog 27=true ∧ undB Try.prog 27=true ∧ Program.bytesOf Try.prog 27=8 ∧ elemB Try.prog 27=none ∧ tkB Try.prog 30=some (.int .i64) ∧ szOf Try.prog 30=1 ∧ isAggB Try.prog 30=false ∧ isArrB Try.prog 30=false ∧ infoB Try.prog 30=true ∧ undB Try.prog 30=true ∧ Program.bytesOf Try.prog 30=8 ∧ elemB Try.prog 30=none ∧ zeroB Try.prog 30=some [Value.int .i64 0] ∧ tkB Try.prog 38=some .other ∧ szOf Try.prog 38=1 ∧ isAggB Try.prog 38=false ∧ isArrB Try.prog 38=false ∧ infoB Try.prog 38=true ∧ undB Try.prog 38=true ∧ Program.bytesOf Try.prog 38=8 ∧ elemB Try.prog 38=none ∧ tkB Try.prog 52=some (.sl 3) ∧ szOf Try.prog 52=1 ∧ isAggB Try.prog 52=false ∧ isArrB Try.prog 52=false ∧ infoB Try.prog 52=true:=⟨ty80,ty81,ty82,ty83,ty84,ty85,ty86,ty87,ty88,ty89,ty90,ty91,ty92,ty93,ty94,ty95,ty96,ty97,ty98,ty99,ty100,ty101,ty102,ty103,ty104,ty105,ty106,ty107,ty108,ty109,ty110,ty111,ty112,ty113,ty114,ty115,ty116,ty117,ty118,ty119⟩
theorem tyb3:undB Try.prog 52=true ∧ Program.bytesOf Try.prog 52=24 ∧ elemB Try.prog 52=some 3 ∧ zeroB Try.prog 52=some [Value.slice none 0 0] ∧ tkB Try.prog 53=some (.sl 23) ∧ szOf Try.prog 53=1 ∧ isAggB Try.prog 53=false ∧ isArrB Try.prog 53=false ∧ infoB Try.prog 53=true ∧ undB Try.prog 53=true ∧ Program.bytesOf Try.prog 53=24 ∧ elemB Try.prog 53=some 23 ∧ zeroB Try.prog 53=some [Value.slice none 0 0] ∧ tkB Try.prog 54=some .other ∧ szOf Try.prog 54=4 ∧ isAggB Try.prog 54=true ∧ isArrB Try.prog 54=false ∧ infoB Try.prog 54=true ∧ undB Try.prog 54=true ∧ Program.bytesOf Try.prog 54=96 ∧ elemB Try.prog 54=none ∧ zeroB Try.prog 54=some [Value.slice none 0 0,Value.slice none 0 0,Value.slice none 0 0,Value.slice none 0 0] ∧ fieldB Try.prog 54 0=some (52,0) ∧ fieldB Try.prog 54 1=some (52,1) ∧ fieldB Try.prog 54 2=some (53,2) ∧ fieldB Try.prog 54 3=some (53,3) ∧ placesOf Try.prog 54=some (.st [(0,1),(1,1),(2,1),(3,1)]) ∧ tkB Try.prog 55=some .other ∧ szOf Try.prog 55=4 ∧ isAggB Try.prog 55=true ∧ isArrB Try.prog 55=false ∧ infoB Try.prog 55=true ∧ undB Try.prog 55=true ∧ Program.bytesOf Try.prog 55=96 ∧ elemB Try.prog 55=none ∧ zeroB Try.prog 55=some [Value.slice none 0 0,Value.slice none 0 0,Value.slice none 0 0,Value.slice none 0 0] ∧ fieldB Try.prog 55 0=some (52,0) ∧ fieldB Try.prog 55 1=some (52,1) ∧ fieldB Try.prog 55 2=some (53,2) ∧ fieldB Try.prog 55 3=some (53,3):=⟨ty120,ty121,ty122,ty123,ty124,ty125,ty126,ty127,ty128,ty129,ty130,ty131,ty132,ty133,ty134,ty135,ty136,ty137,ty138,ty139,ty140,ty141,ty142,ty143,ty144,ty145,ty146,ty147,ty148,ty149,ty150,ty151,ty152,ty153,ty154,ty155,ty156,ty157,ty158,ty159⟩
theorem tyb4:placesOf Try.prog 55=some (.st [(0,1),(1,1),(2,1),(3,1)]) ∧ tkB Try.prog 83=some .other ∧ szOf Try.prog 83=1 ∧ isAggB Try.prog 83=false ∧ isArrB Try.prog 83=false ∧ infoB Try.prog 83=true ∧ undB Try.prog 83=true ∧ Program.bytesOf Try.prog 83=8 ∧ elemB Try.prog 83=none ∧ tkB Try.prog 86=some .other ∧ szOf Try.prog 86=9 ∧ isAggB Try.prog 86=true ∧ isArrB Try.prog 86=false ∧ infoB Try.prog 86=true ∧ undB Try.prog 86=true ∧ Program.bytesOf Try.prog 86=168 ∧ elemB Try.prog 86=none ∧ zeroB Try.prog 86=some [Value.slice none 0 0,Value.slice none 0 0,Value.slice none 0 0,Value.slice none 0 0,Value.int .u64 0,Value.int .i64 0,Value.int .i64 0,Value.slice none 0 0,Value.slice none 0 0] ∧ fieldB Try.prog 86 0=some (55,0) ∧ fieldB Try.prog 86 1=some (22,4) ∧ fieldB Try.prog 86 2=some (25,5) ∧ fieldB Try.prog 86 3=some (23,8) ∧ placesOf Try.prog 86=some (.st [(0,4),(4,1),(5,3),(8,1)]) ∧ tkB Try.prog 87=some .other ∧ szOf Try.prog 87=9 ∧ isAggB Try.prog 87=true ∧ isArrB Try.prog 87=false ∧ infoB Try.prog 87=true ∧ undB Try.prog 87=true ∧ Program.bytesOf Try.prog 87=168 ∧ elemB Try.prog 87=none ∧ zeroB Try.prog 87=some [Value.slice none 0 0,Value.slice none 0 0,Value.slice none 0 0,Value.slice none 0 0,Value.int .u64 0,Value.int .i64 0,Value.int .i64 0,Value.slice none 0 0,Value.slice none 0 0] ∧ fieldB Try.prog 87 0=some (55,0) ∧ fieldB Try.prog 87 1=some (22,4) ∧ fieldB Try.prog 87 2=some (25,5) ∧ fieldB Try.prog 87 3=some (23,8) ∧ placesOf Try.prog 87=some (.st [(0,4),(4,1),(5,3),(8,1)]) ∧ tkB Try.prog 104=some .other ∧ szOf Try.prog 104=1 ∧ isAggB Try.prog 104=false:=⟨ty160,ty161,ty162,ty163,ty164,ty165,ty166,ty167,ty168,ty169,ty170,ty171,ty172,ty173,ty174,ty175,ty176,ty177,ty178,ty179,ty180,ty181,ty182,ty183,ty184,ty185,ty186,ty187,ty188,ty189,ty190,ty191,ty192,ty193,ty194,ty195,ty196,ty197,ty198,ty199⟩
theorem tyb5:isArrB Try.prog 104=false ∧ infoB Try.prog 104=true ∧ undB Try.prog 104=true ∧ Program.bytesOf Try.prog 104=8 ∧ elemB Try.prog 104=none ∧ tkB Try.prog 107=some .other ∧ szOf Try.prog 107=1 ∧ isAggB Try.prog 107=false ∧ isArrB Try.prog 107=false ∧ infoB Try.prog 107=true ∧ undB Try.prog 107=true ∧ Program.bytesOf Try.prog 107=8 ∧ elemB Try.prog 107=none ∧ tkB Try.prog 108=some .other ∧ szOf Try.prog 108=1 ∧ isAggB Try.prog 108=true ∧ isArrB Try.prog 108=false ∧ infoB Try.prog 108=true ∧ undB Try.prog 108=true ∧ Program.bytesOf Try.prog 108=24 ∧ elemB Try.prog 108=none ∧ zeroB Try.prog 108=some [Value.slice none 0 0] ∧ fieldB Try.prog 108 0=some (23,0) ∧ placesOf Try.prog 108=some (.st [(0,1)]) ∧ tkB Try.prog 109=some .other ∧ szOf Try.prog 109=1 ∧ isAggB Try.prog 109=true ∧ isArrB Try.prog 109=false ∧ infoB Try.prog 109=true ∧ undB Try.prog 109=true ∧ Program.bytesOf Try.prog 109=24 ∧ elemB Try.prog 109=none ∧ zeroB Try.prog 109=some [Value.slice none 0 0] ∧ fieldB Try.prog 109 0=some (23,0) ∧ placesOf Try.prog 109=some (.st [(0,1)]) ∧ tkB Try.prog 113=some .other ∧ szOf Try.prog 113=1 ∧ isAggB Try.prog 113=false ∧ isArrB Try.prog 113=false ∧ infoB Try.prog 113=true:=⟨ty200,ty201,ty202,ty203,ty204,ty205,ty206,ty207,ty208,ty209,ty210,ty211,ty212,ty213,ty214,ty215,ty216,ty217,ty218,ty219,ty220,ty221,ty222,ty223,ty224,ty225,ty226,ty227,ty228,ty229,ty230,ty231,ty232,ty233,ty234,ty235,ty236,ty237,ty238,ty239⟩
theorem tyb6:undB Try.prog 113=true ∧ Program.bytesOf Try.prog 113=8 ∧ elemB Try.prog 113=none ∧ tkB Try.prog 114=some .other ∧ szOf Try.prog 114=6 ∧ isAggB Try.prog 114=true ∧ isArrB Try.prog 114=false ∧ infoB Try.prog 114=true ∧ undB Try.prog 114=true ∧ Program.bytesOf Try.prog 114=128 ∧ elemB Try.prog 114=none ∧ zeroB Try.prog 114=some [Value.slice none 0 0,Value.slice none 0 0,Value.slice none 0 0,Value.slice none 0 0,Value.int .u64 0,Value.slice none 0 0] ∧ fieldB Try.prog 114 0=some (55,0) ∧ fieldB Try.prog 114 1=some (22,4) ∧ fieldB Try.prog 114 2=some (23,5) ∧ placesOf Try.prog 114=some (.st [(0,4),(4,1),(5,1)]) ∧ tkB Try.prog 115=some .other ∧ szOf Try.prog 115=6 ∧ isAggB Try.prog 115=true ∧ isArrB Try.prog 115=false ∧ infoB Try.prog 115=true ∧ undB Try.prog 115=true ∧ Program.bytesOf Try.prog 115=128 ∧ elemB Try.prog 115=none ∧ zeroB Try.prog 115=some [Value.slice none 0 0,Value.slice none 0 0,Value.slice none 0 0,Value.slice none 0 0,Value.int .u64 0,Value.slice none 0 0] ∧ fieldB Try.prog 115 0=some (55,0) ∧ fieldB Try.prog 115 1=some (22,4) ∧ fieldB Try.prog 115 2=some (23,5) ∧ placesOf Try.prog 115=some (.st [(0,4),(4,1),(5,1)]) ∧ tkB Try.prog 119=some (.int .u64) ∧ szOf Try.prog 119=1 ∧ isAggB Try.prog 119=false ∧ isArrB Try.prog 119=false ∧ infoB Try.prog 119=true ∧ undB Try.prog 119=true ∧ Program.bytesOf Try.prog 119=8 ∧ elemB Try.prog 119=none ∧ zeroB Try.prog 119=some [Value.int .u64 0] ∧ tkB Try.prog 127=some (.sl 52) ∧ szOf Try.prog 127=1:=⟨ty240,ty241,ty242,ty243,ty244,ty245,ty246,ty247,ty248,ty249,ty250,ty251,ty252,ty253,ty254,ty255,ty256,ty257,ty258,ty259,ty260,ty261,ty262,ty263,ty264,ty265,ty266,ty267,ty268,ty269,ty270,ty271,ty272,ty273,ty274,ty275,ty276,ty277,ty278,ty279⟩
theorem tyb7:isAggB Try.prog 127=false ∧ isArrB Try.prog 127=false ∧ infoB Try.prog 127=true ∧ undB Try.prog 127=true ∧ Program.bytesOf Try.prog 127=24 ∧ elemB Try.prog 127=some 52 ∧ zeroB Try.prog 127=some [Value.slice none 0 0] ∧ tkB Try.prog 128=some (.sl 3) ∧ szOf Try.prog 128=1 ∧ isAggB Try.prog 128=false ∧ isArrB Try.prog 128=false ∧ infoB Try.prog 128=true ∧ undB Try.prog 128=true ∧ Program.bytesOf Try.prog 128=24 ∧ elemB Try.prog 128=some 3 ∧ zeroB Try.prog 128=some [Value.slice none 0 0] ∧ tkB Try.prog 130=some .other ∧ szOf Try.prog 130=1 ∧ isAggB Try.prog 130=false ∧ isArrB Try.prog 130=false ∧ infoB Try.prog 130=true ∧ undB Try.prog 130=true ∧ Program.bytesOf Try.prog 130=8 ∧ elemB Try.prog 130=none ∧ mapB Try.prog 130=some (.i64,4) ∧ tkB Try.prog 143=some (.arr 64 4) ∧ szOf Try.prog 143=64 ∧ isAggB Try.prog 143=true ∧ isArrB Try.prog 143=true ∧ infoB Try.prog 143=true ∧ undB Try.prog 143=true ∧ Program.bytesOf Try.prog 143=64 ∧ elemB Try.prog 143=none ∧ zeroB Try.prog 143=some [Value.bool false,Value.bool false,Value.bool false,Value.bool false,Value.bool false,Value.bool false,Value.bool false,Value.bool false,Value.bool false,Value.bool false,Value.bool false,Value.bool false,Value.bool false,Value.bool false,Value.bool false,Value.bool false,Value.bool false,Value.bool false,Value.bool false,Value.bool false,Value.bool false,Value.bool false,Value.bool false,Value.bool false,Value.bool false,Value.bool false,Value.bool false,Value.bool false,Value.bool false,Value.bool false,Value.bool false,Value.bool false,Value.bool false,Value.bool false,Value.bool false,Value.bool false,Value.bool false,Value.bool false,Value.bool false,Value.bool false,Value.bool false,Value.bool false,Value.bool false,Value.bool false,Value.bool false,Value.bool false,Value.bool false,Value.bool false,Value.bool false,Value.bool false,Value.bool false,Value.bool false,Value.bool false,Value.bool false,Value.bool false,Value.bool false,Value.bool false,Value.bool false,Value.bool false,Value.bool false,Value.bool false,Value.bool false,Value.bool false,Value.bool false] ∧ tkB Try.prog 144=some .other ∧ szOf Try.prog 144=1 ∧ isAggB Try.prog 144=false ∧ isArrB Try.prog 144=false ∧ infoB Try.prog 144=true ∧ undB Try.prog 144=true:=⟨ty280,ty281,ty282,ty283,ty284,ty285,ty286,ty287,ty288,ty289,ty290,ty291,ty292,ty293,ty294,ty295,ty296,ty297,ty298,ty299,ty300,ty301,ty302,ty303,ty304,ty305,ty306,ty307,ty308,ty309,ty310,ty311,ty312,ty313,ty314,ty315,ty316,ty317,ty318,ty319⟩
theorem tyb8:Program.bytesOf Try.prog 144=16 ∧ elemB Try.prog 144=none ∧ tkB Try.prog 145=some .other ∧ szOf Try.prog 145=1 ∧ isAggB Try.prog 145=false ∧ isArrB Try.prog 145=false ∧ infoB Try.prog 145=true ∧ undB Try.prog 145=true ∧ Program.bytesOf Try.prog 145=16 ∧ elemB Try.prog 145=none ∧ enterB Try.prog 2=true ∧ enterB Try.prog 3=true ∧ enterB Try.prog 4=true ∧ enterB Try.prog 5=true ∧ enterB Try.prog 6=true ∧ enterB Try.prog 7=true ∧ enterB Try.prog 8=true ∧ enterB Try.prog 9=true ∧ enterB Try.prog 10=true ∧ enterB Try.prog 11=true ∧ enterB Try.prog 12=true ∧ enterB Try.prog 13=true ∧ enterB Try.prog 14=true ∧ enterB Try.prog 15=true ∧ enterB Try.prog 16=true ∧ enterB Try.prog 17=true ∧ enterB Try.prog 18=true ∧ enterB Try.prog 19=true ∧ enterB Try.prog 20=true ∧ enterB Try.prog 21=true ∧ enterB Try.prog 22=true ∧ enterB Try.prog 23=true ∧ enterB Try.prog 24=true ∧ enterB Try.prog 25=true ∧ enterB Try.prog 26=true ∧ enterB Try.prog 27=true ∧ enterB Try.prog 28=true ∧ enterB Try.prog 29=true ∧ enterB Try.prog 30=true ∧ enterB Try.prog 31=true:=⟨ty320,ty321,ty322,ty323,ty324,ty325,ty326,ty327,ty328,ty329,ty330,ty331,ty332,ty333,ty334,ty335,ty336,ty337,ty338,ty339,ty340,ty341,ty342,ty343,ty344,ty345,ty346,ty347,ty348,ty349,ty350,ty351,ty352,ty353,ty354,ty355,ty356,ty357,ty358,ty359⟩
theorem tyb9:enterB Try.prog 32=true ∧ enterB Try.prog 33=true ∧ enterB Try.prog 34=true ∧ enterB Try.prog 35=true ∧ enterB Try.prog 36=true ∧ enterB Try.prog 37=true ∧ enterB Try.prog 38=true ∧ enterB Try.prog 39=true ∧ enterB Try.prog 40=true ∧ enterB Try.prog 41=true ∧ enterB Try.prog 42=true ∧ enterB Try.prog 43=true ∧ enterB Try.prog 44=true ∧ enterB Try.prog 45=true ∧ enterB Try.prog 46=true ∧ enterB Try.prog 47=true ∧ enterB Try.prog 48=true ∧ enterB Try.prog 49=true ∧ enterB Try.prog 50=true ∧ enterB Try.prog 51=true ∧ enterB Try.prog 52=true ∧ enterB Try.prog 53=true ∧ enterB Try.prog 54=true ∧ enterB Try.prog 55=true ∧ enterB Try.prog 56=true ∧ enterB Try.prog 57=true ∧ enterB Try.prog 58=true ∧ enterB Try.prog 59=true ∧ enterB Try.prog 60=true ∧ enterB Try.prog 61=true ∧ enterB Try.prog 62=true ∧ enterB Try.prog 63=true ∧ enterB Try.prog 64=true ∧ enterB Try.prog 65=true ∧ enterB Try.prog 66=true ∧ enterB Try.prog 67=true ∧ enterB Try.prog 68=true ∧ enterB Try.prog 69=true ∧ enterB Try.prog 70=true ∧ enterB Try.prog 71=true:=⟨ty360,ty361,ty362,ty363,ty364,ty365,ty366,ty367,ty368,ty369,ty370,ty371,ty372,ty373,ty374,ty375,ty376,ty377,ty378,ty379,ty380,ty381,ty382,ty383,ty384,ty385,ty386,ty387,ty388,ty389,ty390,ty391,ty392,ty393,ty394,ty395,ty396,ty397,ty398,ty399⟩
theorem tyb10:enterB Try.prog 72=true ∧ enterB Try.prog 73=true ∧ enterB Try.prog 74=true ∧ enterB Try.prog 75=true ∧ enterB Try.prog 76=true ∧ enterB Try.prog 77=true ∧ enterB Try.prog 78=true ∧ enterB Try.prog 79=true ∧ enterB Try.prog 80=true ∧ enterB Try.prog 81=true ∧ enterB Try.prog 82=true ∧ enterB Try.prog 83=true ∧ enterB Try.prog 84=true ∧ enterB Try.prog 85=true ∧ enterB Try.prog 86=true ∧ enterB Try.prog 87=true ∧ enterB Try.prog 88=true ∧ enterB Try.prog 89=true ∧ enterB Try.prog 90=true ∧ enterB Try.prog 91=true ∧ enterB Try.prog 92=true ∧ enterB Try.prog 93=true ∧ enterB Try.prog 94=true ∧ enterB Try.prog 95=true ∧ enterB Try.prog 96=true ∧ enterB Try.prog 97=true ∧ enterB Try.prog 98=true ∧ enterB Try.prog 99=true ∧ enterB Try.prog 100=true ∧ enterB Try.prog 101=true ∧ enterB Try.prog 102=true ∧ enterB Try.prog 103=true ∧ enterB Try.prog 104=true ∧ enterB Try.prog 105=true ∧ enterB Try.prog 106=true ∧ enterB Try.prog 107=true ∧ enterB Try.prog 108=true ∧ enterB Try.prog 109=true ∧ enterB Try.prog 110=true ∧ enterB Try.prog 111=true:=⟨ty400,ty401,ty402,ty403,ty404,ty405,ty406,ty407,ty408,ty409,ty410,ty411,ty412,ty413,ty414,ty415,ty416,ty417,ty418,ty419,ty420,ty421,ty422,ty423,ty424,ty425,ty426,ty427,ty428,ty429,ty430,ty431,ty432,ty433,ty434,ty435,ty436,ty437,ty438,ty439⟩
theorem tyb11:enterB Try.prog 112=true ∧ enterB Try.prog 113=true ∧ enterB Try.prog 114=true ∧ enterB Try.prog 115=true ∧ enterB Try.prog 116=true ∧ enterB Try.prog 117=true ∧ enterB Try.prog 118=true ∧ enterB Try.prog 119=true ∧ enterB Try.prog 120=true ∧ enterB Try.prog 121=true ∧ enterB Try.prog 122=true ∧ enterB Try.prog 123=true ∧ enterB Try.prog 124=true ∧ enterB Try.prog 125=true ∧ enterB Try.prog 126=true ∧ enterB Try.prog 127=true ∧ enterB Try.prog 128=true ∧ enterB Try.prog 129=true ∧ enterB Try.prog 130=true ∧ enterB Try.prog 131=true ∧ enterB Try.prog 132=true ∧ enterB Try.prog 133=true ∧ enterB Try.prog 134=true ∧ enterB Try.prog 135=true ∧ enterB Try.prog 136=true ∧ enterB Try.prog 137=true ∧ enterB Try.prog 138=true ∧ enterB Try.prog 139=true ∧ enterB Try.prog 140=true:=⟨ty440,ty441,ty442,ty443,ty444,ty445,ty446,ty447,ty448,ty449,ty450,ty451,ty452,ty453,ty454,ty455,ty456,ty457,ty458,ty459,ty460,ty461,ty462,ty463,ty464,ty465,ty466,ty467,ty468⟩
theorem tys:(tkB Try.prog 2=some (.int .i64) ∧ szOf Try.prog 2=1 ∧ isAggB Try.prog 2=false ∧ isArrB Try.prog 2=false ∧ infoB Try.prog 2=true ∧ undB Try.prog 2=true ∧ Program.bytesOf Try.prog 2=8 ∧ elemB Try.prog 2=none ∧ zeroB Try.prog 2=some [Value.int .i64 0] ∧ tkB Try.prog 3=some (.int .i64) ∧ szOf Try.prog 3=1 ∧ isAggB Try.prog 3=false ∧ isArrB Try.prog 3=false ∧ infoB Try.prog 3=true ∧ undB Try.prog 3=true ∧ Program.bytesOf Try.prog 3=8 ∧ elemB Try.prog 3=none ∧ zeroB Try.prog 3=some [Value.int .i64 0] ∧ tkB Try.prog 4=some .bool ∧ szOf Try.prog 4=1 ∧ isAggB Try.prog 4=false ∧ isArrB Try.prog 4=false ∧ infoB Try.prog 4=true ∧ undB Try.prog 4=true ∧ Program.bytesOf Try.prog 4=1 ∧ elemB Try.prog 4=none ∧ zeroB Try.prog 4=some [Value.bool false] ∧ zero1B Try.prog 4=some (Value.bool false) ∧ tkB Try.prog 5=some (.int .u8) ∧ szOf Try.prog 5=1 ∧ isAggB Try.prog 5=false ∧ isArrB Try.prog 5=false ∧ infoB Try.prog 5=true ∧ undB Try.prog 5=true ∧ Program.bytesOf Try.prog 5=1 ∧ elemB Try.prog 5=none ∧ zeroB Try.prog 5=some [Value.int .u8 0] ∧ tkB Try.prog 9=some .str ∧ szOf Try.prog 9=1 ∧ isAggB Try.prog 9=false) ∧ (isArrB Try.prog 9=false ∧ infoB Try.prog 9=true ∧ undB Try.prog 9=true ∧ Program.bytesOf Try.prog 9=16 ∧ elemB Try.prog 9=none ∧ zeroB Try.prog 9=some [Value.string ByteArray.empty] ∧ tkB Try.prog 22=some (.int .u64) ∧ szOf Try.prog 22=1 ∧ isAggB Try.prog 22=false ∧ isArrB Try.prog 22=false ∧ infoB Try.prog 22=true ∧ undB Try.prog 22=true ∧ Program.bytesOf Try.prog 22=8 ∧ elemB Try.prog 22=none ∧ zeroB Try.prog 22=some [Value.int .u64 0] ∧ tkB Try.prog 23=some (.sl 22) ∧ szOf Try.prog 23=1 ∧ isAggB Try.prog 23=false ∧ isArrB Try.prog 23=false ∧ infoB Try.prog 23=true ∧ undB Try.prog 23=true ∧ Program.bytesOf Try.prog 23=24 ∧ elemB Try.prog 23=some 22 ∧ zeroB Try.prog 23=some [Value.slice none 0 0] ∧ tkB Try.prog 24=some .other ∧ szOf Try.prog 24=3 ∧ isAggB Try.prog 24=true ∧ isArrB Try.prog 24=false ∧ infoB Try.prog 24=true ∧ undB Try.prog 24=true ∧ Program.bytesOf Try.prog 24=40 ∧ elemB Try.prog 24=none ∧ zeroB Try.prog 24=some [Value.int .i64 0,Value.int .i64 0,Value.slice none 0 0] ∧ fieldB Try.prog 24 0=some (3,0) ∧ fieldB Try.prog 24 1=some (3,1) ∧ fieldB Try.prog 24 2=some (23,2) ∧ placesOf Try.prog 24=some (.st [(0,1),(1,1),(2,1)]) ∧ tkB Try.prog 25=some .other ∧ szOf Try.prog 25=3 ∧ isAggB Try.prog 25=true) ∧ (isArrB Try.prog 25=false ∧ infoB Try.prog 25=true ∧ undB Try.prog 25=true ∧ Program.bytesOf Try.prog 25=40 ∧ elemB Try.prog 25=none ∧ zeroB Try.prog 25=some [Value.int .i64 0,Value.int .i64 0,Value.slice none 0 0] ∧ fieldB Try.prog 25 0=some (3,0) ∧ fieldB Try.prog 25 1=some (3,1) ∧ fieldB Try.prog 25 2=some (23,2) ∧ placesOf Try.prog 25=some (.st [(0,1),(1,1),(2,1)]) ∧ tkB Try.prog 27=some .other ∧ szOf Try.prog 27=1 ∧ isAggB Try.prog 27=false ∧ isArrB Try.prog 27=false ∧ infoB Try.prog 27=true ∧ undB Try.prog 27=true ∧ Program.bytesOf Try.prog 27=8 ∧ elemB Try.prog 27=none ∧ tkB Try.prog 30=some (.int .i64) ∧ szOf Try.prog 30=1 ∧ isAggB Try.prog 30=false ∧ isArrB Try.prog 30=false ∧ infoB Try.prog 30=true ∧ undB Try.prog 30=true ∧ Program.bytesOf Try.prog 30=8 ∧ elemB Try.prog 30=none ∧ zeroB Try.prog 30=some [Value.int .i64 0] ∧ tkB Try.prog 38=some .other ∧ szOf Try.prog 38=1 ∧ isAggB Try.prog 38=false ∧ isArrB Try.prog 38=false ∧ infoB Try.prog 38=true ∧ undB Try.prog 38=true ∧ Program.bytesOf Try.prog 38=8 ∧ elemB Try.prog 38=none ∧ tkB Try.prog 52=some (.sl 3) ∧ szOf Try.prog 52=1 ∧ isAggB Try.prog 52=false ∧ isArrB Try.prog 52=false ∧ infoB Try.prog 52=true) ∧ (undB Try.prog 52=true ∧ Program.bytesOf Try.prog 52=24 ∧ elemB Try.prog 52=some 3 ∧ zeroB Try.prog 52=some [Value.slice none 0 0] ∧ tkB Try.prog 53=some (.sl 23) ∧ szOf Try.prog 53=1 ∧ isAggB Try.prog 53=false ∧ isArrB Try.prog 53=false ∧ infoB Try.prog 53=true ∧ undB Try.prog 53=true ∧ Program.bytesOf Try.prog 53=24 ∧ elemB Try.prog 53=some 23 ∧ zeroB Try.prog 53=some [Value.slice none 0 0] ∧ tkB Try.prog 54=some .other ∧ szOf Try.prog 54=4 ∧ isAggB Try.prog 54=true ∧ isArrB Try.prog 54=false ∧ infoB Try.prog 54=true ∧ undB Try.prog 54=true ∧ Program.bytesOf Try.prog 54=96 ∧ elemB Try.prog 54=none ∧ zeroB Try.prog 54=some [Value.slice none 0 0,Value.slice none 0 0,Value.slice none 0 0,Value.slice none 0 0] ∧ fieldB Try.prog 54 0=some (52,0) ∧ fieldB Try.prog 54 1=some (52,1) ∧ fieldB Try.prog 54 2=some (53,2) ∧ fieldB Try.prog 54 3=some (53,3) ∧ placesOf Try.prog 54=some (.st [(0,1),(1,1),(2,1),(3,1)]) ∧ tkB Try.prog 55=some .other ∧ szOf Try.prog 55=4 ∧ isAggB Try.prog 55=true ∧ isArrB Try.prog 55=false ∧ infoB Try.prog 55=true ∧ undB Try.prog 55=true ∧ Program.bytesOf Try.prog 55=96 ∧ elemB Try.prog 55=none ∧ zeroB Try.prog 55=some [Value.slice none 0 0,Value.slice none 0 0,Value.slice none 0 0,Value.slice none 0 0] ∧ fieldB Try.prog 55 0=some (52,0) ∧ fieldB Try.prog 55 1=some (52,1) ∧ fieldB Try.prog 55 2=some (53,2) ∧ fieldB Try.prog 55 3=some (53,3)) ∧ (placesOf Try.prog 55=some (.st [(0,1),(1,1),(2,1),(3,1)]) ∧ tkB Try.prog 83=some .other ∧ szOf Try.prog 83=1 ∧ isAggB Try.prog 83=false ∧ isArrB Try.prog 83=false ∧ infoB Try.prog 83=true ∧ undB Try.prog 83=true ∧ Program.bytesOf Try.prog 83=8 ∧ elemB Try.prog 83=none ∧ tkB Try.prog 86=some .other ∧ szOf Try.prog 86=9 ∧ isAggB Try.prog 86=true ∧ isArrB Try.prog 86=false ∧ infoB Try.prog 86=true ∧ undB Try.prog 86=true ∧ Program.bytesOf Try.prog 86=168 ∧ elemB Try.prog 86=none ∧ zeroB Try.prog 86=some [Value.slice none 0 0,Value.slice none 0 0,Value.slice none 0 0,Value.slice none 0 0,Value.int .u64 0,Value.int .i64 0,Value.int .i64 0,Value.slice none 0 0,Value.slice none 0 0] ∧ fieldB Try.prog 86 0=some (55,0) ∧ fieldB Try.prog 86 1=some (22,4) ∧ fieldB Try.prog 86 2=some (25,5) ∧ fieldB Try.prog 86 3=some (23,8) ∧ placesOf Try.prog 86=some (.st [(0,4),(4,1),(5,3),(8,1)]) ∧ tkB Try.prog 87=some .other ∧ szOf Try.prog 87=9 ∧ isAggB Try.prog 87=true ∧ isArrB Try.prog 87=false ∧ infoB Try.prog 87=true ∧ undB Try.prog 87=true ∧ Program.bytesOf Try.prog 87=168 ∧ elemB Try.prog 87=none ∧ zeroB Try.prog 87=some [Value.slice none 0 0,Value.slice none 0 0,Value.slice none 0 0,Value.slice none 0 0,Value.int .u64 0,Value.int .i64 0,Value.int .i64 0,Value.slice none 0 0,Value.slice none 0 0] ∧ fieldB Try.prog 87 0=some (55,0) ∧ fieldB Try.prog 87 1=some (22,4) ∧ fieldB Try.prog 87 2=some (25,5) ∧ fieldB Try.prog 87 3=some (23,8) ∧ placesOf Try.prog 87=some (.st [(0,4),(4,1),(5,3),(8,1)]) ∧ tkB Try.prog 104=some .other ∧ szOf Try.prog 104=1 ∧ isAggB Try.prog 104=false) ∧ (isArrB Try.prog 104=false ∧ infoB Try.prog 104=true ∧ undB Try.prog 104=true ∧ Program.bytesOf Try.prog 104=8 ∧ elemB Try.prog 104=none ∧ tkB Try.prog 107=some .other ∧ szOf Try.prog 107=1 ∧ isAggB Try.prog 107=false ∧ isArrB Try.prog 107=false ∧ infoB Try.prog 107=true ∧ undB Try.prog 107=true ∧ Program.bytesOf Try.prog 107=8 ∧ elemB Try.prog 107=none ∧ tkB Try.prog 108=some .other ∧ szOf Try.prog 108=1 ∧ isAggB Try.prog 108=true ∧ isArrB Try.prog 108=false ∧ infoB Try.prog 108=true ∧ undB Try.prog 108=true ∧ Program.bytesOf Try.prog 108=24 ∧ elemB Try.prog 108=none ∧ zeroB Try.prog 108=some [Value.slice none 0 0] ∧ fieldB Try.prog 108 0=some (23,0) ∧ placesOf Try.prog 108=some (.st [(0,1)]) ∧ tkB Try.prog 109=some .other ∧ szOf Try.prog 109=1 ∧ isAggB Try.prog 109=true ∧ isArrB Try.prog 109=false ∧ infoB Try.prog 109=true ∧ undB Try.prog 109=true ∧ Program.bytesOf Try.prog 109=24 ∧ elemB Try.prog 109=none ∧ zeroB Try.prog 109=some [Value.slice none 0 0] ∧ fieldB Try.prog 109 0=some (23,0) ∧ placesOf Try.prog 109=some (.st [(0,1)]) ∧ tkB Try.prog 113=some .other ∧ szOf Try.prog 113=1 ∧ isAggB Try.prog 113=false ∧ isArrB Try.prog 113=false ∧ infoB Try.prog 113=true) ∧ (undB Try.prog 113=true ∧ Program.bytesOf Try.prog 113=8 ∧ elemB Try.prog 113=none ∧ tkB Try.prog 114=some .other ∧ szOf Try.prog 114=6 ∧ isAggB Try.prog 114=true ∧ isArrB Try.prog 114=false ∧ infoB Try.prog 114=true ∧ undB Try.prog 114=true ∧ Program.bytesOf Try.prog 114=128 ∧ elemB Try.prog 114=none ∧ zeroB Try.prog 114=some [Value.slice none 0 0,Value.slice none 0 0,Value.slice none 0 0,Value.slice none 0 0,Value.int .u64 0,Value.slice none 0 0] ∧ fieldB Try.prog 114 0=some (55,0) ∧ fieldB Try.prog 114 1=some (22,4) ∧ fieldB Try.prog 114 2=some (23,5) ∧ placesOf Try.prog 114=some (.st [(0,4),(4,1),(5,1)]) ∧ tkB Try.prog 115=some .other ∧ szOf Try.prog 115=6 ∧ isAggB Try.prog 115=true ∧ isArrB Try.prog 115=false ∧ infoB Try.prog 115=true ∧ undB Try.prog 115=true ∧ Program.bytesOf Try.prog 115=128 ∧ elemB Try.prog 115=none ∧ zeroB Try.prog 115=some [Value.slice none 0 0,Value.slice none 0 0,Value.slice none 0 0,Value.slice none 0 0,Value.int .u64 0,Value.slice none 0 0] ∧ fieldB Try.prog 115 0=some (55,0) ∧ fieldB Try.prog 115 1=some (22,4) ∧ fieldB Try.prog 115 2=some (23,5) ∧ placesOf Try.prog 115=some (.st [(0,4),(4,1),(5,1)]) ∧ tkB Try.prog 119=some (.int .u64) ∧ szOf Try.prog 119=1 ∧ isAggB Try.prog 119=false ∧ isArrB Try.prog 119=false ∧ infoB Try.prog 119=true ∧ undB Try.prog 119=true ∧ Program.bytesOf Try.prog 119=8 ∧ elemB Try.prog 119=none ∧ zeroB Try.prog 119=some [Value.int .u64 0] ∧ tkB Try.prog 127=some (.sl 52) ∧ szOf Try.prog 127=1) ∧ (isAggB Try.prog 127=false ∧ isArrB Try.prog 127=false ∧ infoB Try.prog 127=true ∧ undB Try.prog 127=true ∧ Program.bytesOf Try.prog 127=24 ∧ elemB Try.prog 127=some 52 ∧ zeroB Try.prog 127=some [Value.slice none 0 0] ∧ tkB Try.prog 128=some (.sl 3) ∧ szOf Try.prog 128=1 ∧ isAggB Try.prog 128=false ∧ isArrB Try.prog 128=false ∧ infoB Try.prog 128=true ∧ undB Try.prog 128=true ∧ Program.bytesOf Try.prog 128=24 ∧ elemB Try.prog 128=some 3 ∧ zeroB Try.prog 128=some [Value.slice none 0 0] ∧ tkB Try.prog 130=some .other ∧ szOf Try.prog 130=1 ∧ isAggB Try.prog 130=false ∧ isArrB Try.prog 130=false ∧ infoB Try.prog 130=true ∧ undB Try.prog 130=true ∧ Program.bytesOf Try.prog 130=8 ∧ elemB Try.prog 130=none ∧ mapB Try.prog 130=some (.i64,4) ∧ tkB Try.prog 143=some (.arr 64 4) ∧ szOf Try.prog 143=64 ∧ isAggB Try.prog 143=true ∧ isArrB Try.prog 143=true ∧ infoB Try.prog 143=true ∧ undB Try.prog 143=true ∧ Program.bytesOf Try.prog 143=64 ∧ elemB Try.prog 143=none ∧ zeroB Try.prog 143=some [Value.bool false,Value.bool false,Value.bool false,Value.bool false,Value.bool false,Value.bool false,Value.bool false,Value.bool false,Value.bool false,Value.bool false,Value.bool false,Value.bool false,Value.bool false,Value.bool false,Value.bool false,Value.bool false,Value.bool false,Value.bool false,Value.bool false,Value.bool false,Value.bool false,Value.bool false,Value.bool false,Value.bool false,Value.bool false,Value.bool false,Value.bool false,Value.bool false,Value.bool false,Value.bool false,Value.bool false,Value.bool false,Value.bool false,Value.bool false,Value.bool false,Value.bool false,Value.bool false,Value.bool false,Value.bool false,Value.bool false,Value.bool false,Value.bool false,Value.bool false,Value.bool false,Value.bool false,Value.bool false,Value.bool false,Value.bool false,Value.bool false,Value.bool false,Value.bool false,Value.bool false,Value.bool false,Value.bool false,Value.bool false,Value.bool false,Value.bool false,Value.bool false,Value.bool false,Value.bool false,Value.bool false,Value.bool false,Value.bool false,Value.bool false] ∧ tkB Try.prog 144=some .other ∧ szOf Try.prog 144=1 ∧ isAggB Try.prog 144=false ∧ isArrB Try.prog 144=false ∧ infoB Try.prog 144=true ∧ undB Try.prog 144=true) ∧ (Program.bytesOf Try.prog 144=16 ∧ elemB Try.prog 144=none ∧ tkB Try.prog 145=some .other ∧ szOf Try.prog 145=1 ∧ isAggB Try.prog 145=false ∧ isArrB Try.prog 145=false ∧ infoB Try.prog 145=true ∧ undB Try.prog 145=true ∧ Program.bytesOf Try.prog 145=16 ∧ elemB Try.prog 145=none ∧ enterB Try.prog 2=true ∧ enterB Try.prog 3=true ∧ enterB Try.prog 4=true ∧ enterB Try.prog 5=true ∧ enterB Try.prog 6=true ∧ enterB Try.prog 7=true ∧ enterB Try.prog 8=true ∧ enterB Try.prog 9=true ∧ enterB Try.prog 10=true ∧ enterB Try.prog 11=true ∧ enterB Try.prog 12=true ∧ enterB Try.prog 13=true ∧ enterB Try.prog 14=true ∧ enterB Try.prog 15=true ∧ enterB Try.prog 16=true ∧ enterB Try.prog 17=true ∧ enterB Try.prog 18=true ∧ enterB Try.prog 19=true ∧ enterB Try.prog 20=true ∧ enterB Try.prog 21=true ∧ enterB Try.prog 22=true ∧ enterB Try.prog 23=true ∧ enterB Try.prog 24=true ∧ enterB Try.prog 25=true ∧ enterB Try.prog 26=true ∧ enterB Try.prog 27=true ∧ enterB Try.prog 28=true ∧ enterB Try.prog 29=true ∧ enterB Try.prog 30=true ∧ enterB Try.prog 31=true) ∧ (enterB Try.prog 32=true ∧ enterB Try.prog 33=true ∧ enterB Try.prog 34=true ∧ enterB Try.prog 35=true ∧ enterB Try.prog 36=true ∧ enterB Try.prog 37=true ∧ enterB Try.prog 38=true ∧ enterB Try.prog 39=true ∧ enterB Try.prog 40=true ∧ enterB Try.prog 41=true ∧ enterB Try.prog 42=true ∧ enterB Try.prog 43=true ∧ enterB Try.prog 44=true ∧ enterB Try.prog 45=true ∧ enterB Try.prog 46=true ∧ enterB Try.prog 47=true ∧ enterB Try.prog 48=true ∧ enterB Try.prog 49=true ∧ enterB Try.prog 50=true ∧ enterB Try.prog 51=true ∧ enterB Try.prog 52=true ∧ enterB Try.prog 53=true ∧ enterB Try.prog 54=true ∧ enterB Try.prog 55=true ∧ enterB Try.prog 56=true ∧ enterB Try.prog 57=true ∧ enterB Try.prog 58=true ∧ enterB Try.prog 59=true ∧ enterB Try.prog 60=true ∧ enterB Try.prog 61=true ∧ enterB Try.prog 62=true ∧ enterB Try.prog 63=true ∧ enterB Try.prog 64=true ∧ enterB Try.prog 65=true ∧ enterB Try.prog 66=true ∧ enterB Try.prog 67=true ∧ enterB Try.prog 68=true ∧ enterB Try.prog 69=true ∧ enterB Try.prog 70=true ∧ enterB Try.prog 71=true) ∧ (enterB Try.prog 72=true ∧ enterB Try.prog 73=true ∧ enterB Try.prog 74=true ∧ enterB Try.prog 75=true ∧ enterB Try.prog 76=true ∧ enterB Try.prog 77=true ∧ enterB Try.prog 78=true ∧ enterB Try.prog 79=true ∧ enterB Try.prog 80=true ∧ enterB Try.prog 81=true ∧ enterB Try.prog 82=true ∧ enterB Try.prog 83=true ∧ enterB Try.prog 84=true ∧ enterB Try.prog 85=true ∧ enterB Try.prog 86=true ∧ enterB Try.prog 87=true ∧ enterB Try.prog 88=true ∧ enterB Try.prog 89=true ∧ enterB Try.prog 90=true ∧ enterB Try.prog 91=true ∧ enterB Try.prog 92=true ∧ enterB Try.prog 93=true ∧ enterB Try.prog 94=true ∧ enterB Try.prog 95=true ∧ enterB Try.prog 96=true ∧ enterB Try.prog 97=true ∧ enterB Try.prog 98=true ∧ enterB Try.prog 99=true ∧ enterB Try.prog 100=true ∧ enterB Try.prog 101=true ∧ enterB Try.prog 102=true ∧ enterB Try.prog 103=true ∧ enterB Try.prog 104=true ∧ enterB Try.prog 105=true ∧ enterB Try.prog 106=true ∧ enterB Try.prog 107=true ∧ enterB Try.prog 108=true ∧ enterB Try.prog 109=true ∧ enterB Try.prog 110=true ∧ enterB Try.prog 111=true) ∧ (enterB Try.prog 112=true ∧ enterB Try.prog 113=true ∧ enterB Try.prog 114=true ∧ enterB Try.prog 115=true ∧ enterB Try.prog 116=true ∧ enterB Try.prog 117=true ∧ enterB Try.prog 118=true ∧ enterB Try.prog 119=true ∧ enterB Try.prog 120=true ∧ enterB Try.prog 121=true ∧ enterB Try.prog 122=true ∧ enterB Try.prog 123=true ∧ enterB Try.prog 124=true ∧ enterB Try.prog 125=true ∧ enterB Try.prog 126=true ∧ enterB Try.prog 127=true ∧ enterB Try.prog 128=true ∧ enterB Try.prog 129=true ∧ enterB Try.prog 130=true ∧ enterB Try.prog 131=true ∧ enterB Try.prog 132=true ∧ enterB Try.prog 133=true ∧ enterB Try.prog 134=true ∧ enterB Try.prog 135=true ∧ enterB Try.prog 136=true ∧ enterB Try.prog 137=true ∧ enterB Try.prog 138=true ∧ enterB Try.prog 139=true ∧ enterB Try.prog 140=true):=⟨tyb0,tyb1,tyb2,tyb3,tyb4,tyb5,tyb6,tyb7,tyb8,tyb9,tyb10,tyb11⟩
theorem mixed:Try.prog.follows .mixedOrders=true:=by kernel_rfl
end Go.Proofs.Ytmalpmnmknpphaa.TM
namespace Go.Proofs.Ytmalpmnmknpphaa.TM
open Go Go.RowKit
abbrev u64 (n:Int):PV:=.i (.v (.int .u64 n))
abbrev i64 (n:Int):PV:=.i (.v (.int .i64 n))
abbrev bl (b:Bool):PV:=.i (.v (.bool b))
abbrev iu (x:Int):IV:=.v (.int .u64 x)
abbrev ii (x:Int):IV:=.v (.int .i64 x)
abbrev lu (l:List Int):PV:=.i (.l l.length (l.map iu))
abbrev li (l:List Int):PV:=.i (.l l.length (l.map ii))
abbrev fnc (f:Nat):PV:=.i (.v (.func (.func f) #[] #[]))
abbrev nilP:PV:=.i (.v (.slice none 0 0))
theorem uw (n:Int):IntKind.u64.wrap n=n % 18446744073709551616:=by simp [IntKind.wrap,IntKind.bits,IntKind.signed]
theorem uw_of {n:Int} (h0:0 ≤ n) (h1:n < 18446744073709551616):IntKind.u64.wrap n=n:=by rw [uw]; omega
theorem iw_of {n:Int} (h0:-9223372036854775808 ≤ n) (h1:n < 9223372036854775808):IntKind.i64.wrap n=n:=by rw [IntKind.wrap_i64]; omega
theorem and32 {x:Int} (h0:0 ≤ x) (h1:x < 18446744073709551616):Go.bits .and .u64 x 4294967295=x % 4294967296 :=
  bits_mask .u64 64 (by decide) (fun n a b => uw_of a b) 32 (by decide) x h0 h1
theorem tmod_nn {a b:Int} (h:0 ≤ a):Int.tmod a b=a % b:=Int.tmod_eq_emod_of_nonneg h
theorem tdiv_nn {a b:Int} (h:0 ≤ a):Int.tdiv a b=a / b:=Int.tdiv_eq_ediv_of_nonneg h
def W64 (a:Int):Prop:=0 ≤ a ∧ a < 18446744073709551616
def RightB (p:Int):Bool:=decide (2 ≤ p) && decide (p < 9223372036854775808)
def HasB (p:Int) (l:List Int):Bool:=l.all (fun a => decide (a < p)) && RightB p
theorem wf_iff {k:IntKind} {a:Int}:(Lit.int k a).wf=true ↔ k.min ≤ a ∧ a ≤ k.max:=by simp [Lit.wf]
theorem w64_of {a:Int} (h:(Lit.int .u64 a).wf=true):W64 a:=by
  have:=wf_iff.1 h
  have e1:IntKind.u64.min=0:=rfl
  have e2:IntKind.u64.max=18446744073709551615:=rfl
  exact ⟨by omega,by omega⟩
theorem w64_all {l:List Int} (h:∀ a ∈ l,(Lit.int .u64 a).wf=true):∀ a ∈ l,W64 a:=fun a ha => w64_of (h a ha)
theorem has_iff (p:Int) (l:List Int):HasB p l=true ↔ (∀ a ∈ l,a < p) ∧ 2 ≤ p ∧ p < 9223372036854775808:=by simp [HasB,RightB]
theorem mx_len:maxLen=9223372036854775807:=rfl
theorem mm_l (p a b:Int):a % p * b % p=a * b % p:=by rw [Int.mul_emod,Int.emod_emod_of_dvd _ (Int.dvd_refl p),← Int.mul_emod]
theorem mm_r (p a b:Int):a * (b % p) % p=a * b % p:=by rw [Int.mul_emod,Int.emod_emod_of_dvd _ (Int.dvd_refl p),← Int.mul_emod]
theorem am_l (p a b:Int):(a % p + b) % p=(a + b) % p:=by rw [Int.add_emod,Int.emod_emod_of_dvd _ (Int.dvd_refl p),← Int.add_emod]
theorem am_r (p a b:Int):(a + b % p) % p=(a + b) % p:=by rw [Int.add_emod,Int.emod_emod_of_dvd _ (Int.dvd_refl p),← Int.add_emod]
theorem sm_l (p a b:Int):(a % p - b) % p=(a - b) % p:=by rw [Int.sub_emod,Int.emod_emod_of_dvd _ (Int.dvd_refl p),← Int.sub_emod]
theorem sm_r (p a b:Int):(a - b % p) % p=(a - b) % p:=by rw [Int.sub_emod,Int.emod_emod_of_dvd _ (Int.dvd_refl p),← Int.sub_emod]
theorem pm (p a:Int) (n:Nat):(a % p) ^ n % p=a ^ n % p:=by
  induction n with
  | zero => simp
  | succ n ih => rw [Int.pow_succ,Int.pow_succ,Int.mul_emod,ih,Int.emod_emod_of_dvd _ (Int.dvd_refl p),← Int.mul_emod]
def In (p a:Int):Prop:=0 ≤ a ∧ a < p
theorem In.w64 {p a:Int} (hp:p ≤ 9223372036854775808) (h:In p a):W64 a:=by unfold In W64 at *; omega
theorem emod_in {p:Int} (a:Int) (h:0 < p):In p (a % p):=⟨Int.emod_nonneg _ (by omega),Int.emod_lt_of_pos _ h⟩
theorem In.emod {p a:Int} (h:In p a):a % p=a:=Int.emod_eq_of_lt h.1 h.2
theorem mul_bd {a b m n:Int} (ha:0 ≤ a) (hb:0 ≤ b) (hm:a ≤ m) (hn:b ≤ n):0 ≤ a * b ∧ a * b ≤ m * n :=
  ⟨Int.mul_nonneg ha hb,Int.mul_le_mul hm hn hb (by omega)⟩
theorem fdiv_pos (a:Int) {b:Int} (h:0 ≤ b):a.fdiv b=a / b:=Int.fdiv_eq_ediv_of_nonneg a h
theorem shr32 (a:Int):a.fdiv (2 ^ (min 32 IntKind.u64.bits))=a / 4294967296:=fdiv_pos a (by decide)
theorem shr16 (a:Int):a.fdiv (2 ^ (min 16 IntKind.u64.bits))=a / 65536:=fdiv_pos a (by decide)
theorem shr8 (a:Int):a.fdiv (2 ^ (min 8 IntKind.u64.bits))=a / 256:=fdiv_pos a (by decide)
theorem shr1 (a:Int):a.fdiv (2 ^ (min 1 IntKind.u64.bits))=a / 2:=fdiv_pos a (by decide)
theorem dec_true {p:Prop} [Decidable p] (h:p):decide p=true:=decide_eq_true h
theorem dec_false {p:Prop} [Decidable p] (h:¬ p):decide p=false:=decide_eq_false h
theorem beq_tt {a b:Int} (h:a=b):(a == b)=true:=by subst h; simp
theorem beq_ff {a b:Int} (h:a ≠ b):(a == b)=false:=by simp [h]
theorem bne_tt {a b:Int} (h:a ≠ b):(a != b)=true:=by simp [h]
theorem bne_ff {a b:Int} (h:a=b):(a != b)=false:=by subst h; simp
theorem ifneg0 {α:Type} {a:Int} {x y:α} (h:0 ≤ a):(if a < 0 then x else y)=y:=if_neg (by omega)
theorem ifz {α:Type} {a:Int} {x y:α} (h:a ≠ 0):(if a=0 then x else y)=y:=if_neg h
def gos :=
  And.intro @beq_tt<|And.intro @beq_ff<|And.intro @bne_tt<|And.intro @bne_ff<|And.intro @ifneg0<|And.intro @uw_of<|And.intro @iw_of<|And.intro @dec_true<|And.intro @dec_false<|And.intro @shr32<|And.intro @shr16<|And.intro @shr8<|And.intro @shr1<|And.intro @tdiv_nn<|And.intro @tmod_nn<|@ifz
end Go.Proofs.Ytmalpmnmknpphaa.TM
namespace Go.Proofs.Ytmalpmnmknpphaa.TM
open Go Go.RowKit
theorem mul64_eq (a b:Int) (ha:0 ≤ a) (ha':a < 18446744073709551616) (hb:0 ≤ b) (hb':b < 18446744073709551616) :
    IntKind.u64.wrap (IntKind.u64.wrap (IntKind.u64.wrap (a / 4294967296 * (b / 4294967296)) + IntKind.u64.wrap (IntKind.u64.wrap (a / 4294967296 * (b % 4294967296)) + IntKind.u64.wrap (a % 4294967296 * (b % 4294967296)) / 4294967296) / 4294967296) + IntKind.u64.wrap (Go.bits .and .u64 (IntKind.u64.wrap (IntKind.u64.wrap (a / 4294967296 * (b % 4294967296)) + IntKind.u64.wrap (a % 4294967296 * (b % 4294967296)) / 4294967296)) 4294967295 + IntKind.u64.wrap (a % 4294967296 * (b / 4294967296))) / 4294967296)=a * b / 18446744073709551616:=by
  obtain ⟨a1,ea1⟩:∃ z,z=a / 4294967296:=⟨_,rfl⟩
  obtain ⟨a0,ea0⟩:∃ z,z=a % 4294967296:=⟨_,rfl⟩
  obtain ⟨b1,eb1⟩:∃ z,z=b / 4294967296:=⟨_,rfl⟩
  obtain ⟨b0,eb0⟩:∃ z,z=b % 4294967296:=⟨_,rfl⟩
  rw [← ea1,← ea0,← eb1,← eb0]
  have hab:a * b=a1 * b1 * 18446744073709551616 + (a1 * b0 + a0 * b1) * 4294967296 + a0 * b0:=by
    have h1:a=a1 * 4294967296 + a0:=by omega
    have h2:b=b1 * 4294967296 + b0:=by omega
    rw [h1,h2]; grind
  have c11:=mul_bd (a:=a1) (b:=b1) (m:=4294967295) (n:=4294967295) (by omega) (by omega) (by omega) (by omega)
  have c10:=mul_bd (a:=a1) (b:=b0) (m:=4294967295) (n:=4294967295) (by omega) (by omega) (by omega) (by omega)
  have c01:=mul_bd (a:=a0) (b:=b1) (m:=4294967295) (n:=4294967295) (by omega) (by omega) (by omega) (by omega)
  have c00:=mul_bd (a:=a0) (b:=b0) (m:=4294967295) (n:=4294967295) (by omega) (by omega) (by omega) (by omega)
  rw [hab]
  generalize a1 * b1=p11 at *
  generalize a1 * b0=p10 at *
  generalize a0 * b1=p01 at *
  generalize a0 * b0=p00 at *
  clear hab ea1 ea0 eb1 eb0
  rw [uw_of (n:=p11) (by omega) (by omega),uw_of (n:=p10) (by omega) (by omega),uw_of (n:=p00) (by omega) (by omega),uw_of (n:=p01) (by omega) (by omega)]
  rw [uw_of (n:=p10 + p00 / 4294967296) (by omega) (by omega),and32 (by omega) (by omega)]
  rw [uw_of (n:=p11 + (p10 + p00 / 4294967296) / 4294967296) (by omega) (by omega),uw_of (n:=(p10 + p00 / 4294967296) % 4294967296 + p01) (by omega) (by omega)]
  rw [uw_of (by omega) (by omega)]
  omega
theorem mul64_walk (a b:Int) (ha:W64 a) (hb:W64 b):CallsP Try.prog 59 [u64 a,u64 b] (.tup [u64 (a * b / 18446744073709551616),u64 (a * b % 18446744073709551616)]):=by
  have e:=mul64_eq a b ha.1 ha.2 hb.1 hb.2
  have e1:=and32 ha.1 ha.2
  have e2:=and32 hb.1 hb.2
  refine CallsP.start (n:=51) (rs:=[.tmp 4,.tmp 5]) Try.func59 rfl rfl rfl fun base => ?_
  simp (maxSteps:=20000000) only [List.length_cons,List.length_nil,Nat.reduceAdd,Nat.reduceSub,List.replicate,List.cons_append,List.nil_append]
  simp (maxSteps:=20000000) (disch:=omega) only [zzB,tys,ite_self,opnL,callB,callX,readsB,stepOp,nilCmp,ofVal,opBuiltin,opLen,PV.sk,scalBin,scalUn,intBin,opLoad,natOf,opConvert,opField,cellsP,oneP,Value.oneCell',opStore,toIV,scalT,scalA,scalC,boxesA,boxesC,zipB_none,zipB_mx,isZ,opZip,zeroP,opAppendZ,opMakeMap,opLookup,mboxB,opUpdate,↓reduceIte,Nat.reduceSub,Nat.reduceEqDiff,Nat.reduceAdd,Nat.reduceMul,Nat.reduceLT,Nat.reduceLeDiff,Int.reduceToNat,Int.reduceLE,Int.reduceLT,Int.reduceNeg,reduceCtorEq,zzR,gos,Int.reduceAdd,Int.reduceSub,Int.reduceMul,Int.reduceEq,shr32,e1,e2,e,uw (a * b)]
def tab:ByteArray:=⟨#[0,1,2,2,3,3,3,3,4,4,4,4,4,4,4,4,5,5,5,5,5,5,5,5,5,5,5,5,5,5,5,5,6,6,6,6,6,6,6,6,6,6,6,6,6,6,6,6,6,6,6,6,6,6,6,6,6,6,6,6,6,6,6,6,7,7,7,7,7,7,7,7,7,7,7,7,7,7,7,7,7,7,7,7,7,7,7,7,7,7,7,7,7,7,7,7,7,7,7,7,7,7,7,7,7,7,7,7,7,7,7,7,7,7,7,7,7,7,7,7,7,7,7,7,7,7,7,7,8,8,8,8,8,8,8,8,8,8,8,8,8,8,8,8,8,8,8,8,8,8,8,8,8,8,8,8,8,8,8,8,8,8,8,8,8,8,8,8,8,8,8,8,8,8,8,8,8,8,8,8,8,8,8,8,8,8,8,8,8,8,8,8,8,8,8,8,8,8,8,8,8,8,8,8,8,8,8,8,8,8,8,8,8,8,8,8,8,8,8,8,8,8,8,8,8,8,8,8,8,8,8,8,8,8,8,8,8,8,8,8,8,8,8,8,8,8,8,8,8,8,8,8,8,8,8,8]⟩
theorem tab_all:∀ i:Fin 256,1 ≤ i.val → 1 ≤ tab.data.toList.getD i.val 0 ∧ (tab.data.toList.getD i.val 0).toNat ≤ 8 ∧ 2 ^ ((tab.data.toList.getD i.val 0).toNat - 1) ≤ i.val ∧ i.val < 2 ^ (tab.data.toList.getD i.val 0).toNat:=by decide +kernel
theorem tab_size:tab.size=256:=by decide +kernel
theorem tab_bt (i:Nat) (h1:1 ≤ i) (h:i < 256):∃ n:Nat,(tab.data.toList.getD i 0).toNat=n ∧ 1 ≤ n ∧ n ≤ 8 ∧ 2 ^ (n - 1) ≤ i ∧ i < 2 ^ n:=by
  obtain ⟨h2,h3,h4,h5⟩:=tab_all ⟨i,h⟩ h1
  refine ⟨(tab.data.toList.getD i 0).toNat,rfl,?_,h3,h4,h5⟩
  · have:=UInt8.le_iff_toNat_le.1 h2
    simpa using this
theorem idx_tab {P:Program} {t:TypeId} {s:ByteArray} {i:Int} (ht:tkB P t=some .str) (hs:s=tab) (h0:0 ≤ i) (h1:i < 256):Option.map (fun v => (⟨v,[]⟩:Out)) (opIndex P t (.i (.v (.string s))) (.i (.v (.int .u8 i))))=some ⟨.i (.v (.int .u8 (tab.data.toList.getD i.toNat 0).toNat)),[]⟩:=by
  subst hs
  unfold opIndex
  rw [ht]
  have h2:i.toNat < tab.size:=by rw [tab_size]; omega
  simp only [natOf,h0,if_true,h2,dif_pos,Option.map_some]
  congr 6
  rw [List.getD_eq_getElem?_getD,List.getElem?_eq_getElem (show i.toNat < tab.data.toList.length from h2)]
  rfl
theorem u8_mod (x:Int):IntKind.u8.wrap x=x % 256:=by simp [IntKind.wrap,IntKind.bits,IntKind.signed]
theorem len_end (x:Nat) (m:Nat) (h0:1 ≤ x / 2 ^ m) (h1:x / 2 ^ m < 256):∃ n:Nat,(tab.data.toList.getD (x / 2 ^ m) 0).toNat=n ∧ 1 ≤ n ∧ n ≤ 8 ∧ 2 ^ (m + n - 1) ≤ x ∧ x < 2 ^ (m + n):=by
  obtain ⟨n,hb,g1,g2,g3,g4⟩:=tab_bt (x / 2 ^ m) h0 h1
  refine ⟨n,hb,g1,g2,?_,?_⟩
  · have:m + n - 1=(n - 1) + m:=by omega
    rw [this,Nat.pow_add]
    exact (Nat.le_div_iff_mul_le (Nat.two_pow_pos m)).1 g3
  · have:m + n=n + m:=by omega
    rw [this,Nat.pow_add]
    exact (Nat.div_lt_iff_lt_mul (Nat.two_pow_pos m)).1 g4
set_option maxRecDepth 10000 in
theorem len64_000 (x:Nat) (hx:x < 18446744073709551616) (h0:1 ≤ x) (c0:¬ 4294967296 ≤ (x:Int)) (c1:¬ 65536 ≤ (x:Int)) (c2:¬ 256 ≤ (x:Int)):∃ n:Nat,CallsP Try.prog 140 [u64 x] (i64 n) ∧ 1 ≤ n ∧ n ≤ 64 ∧ 2 ^ (n - 1) ≤ x ∧ x < 2 ^ n:=by
  obtain ⟨n,hb,g1,g2,g3,g4⟩:=len_end x 0 (by omega) (by omega)
  refine ⟨0 + n,?_,by omega,by omega,g3,g4⟩
  have e:((x:Int)).toNat=x / 2 ^ 0:=by omega
  refine CallsP.start (n:=25) (rs:=[.tmp 2]) Try.func140 rfl rfl rfl fun base => ?_
  simp (maxSteps:=20000000) only [List.length_cons,List.length_nil,Nat.reduceAdd,Nat.reduceSub,List.replicate,List.cons_append,List.nil_append]
  simp (maxSteps:=20000000) (disch:=omega) only [zzB,tys,ite_self,opnL,callB,callX,readsB,stepOp,nilCmp,ofVal,opBuiltin,opLen,PV.sk,scalBin,scalUn,intBin,opLoad,natOf,opConvert,opField,cellsP,oneP,Value.oneCell',opStore,toIV,scalT,scalA,scalC,boxesA,boxesC,zipB_none,zipB_mx,isZ,opZip,zeroP,opAppendZ,opMakeMap,opLookup,mboxB,opUpdate,↓reduceIte,Nat.reduceSub,Nat.reduceEqDiff,Nat.reduceAdd,Nat.reduceMul,Nat.reduceLT,Nat.reduceLeDiff,Int.reduceToNat,Int.reduceLE,Int.reduceLT,Int.reduceNeg,reduceCtorEq,gos,Int.reduceAdd,Int.reduceSub,Int.reduceMul,Int.reduceEq,c0,c1,c2,u8_mod]
  rw [show ((x:Int)) % 256=(x:Int) by omega]
  refine Kres_eq (idx_tab (by simp only [tys]) (by kernel_rfl) (by omega) (by omega)) ?_
  rw [e,hb]
  simp (maxSteps:=20000000) (disch:=omega) only [zzB,tys,ite_self,opnL,callB,callX,readsB,stepOp,nilCmp,ofVal,opBuiltin,opLen,PV.sk,scalBin,scalUn,intBin,opLoad,natOf,opConvert,opField,cellsP,oneP,Value.oneCell',opStore,toIV,scalT,scalA,scalC,boxesA,boxesC,zipB_none,zipB_mx,isZ,opZip,zeroP,opAppendZ,opMakeMap,opLookup,mboxB,opUpdate,↓reduceIte,Nat.reduceSub,Nat.reduceEqDiff,Nat.reduceAdd,Nat.reduceMul,Nat.reduceLT,Nat.reduceLeDiff,Int.reduceToNat,Int.reduceLE,Int.reduceLT,Int.reduceNeg,reduceCtorEq,gos,Int.reduceAdd,Int.reduceSub,Int.reduceMul,Int.reduceEq]
  rw [show ((0:Int) + (n:Int))=((0 + n:Nat):Int) by omega]
  all_goals simp (maxSteps:=20000000) (disch:=omega) only [zzB,tys,ite_self,opnL,callB,callX,readsB,stepOp,nilCmp,ofVal,opBuiltin,opLen,PV.sk,scalBin,scalUn,intBin,opLoad,natOf,opConvert,opField,cellsP,oneP,Value.oneCell',opStore,toIV,scalT,scalA,scalC,boxesA,boxesC,zipB_none,zipB_mx,isZ,opZip,zeroP,opAppendZ,opMakeMap,opLookup,mboxB,opUpdate,↓reduceIte,Nat.reduceSub,Nat.reduceEqDiff,Nat.reduceAdd,Nat.reduceMul,Nat.reduceLT,Nat.reduceLeDiff,Int.reduceToNat,Int.reduceLE,Int.reduceLT,Int.reduceNeg,reduceCtorEq,zzR,gos,Int.reduceAdd,Int.reduceSub,Int.reduceMul,Int.reduceEq]
set_option maxRecDepth 10000 in
theorem len64_001 (x:Nat) (hx:x < 18446744073709551616) (h0:1 ≤ x) (c0:¬ 4294967296 ≤ (x:Int)) (c1:¬ 65536 ≤ (x:Int)) (c2:256 ≤ (x:Int)):∃ n:Nat,CallsP Try.prog 140 [u64 x] (i64 n) ∧ 1 ≤ n ∧ n ≤ 64 ∧ 2 ^ (n - 1) ≤ x ∧ x < 2 ^ n:=by
  obtain ⟨n,hb,g1,g2,g3,g4⟩:=len_end x 8 (by omega) (by omega)
  refine ⟨8 + n,?_,by omega,by omega,g3,g4⟩
  have e:((x:Int) / 256).toNat=x / 2 ^ 8:=by omega
  refine CallsP.start (n:=25) (rs:=[.tmp 2]) Try.func140 rfl rfl rfl fun base => ?_
  simp (maxSteps:=20000000) only [List.length_cons,List.length_nil,Nat.reduceAdd,Nat.reduceSub,List.replicate,List.cons_append,List.nil_append]
  simp (maxSteps:=20000000) (disch:=omega) only [zzB,tys,ite_self,opnL,callB,callX,readsB,stepOp,nilCmp,ofVal,opBuiltin,opLen,PV.sk,scalBin,scalUn,intBin,opLoad,natOf,opConvert,opField,cellsP,oneP,Value.oneCell',opStore,toIV,scalT,scalA,scalC,boxesA,boxesC,zipB_none,zipB_mx,isZ,opZip,zeroP,opAppendZ,opMakeMap,opLookup,mboxB,opUpdate,↓reduceIte,Nat.reduceSub,Nat.reduceEqDiff,Nat.reduceAdd,Nat.reduceMul,Nat.reduceLT,Nat.reduceLeDiff,Int.reduceToNat,Int.reduceLE,Int.reduceLT,Int.reduceNeg,reduceCtorEq,gos,Int.reduceAdd,Int.reduceSub,Int.reduceMul,Int.reduceEq,c0,c1,c2,u8_mod]
  rw [show ((x:Int) / 256) % 256=(x:Int) / 256 by omega]
  refine Kres_eq (idx_tab (by simp only [tys]) (by kernel_rfl) (by omega) (by omega)) ?_
  rw [e,hb]
  simp (maxSteps:=20000000) (disch:=omega) only [zzB,tys,ite_self,opnL,callB,callX,readsB,stepOp,nilCmp,ofVal,opBuiltin,opLen,PV.sk,scalBin,scalUn,intBin,opLoad,natOf,opConvert,opField,cellsP,oneP,Value.oneCell',opStore,toIV,scalT,scalA,scalC,boxesA,boxesC,zipB_none,zipB_mx,isZ,opZip,zeroP,opAppendZ,opMakeMap,opLookup,mboxB,opUpdate,↓reduceIte,Nat.reduceSub,Nat.reduceEqDiff,Nat.reduceAdd,Nat.reduceMul,Nat.reduceLT,Nat.reduceLeDiff,Int.reduceToNat,Int.reduceLE,Int.reduceLT,Int.reduceNeg,reduceCtorEq,gos,Int.reduceAdd,Int.reduceSub,Int.reduceMul,Int.reduceEq]
  rw [show ((8:Int) + (n:Int))=((8 + n:Nat):Int) by omega]
  all_goals simp (maxSteps:=20000000) (disch:=omega) only [zzB,tys,ite_self,opnL,callB,callX,readsB,stepOp,nilCmp,ofVal,opBuiltin,opLen,PV.sk,scalBin,scalUn,intBin,opLoad,natOf,opConvert,opField,cellsP,oneP,Value.oneCell',opStore,toIV,scalT,scalA,scalC,boxesA,boxesC,zipB_none,zipB_mx,isZ,opZip,zeroP,opAppendZ,opMakeMap,opLookup,mboxB,opUpdate,↓reduceIte,Nat.reduceSub,Nat.reduceEqDiff,Nat.reduceAdd,Nat.reduceMul,Nat.reduceLT,Nat.reduceLeDiff,Int.reduceToNat,Int.reduceLE,Int.reduceLT,Int.reduceNeg,reduceCtorEq,zzR,gos,Int.reduceAdd,Int.reduceSub,Int.reduceMul,Int.reduceEq]
set_option maxRecDepth 10000 in
theorem len64_010 (x:Nat) (hx:x < 18446744073709551616) (h0:1 ≤ x) (c0:¬ 4294967296 ≤ (x:Int)) (c1:65536 ≤ (x:Int)) (c2:¬ 256 ≤ (x:Int) / 65536):∃ n:Nat,CallsP Try.prog 140 [u64 x] (i64 n) ∧ 1 ≤ n ∧ n ≤ 64 ∧ 2 ^ (n - 1) ≤ x ∧ x < 2 ^ n:=by
  obtain ⟨n,hb,g1,g2,g3,g4⟩:=len_end x 16 (by omega) (by omega)
  refine ⟨16 + n,?_,by omega,by omega,g3,g4⟩
  have e:((x:Int) / 65536).toNat=x / 2 ^ 16:=by omega
  refine CallsP.start (n:=25) (rs:=[.tmp 2]) Try.func140 rfl rfl rfl fun base => ?_
  simp (maxSteps:=20000000) only [List.length_cons,List.length_nil,Nat.reduceAdd,Nat.reduceSub,List.replicate,List.cons_append,List.nil_append]
  simp (maxSteps:=20000000) (disch:=omega) only [zzB,tys,ite_self,opnL,callB,callX,readsB,stepOp,nilCmp,ofVal,opBuiltin,opLen,PV.sk,scalBin,scalUn,intBin,opLoad,natOf,opConvert,opField,cellsP,oneP,Value.oneCell',opStore,toIV,scalT,scalA,scalC,boxesA,boxesC,zipB_none,zipB_mx,isZ,opZip,zeroP,opAppendZ,opMakeMap,opLookup,mboxB,opUpdate,↓reduceIte,Nat.reduceSub,Nat.reduceEqDiff,Nat.reduceAdd,Nat.reduceMul,Nat.reduceLT,Nat.reduceLeDiff,Int.reduceToNat,Int.reduceLE,Int.reduceLT,Int.reduceNeg,reduceCtorEq,gos,Int.reduceAdd,Int.reduceSub,Int.reduceMul,Int.reduceEq,c0,c1,c2,u8_mod]
  rw [show ((x:Int) / 65536) % 256=(x:Int) / 65536 by omega]
  refine Kres_eq (idx_tab (by simp only [tys]) (by kernel_rfl) (by omega) (by omega)) ?_
  rw [e,hb]
  simp (maxSteps:=20000000) (disch:=omega) only [zzB,tys,ite_self,opnL,callB,callX,readsB,stepOp,nilCmp,ofVal,opBuiltin,opLen,PV.sk,scalBin,scalUn,intBin,opLoad,natOf,opConvert,opField,cellsP,oneP,Value.oneCell',opStore,toIV,scalT,scalA,scalC,boxesA,boxesC,zipB_none,zipB_mx,isZ,opZip,zeroP,opAppendZ,opMakeMap,opLookup,mboxB,opUpdate,↓reduceIte,Nat.reduceSub,Nat.reduceEqDiff,Nat.reduceAdd,Nat.reduceMul,Nat.reduceLT,Nat.reduceLeDiff,Int.reduceToNat,Int.reduceLE,Int.reduceLT,Int.reduceNeg,reduceCtorEq,gos,Int.reduceAdd,Int.reduceSub,Int.reduceMul,Int.reduceEq]
  rw [show ((16:Int) + (n:Int))=((16 + n:Nat):Int) by omega]
  all_goals simp (maxSteps:=20000000) (disch:=omega) only [zzB,tys,ite_self,opnL,callB,callX,readsB,stepOp,nilCmp,ofVal,opBuiltin,opLen,PV.sk,scalBin,scalUn,intBin,opLoad,natOf,opConvert,opField,cellsP,oneP,Value.oneCell',opStore,toIV,scalT,scalA,scalC,boxesA,boxesC,zipB_none,zipB_mx,isZ,opZip,zeroP,opAppendZ,opMakeMap,opLookup,mboxB,opUpdate,↓reduceIte,Nat.reduceSub,Nat.reduceEqDiff,Nat.reduceAdd,Nat.reduceMul,Nat.reduceLT,Nat.reduceLeDiff,Int.reduceToNat,Int.reduceLE,Int.reduceLT,Int.reduceNeg,reduceCtorEq,zzR,gos,Int.reduceAdd,Int.reduceSub,Int.reduceMul,Int.reduceEq]
set_option maxRecDepth 10000 in
theorem len64_011 (x:Nat) (hx:x < 18446744073709551616) (h0:1 ≤ x) (c0:¬ 4294967296 ≤ (x:Int)) (c1:65536 ≤ (x:Int)) (c2:256 ≤ (x:Int) / 65536):∃ n:Nat,CallsP Try.prog 140 [u64 x] (i64 n) ∧ 1 ≤ n ∧ n ≤ 64 ∧ 2 ^ (n - 1) ≤ x ∧ x < 2 ^ n:=by
  obtain ⟨n,hb,g1,g2,g3,g4⟩:=len_end x 24 (by omega) (by omega)
  refine ⟨24 + n,?_,by omega,by omega,g3,g4⟩
  have e:((x:Int) / 65536 / 256).toNat=x / 2 ^ 24:=by omega
  refine CallsP.start (n:=25) (rs:=[.tmp 2]) Try.func140 rfl rfl rfl fun base => ?_
  simp (maxSteps:=20000000) only [List.length_cons,List.length_nil,Nat.reduceAdd,Nat.reduceSub,List.replicate,List.cons_append,List.nil_append]
  simp (maxSteps:=20000000) (disch:=omega) only [zzB,tys,ite_self,opnL,callB,callX,readsB,stepOp,nilCmp,ofVal,opBuiltin,opLen,PV.sk,scalBin,scalUn,intBin,opLoad,natOf,opConvert,opField,cellsP,oneP,Value.oneCell',opStore,toIV,scalT,scalA,scalC,boxesA,boxesC,zipB_none,zipB_mx,isZ,opZip,zeroP,opAppendZ,opMakeMap,opLookup,mboxB,opUpdate,↓reduceIte,Nat.reduceSub,Nat.reduceEqDiff,Nat.reduceAdd,Nat.reduceMul,Nat.reduceLT,Nat.reduceLeDiff,Int.reduceToNat,Int.reduceLE,Int.reduceLT,Int.reduceNeg,reduceCtorEq,gos,Int.reduceAdd,Int.reduceSub,Int.reduceMul,Int.reduceEq,c0,c1,c2,u8_mod]
  rw [show ((x:Int) / 65536 / 256) % 256=(x:Int) / 65536 / 256 by omega]
  refine Kres_eq (idx_tab (by simp only [tys]) (by kernel_rfl) (by omega) (by omega)) ?_
  rw [e,hb]
  simp (maxSteps:=20000000) (disch:=omega) only [zzB,tys,ite_self,opnL,callB,callX,readsB,stepOp,nilCmp,ofVal,opBuiltin,opLen,PV.sk,scalBin,scalUn,intBin,opLoad,natOf,opConvert,opField,cellsP,oneP,Value.oneCell',opStore,toIV,scalT,scalA,scalC,boxesA,boxesC,zipB_none,zipB_mx,isZ,opZip,zeroP,opAppendZ,opMakeMap,opLookup,mboxB,opUpdate,↓reduceIte,Nat.reduceSub,Nat.reduceEqDiff,Nat.reduceAdd,Nat.reduceMul,Nat.reduceLT,Nat.reduceLeDiff,Int.reduceToNat,Int.reduceLE,Int.reduceLT,Int.reduceNeg,reduceCtorEq,gos,Int.reduceAdd,Int.reduceSub,Int.reduceMul,Int.reduceEq]
  rw [show ((24:Int) + (n:Int))=((24 + n:Nat):Int) by omega]
  all_goals simp (maxSteps:=20000000) (disch:=omega) only [zzB,tys,ite_self,opnL,callB,callX,readsB,stepOp,nilCmp,ofVal,opBuiltin,opLen,PV.sk,scalBin,scalUn,intBin,opLoad,natOf,opConvert,opField,cellsP,oneP,Value.oneCell',opStore,toIV,scalT,scalA,scalC,boxesA,boxesC,zipB_none,zipB_mx,isZ,opZip,zeroP,opAppendZ,opMakeMap,opLookup,mboxB,opUpdate,↓reduceIte,Nat.reduceSub,Nat.reduceEqDiff,Nat.reduceAdd,Nat.reduceMul,Nat.reduceLT,Nat.reduceLeDiff,Int.reduceToNat,Int.reduceLE,Int.reduceLT,Int.reduceNeg,reduceCtorEq,zzR,gos,Int.reduceAdd,Int.reduceSub,Int.reduceMul,Int.reduceEq]
set_option maxRecDepth 10000 in
theorem len64_100 (x:Nat) (hx:x < 18446744073709551616) (h0:1 ≤ x) (c0:4294967296 ≤ (x:Int)) (c1:¬ 65536 ≤ (x:Int) / 4294967296) (c2:¬ 256 ≤ (x:Int) / 4294967296):∃ n:Nat,CallsP Try.prog 140 [u64 x] (i64 n) ∧ 1 ≤ n ∧ n ≤ 64 ∧ 2 ^ (n - 1) ≤ x ∧ x < 2 ^ n:=by
  obtain ⟨n,hb,g1,g2,g3,g4⟩:=len_end x 32 (by omega) (by omega)
  refine ⟨32 + n,?_,by omega,by omega,g3,g4⟩
  have e:((x:Int) / 4294967296).toNat=x / 2 ^ 32:=by omega
  refine CallsP.start (n:=25) (rs:=[.tmp 2]) Try.func140 rfl rfl rfl fun base => ?_
  simp (maxSteps:=20000000) only [List.length_cons,List.length_nil,Nat.reduceAdd,Nat.reduceSub,List.replicate,List.cons_append,List.nil_append]
  simp (maxSteps:=20000000) (disch:=omega) only [zzB,tys,ite_self,opnL,callB,callX,readsB,stepOp,nilCmp,ofVal,opBuiltin,opLen,PV.sk,scalBin,scalUn,intBin,opLoad,natOf,opConvert,opField,cellsP,oneP,Value.oneCell',opStore,toIV,scalT,scalA,scalC,boxesA,boxesC,zipB_none,zipB_mx,isZ,opZip,zeroP,opAppendZ,opMakeMap,opLookup,mboxB,opUpdate,↓reduceIte,Nat.reduceSub,Nat.reduceEqDiff,Nat.reduceAdd,Nat.reduceMul,Nat.reduceLT,Nat.reduceLeDiff,Int.reduceToNat,Int.reduceLE,Int.reduceLT,Int.reduceNeg,reduceCtorEq,gos,Int.reduceAdd,Int.reduceSub,Int.reduceMul,Int.reduceEq,c0,c1,c2,u8_mod]
  rw [show ((x:Int) / 4294967296) % 256=(x:Int) / 4294967296 by omega]
  refine Kres_eq (idx_tab (by simp only [tys]) (by kernel_rfl) (by omega) (by omega)) ?_
  rw [e,hb]
  simp (maxSteps:=20000000) (disch:=omega) only [zzB,tys,ite_self,opnL,callB,callX,readsB,stepOp,nilCmp,ofVal,opBuiltin,opLen,PV.sk,scalBin,scalUn,intBin,opLoad,natOf,opConvert,opField,cellsP,oneP,Value.oneCell',opStore,toIV,scalT,scalA,scalC,boxesA,boxesC,zipB_none,zipB_mx,isZ,opZip,zeroP,opAppendZ,opMakeMap,opLookup,mboxB,opUpdate,↓reduceIte,Nat.reduceSub,Nat.reduceEqDiff,Nat.reduceAdd,Nat.reduceMul,Nat.reduceLT,Nat.reduceLeDiff,Int.reduceToNat,Int.reduceLE,Int.reduceLT,Int.reduceNeg,reduceCtorEq,gos,Int.reduceAdd,Int.reduceSub,Int.reduceMul,Int.reduceEq]
  rw [show ((32:Int) + (n:Int))=((32 + n:Nat):Int) by omega]
  all_goals simp (maxSteps:=20000000) (disch:=omega) only [zzB,tys,ite_self,opnL,callB,callX,readsB,stepOp,nilCmp,ofVal,opBuiltin,opLen,PV.sk,scalBin,scalUn,intBin,opLoad,natOf,opConvert,opField,cellsP,oneP,Value.oneCell',opStore,toIV,scalT,scalA,scalC,boxesA,boxesC,zipB_none,zipB_mx,isZ,opZip,zeroP,opAppendZ,opMakeMap,opLookup,mboxB,opUpdate,↓reduceIte,Nat.reduceSub,Nat.reduceEqDiff,Nat.reduceAdd,Nat.reduceMul,Nat.reduceLT,Nat.reduceLeDiff,Int.reduceToNat,Int.reduceLE,Int.reduceLT,Int.reduceNeg,reduceCtorEq,zzR,gos,Int.reduceAdd,Int.reduceSub,Int.reduceMul,Int.reduceEq]
set_option maxRecDepth 10000 in
theorem len64_101 (x:Nat) (hx:x < 18446744073709551616) (h0:1 ≤ x) (c0:4294967296 ≤ (x:Int)) (c1:¬ 65536 ≤ (x:Int) / 4294967296) (c2:256 ≤ (x:Int) / 4294967296):∃ n:Nat,CallsP Try.prog 140 [u64 x] (i64 n) ∧ 1 ≤ n ∧ n ≤ 64 ∧ 2 ^ (n - 1) ≤ x ∧ x < 2 ^ n:=by
  obtain ⟨n,hb,g1,g2,g3,g4⟩:=len_end x 40 (by omega) (by omega)
  refine ⟨40 + n,?_,by omega,by omega,g3,g4⟩
  have e:((x:Int) / 4294967296 / 256).toNat=x / 2 ^ 40:=by omega
  refine CallsP.start (n:=25) (rs:=[.tmp 2]) Try.func140 rfl rfl rfl fun base => ?_
  simp (maxSteps:=20000000) only [List.length_cons,List.length_nil,Nat.reduceAdd,Nat.reduceSub,List.replicate,List.cons_append,List.nil_append]
  simp (maxSteps:=20000000) (disch:=omega) only [zzB,tys,ite_self,opnL,callB,callX,readsB,stepOp,nilCmp,ofVal,opBuiltin,opLen,PV.sk,scalBin,scalUn,intBin,opLoad,natOf,opConvert,opField,cellsP,oneP,Value.oneCell',opStore,toIV,scalT,scalA,scalC,boxesA,boxesC,zipB_none,zipB_mx,isZ,opZip,zeroP,opAppendZ,opMakeMap,opLookup,mboxB,opUpdate,↓reduceIte,Nat.reduceSub,Nat.reduceEqDiff,Nat.reduceAdd,Nat.reduceMul,Nat.reduceLT,Nat.reduceLeDiff,Int.reduceToNat,Int.reduceLE,Int.reduceLT,Int.reduceNeg,reduceCtorEq,gos,Int.reduceAdd,Int.reduceSub,Int.reduceMul,Int.reduceEq,c0,c1,c2,u8_mod]
  rw [show ((x:Int) / 4294967296 / 256) % 256=(x:Int) / 4294967296 / 256 by omega]
  refine Kres_eq (idx_tab (by simp only [tys]) (by kernel_rfl) (by omega) (by omega)) ?_
  rw [e,hb]
  simp (maxSteps:=20000000) (disch:=omega) only [zzB,tys,ite_self,opnL,callB,callX,readsB,stepOp,nilCmp,ofVal,opBuiltin,opLen,PV.sk,scalBin,scalUn,intBin,opLoad,natOf,opConvert,opField,cellsP,oneP,Value.oneCell',opStore,toIV,scalT,scalA,scalC,boxesA,boxesC,zipB_none,zipB_mx,isZ,opZip,zeroP,opAppendZ,opMakeMap,opLookup,mboxB,opUpdate,↓reduceIte,Nat.reduceSub,Nat.reduceEqDiff,Nat.reduceAdd,Nat.reduceMul,Nat.reduceLT,Nat.reduceLeDiff,Int.reduceToNat,Int.reduceLE,Int.reduceLT,Int.reduceNeg,reduceCtorEq,gos,Int.reduceAdd,Int.reduceSub,Int.reduceMul,Int.reduceEq]
  rw [show ((40:Int) + (n:Int))=((40 + n:Nat):Int) by omega]
  all_goals simp (maxSteps:=20000000) (disch:=omega) only [zzB,tys,ite_self,opnL,callB,callX,readsB,stepOp,nilCmp,ofVal,opBuiltin,opLen,PV.sk,scalBin,scalUn,intBin,opLoad,natOf,opConvert,opField,cellsP,oneP,Value.oneCell',opStore,toIV,scalT,scalA,scalC,boxesA,boxesC,zipB_none,zipB_mx,isZ,opZip,zeroP,opAppendZ,opMakeMap,opLookup,mboxB,opUpdate,↓reduceIte,Nat.reduceSub,Nat.reduceEqDiff,Nat.reduceAdd,Nat.reduceMul,Nat.reduceLT,Nat.reduceLeDiff,Int.reduceToNat,Int.reduceLE,Int.reduceLT,Int.reduceNeg,reduceCtorEq,zzR,gos,Int.reduceAdd,Int.reduceSub,Int.reduceMul,Int.reduceEq]
set_option maxRecDepth 10000 in
theorem len64_110 (x:Nat) (hx:x < 18446744073709551616) (h0:1 ≤ x) (c0:4294967296 ≤ (x:Int)) (c1:65536 ≤ (x:Int) / 4294967296) (c2:¬ 256 ≤ (x:Int) / 4294967296 / 65536):∃ n:Nat,CallsP Try.prog 140 [u64 x] (i64 n) ∧ 1 ≤ n ∧ n ≤ 64 ∧ 2 ^ (n - 1) ≤ x ∧ x < 2 ^ n:=by
  obtain ⟨n,hb,g1,g2,g3,g4⟩:=len_end x 48 (by omega) (by omega)
  refine ⟨48 + n,?_,by omega,by omega,g3,g4⟩
  have e:((x:Int) / 4294967296 / 65536).toNat=x / 2 ^ 48:=by omega
  refine CallsP.start (n:=25) (rs:=[.tmp 2]) Try.func140 rfl rfl rfl fun base => ?_
  simp (maxSteps:=20000000) only [List.length_cons,List.length_nil,Nat.reduceAdd,Nat.reduceSub,List.replicate,List.cons_append,List.nil_append]
  simp (maxSteps:=20000000) (disch:=omega) only [zzB,tys,ite_self,opnL,callB,callX,readsB,stepOp,nilCmp,ofVal,opBuiltin,opLen,PV.sk,scalBin,scalUn,intBin,opLoad,natOf,opConvert,opField,cellsP,oneP,Value.oneCell',opStore,toIV,scalT,scalA,scalC,boxesA,boxesC,zipB_none,zipB_mx,isZ,opZip,zeroP,opAppendZ,opMakeMap,opLookup,mboxB,opUpdate,↓reduceIte,Nat.reduceSub,Nat.reduceEqDiff,Nat.reduceAdd,Nat.reduceMul,Nat.reduceLT,Nat.reduceLeDiff,Int.reduceToNat,Int.reduceLE,Int.reduceLT,Int.reduceNeg,reduceCtorEq,gos,Int.reduceAdd,Int.reduceSub,Int.reduceMul,Int.reduceEq,c0,c1,c2,u8_mod]
  rw [show ((x:Int) / 4294967296 / 65536) % 256=(x:Int) / 4294967296 / 65536 by omega]
  refine Kres_eq (idx_tab (by simp only [tys]) (by kernel_rfl) (by omega) (by omega)) ?_
  rw [e,hb]
  simp (maxSteps:=20000000) (disch:=omega) only [zzB,tys,ite_self,opnL,callB,callX,readsB,stepOp,nilCmp,ofVal,opBuiltin,opLen,PV.sk,scalBin,scalUn,intBin,opLoad,natOf,opConvert,opField,cellsP,oneP,Value.oneCell',opStore,toIV,scalT,scalA,scalC,boxesA,boxesC,zipB_none,zipB_mx,isZ,opZip,zeroP,opAppendZ,opMakeMap,opLookup,mboxB,opUpdate,↓reduceIte,Nat.reduceSub,Nat.reduceEqDiff,Nat.reduceAdd,Nat.reduceMul,Nat.reduceLT,Nat.reduceLeDiff,Int.reduceToNat,Int.reduceLE,Int.reduceLT,Int.reduceNeg,reduceCtorEq,gos,Int.reduceAdd,Int.reduceSub,Int.reduceMul,Int.reduceEq]
  rw [show ((48:Int) + (n:Int))=((48 + n:Nat):Int) by omega]
  all_goals simp (maxSteps:=20000000) (disch:=omega) only [zzB,tys,ite_self,opnL,callB,callX,readsB,stepOp,nilCmp,ofVal,opBuiltin,opLen,PV.sk,scalBin,scalUn,intBin,opLoad,natOf,opConvert,opField,cellsP,oneP,Value.oneCell',opStore,toIV,scalT,scalA,scalC,boxesA,boxesC,zipB_none,zipB_mx,isZ,opZip,zeroP,opAppendZ,opMakeMap,opLookup,mboxB,opUpdate,↓reduceIte,Nat.reduceSub,Nat.reduceEqDiff,Nat.reduceAdd,Nat.reduceMul,Nat.reduceLT,Nat.reduceLeDiff,Int.reduceToNat,Int.reduceLE,Int.reduceLT,Int.reduceNeg,reduceCtorEq,zzR,gos,Int.reduceAdd,Int.reduceSub,Int.reduceMul,Int.reduceEq]
set_option maxRecDepth 10000 in
theorem len64_111 (x:Nat) (hx:x < 18446744073709551616) (h0:1 ≤ x) (c0:4294967296 ≤ (x:Int)) (c1:65536 ≤ (x:Int) / 4294967296) (c2:256 ≤ (x:Int) / 4294967296 / 65536):∃ n:Nat,CallsP Try.prog 140 [u64 x] (i64 n) ∧ 1 ≤ n ∧ n ≤ 64 ∧ 2 ^ (n - 1) ≤ x ∧ x < 2 ^ n:=by
  obtain ⟨n,hb,g1,g2,g3,g4⟩:=len_end x 56 (by omega) (by omega)
  refine ⟨56 + n,?_,by omega,by omega,g3,g4⟩
  have e:((x:Int) / 4294967296 / 65536 / 256).toNat=x / 2 ^ 56:=by omega
  refine CallsP.start (n:=25) (rs:=[.tmp 2]) Try.func140 rfl rfl rfl fun base => ?_
  simp (maxSteps:=20000000) only [List.length_cons,List.length_nil,Nat.reduceAdd,Nat.reduceSub,List.replicate,List.cons_append,List.nil_append]
  simp (maxSteps:=20000000) (disch:=omega) only [zzB,tys,ite_self,opnL,callB,callX,readsB,stepOp,nilCmp,ofVal,opBuiltin,opLen,PV.sk,scalBin,scalUn,intBin,opLoad,natOf,opConvert,opField,cellsP,oneP,Value.oneCell',opStore,toIV,scalT,scalA,scalC,boxesA,boxesC,zipB_none,zipB_mx,isZ,opZip,zeroP,opAppendZ,opMakeMap,opLookup,mboxB,opUpdate,↓reduceIte,Nat.reduceSub,Nat.reduceEqDiff,Nat.reduceAdd,Nat.reduceMul,Nat.reduceLT,Nat.reduceLeDiff,Int.reduceToNat,Int.reduceLE,Int.reduceLT,Int.reduceNeg,reduceCtorEq,gos,Int.reduceAdd,Int.reduceSub,Int.reduceMul,Int.reduceEq,c0,c1,c2,u8_mod]
  rw [show ((x:Int) / 4294967296 / 65536 / 256) % 256=(x:Int) / 4294967296 / 65536 / 256 by omega]
  refine Kres_eq (idx_tab (by simp only [tys]) (by kernel_rfl) (by omega) (by omega)) ?_
  rw [e,hb]
  simp (maxSteps:=20000000) (disch:=omega) only [zzB,tys,ite_self,opnL,callB,callX,readsB,stepOp,nilCmp,ofVal,opBuiltin,opLen,PV.sk,scalBin,scalUn,intBin,opLoad,natOf,opConvert,opField,cellsP,oneP,Value.oneCell',opStore,toIV,scalT,scalA,scalC,boxesA,boxesC,zipB_none,zipB_mx,isZ,opZip,zeroP,opAppendZ,opMakeMap,opLookup,mboxB,opUpdate,↓reduceIte,Nat.reduceSub,Nat.reduceEqDiff,Nat.reduceAdd,Nat.reduceMul,Nat.reduceLT,Nat.reduceLeDiff,Int.reduceToNat,Int.reduceLE,Int.reduceLT,Int.reduceNeg,reduceCtorEq,gos,Int.reduceAdd,Int.reduceSub,Int.reduceMul,Int.reduceEq]
  rw [show ((56:Int) + (n:Int))=((56 + n:Nat):Int) by omega]
  all_goals simp (maxSteps:=20000000) (disch:=omega) only [zzB,tys,ite_self,opnL,callB,callX,readsB,stepOp,nilCmp,ofVal,opBuiltin,opLen,PV.sk,scalBin,scalUn,intBin,opLoad,natOf,opConvert,opField,cellsP,oneP,Value.oneCell',opStore,toIV,scalT,scalA,scalC,boxesA,boxesC,zipB_none,zipB_mx,isZ,opZip,zeroP,opAppendZ,opMakeMap,opLookup,mboxB,opUpdate,↓reduceIte,Nat.reduceSub,Nat.reduceEqDiff,Nat.reduceAdd,Nat.reduceMul,Nat.reduceLT,Nat.reduceLeDiff,Int.reduceToNat,Int.reduceLE,Int.reduceLT,Int.reduceNeg,reduceCtorEq,zzR,gos,Int.reduceAdd,Int.reduceSub,Int.reduceMul,Int.reduceEq]
theorem len64_walk (x:Nat) (h0:1 ≤ x) (hx:x < 18446744073709551616):∃ n:Nat,CallsP Try.prog 140 [u64 x] (i64 n) ∧ 1 ≤ n ∧ n ≤ 64 ∧ 2 ^ (n - 1) ≤ x ∧ x < 2 ^ n:=by
  by_cases c0:4294967296 ≤ (x:Int)
  · by_cases c1:65536 ≤ (x:Int) / 4294967296
    · by_cases c2:256 ≤ (x:Int) / 4294967296 / 65536
      · exact len64_111 x hx h0 c0 c1 c2
      · exact len64_110 x hx h0 c0 c1 c2
    · by_cases c2:256 ≤ (x:Int) / 4294967296
      · exact len64_101 x hx h0 c0 c1 c2
      · exact len64_100 x hx h0 c0 c1 c2
  · by_cases c1:65536 ≤ (x:Int)
    · by_cases c2:256 ≤ (x:Int) / 65536
      · exact len64_011 x hx h0 c0 c1 c2
      · exact len64_010 x hx h0 c0 c1 c2
    · by_cases c2:256 ≤ (x:Int)
      · exact len64_001 x hx h0 c0 c1 c2
      · exact len64_000 x hx h0 c0 c1 c2
theorem lz64_walk (y:Nat) (h1:1 ≤ y) (h:y < 18446744073709551616) :
    ∃ s:Nat,CallsP Try.prog 139 [u64 y] (i64 s) ∧ s ≤ 63 ∧ 2 ^ 63 ≤ y * 2 ^ s ∧ y * 2 ^ s < 2 ^ 64:=by
  obtain ⟨n,hn,g1,g2,g3,g4⟩:=len64_walk y h1 h
  refine ⟨64 - n,?_,by omega,?_,?_⟩
  · refine CallsP.start (n:=6) (rs:=[.tmp 2]) Try.func139 rfl rfl rfl fun base => ?_
    simp (maxSteps:=20000000) only [List.length_cons,List.length_nil,Nat.reduceAdd,Nat.reduceSub,List.replicate,List.cons_append,List.nil_append]
    simp (maxSteps:=20000000) (disch:=omega) only [zzB,tys,ite_self,opnL,callB,callX,readsB,stepOp,nilCmp,ofVal,opBuiltin,opLen,PV.sk,scalBin,scalUn,intBin,opLoad,natOf,opConvert,opField,cellsP,oneP,Value.oneCell',opStore,toIV,scalT,scalA,scalC,boxesA,boxesC,zipB_none,zipB_mx,isZ,opZip,zeroP,opAppendZ,opMakeMap,opLookup,mboxB,opUpdate,↓reduceIte,Nat.reduceSub,Nat.reduceEqDiff,Nat.reduceAdd,Nat.reduceMul,Nat.reduceLT,Nat.reduceLeDiff,Int.reduceToNat,Int.reduceLE,Int.reduceLT,Int.reduceNeg,reduceCtorEq,gos,Int.reduceAdd,Int.reduceSub,Int.reduceMul,Int.reduceEq]
    refine K_call_pure (hn) rfl rfl (by simp only [tys]) (by first|rfl|simp [sim7,ofVal,undefP,zzL,if_true,if_false,ite_self,Nat.reduceEqDiff,Nat.reduceMul,Nat.reduceAdd,reduceCtorEq]) ?_
    simp (maxSteps:=20000000) (disch:=omega) only [zzB,tys,ite_self,opnL,callB,callX,readsB,stepOp,nilCmp,ofVal,opBuiltin,opLen,PV.sk,scalBin,scalUn,intBin,opLoad,natOf,opConvert,opField,cellsP,oneP,Value.oneCell',opStore,toIV,scalT,scalA,scalC,boxesA,boxesC,zipB_none,zipB_mx,isZ,opZip,zeroP,opAppendZ,opMakeMap,opLookup,mboxB,opUpdate,↓reduceIte,Nat.reduceSub,Nat.reduceEqDiff,Nat.reduceAdd,Nat.reduceMul,Nat.reduceLT,Nat.reduceLeDiff,Int.reduceToNat,Int.reduceLE,Int.reduceLT,Int.reduceNeg,reduceCtorEq,gos,Int.reduceAdd,Int.reduceSub,Int.reduceMul,Int.reduceEq]
    rw [show (64:Int) - (n:Int)=((64 - n:Nat):Int) by omega]
    all_goals simp (maxSteps:=20000000) (disch:=omega) only [zzB,tys,ite_self,opnL,callB,callX,readsB,stepOp,nilCmp,ofVal,opBuiltin,opLen,PV.sk,scalBin,scalUn,intBin,opLoad,natOf,opConvert,opField,cellsP,oneP,Value.oneCell',opStore,toIV,scalT,scalA,scalC,boxesA,boxesC,zipB_none,zipB_mx,isZ,opZip,zeroP,opAppendZ,opMakeMap,opLookup,mboxB,opUpdate,↓reduceIte,Nat.reduceSub,Nat.reduceEqDiff,Nat.reduceAdd,Nat.reduceMul,Nat.reduceLT,Nat.reduceLeDiff,Int.reduceToNat,Int.reduceLE,Int.reduceLT,Int.reduceNeg,reduceCtorEq,zzR,gos,Int.reduceAdd,Int.reduceSub,Int.reduceMul,Int.reduceEq]
  · have:=Nat.mul_le_mul_right (2 ^ (64 - n)) g3
    rwa [← Nat.pow_add,show n - 1 + (64 - n)=63 by omega] at this
  · have:=Nat.mul_lt_mul_of_pos_right g4 (Nat.two_pow_pos (64 - n))
    rwa [← Nat.pow_add,show n + (64 - n)=64 by omega] at this
structure Dv (V v1 v0 U u:Int):Prop where
  hV:V=v1 * 4294967296 + v0
  h1:2147483648 ≤ v1
  h1':v1 < 4294967296
  h0:0 ≤ v0
  h0':v0 < 4294967296
  hU:0 ≤ U
  hUV:U < V
  hu:0 ≤ u
  hu':u < 4294967296
structure Gs (v1 U q r qt:Int):Prop where
  hr:r=U - q * v1
  hr0:0 ≤ r
  hr1:r < 4294967296
  hq:q ≤ 4294967297
  ht:qt ≤ q
section
variable {V v1 v0 U u q r:Int}
theorem qt_bd (D:Dv V v1 v0 U u):0 ≤ (U * 4294967296 + u) / V ∧ (U * 4294967296 + u) / V < 4294967296:=by
  obtain ⟨hV,h1,h1',h0,h0',hU,hUV,hu,hu'⟩:=D
  refine ⟨Int.ediv_nonneg (by omega) (by omega),?_⟩
  rw [Int.ediv_lt_iff_lt_mul (by omega)]
  omega
theorem le_qt (D:Dv V v1 v0 U u) (hr:r=U - q * v1) (h:q * v0 ≤ 4294967296 * r + u):q ≤ (U * 4294967296 + u) / V:=by
  obtain ⟨hV,h1,h1',h0,h0',hU,hUV,hu,hu'⟩:=D
  rw [Int.le_ediv_iff_mul_le (by omega)]
  have:q * V=q * v1 * 4294967296 + q * v0:=by rw [hV]; grind
  omega
theorem qt_lt (D:Dv V v1 v0 U u) (hr:r=U - q * v1) (h:4294967296 * r + u < q * v0):(U * 4294967296 + u) / V < q:=by
  obtain ⟨hV,h1,h1',h0,h0',hU,hUV,hu,hu'⟩:=D
  rw [Int.ediv_lt_iff_lt_mul (by omega)]
  have:q * V=q * v1 * 4294967296 + q * v0:=by rw [hV]; grind
  omega
theorem down (D:Dv V v1 v0 U u) (G:Gs v1 U q r ((U * 4294967296 + u) / V)) (hc:(U * 4294967296 + u) / V < q) :
    (r + v1 ≥ 4294967296 → q - 1=(U * 4294967296 + u) / V) ∧ (r + v1 < 4294967296 → Gs v1 U (q - 1) (r + v1) ((U * 4294967296 + u) / V)):=by
  have D':=D
  have hb:=qt_bd D
  obtain ⟨hV,h1,h1',h0,h0',hU,hUV,hu,hu'⟩:=D
  obtain ⟨hr,hr0,hr1,hq,ht⟩:=G
  have hm:(q - 1) * v1=q * v1 - v1:=by grind
  constructor
  · intro h
    have hle:q - 1 ≤ 4294967295:=by
      rcases Int.lt_or_le (q - 1) 4294967296 with g|g
      · omega
      · have:(4294967296:Int) * v1 ≤ (q - 1) * v1:=Int.mul_le_mul_of_nonneg_right g (by omega)
        omega
    have hp:=mul_bd (a:=q - 1) (b:=v0) (m:=4294967295) (n:=4294967295) (by omega) h0 hle (by omega)
    have:=le_qt (q:=q - 1) (r:=r + v1) D' (by omega) (by omega)
    omega
  · intro h
    exact ⟨by omega,by omega,h,by omega,by omega⟩
theorem ends (D:Dv V v1 v0 U u) (G:Gs v1 U q r ((U * 4294967296 + u) / V)) (h:q * v0 ≤ 4294967296 * r + u):q=(U * 4294967296 + u) / V:=by
  have:=le_qt D G.hr h
  have:=G.ht
  omega
theorem starts (D:Dv V v1 v0 U u):Gs v1 U (U / v1) (U % v1) ((U * 4294967296 + u) / V):=by
  have D':=D
  obtain ⟨hV,h1,h1',h0,h0',hU,hUV,hu,hu'⟩:=D
  have he:=Int.emod_add_mul_ediv U v1
  have hc:v1 * (U / v1)=U / v1 * v1:=Int.mul_comm _ _
  have hm0:=Int.emod_nonneg U (show v1 ≠ 0 by omega)
  have hm1:=Int.emod_lt_of_pos U (show 0 < v1 by omega)
  refine ⟨by omega,hm0,by omega,?_,?_⟩
  · have:U / v1 < 4294967298:=by
      rw [Int.ediv_lt_iff_lt_mul (by omega)]
      omega
    omega
  · rcases Int.lt_or_le (U / v1) ((U * 4294967296 + u) / V) with g|g
    · exfalso
      have h2:U / v1 + 1 ≤ (U * 4294967296 + u) / V:=g
      rw [Int.le_ediv_iff_mul_le (by omega)] at h2
      have h3:(U / v1 + 1) * V=(U / v1 * v1 + v1) * 4294967296 + (U / v1 + 1) * v0:=by rw [hV]; grind
      have h4:0 ≤ (U / v1 + 1) * v0:=Int.mul_nonneg (by have:=Int.ediv_nonneg hU (show 0 ≤ v1 by omega); omega) h0
      omega
    · exact g
end
theorem test_ {q v0 r u v1 U qt:Int} (G:Gs v1 U q r qt) (hq0:0 ≤ q) (h0:0 ≤ v0) (h0':v0 < 4294967296) (hu:0 ≤ u) (hu':u < 4294967296) :
    IntKind.u64.wrap (q * v0)=q * v0 ∧ IntKind.u64.wrap (IntKind.u64.wrap (4294967296 * r) + u)=4294967296 * r + u ∧ 0 ≤ q * v0:=by
  obtain ⟨hr,hr0,hr1,hq,ht⟩:=G
  have hp:=mul_bd (a:=q) (b:=v0) (m:=4294967297) (n:=4294967295) hq0 h0 hq (by omega)
  refine ⟨uw_of (by omega) (by omega),?_,hp.1⟩
  rw [uw_of (n:=4294967296 * r) (by omega) (by omega),uw_of (by omega) (by omega)]
end Go.Proofs.Ytmalpmnmknpphaa.TM
namespace Go.Proofs.Ytmalpmnmknpphaa.TM
open Go Go.RowKit
def GI (v1 U qt:Int) (T:Int → Int → List PV) (j:Nat) (t:List PV) (h:Heap):Prop :=
  ∃ q r,q=qt + j ∧ Gs v1 U q r qt ∧ t=T q r ∧ h=Heap.none
theorem dv_test {V v1 v0 U u q r:Int} (D:Dv V v1 v0 U u) (G:Gs v1 U q r ((U * 4294967296 + u) / V)) (hc:(U * 4294967296 + u) / V < q):4294967296 ≤ q ∨ 4294967296 * r + u < q * v0:=by
  rcases Int.lt_or_le (4294967296 * r + u) (q * v0) with h|h
  · exact .inr h
  · have:=ends D G h; omega
theorem qt_ge {V v1 v0 U u q r:Int} (D:Dv V v1 v0 U u) (G:Gs v1 U q r ((U * 4294967296 + u) / V)) (hc:q=(U * 4294967296 + u) / V):¬ 4294967296 * r + u < q * v0:=fun h => by
  have:=qt_lt D G.hr h; omega
theorem test2 {V v1 v0 U u q r qt:Int} (G:Gs v1 U q r qt) (hq0:0 ≤ q) (D:Dv V v1 v0 U u):IntKind.u64.wrap (q * v0)=q * v0 ∧ IntKind.u64.wrap (4294967296 * r + u)=4294967296 * r + u:=by
  obtain ⟨t1,t2,t3⟩:=test_ (v0:=v0) (u:=u) G hq0 D.h0 D.h0' D.hu D.hu'
  refine ⟨t1,?_⟩
  rwa [uw_of (n:=4294967296 * r) (by have:=G.hr0; omega) (by have:=G.hr1; omega)] at t2
structure Dz (hi lo:Int) (n s:Nat) (V v1 v0 U L u1 u0 Q1 R1 Q0 M:Int):Prop where
  D:Dv V v1 v0 U u1
  D2:Dv V v1 v0 R1 u0
  hQ1:Q1=(U * 4294967296 + u1) / V
  hQ0:Q0=(R1 * 4294967296 + u0) / V
  a1:(hi * 18446744073709551616 + lo) / n=Q1 * 4294967296 + Q0
  a2:(hi * 18446744073709551616 + lo) % n=M / 2 ^ s
  hmin:min s IntKind.u64.bits=s
  hmin2:min (64 - (s:Int)).toNat IntKind.u64.bits=64 - s
  sV:IntKind.u64.wrap ((n:Int) * 2 ^ s)=V
  sH:IntKind.u64.wrap (hi * 2 ^ s)=hi * 2 ^ s
  sL:IntKind.u64.wrap (lo * 2 ^ s)=L
  sR:lo.fdiv (2 ^ (64 - s))=lo / 2 ^ (64 - s)
  sO:Go.bits .or .u64 (hi * 2 ^ s) (lo / 2 ^ (64 - s))=U
  sM:M.fdiv (2 ^ s)=M / 2 ^ s
  aV:Go.bits .and .u64 V 4294967295=v0
  aL:Go.bits .and .u64 L 4294967295=u0
  v1e:V / 4294967296=v1
  u1e:L / 4294967296=u1
  wq:IntKind.u64.wrap (U / v1)=U / v1
  wm:IntKind.u64.wrap (U / v1 * v1)=U / v1 * v1
  wr:IntKind.u64.wrap (U - U / v1 * v1)=U % v1
  e1:IntKind.u64.wrap (IntKind.u64.wrap (IntKind.u64.wrap (U * 4294967296) + u1) - IntKind.u64.wrap (Q1 * V))=R1
  f1:IntKind.u64.wrap (IntKind.u64.wrap (Q1 * 4294967296) + Q0)=Q1 * 4294967296 + Q0
  f2:IntKind.u64.wrap (IntKind.u64.wrap (IntKind.u64.wrap (R1 * 4294967296) + u0) - IntKind.u64.wrap (Q0 * V))=M
  w2q:IntKind.u64.wrap (R1 / v1)=R1 / v1
  w2m:IntKind.u64.wrap (R1 / v1 * v1)=R1 / v1 * v1
  w2r:IntKind.u64.wrap (R1 - R1 / v1 * v1)=R1 % v1
theorem dz_of (hi lo:Int) (n s:Nat) (hh:0 < hi) (h1:hi < (n:Int)) (h2:(n:Int) < 18446744073709551616) (h3:W64 lo) (s1:s ≤ 63) (s2:2 ^ 63 ≤ n * 2 ^ s) (s3:n * 2 ^ s < 2 ^ 64) :
    ∃ V v1 v0 U L u1 u0 Q1 R1 Q0 M:Int,Dz hi lo n s V v1 v0 U L u1 u0 Q1 R1 Q0 M:=by
  have h0:0 ≤ hi:=by omega
  obtain ⟨h3,h4⟩:=h3
  have hpos:(0:Int) < 2 ^ s:=Int.pow_pos (by decide)
  have pow_nat:((n * 2 ^ s:Nat):Int)=(n:Int) * 2 ^ s:=by push_cast; rfl
  have s2':(9223372036854775808:Int) ≤ (n:Int) * 2 ^ s:=by rw [← pow_nat]; exact Int.ofNat_le.2 (show 9223372036854775808 ≤ n * 2 ^ s from s2)
  have s3':(n:Int) * 2 ^ s < 18446744073709551616:=by rw [← pow_nat]; exact Int.ofNat_lt.2 (show n * 2 ^ s < 18446744073709551616 from s3)
  have hpow:(2:Int) ^ s * 2 ^ (64 - s)=18446744073709551616:=by
    rw [← Int.pow_add,show s + (64 - s)=64 by omega]; rfl
  have hpos2:(0:Int) < 2 ^ (64 - s):=Int.pow_pos (by decide)
  -- the parts
  obtain ⟨V,hV⟩:∃ V,V=(n:Int) * 2 ^ s:=⟨_,rfl⟩
  obtain ⟨v1,hv1⟩:∃ v,v=V / 4294967296:=⟨_,rfl⟩
  obtain ⟨v0,hv0⟩:∃ v,v=V % 4294967296:=⟨_,rfl⟩
  have hhi:hi * 2 ^ s + 2 ^ s ≤ V:=by
    have:=Int.mul_le_mul_of_nonneg_right (show hi + 1 ≤ (n:Int) by omega) (Int.le_of_lt hpos)
    rw [Int.add_mul,Int.one_mul] at this
    omega
  have hhi0:0 ≤ hi * 2 ^ s:=Int.mul_nonneg h0 (Int.le_of_lt hpos)
  have hl0:0 ≤ lo / 2 ^ (64 - s):=Int.ediv_nonneg h3 (Int.le_of_lt hpos2)
  have hl1:lo / 2 ^ (64 - s) < 2 ^ s:=by
    rw [Int.ediv_lt_iff_lt_mul hpos2,hpow]; exact h4
  obtain ⟨U,hU⟩:∃ U,U=hi * 2 ^ s + lo / 2 ^ (64 - s):=⟨_,rfl⟩
  obtain ⟨L,hL⟩:∃ L,L=lo * 2 ^ s % 18446744073709551616:=⟨_,rfl⟩
  obtain ⟨u1,hu1⟩:∃ v,v=L / 4294967296:=⟨_,rfl⟩
  obtain ⟨u0,hu0⟩:∃ v,v=L % 4294967296:=⟨_,rfl⟩
  have D:Dv V v1 v0 U u1:=⟨by omega,by omega,by omega,by omega,by omega,by omega,by omega,by omega,by omega⟩
  have S:=starts D
  have hall:(hi * 18446744073709551616 + lo) * 2 ^ s=(U * 4294967296 + u1) * 4294967296 + u0:=by
    have e1:lo * 2 ^ s=(lo / 2 ^ (64 - s)) * 18446744073709551616 + L:=by
      have e2:=Int.emod_add_mul_ediv (lo * 2 ^ s) 18446744073709551616
      have e3:lo * 2 ^ s / 18446744073709551616=lo / 2 ^ (64 - s):=by
        rw [← hpow,Int.mul_comm lo,Int.mul_ediv_mul_of_pos _ _ hpos]
      rw [e3] at e2
      omega
    have e4:(hi * 18446744073709551616 + lo) * 2 ^ s=hi * 2 ^ s * 18446744073709551616 + lo * 2 ^ s:=by grind
    rw [e4,e1]
    omega
  have hq0:=Int.ediv_nonneg D.hU (show 0 ≤ v1 by omega)
  have hqb:=S.hq
  have hm:=Int.emod_add_mul_ediv U v1
  have hmc:v1 * (U / v1)=U / v1 * v1:=Int.mul_comm _ _
  have hm0:=Int.emod_nonneg U (show v1 ≠ 0 by omega)
  have hm1:=Int.emod_lt_of_pos U (show 0 < v1 by omega)
  have hmp:0 ≤ U / v1 * v1:=Int.mul_nonneg hq0 (by omega)
  -- the answer
  have hVp:0 < V:=by omega
  have qb:=qt_bd D
  have hN:=Int.emod_add_mul_ediv (U * 4294967296 + u1) V
  have hR0:=Int.emod_nonneg (U * 4294967296 + u1) (show V ≠ 0 by omega)
  have hR1:=Int.emod_lt_of_pos (U * 4294967296 + u1) (show 0 < V by omega)
  obtain ⟨Q1,hQ1⟩:∃ z,z=(U * 4294967296 + u1) / V:=⟨_,rfl⟩
  obtain ⟨R1,hR1'⟩:∃ z,z=(U * 4294967296 + u1) % V:=⟨_,rfl⟩
  have D2:Dv V v1 v0 R1 u0:=⟨D.hV,D.h1,D.h1',D.h0,D.h0',by omega,by omega,by omega,by omega⟩
  have S2:=starts D2
  have qb2:=qt_bd D2
  have hN2:=Int.emod_add_mul_ediv (R1 * 4294967296 + u0) V
  have hM0:=Int.emod_nonneg (R1 * 4294967296 + u0) (show V ≠ 0 by omega)
  have hM1:=Int.emod_lt_of_pos (R1 * 4294967296 + u0) hVp
  obtain ⟨Q0,hQ0⟩:∃ z,z=(R1 * 4294967296 + u0) / V:=⟨_,rfl⟩
  obtain ⟨M,hM⟩:∃ z,z=(R1 * 4294967296 + u0) % V:=⟨_,rfl⟩
  rw [← hQ1,← hR1'] at hN
  rw [← hQ0,← hM] at hN2
  rw [← hR1'] at hR0 hR1
  rw [← hM] at hM0 hM1
  rw [← hQ1] at qb
  rw [← hQ0] at qb2
  have hX:(hi * 18446744073709551616 + lo) * 2 ^ s=(Q1 * 4294967296 + Q0) * V + M:=by
    rw [hall]
    have:(Q1 * 4294967296 + Q0) * V=V * Q1 * 4294967296 + V * Q0:=by grind
    rw [this]
    omega
  have hn0:(0:Int) < n:=by omega
  have hdm:(hi * 18446744073709551616 + lo) / n=Q1 * 4294967296 + Q0 ∧ (hi * 18446744073709551616 + lo) % n=M / 2 ^ s:=by
    have e5:M % 2 ^ s=0:=by
      have:M=((hi * 18446744073709551616 + lo) - (Q1 * 4294967296 + Q0) * n) * 2 ^ s:=by
        have:((hi * 18446744073709551616 + lo) - (Q1 * 4294967296 + Q0) * n) * 2 ^ s=(hi * 18446744073709551616 + lo) * 2 ^ s - (Q1 * 4294967296 + Q0) * (n * 2 ^ s):=by grind
        rw [this,← hV]; omega
      rw [this]; exact Int.mul_emod_left _ _
    have e6:M=M / 2 ^ s * 2 ^ s:=by
      have:=Int.emod_add_mul_ediv M (2 ^ s)
      rw [e5,Int.zero_add,Int.mul_comm] at this
      exact this.symm
    have e7:(hi * 18446744073709551616 + lo)=(Q1 * 4294967296 + Q0) * n + M / 2 ^ s:=by
      have:(hi * 18446744073709551616 + lo) * 2 ^ s=((Q1 * 4294967296 + Q0) * n + M / 2 ^ s) * 2 ^ s:=by
        rw [hX,Int.add_mul (_ * _) (M / 2 ^ s),← e6,hV]; grind
      exact Int.eq_of_mul_eq_mul_right (by omega) this
    have e8:0 ≤ M / 2 ^ s:=Int.ediv_nonneg hM0 (Int.le_of_lt hpos)
    have e9:M / 2 ^ s < n:=by
      rw [Int.ediv_lt_iff_lt_mul hpos,← hV]; exact hM1
    have e10:(hi * 18446744073709551616 + lo)=M / 2 ^ s + n * (Q1 * 4294967296 + Q0):=by rw [Int.mul_comm (n:Int),Int.add_comm (M / 2 ^ s)]; exact e7
    exact (Int.ediv_emod_unique (a:=hi * 18446744073709551616 + lo) (b:=n) (q:=Q1 * 4294967296 + Q0) (r:=M / 2 ^ s) hn0).2 ⟨e10.symm,e8,e9⟩
  have hmin:min s IntKind.u64.bits=s:=Nat.min_eq_left (show s ≤ IntKind.u64.bits by simp [IntKind.bits]; omega)
  have hmin2:min (64 - (s:Int)).toNat IntKind.u64.bits=64 - s:=by
    rw [show (64 - (s:Int)).toNat=64 - s by omega]
    exact Nat.min_eq_left (show 64 - s ≤ IntKind.u64.bits by simp [IntKind.bits])
  have sV:IntKind.u64.wrap ((n:Int) * 2 ^ s)=V:=by rw [← hV,uw_of (by omega) (by omega)]
  have sH:IntKind.u64.wrap (hi * 2 ^ s)=hi * 2 ^ s:=uw_of (by omega) (by omega)
  have sL:IntKind.u64.wrap (lo * 2 ^ s)=L:=by rw [uw,hL]
  have sR:lo.fdiv (2 ^ (64 - s))=lo / 2 ^ (64 - s):=fdiv_pos _ (Int.le_of_lt hpos2)
  have sO:Go.bits .or .u64 (hi * 2 ^ s) (lo / 2 ^ (64 - s))=U:=by
    rw [hU]
    exact bits_join .u64 64 (by decide) (fun n a b => uw_of a b) s _ _ hhi0 (Int.mul_emod_left _ _) (by omega) hl0 hl1 (by omega)
  have sM:M.fdiv (2 ^ s)=M / 2 ^ s:=fdiv_pos _ (Int.le_of_lt hpos)
  have aV:Go.bits .and .u64 V 4294967295=v0:=by rw [and32 (by omega) (by omega),hv0]
  have aL:Go.bits .and .u64 L 4294967295=u0:=by rw [and32 (by omega) (by omega),hu0]
  have wq:IntKind.u64.wrap (U / v1)=U / v1:=uw_of hq0 (by omega)
  have wm:IntKind.u64.wrap (U / v1 * v1)=U / v1 * v1:=uw_of hmp (by omega)
  have wr:IntKind.u64.wrap (U - U / v1 * v1)=U % v1:=by rw [uw_of (by omega) (by omega)]; omega
  have e1:IntKind.u64.wrap (IntKind.u64.wrap (IntKind.u64.wrap (U * 4294967296) + u1) - IntKind.u64.wrap (Q1 * V))=R1:=by
    have hc:V * Q1=Q1 * V:=Int.mul_comm _ _
    clear hX hall hdm
    rw [uw,uw,uw,uw]
    generalize Q1 * V=P at *
    generalize V * Q1=P2 at *
    omega
  have f1:IntKind.u64.wrap (IntKind.u64.wrap (Q1 * 4294967296) + Q0)=Q1 * 4294967296 + Q0:=by rw [uw_of (n:=Q1 * 4294967296) (by omega) (by omega),uw_of (by omega) (by omega)]
  have f2:IntKind.u64.wrap (IntKind.u64.wrap (IntKind.u64.wrap (R1 * 4294967296) + u0) - IntKind.u64.wrap (Q0 * V))=M:=by
    have hc:V * Q0=Q0 * V:=Int.mul_comm _ _
    clear hX hall hdm
    rw [uw,uw,uw,uw]
    generalize Q0 * V=P at *
    generalize V * Q0=P2 at *
    omega
  obtain ⟨i1,i2,i3,i4,i5,i6⟩:0 ≤ R1 / v1 ∧ R1 / v1 ≤ 4294967297 ∧ 0 ≤ R1 / v1 * v1 ∧ R1 / v1 * v1 + R1 % v1=R1 ∧ 0 ≤ R1 % v1 ∧ R1 % v1 < v1:=by
    have h:=Int.ediv_nonneg hR0 (show 0 ≤ v1 by omega)
    refine ⟨h,S2.hq,Int.mul_nonneg h (by omega),by have:=Int.emod_add_mul_ediv R1 v1; have:v1 * (R1 / v1)=R1 / v1 * v1:=Int.mul_comm _ _; omega,Int.emod_nonneg R1 (by omega),Int.emod_lt_of_pos R1 (by omega)⟩
  have w2q:IntKind.u64.wrap (R1 / v1)=R1 / v1:=uw_of i1 (by omega)
  have w2m:IntKind.u64.wrap (R1 / v1 * v1)=R1 / v1 * v1:=uw_of i3 (by omega)
  have w2r:IntKind.u64.wrap (R1 - R1 / v1 * v1)=R1 % v1:=by rw [uw_of (by omega) (by omega)]; omega
  exact ⟨V,v1,v0,U,L,u1,u0,Q1,R1,Q0,M,D,D2,hQ1,hQ0,hdm.1,hdm.2,hmin,hmin2,sV,sH,sL,sR,sO,sM,aV,aL,hv1.symm,hu1.symm,wq,wm,wr,e1,f1,f2,w2q,w2m,w2r⟩
set_option maxRecDepth 10000 in
set_option maxHeartbeats 2000000 in
theorem div64_hi (hi lo y:Int) (hh:0 < hi) (h1:hi < y) (h2:y < 18446744073709551616) (h3:W64 lo) :
    CallsP Try.prog 138 [u64 hi,u64 lo,u64 y] (.tup [u64 ((hi * 18446744073709551616 + lo) / y),u64 ((hi * 18446744073709551616 + lo) % y)]):=by
  obtain ⟨n,rfl⟩:=Int.eq_ofNat_of_zero_le (show 0 ≤ y by omega)
  obtain ⟨s,hs,s1,s2,s3⟩:=lz64_walk n (by omega) (by omega)
  obtain ⟨V,v1,v0,U,L,u1,u0,Q1,R1,Q0,M,Z⟩:=dz_of hi lo n s hh h1 h2 h3 s1 s2 s3
  rw [Z.a1,Z.a2]
  clear s2 s3
  have d0:0 < v1:=by have:=Z.D.h1; omega
  have hU:=Z.D.hU
  have hR:=Z.D2.hU
  refine CallsP.start (n:=135) (rs:=[.tmp 6,.tmp 7]) Try.func138 rfl rfl rfl fun base => ?_
  simp (maxSteps:=20000000) only [List.length_cons,List.length_nil,Nat.reduceAdd,Nat.reduceSub,List.replicate,List.cons_append,List.nil_append]
  simp (maxSteps:=20000000) (disch:=omega) only [zzB,tys,ite_self,opnL,callB,callX,readsB,stepOp,nilCmp,ofVal,opBuiltin,opLen,PV.sk,scalBin,scalUn,intBin,opLoad,natOf,opConvert,opField,cellsP,oneP,Value.oneCell',opStore,toIV,scalT,scalA,scalC,boxesA,boxesC,zipB_none,zipB_mx,isZ,opZip,zeroP,opAppendZ,opMakeMap,opLookup,mboxB,opUpdate,↓reduceIte,Nat.reduceSub,Nat.reduceEqDiff,Nat.reduceAdd,Nat.reduceMul,Nat.reduceLT,Nat.reduceLeDiff,Int.reduceToNat,Int.reduceLE,Int.reduceLT,Int.reduceNeg,reduceCtorEq,gos,Int.reduceAdd,Int.reduceSub,Int.reduceMul,Int.reduceEq]
  refine K_call_pure (hs) rfl rfl (by simp only [tys]) (by first|rfl|simp [sim7,ofVal,undefP,zzL,if_true,if_false,ite_self,Nat.reduceEqDiff,Nat.reduceMul,Nat.reduceAdd,reduceCtorEq]) ?_
  simp (maxSteps:=20000000) (disch:=omega) only [zzB,tys,ite_self,opnL,callB,callX,readsB,stepOp,nilCmp,ofVal,opBuiltin,opLen,PV.sk,scalBin,scalUn,intBin,opLoad,natOf,opConvert,opField,cellsP,oneP,Value.oneCell',opStore,toIV,scalT,scalA,scalC,boxesA,boxesC,zipB_none,zipB_mx,isZ,opZip,zeroP,opAppendZ,opMakeMap,opLookup,mboxB,opUpdate,↓reduceIte,Nat.reduceSub,Nat.reduceEqDiff,Nat.reduceAdd,Nat.reduceMul,Nat.reduceLT,Nat.reduceLeDiff,Int.reduceToNat,Int.reduceLE,Int.reduceLT,Int.reduceNeg,reduceCtorEq,gos,Int.reduceAdd,Int.reduceSub,Int.reduceMul,Int.reduceEq,Z.hmin,Z.hmin2,Z.sV,Z.sH,Z.sL,Z.sR,Z.sO,Z.aV,Z.aL,Z.v1e,Z.u1e,Z.wq,Z.wm,Z.wr]
  clear hs
  refine K_loopX (false::false::true::false::false::false::false::false::true::true::true::true::false::true::true::true::true::false::false::false::false::false::false::false::false::false::false::false::false::false::false::false::false::false::false::false::false::false::false::false::false::false::false::false::false::false::false::false::false::false::false::false::false::false::false::false::false::false::false::false::false::false::false::false::false::false::false::false::false::false::false::false::false::false::false::false::false::false::false::false::false::false::false::false::false::false::false::false::false::false::false::false::false::false::false::false::false::false::false::false::false::false::false::false::false::false::false::false::false::false::false::false::false::false::false::false::false::false::false::false::false::false::false::[false,false,false,false,false,false,false,false,false,false,false,false]) [] (U / v1 - Q1).toNat (GI v1 U Q1 (fun q r => (.dead::.dead::(u64 V)::.dead::.dead::.dead::.dead::.dead::(u64 s)::(u64 v1)::(u64 v0)::(u64 U)::.dead::(u64 u1)::(u64 u0)::(u64 q)::(u64 r)::.dead::.dead::.dead::.dead::.dead::.dead::.dead::.dead::.dead::.dead::.dead::.dead::.dead::.dead::.dead::.dead::.dead::.dead::.dead::.dead::.dead::.dead::.dead::.dead::.dead::.dead::.dead::.dead::.dead::.dead::.dead::.dead::.dead::.dead::.dead::.dead::.dead::.dead::.dead::.dead::.dead::.dead::.dead::.dead::.dead::.dead::.dead::.dead::.dead::.dead::.dead::.dead::.dead::.dead::.dead::.dead::.dead::.dead::.dead::.dead::.dead::.dead::.dead::.dead::.dead::.dead::.dead::.dead::.dead::.dead::.dead::.dead::.dead::.dead::.dead::.dead::.dead::.dead::.dead::.dead::.dead::.dead::.dead::.dead::.dead::.dead::.dead::.dead::.dead::.dead::.dead::.dead::.dead::.dead::.dead::.dead::.dead::.dead::.dead::.dead::.dead::.dead::.dead::.dead::.dead::.dead::[.dead,.dead,.dead,.dead,.dead,.dead,.dead,.dead,.dead,.dead,.dead,.dead]))) 0 (fun t h => Shape (fun ff:Nat → PV => ((ff 0)::(ff 1)::(u64 V)::(ff 3)::(ff 4)::(ff 5)::(ff 6)::(ff 7)::(u64 s)::(u64 v1)::(u64 v0)::(u64 U)::(ff 12)::(u64 u1)::(u64 u0)::(u64 Q1)::(ff 16)::(ff 17)::(ff 18)::(ff 19)::(ff 20)::(ff 21)::(ff 22)::(ff 23)::(ff 24)::(ff 25)::(ff 26)::(ff 27)::(ff 28)::(ff 29)::(ff 30)::(ff 31)::(ff 32)::(ff 33)::(ff 34)::(ff 35)::(ff 36)::(ff 37)::(ff 38)::(ff 39)::(ff 40)::(ff 41)::(ff 42)::(ff 43)::(ff 44)::(ff 45)::(ff 46)::(ff 47)::(ff 48)::(ff 49)::(ff 50)::(ff 51)::(ff 52)::(ff 53)::(ff 54)::(ff 55)::(ff 56)::(ff 57)::(ff 58)::(ff 59)::(ff 60)::(ff 61)::(ff 62)::(ff 63)::(ff 64)::(ff 65)::(ff 66)::(ff 67)::(ff 68)::(ff 69)::(ff 70)::(ff 71)::(ff 72)::(ff 73)::(ff 74)::(ff 75)::(ff 76)::(ff 77)::(ff 78)::(ff 79)::(ff 80)::(ff 81)::(ff 82)::(ff 83)::(ff 84)::(ff 85)::(ff 86)::(ff 87)::(ff 88)::(ff 89)::(ff 90)::(ff 91)::(ff 92)::(ff 93)::(ff 94)::(ff 95)::(ff 96)::(ff 97)::(ff 98)::(ff 99)::(ff 100)::(ff 101)::(ff 102)::(ff 103)::(ff 104)::(ff 105)::(ff 106)::(ff 107)::(ff 108)::(ff 109)::(ff 110)::(ff 111)::(ff 112)::(ff 113)::(ff 114)::(ff 115)::(ff 116)::(ff 117)::(ff 118)::(ff 119)::(ff 120)::(ff 121)::(ff 122)::[ff 123,ff 124,ff 125,ff 126,ff 127,ff 128,ff 129,ff 130,ff 131,ff 132,ff 133,ff 134])) t ∧ h=Heap.none) ?_ ?_ ?_ ?_
  · exact forget_nil rfl
  · exact ⟨U / v1,U % v1,by have:=(starts Z.D).ht; rw [← Z.hQ1] at this; omega,Z.hQ1 ▸ starts Z.D,rfl,drop_nil _⟩
  · rintro j t h ⟨q,r,hq,G,rfl,rfl⟩
    have G':Gs v1 U q r ((U * 4294967296 + u1) / V):=Z.hQ1 ▸ G
    obtain ⟨q0,q1⟩:=qt_bd Z.D
    rw [← Z.hQ1] at q0 q1
    obtain ⟨t1,t2⟩:=test2 G' (by omega) Z.D
    obtain ⟨b1,b2,b3⟩:0 ≤ r ∧ r < 4294967296 ∧ q ≤ 4294967297:=⟨G.hr0,G.hr1,G.hq⟩
    obtain ⟨d1,d2⟩:0 ≤ v1 ∧ v1 < 4294967296:=⟨by have:=Z.D.h1; omega,Z.D.h1'⟩
    rcases Nat.eq_zero_or_pos j with c|c
    · have hn:=qt_ge Z.D G' (by rw [← Z.hQ1]; omega)
      have hqq:q=Q1:=by omega
      rw [hqq] at t1 hn ⊢
      clear G' G hq
      simp (maxSteps:=20000000) (disch:=omega) only [zzB,tys,ite_self,opnL,callB,callX,readsB,stepOp,nilCmp,ofVal,opBuiltin,opLen,PV.sk,scalBin,scalUn,intBin,opLoad,natOf,opConvert,opField,cellsP,oneP,Value.oneCell',opStore,toIV,scalT,scalA,scalC,boxesA,boxesC,zipB_none,zipB_mx,isZ,opZip,zeroP,opAppendZ,opMakeMap,opLookup,mboxB,opUpdate,↓reduceIte,Nat.reduceSub,Nat.reduceEqDiff,Nat.reduceAdd,Nat.reduceMul,Nat.reduceLT,Nat.reduceLeDiff,Int.reduceToNat,Int.reduceLE,Int.reduceLT,Int.reduceNeg,reduceCtorEq,gos,Int.reduceAdd,Int.reduceSub,Int.reduceMul,Int.reduceEq,t1,t2]
      exact Shape.of rfl
    · have dn:=down Z.D G' (by rw [← Z.hQ1]; omega)
      have dt:=dv_test Z.D G' (by rw [← Z.hQ1]; omega)
      rw [← Z.hQ1] at dn
      clear G' G
      by_cases c0:4294967296 ≤ q
      · by_cases c2:4294967296 ≤ r + v1
        · have hqq:=dn.1 c2
          clear dn dt
          simp (maxSteps:=20000000) (disch:=omega) only [zzB,tys,ite_self,opnL,callB,callX,readsB,stepOp,nilCmp,ofVal,opBuiltin,opLen,PV.sk,scalBin,scalUn,intBin,opLoad,natOf,opConvert,opField,cellsP,oneP,Value.oneCell',opStore,toIV,scalT,scalA,scalC,boxesA,boxesC,zipB_none,zipB_mx,isZ,opZip,zeroP,opAppendZ,opMakeMap,opLookup,mboxB,opUpdate,↓reduceIte,Nat.reduceSub,Nat.reduceEqDiff,Nat.reduceAdd,Nat.reduceMul,Nat.reduceLT,Nat.reduceLeDiff,Int.reduceToNat,Int.reduceLE,Int.reduceLT,Int.reduceNeg,reduceCtorEq,gos,Int.reduceAdd,Int.reduceSub,Int.reduceMul,Int.reduceEq,t1,t2,hqq]
          exact Shape.of rfl
        · have hG:=dn.2 (by omega)
          clear dn dt
          simp (maxSteps:=20000000) (disch:=omega) only [zzB,tys,ite_self,opnL,callB,callX,readsB,stepOp,nilCmp,ofVal,opBuiltin,opLen,PV.sk,scalBin,scalUn,intBin,opLoad,natOf,opConvert,opField,cellsP,oneP,Value.oneCell',opStore,toIV,scalT,scalA,scalC,boxesA,boxesC,zipB_none,zipB_mx,isZ,opZip,zeroP,opAppendZ,opMakeMap,opLookup,mboxB,opUpdate,↓reduceIte,Nat.reduceSub,Nat.reduceEqDiff,Nat.reduceAdd,Nat.reduceMul,Nat.reduceLT,Nat.reduceLeDiff,Int.reduceToNat,Int.reduceLE,Int.reduceLT,Int.reduceNeg,reduceCtorEq,gos,Int.reduceAdd,Int.reduceSub,Int.reduceMul,Int.reduceEq,t1,t2]
          refine ⟨j - 1,by omega,forget_nil rfl,⟨q - 1,r + v1,by omega,hG,?_,drop_nil _⟩⟩
          simp (maxSteps:=20000000) only [keepT,if_true,if_false,Bool.false_eq_true]
      · have c1:4294967296 * r + u1 < q * v0:=by
          rcases dt with c1|c1
          · omega
          · exact c1
        by_cases c2:4294967296 ≤ r + v1
        · have hqq:=dn.1 c2
          clear dn dt
          simp (maxSteps:=20000000) (disch:=omega) only [zzB,tys,ite_self,opnL,callB,callX,readsB,stepOp,nilCmp,ofVal,opBuiltin,opLen,PV.sk,scalBin,scalUn,intBin,opLoad,natOf,opConvert,opField,cellsP,oneP,Value.oneCell',opStore,toIV,scalT,scalA,scalC,boxesA,boxesC,zipB_none,zipB_mx,isZ,opZip,zeroP,opAppendZ,opMakeMap,opLookup,mboxB,opUpdate,↓reduceIte,Nat.reduceSub,Nat.reduceEqDiff,Nat.reduceAdd,Nat.reduceMul,Nat.reduceLT,Nat.reduceLeDiff,Int.reduceToNat,Int.reduceLE,Int.reduceLT,Int.reduceNeg,reduceCtorEq,gos,Int.reduceAdd,Int.reduceSub,Int.reduceMul,Int.reduceEq,t1,t2,hqq]
          exact Shape.of rfl
        · have hG:=dn.2 (by omega)
          clear dn dt
          simp (maxSteps:=20000000) (disch:=omega) only [zzB,tys,ite_self,opnL,callB,callX,readsB,stepOp,nilCmp,ofVal,opBuiltin,opLen,PV.sk,scalBin,scalUn,intBin,opLoad,natOf,opConvert,opField,cellsP,oneP,Value.oneCell',opStore,toIV,scalT,scalA,scalC,boxesA,boxesC,zipB_none,zipB_mx,isZ,opZip,zeroP,opAppendZ,opMakeMap,opLookup,mboxB,opUpdate,↓reduceIte,Nat.reduceSub,Nat.reduceEqDiff,Nat.reduceAdd,Nat.reduceMul,Nat.reduceLT,Nat.reduceLeDiff,Int.reduceToNat,Int.reduceLE,Int.reduceLT,Int.reduceNeg,reduceCtorEq,gos,Int.reduceAdd,Int.reduceSub,Int.reduceMul,Int.reduceEq,t1,t2]
          refine ⟨j - 1,by omega,forget_nil rfl,⟨q - 1,r + v1,by omega,hG,?_,drop_nil _⟩⟩
          simp (maxSteps:=20000000) only [keepT,if_true,if_false,Bool.false_eq_true]
  · rintro t h ⟨⟨ff,rfl⟩,rfl⟩

    simp (maxSteps:=20000000) (disch:=omega) only [zzB,tys,ite_self,opnL,callB,callX,readsB,stepOp,nilCmp,ofVal,opBuiltin,opLen,PV.sk,scalBin,scalUn,intBin,opLoad,natOf,opConvert,opField,cellsP,oneP,Value.oneCell',opStore,toIV,scalT,scalA,scalC,boxesA,boxesC,zipB_none,zipB_mx,isZ,opZip,zeroP,opAppendZ,opMakeMap,opLookup,mboxB,opUpdate,↓reduceIte,Nat.reduceSub,Nat.reduceEqDiff,Nat.reduceAdd,Nat.reduceMul,Nat.reduceLT,Nat.reduceLeDiff,Int.reduceToNat,Int.reduceLE,Int.reduceLT,Int.reduceNeg,reduceCtorEq,gos,Int.reduceAdd,Int.reduceSub,Int.reduceMul,Int.reduceEq,Z.e1,Z.w2q,Z.w2m,Z.w2r]
    refine K_loopX (false::false::true::false::false::false::false::false::true::true::true::false::false::false::true::true::true::true::true::false::false::false::false::false::false::false::false::false::false::false::false::false::false::false::false::false::false::false::false::false::false::false::false::false::false::false::false::false::false::false::false::false::false::false::false::false::false::false::false::false::false::false::false::false::false::false::false::false::false::false::false::false::false::false::false::false::false::false::false::false::false::false::false::false::false::false::false::false::false::false::false::false::false::false::false::false::false::false::false::false::false::false::false::false::false::false::false::false::false::false::false::false::false::false::false::false::false::false::false::false::false::false::false::[false,false,false,false,false,false,false,false,false,false,false,false]) [] (R1 / v1 - Q0).toNat (GI v1 R1 Q0 (fun q r => (.dead::.dead::(u64 V)::.dead::.dead::.dead::.dead::.dead::(u64 s)::(u64 v1)::(u64 v0)::.dead::.dead::.dead::(u64 u0)::(u64 Q1)::(u64 r)::(u64 R1)::(u64 q)::.dead::.dead::.dead::.dead::.dead::.dead::.dead::.dead::.dead::.dead::.dead::.dead::.dead::.dead::.dead::.dead::.dead::.dead::.dead::.dead::.dead::.dead::.dead::.dead::.dead::.dead::.dead::.dead::.dead::.dead::.dead::.dead::.dead::.dead::.dead::.dead::.dead::.dead::.dead::.dead::.dead::.dead::.dead::.dead::.dead::.dead::.dead::.dead::.dead::.dead::.dead::.dead::.dead::.dead::.dead::.dead::.dead::.dead::.dead::.dead::.dead::.dead::.dead::.dead::.dead::.dead::.dead::.dead::.dead::.dead::.dead::.dead::.dead::.dead::.dead::.dead::.dead::.dead::.dead::.dead::.dead::.dead::.dead::.dead::.dead::.dead::.dead::.dead::.dead::.dead::.dead::.dead::.dead::.dead::.dead::.dead::.dead::.dead::.dead::.dead::.dead::.dead::.dead::.dead::[.dead,.dead,.dead,.dead,.dead,.dead,.dead,.dead,.dead,.dead,.dead,.dead]))) 2 (fun t h => Shape (fun ff:Nat → PV => ((ff 0)::(ff 1)::(u64 V)::(ff 3)::(ff 4)::(ff 5)::(ff 6)::(ff 7)::(u64 s)::(u64 v1)::(u64 v0)::(ff 11)::(ff 12)::(ff 13)::(u64 u0)::(u64 Q1)::(ff 16)::(u64 R1)::(u64 Q0)::(ff 19)::(ff 20)::(ff 21)::(ff 22)::(ff 23)::(ff 24)::(ff 25)::(ff 26)::(ff 27)::(ff 28)::(ff 29)::(ff 30)::(ff 31)::(ff 32)::(ff 33)::(ff 34)::(ff 35)::(ff 36)::(ff 37)::(ff 38)::(ff 39)::(ff 40)::(ff 41)::(ff 42)::(ff 43)::(ff 44)::(ff 45)::(ff 46)::(ff 47)::(ff 48)::(ff 49)::(ff 50)::(ff 51)::(ff 52)::(ff 53)::(ff 54)::(ff 55)::(ff 56)::(ff 57)::(ff 58)::(ff 59)::(ff 60)::(ff 61)::(ff 62)::(ff 63)::(ff 64)::(ff 65)::(ff 66)::(ff 67)::(ff 68)::(ff 69)::(ff 70)::(ff 71)::(ff 72)::(ff 73)::(ff 74)::(ff 75)::(ff 76)::(ff 77)::(ff 78)::(ff 79)::(ff 80)::(ff 81)::(ff 82)::(ff 83)::(ff 84)::(ff 85)::(ff 86)::(ff 87)::(ff 88)::(ff 89)::(ff 90)::(ff 91)::(ff 92)::(ff 93)::(ff 94)::(ff 95)::(ff 96)::(ff 97)::(ff 98)::(ff 99)::(ff 100)::(ff 101)::(ff 102)::(ff 103)::(ff 104)::(ff 105)::(ff 106)::(ff 107)::(ff 108)::(ff 109)::(ff 110)::(ff 111)::(ff 112)::(ff 113)::(ff 114)::(ff 115)::(ff 116)::(ff 117)::(ff 118)::(ff 119)::(ff 120)::(ff 121)::(ff 122)::[ff 123,ff 124,ff 125,ff 126,ff 127,ff 128,ff 129,ff 130,ff 131,ff 132,ff 133,ff 134])) t ∧ h=Heap.none) ?_ ?_ ?_ ?_
    · exact forget_nil rfl
    · exact ⟨R1 / v1,R1 % v1,by have:=(starts Z.D2).ht; rw [← Z.hQ0] at this; omega,Z.hQ0 ▸ starts Z.D2,rfl,drop_nil _⟩
    · rintro j t h ⟨q,r,hq,G,rfl,rfl⟩
      have G':Gs v1 R1 q r ((R1 * 4294967296 + u0) / V):=Z.hQ0 ▸ G
      obtain ⟨q0,q1⟩:=qt_bd Z.D2
      rw [← Z.hQ0] at q0 q1
      obtain ⟨t1,t2⟩:=test2 G' (by omega) Z.D2
      obtain ⟨b1,b2,b3⟩:0 ≤ r ∧ r < 4294967296 ∧ q ≤ 4294967297:=⟨G.hr0,G.hr1,G.hq⟩
      obtain ⟨d1,d2⟩:0 ≤ v1 ∧ v1 < 4294967296:=⟨by have:=Z.D.h1; omega,Z.D.h1'⟩
      rcases Nat.eq_zero_or_pos j with c|c
      · have hn:=qt_ge Z.D2 G' (by rw [← Z.hQ0]; omega)
        have hqq:q=Q0:=by omega
        rw [hqq] at t1 hn ⊢
        clear G' G hq
        simp (maxSteps:=20000000) (disch:=omega) only [zzB,tys,ite_self,opnL,callB,callX,readsB,stepOp,nilCmp,ofVal,opBuiltin,opLen,PV.sk,scalBin,scalUn,intBin,opLoad,natOf,opConvert,opField,cellsP,oneP,Value.oneCell',opStore,toIV,scalT,scalA,scalC,boxesA,boxesC,zipB_none,zipB_mx,isZ,opZip,zeroP,opAppendZ,opMakeMap,opLookup,mboxB,opUpdate,↓reduceIte,Nat.reduceSub,Nat.reduceEqDiff,Nat.reduceAdd,Nat.reduceMul,Nat.reduceLT,Nat.reduceLeDiff,Int.reduceToNat,Int.reduceLE,Int.reduceLT,Int.reduceNeg,reduceCtorEq,gos,Int.reduceAdd,Int.reduceSub,Int.reduceMul,Int.reduceEq,t1,t2]
        exact Shape.of rfl
      · have dn:=down Z.D2 G' (by rw [← Z.hQ0]; omega)
        have dt:=dv_test Z.D2 G' (by rw [← Z.hQ0]; omega)
        rw [← Z.hQ0] at dn
        clear G' G
        by_cases c0:4294967296 ≤ q
        · by_cases c2:4294967296 ≤ r + v1
          · have hqq:=dn.1 c2
            clear dn dt
            simp (maxSteps:=20000000) (disch:=omega) only [zzB,tys,ite_self,opnL,callB,callX,readsB,stepOp,nilCmp,ofVal,opBuiltin,opLen,PV.sk,scalBin,scalUn,intBin,opLoad,natOf,opConvert,opField,cellsP,oneP,Value.oneCell',opStore,toIV,scalT,scalA,scalC,boxesA,boxesC,zipB_none,zipB_mx,isZ,opZip,zeroP,opAppendZ,opMakeMap,opLookup,mboxB,opUpdate,↓reduceIte,Nat.reduceSub,Nat.reduceEqDiff,Nat.reduceAdd,Nat.reduceMul,Nat.reduceLT,Nat.reduceLeDiff,Int.reduceToNat,Int.reduceLE,Int.reduceLT,Int.reduceNeg,reduceCtorEq,gos,Int.reduceAdd,Int.reduceSub,Int.reduceMul,Int.reduceEq,t1,t2,hqq]
            exact Shape.of rfl
          · have hG:=dn.2 (by omega)
            clear dn dt
            simp (maxSteps:=20000000) (disch:=omega) only [zzB,tys,ite_self,opnL,callB,callX,readsB,stepOp,nilCmp,ofVal,opBuiltin,opLen,PV.sk,scalBin,scalUn,intBin,opLoad,natOf,opConvert,opField,cellsP,oneP,Value.oneCell',opStore,toIV,scalT,scalA,scalC,boxesA,boxesC,zipB_none,zipB_mx,isZ,opZip,zeroP,opAppendZ,opMakeMap,opLookup,mboxB,opUpdate,↓reduceIte,Nat.reduceSub,Nat.reduceEqDiff,Nat.reduceAdd,Nat.reduceMul,Nat.reduceLT,Nat.reduceLeDiff,Int.reduceToNat,Int.reduceLE,Int.reduceLT,Int.reduceNeg,reduceCtorEq,gos,Int.reduceAdd,Int.reduceSub,Int.reduceMul,Int.reduceEq,t1,t2]
            refine ⟨j - 1,by omega,forget_nil rfl,⟨q - 1,r + v1,by omega,hG,?_,drop_nil _⟩⟩
            simp (maxSteps:=20000000) only [keepT,if_true,if_false,Bool.false_eq_true]
        · have c1:4294967296 * r + u0 < q * v0:=by
            rcases dt with c1|c1
            · omega
            · exact c1
          by_cases c2:4294967296 ≤ r + v1
          · have hqq:=dn.1 c2
            clear dn dt
            simp (maxSteps:=20000000) (disch:=omega) only [zzB,tys,ite_self,opnL,callB,callX,readsB,stepOp,nilCmp,ofVal,opBuiltin,opLen,PV.sk,scalBin,scalUn,intBin,opLoad,natOf,opConvert,opField,cellsP,oneP,Value.oneCell',opStore,toIV,scalT,scalA,scalC,boxesA,boxesC,zipB_none,zipB_mx,isZ,opZip,zeroP,opAppendZ,opMakeMap,opLookup,mboxB,opUpdate,↓reduceIte,Nat.reduceSub,Nat.reduceEqDiff,Nat.reduceAdd,Nat.reduceMul,Nat.reduceLT,Nat.reduceLeDiff,Int.reduceToNat,Int.reduceLE,Int.reduceLT,Int.reduceNeg,reduceCtorEq,gos,Int.reduceAdd,Int.reduceSub,Int.reduceMul,Int.reduceEq,t1,t2,hqq]
            exact Shape.of rfl
          · have hG:=dn.2 (by omega)
            clear dn dt
            simp (maxSteps:=20000000) (disch:=omega) only [zzB,tys,ite_self,opnL,callB,callX,readsB,stepOp,nilCmp,ofVal,opBuiltin,opLen,PV.sk,scalBin,scalUn,intBin,opLoad,natOf,opConvert,opField,cellsP,oneP,Value.oneCell',opStore,toIV,scalT,scalA,scalC,boxesA,boxesC,zipB_none,zipB_mx,isZ,opZip,zeroP,opAppendZ,opMakeMap,opLookup,mboxB,opUpdate,↓reduceIte,Nat.reduceSub,Nat.reduceEqDiff,Nat.reduceAdd,Nat.reduceMul,Nat.reduceLT,Nat.reduceLeDiff,Int.reduceToNat,Int.reduceLE,Int.reduceLT,Int.reduceNeg,reduceCtorEq,gos,Int.reduceAdd,Int.reduceSub,Int.reduceMul,Int.reduceEq,t1,t2]
            refine ⟨j - 1,by omega,forget_nil rfl,⟨q - 1,r + v1,by omega,hG,?_,drop_nil _⟩⟩
            simp (maxSteps:=20000000) only [keepT,if_true,if_false,Bool.false_eq_true]
    · rintro t h ⟨⟨ff,rfl⟩,rfl⟩

      simp (maxSteps:=20000000) (disch:=omega) only [zzB,tys,ite_self,opnL,callB,callX,readsB,stepOp,nilCmp,ofVal,opBuiltin,opLen,PV.sk,scalBin,scalUn,intBin,opLoad,natOf,opConvert,opField,cellsP,oneP,Value.oneCell',opStore,toIV,scalT,scalA,scalC,boxesA,boxesC,zipB_none,zipB_mx,isZ,opZip,zeroP,opAppendZ,opMakeMap,opLookup,mboxB,opUpdate,↓reduceIte,Nat.reduceSub,Nat.reduceEqDiff,Nat.reduceAdd,Nat.reduceMul,Nat.reduceLT,Nat.reduceLeDiff,Int.reduceToNat,Int.reduceLE,Int.reduceLT,Int.reduceNeg,reduceCtorEq,zzR,gos,Int.reduceAdd,Int.reduceSub,Int.reduceMul,Int.reduceEq,Z.hmin,Z.sM,Z.f1,Z.f2]
theorem div64_lo (lo y:Int) (h1:0 < y) (h2:y < 18446744073709551616) (h3:W64 lo) :
    CallsP Try.prog 138 [u64 0,u64 lo,u64 y] (.tup [u64 (lo / y),u64 (lo % y)]):=by
  obtain ⟨h3,h4⟩:=h3
  have b1:=Int.ediv_nonneg h3 (show 0 ≤ y by omega)
  have b2:lo / y ≤ lo:=Int.ediv_le_self _ h3
  refine CallsP.start (n:=135) (rs:=[.tmp 6,.tmp 7]) Try.func138 rfl rfl rfl fun base => ?_
  simp (maxSteps:=20000000) only [List.length_cons,List.length_nil,Nat.reduceAdd,Nat.reduceSub,List.replicate,List.cons_append,List.nil_append]
  simp (maxSteps:=20000000) (disch:=omega) only [zzB,tys,ite_self,opnL,callB,callX,readsB,stepOp,nilCmp,ofVal,opBuiltin,opLen,PV.sk,scalBin,scalUn,intBin,opLoad,natOf,opConvert,opField,cellsP,oneP,Value.oneCell',opStore,toIV,scalT,scalA,scalC,boxesA,boxesC,zipB_none,zipB_mx,isZ,opZip,zeroP,opAppendZ,opMakeMap,opLookup,mboxB,opUpdate,↓reduceIte,Nat.reduceSub,Nat.reduceEqDiff,Nat.reduceAdd,Nat.reduceMul,Nat.reduceLT,Nat.reduceLeDiff,Int.reduceToNat,Int.reduceLE,Int.reduceLT,Int.reduceNeg,reduceCtorEq,gos,Int.reduceAdd,Int.reduceSub,Int.reduceMul,Int.reduceEq]
  refine ⟨by kernel_rfl,?_⟩
  simp (maxSteps:=20000000) (disch:=omega) only [zzB,tys,ite_self,opnL,callB,callX,readsB,stepOp,nilCmp,ofVal,opBuiltin,opLen,PV.sk,scalBin,scalUn,intBin,opLoad,natOf,opConvert,opField,cellsP,oneP,Value.oneCell',opStore,toIV,scalT,scalA,scalC,boxesA,boxesC,zipB_none,zipB_mx,isZ,opZip,zeroP,opAppendZ,opMakeMap,opLookup,mboxB,opUpdate,↓reduceIte,Nat.reduceSub,Nat.reduceEqDiff,Nat.reduceAdd,Nat.reduceMul,Nat.reduceLT,Nat.reduceLeDiff,Int.reduceToNat,Int.reduceLE,Int.reduceLT,Int.reduceNeg,reduceCtorEq,zzR,gos,Int.reduceAdd,Int.reduceSub,Int.reduceMul,Int.reduceEq]
theorem div64_walk (hi lo y:Int) (h0:0 ≤ hi) (h1:hi < y) (h2:y < 18446744073709551616) (h3:W64 lo) :
    CallsP Try.prog 138 [u64 hi,u64 lo,u64 y] (.tup [u64 ((hi * 18446744073709551616 + lo) / y),u64 ((hi * 18446744073709551616 + lo) % y)]):=by
  by_cases c:hi=0
  · subst c
    rw [Int.zero_mul,Int.zero_add]
    exact div64_lo lo y h1 h2 h3
  · exact div64_hi hi lo y (by omega) h1 h2 h3
theorem rem64_walk (hi lo y:Int) (h0:0 ≤ hi) (h1:0 < y) (h2:y < 18446744073709551616) (h3:W64 lo) :
    CallsP Try.prog 134 [u64 hi,u64 lo,u64 y] (u64 ((hi * 18446744073709551616 + lo) % y)):=by
  have hm0:=Int.emod_nonneg hi (show y ≠ 0 by omega)
  have hm1:=Int.emod_lt_of_pos hi h1
  have ev:=div64_walk (hi % y) lo y hm0 hm1 h2 h3
  have e:(hi % y * 18446744073709551616 + lo) % y=(hi * 18446744073709551616 + lo) % y:=by
    rw [Int.add_emod,Int.mul_emod,Int.emod_emod_of_dvd hi (Int.dvd_refl y),← Int.mul_emod,← Int.add_emod]
  rw [e] at ev
  refine CallsP.start (n:=19) (rs:=[.tmp 6]) Try.func134 rfl rfl rfl fun base => ?_
  simp (maxSteps:=20000000) only [List.length_cons,List.length_nil,Nat.reduceAdd,Nat.reduceSub,List.replicate,List.cons_append,List.nil_append]
  simp (maxSteps:=20000000) (disch:=omega) only [zzB,tys,ite_self,opnL,callB,callX,readsB,stepOp,nilCmp,ofVal,opBuiltin,opLen,PV.sk,scalBin,scalUn,intBin,opLoad,natOf,opConvert,opField,cellsP,oneP,Value.oneCell',opStore,toIV,scalT,scalA,scalC,boxesA,boxesC,zipB_none,zipB_mx,isZ,opZip,zeroP,opAppendZ,opMakeMap,opLookup,mboxB,opUpdate,↓reduceIte,Nat.reduceSub,Nat.reduceEqDiff,Nat.reduceAdd,Nat.reduceMul,Nat.reduceLT,Nat.reduceLeDiff,Int.reduceToNat,Int.reduceLE,Int.reduceLT,Int.reduceNeg,reduceCtorEq,gos,Int.reduceAdd,Int.reduceSub,Int.reduceMul,Int.reduceEq]
  refine K_call_pure (ev) rfl rfl (by simp only [tys]) (by first|rfl|simp [sim7,ofVal,undefP,zzL,if_true,if_false,ite_self,Nat.reduceEqDiff,Nat.reduceMul,Nat.reduceAdd,reduceCtorEq]) ?_
  simp (maxSteps:=20000000) (disch:=omega) only [zzB,tys,ite_self,opnL,callB,callX,readsB,stepOp,nilCmp,ofVal,opBuiltin,opLen,PV.sk,scalBin,scalUn,intBin,opLoad,natOf,opConvert,opField,cellsP,oneP,Value.oneCell',opStore,toIV,scalT,scalA,scalC,boxesA,boxesC,zipB_none,zipB_mx,isZ,opZip,zeroP,opAppendZ,opMakeMap,opLookup,mboxB,opUpdate,↓reduceIte,Nat.reduceSub,Nat.reduceEqDiff,Nat.reduceAdd,Nat.reduceMul,Nat.reduceLT,Nat.reduceLeDiff,Int.reduceToNat,Int.reduceLE,Int.reduceLT,Int.reduceNeg,reduceCtorEq,zzR,gos,Int.reduceAdd,Int.reduceSub,Int.reduceMul,Int.reduceEq]
end Go.Proofs.Ytmalpmnmknpphaa.TM
namespace Go.Proofs.Ytmalpmnmknpphaa.TM
open Go Go.RowKit
theorem take_next {α:Type} {a b:List α} {j:Nat} (h1:j < a.length) (h2:j < b.length) (h:a.take j=b.take j) (e:a[j]=b[j]):a.take (j + 1)=b.take (j + 1):=by
  rw [List.take_succ_eq_append_getElem h1,List.take_succ_eq_append_getElem h2,h,e]
theorem right_walk (p:Int):CallsP Try.prog 99 [u64 p] (bl (RightB p)):=by
  by_cases c1:2 ≤ p
  · by_cases c2:p < 9223372036854775808
    · rw [show RightB p=true by simp [RightB,c1,c2]]
      refine CallsP.start (n:=9) (rs:=[.tmp 2]) Try.func99 rfl rfl rfl fun base => ?_
      simp (maxSteps:=20000000) only [List.length_cons,List.length_nil,Nat.reduceAdd,Nat.reduceSub,List.replicate,List.cons_append,List.nil_append]
      simp (maxSteps:=20000000) (disch:=omega) only [zzB,tys,ite_self,opnL,callB,callX,readsB,stepOp,nilCmp,ofVal,opBuiltin,opLen,PV.sk,scalBin,scalUn,intBin,opLoad,natOf,opConvert,opField,cellsP,oneP,Value.oneCell',opStore,toIV,scalT,scalA,scalC,boxesA,boxesC,zipB_none,zipB_mx,isZ,opZip,zeroP,opAppendZ,opMakeMap,opLookup,mboxB,opUpdate,↓reduceIte,Nat.reduceSub,Nat.reduceEqDiff,Nat.reduceAdd,Nat.reduceMul,Nat.reduceLT,Nat.reduceLeDiff,Int.reduceToNat,Int.reduceLE,Int.reduceLT,Int.reduceNeg,reduceCtorEq,zzR,gos,Int.reduceAdd,Int.reduceSub,Int.reduceMul,Int.reduceEq]
    · rw [show RightB p=false by simp [RightB,c2]]
      refine CallsP.start (n:=9) (rs:=[.tmp 2]) Try.func99 rfl rfl rfl fun base => ?_
      simp (maxSteps:=20000000) only [List.length_cons,List.length_nil,Nat.reduceAdd,Nat.reduceSub,List.replicate,List.cons_append,List.nil_append]
      simp (maxSteps:=20000000) (disch:=omega) only [zzB,tys,ite_self,opnL,callB,callX,readsB,stepOp,nilCmp,ofVal,opBuiltin,opLen,PV.sk,scalBin,scalUn,intBin,opLoad,natOf,opConvert,opField,cellsP,oneP,Value.oneCell',opStore,toIV,scalT,scalA,scalC,boxesA,boxesC,zipB_none,zipB_mx,isZ,opZip,zeroP,opAppendZ,opMakeMap,opLookup,mboxB,opUpdate,↓reduceIte,Nat.reduceSub,Nat.reduceEqDiff,Nat.reduceAdd,Nat.reduceMul,Nat.reduceLT,Nat.reduceLeDiff,Int.reduceToNat,Int.reduceLE,Int.reduceLT,Int.reduceNeg,reduceCtorEq,zzR,gos,Int.reduceAdd,Int.reduceSub,Int.reduceMul,Int.reduceEq]
  · rw [show RightB p=false by simp [RightB,c1]]
    refine CallsP.start (n:=9) (rs:=[.tmp 2]) Try.func99 rfl rfl rfl fun base => ?_
    simp (maxSteps:=20000000) only [List.length_cons,List.length_nil,Nat.reduceAdd,Nat.reduceSub,List.replicate,List.cons_append,List.nil_append]
    simp (maxSteps:=20000000) (disch:=omega) only [zzB,tys,ite_self,opnL,callB,callX,readsB,stepOp,nilCmp,ofVal,opBuiltin,opLen,PV.sk,scalBin,scalUn,intBin,opLoad,natOf,opConvert,opField,cellsP,oneP,Value.oneCell',opStore,toIV,scalT,scalA,scalC,boxesA,boxesC,zipB_none,zipB_mx,isZ,opZip,zeroP,opAppendZ,opMakeMap,opLookup,mboxB,opUpdate,↓reduceIte,Nat.reduceSub,Nat.reduceEqDiff,Nat.reduceAdd,Nat.reduceMul,Nat.reduceLT,Nat.reduceLeDiff,Int.reduceToNat,Int.reduceLE,Int.reduceLT,Int.reduceNeg,reduceCtorEq,zzR,gos,Int.reduceAdd,Int.reduceSub,Int.reduceMul,Int.reduceEq]
end Go.Proofs.Ytmalpmnmknpphaa.TM
namespace Go.Proofs.Ytmalpmnmknpphaa.TM
open Go Go.RowKit
attribute [local irreducible] K W WOps Effs Xg Xo Xr Xdg Xdo Xdr Xif CallsP CallR
theorem all_take {l:List Int} {p:Int} {j:Nat} (h:j < l.length):(l.take (j + 1)).all (fun a => decide (a < p))=((l.take j).all (fun a => decide (a < p)) && decide (l[j] < p)):=by
  rw [List.take_succ_eq_append_getElem h,List.all_append]; simp
theorem has_no {l:List Int} {p:Int} {j:Nat} (h:j < l.length) (hp:p ≤ l[j]):HasB p l=false:=by
  have:l.all (fun a => decide (a < p))=false:=by
    rw [List.all_eq_false]
    exact ⟨l[j],List.getElem_mem h,by simp; omega⟩
  rw [HasB,this]; rfl
theorem has_walk (p:Int) (l:List Int) (hl:l.length ≤ maxLen):CallsP Try.prog 66 [u64 p,lu l] (bl (HasB p l)):=by
  rw [mx_len] at hl
  have r:=right_walk p
  refine X_startP (n:=19) (m:=2) (rs:=[.tmp 4]) Try.func66 rfl rfl rfl rfl (by decide) fun base => ?_
  repeat (first|refine X_opc rfl ?_|refine X_dopc rfl ?_|refine ⟨(by show drawK _ _=true; kernel_rfl:drawX _ _ _),?_⟩|exact (by show drawK _ _=true; kernel_rfl:drawX _ _ _)|simp -dsimp (maxSteps:=20000000) (disch:=omega) only [simx,zzC,zzB,tys,ite_self,opnL,callB,callX,readsB,stepOp,nilCmp,ofVal,opBuiltin,opLen,PV.sk,scalBin,scalUn,intBin,opLoad,natOf,opConvert,opField,cellsP,oneP,Value.oneCell',opStore,toIV,scalT,scalA,scalC,boxesA,boxesC,zipB_none,zipB_mx,isZ,opZip,zeroP,opAppendZ,opMakeMap,opLookup,mboxB,opUpdate,↓reduceIte,Nat.reduceSub,Nat.reduceEqDiff,Nat.reduceAdd,Nat.reduceMul,Nat.reduceLT,Nat.reduceLeDiff,Int.reduceToNat,Int.reduceLE,Int.reduceLT,Int.reduceNeg,reduceCtorEq,gos,Int.reduceAdd,Int.reduceSub,Int.reduceMul,Int.reduceEq])
  refine X_loopH [0,7,8,9] [] (0) (l.length) (fun j => (l.take j).all (fun a => decide (a < p))=true) (fun j => [(9,i64 j)]) (fun j => Heap.none) ?_ ?_ ?_ ?_ ?_ (by decide) ?_
  · exact (fgt_nil)
  · ((simp -dsimp (disch:=omega) only [simx,zzB,tys,ite_self,opnL,callB,callX,readsB,stepOp,nilCmp,ofVal,opBuiltin,opLen,PV.sk,scalBin,scalUn,intBin,opLoad,natOf,opConvert,opField,cellsP,oneP,Value.oneCell',opStore,toIV,scalT,scalA,scalC,boxesA,boxesC,zipB_none,zipB_mx,isZ,opZip,zeroP,opAppendZ,opMakeMap,opLookup,mboxB,opUpdate,↓reduceIte,Nat.reduceSub,Nat.reduceEqDiff,Nat.reduceAdd,Nat.reduceMul,Nat.reduceLT,Nat.reduceLeDiff,Int.reduceToNat,Int.reduceLE,Int.reduceLT,Int.reduceNeg,reduceCtorEq,gos,Int.reduceAdd,Int.reduceSub,Int.reduceMul,Int.reduceEq]) <;> first|rfl|simp)
  · exact drop_nil _
  · omega
  · rfl
  · intro j hj hf
    by_cases c:j < l.length
    · have g1:l[j]?=some l[j]:=List.getElem?_eq_getElem c
      by_cases e:p ≤ l[j]
      · rw [has_no c e]
        repeat (first|refine X_opc rfl ?_|refine X_dopc rfl ?_|refine ⟨(by show drawK _ _=true; kernel_rfl:drawX _ _ _),?_⟩|exact (by show drawK _ _=true; kernel_rfl:drawX _ _ _)|simp -dsimp (maxSteps:=20000000) (disch:=omega) only [simx,zzC,zzB,tys,ite_self,opnL,callB,callX,readsB,stepOp,nilCmp,ofVal,opBuiltin,opLen,PV.sk,scalBin,scalUn,intBin,opLoad,natOf,opConvert,opField,cellsP,oneP,Value.oneCell',opStore,toIV,scalT,scalA,scalC,boxesA,boxesC,zipB_none,zipB_mx,isZ,opZip,zeroP,opAppendZ,opMakeMap,opLookup,mboxB,opUpdate,↓reduceIte,Nat.reduceSub,Nat.reduceEqDiff,Nat.reduceAdd,Nat.reduceMul,Nat.reduceLT,Nat.reduceLeDiff,Int.reduceToNat,Int.reduceLE,Int.reduceLT,Int.reduceNeg,reduceCtorEq,zzR,gos,Int.reduceAdd,Int.reduceSub,Int.reduceMul,Int.reduceEq,c,g1])
      · have nx:(l.take (j + 1)).all (fun a => decide (a < p))=true:=by rw [all_take c,hf]; simp; omega
        repeat (first|refine X_opc rfl ?_|refine X_dopc rfl ?_|refine ⟨(by show drawK _ _=true; kernel_rfl:drawX _ _ _),?_⟩|exact (by show drawK _ _=true; kernel_rfl:drawX _ _ _)|simp -dsimp (maxSteps:=20000000) (disch:=omega) only [simx,zzC,zzB,tys,ite_self,opnL,callB,callX,readsB,stepOp,nilCmp,ofVal,opBuiltin,opLen,PV.sk,scalBin,scalUn,intBin,opLoad,natOf,opConvert,opField,cellsP,oneP,Value.oneCell',opStore,toIV,scalT,scalA,scalC,boxesA,boxesC,zipB_none,zipB_mx,isZ,opZip,zeroP,opAppendZ,opMakeMap,opLookup,mboxB,opUpdate,↓reduceIte,Nat.reduceSub,Nat.reduceEqDiff,Nat.reduceAdd,Nat.reduceMul,Nat.reduceLT,Nat.reduceLeDiff,Int.reduceToNat,Int.reduceLE,Int.reduceLT,Int.reduceNeg,reduceCtorEq,gos,Int.reduceAdd,Int.reduceSub,Int.reduceMul,Int.reduceEq,c,g1])
        exact ⟨c,(fgt_nil),nx,rfl,drop_nil _⟩
    · have hj:j=l.length:=by omega
      subst hj
      rw [show HasB p l=RightB p by rw [List.take_length] at hf; simp [HasB,hf]]
      repeat (first|((first|refine X_call_fn2 rfl (by simp only [tys]) ?_|refine X_dcall_fn2 rfl (by simp only [tys]) ?_); apply Exists.intro; apply And.intro; (focus (simp -dsimp only [simx,zzC,zzB,tys,ite_self,opnL,callB,callX,readsB,stepOp,nilCmp,ofVal,opBuiltin,opLen,PV.sk,scalBin,scalUn,intBin,opLoad,natOf,opConvert,opField,cellsP,oneP,Value.oneCell',opStore,toIV,scalT,scalA,scalC,boxesA,boxesC,zipB_none,zipB_mx,isZ,opZip,zeroP,opAppendZ,opMakeMap,opLookup,mboxB,opUpdate,↓reduceIte,Nat.reduceSub,Nat.reduceEqDiff,Nat.reduceAdd,Nat.reduceMul,Nat.reduceLT,Nat.reduceLeDiff,Int.reduceToNat,Int.reduceLE,Int.reduceLT,Int.reduceNeg,reduceCtorEq,zzL,if_true,if_false] <;> rfl)); apply Exists.intro; apply And.intro; (focus (first|exact r)))|refine X_opc rfl ?_|refine X_dopc rfl ?_|refine ⟨(by show drawK _ _=true; kernel_rfl:drawX _ _ _),?_⟩|exact (by show drawK _ _=true; kernel_rfl:drawX _ _ _)|simp -dsimp (maxSteps:=20000000) (disch:=omega) only [simx,zzC,zzB,tys,ite_self,opnL,callB,callX,readsB,stepOp,nilCmp,ofVal,opBuiltin,opLen,PV.sk,scalBin,scalUn,intBin,opLoad,natOf,opConvert,opField,cellsP,oneP,Value.oneCell',opStore,toIV,scalT,scalA,scalC,boxesA,boxesC,zipB_none,zipB_mx,isZ,opZip,zeroP,opAppendZ,opMakeMap,opLookup,mboxB,opUpdate,↓reduceIte,Nat.reduceSub,Nat.reduceEqDiff,Nat.reduceAdd,Nat.reduceMul,Nat.reduceLT,Nat.reduceLeDiff,Int.reduceToNat,Int.reduceLE,Int.reduceLT,Int.reduceNeg,reduceCtorEq,zzR,gos,Int.reduceAdd,Int.reduceSub,Int.reduceMul,Int.reduceEq])
def Md (p:Int):Prop:=2 ≤ p ∧ p < 9223372036854775808
theorem addm_lt {p a b:Int} (ha:In p a) (hb:In p b) (h:a + b < p):(a + b) % p=a + b:=Int.emod_eq_of_lt (by have:=ha.1; have:=hb.1; omega) h
theorem addm_ge {p a b:Int} (ha:In p a) (hb:In p b) (h:¬ a + b < p):(a + b) % p=a + b - p:=by
  have h1:(a + b) % p=(a + b - p) % p:=by rw [Int.sub_emod_right]
  have:=ha.2; have:=hb.2
  rw [h1]; exact Int.emod_eq_of_lt (by omega) (by omega)
theorem add_walk (p a b:Int) (hp:Md p) (ha:In p a) (hb:In p b):CallsP Try.prog 113 [u64 p,u64 a,u64 b] (u64 ((a + b) % p)):=by
  obtain ⟨h1,h2⟩:=hp
  by_cases c:a + b < p
  · rw [addm_lt ha hb c]
    obtain ⟨a1,a2⟩:=ha; obtain ⟨b1,b2⟩:=hb
    refine X_startP (n:=20) (m:=3) (rs:=[.tmp 6]) Try.func113 rfl rfl rfl rfl (by decide) fun base => ?_
    repeat (first|refine X_opc rfl ?_|refine X_dopc rfl ?_|refine ⟨(by show drawK _ _=true; kernel_rfl:drawX _ _ _),?_⟩|exact (by show drawK _ _=true; kernel_rfl:drawX _ _ _)|simp -dsimp (maxSteps:=20000000) (disch:=omega) only [simx,zzC,zzB,tys,ite_self,opnL,callB,callX,readsB,stepOp,nilCmp,ofVal,opBuiltin,opLen,PV.sk,scalBin,scalUn,intBin,opLoad,natOf,opConvert,opField,cellsP,oneP,Value.oneCell',opStore,toIV,scalT,scalA,scalC,boxesA,boxesC,zipB_none,zipB_mx,isZ,opZip,zeroP,opAppendZ,opMakeMap,opLookup,mboxB,opUpdate,↓reduceIte,Nat.reduceSub,Nat.reduceEqDiff,Nat.reduceAdd,Nat.reduceMul,Nat.reduceLT,Nat.reduceLeDiff,Int.reduceToNat,Int.reduceLE,Int.reduceLT,Int.reduceNeg,reduceCtorEq,zzR,gos,Int.reduceAdd,Int.reduceSub,Int.reduceMul,Int.reduceEq])
  · rw [addm_ge ha hb c]
    obtain ⟨a1,a2⟩:=ha; obtain ⟨b1,b2⟩:=hb
    refine X_startP (n:=20) (m:=3) (rs:=[.tmp 6]) Try.func113 rfl rfl rfl rfl (by decide) fun base => ?_
    repeat (first|refine X_opc rfl ?_|refine X_dopc rfl ?_|refine ⟨(by show drawK _ _=true; kernel_rfl:drawX _ _ _),?_⟩|exact (by show drawK _ _=true; kernel_rfl:drawX _ _ _)|simp -dsimp (maxSteps:=20000000) (disch:=omega) only [simx,zzC,zzB,tys,ite_self,opnL,callB,callX,readsB,stepOp,nilCmp,ofVal,opBuiltin,opLen,PV.sk,scalBin,scalUn,intBin,opLoad,natOf,opConvert,opField,cellsP,oneP,Value.oneCell',opStore,toIV,scalT,scalA,scalC,boxesA,boxesC,zipB_none,zipB_mx,isZ,opZip,zeroP,opAppendZ,opMakeMap,opLookup,mboxB,opUpdate,↓reduceIte,Nat.reduceSub,Nat.reduceEqDiff,Nat.reduceAdd,Nat.reduceMul,Nat.reduceLT,Nat.reduceLeDiff,Int.reduceToNat,Int.reduceLE,Int.reduceLT,Int.reduceNeg,reduceCtorEq,zzR,gos,Int.reduceAdd,Int.reduceSub,Int.reduceMul,Int.reduceEq])
theorem mul_walk (p a b:Int) (hp:Md p) (ha:In p a) (hb:In p b):CallsP Try.prog 114 [u64 p,u64 a,u64 b] (u64 (a * b % p)):=by
  obtain ⟨h1,h2⟩:=hp
  obtain ⟨a1,a2⟩:=ha; obtain ⟨b1,b2⟩:=hb
  have m:=mul_bd (a:=a) (b:=b) (m:=9223372036854775807) (n:=9223372036854775807) a1 b1 (by omega) (by omega)
  have d1:=mul64_walk a b ⟨a1,by omega⟩ ⟨b1,by omega⟩
  have d2:=rem64_walk (a * b / 18446744073709551616) (a * b % 18446744073709551616) p (by omega) (by omega) (by omega) ⟨by omega,by omega⟩
  rw [show a * b / 18446744073709551616 * 18446744073709551616 + a * b % 18446744073709551616=a * b by omega] at d2
  refine X_startP (n:=19) (m:=3) (rs:=[.tmp 6]) Try.func114 rfl rfl rfl rfl (by decide) fun base => ?_
  repeat (first|((first|refine X_call_fn2 rfl (by simp only [tys]) ?_|refine X_dcall_fn2 rfl (by simp only [tys]) ?_); apply Exists.intro; apply And.intro; (focus (simp -dsimp only [simx,zzC,zzB,tys,ite_self,opnL,callB,callX,readsB,stepOp,nilCmp,ofVal,opBuiltin,opLen,PV.sk,scalBin,scalUn,intBin,opLoad,natOf,opConvert,opField,cellsP,oneP,Value.oneCell',opStore,toIV,scalT,scalA,scalC,boxesA,boxesC,zipB_none,zipB_mx,isZ,opZip,zeroP,opAppendZ,opMakeMap,opLookup,mboxB,opUpdate,↓reduceIte,Nat.reduceSub,Nat.reduceEqDiff,Nat.reduceAdd,Nat.reduceMul,Nat.reduceLT,Nat.reduceLeDiff,Int.reduceToNat,Int.reduceLE,Int.reduceLT,Int.reduceNeg,reduceCtorEq,zzL,if_true,if_false] <;> rfl)); apply Exists.intro; apply And.intro; (focus (first|exact d1|exact d2)))|refine X_opc rfl ?_|refine X_dopc rfl ?_|refine ⟨(by show drawK _ _=true; kernel_rfl:drawX _ _ _),?_⟩|exact (by show drawK _ _=true; kernel_rfl:drawX _ _ _)|simp -dsimp (maxSteps:=20000000) (disch:=omega) only [simx,zzC,zzB,tys,ite_self,opnL,callB,callX,readsB,stepOp,nilCmp,ofVal,opBuiltin,opLen,PV.sk,scalBin,scalUn,intBin,opLoad,natOf,opConvert,opField,cellsP,oneP,Value.oneCell',opStore,toIV,scalT,scalA,scalC,boxesA,boxesC,zipB_none,zipB_mx,isZ,opZip,zeroP,opAppendZ,opMakeMap,opLookup,mboxB,opUpdate,↓reduceIte,Nat.reduceSub,Nat.reduceEqDiff,Nat.reduceAdd,Nat.reduceMul,Nat.reduceLT,Nat.reduceLeDiff,Int.reduceToNat,Int.reduceLE,Int.reduceLT,Int.reduceNeg,reduceCtorEq,zzR,gos,Int.reduceAdd,Int.reduceSub,Int.reduceMul,Int.reduceEq])
theorem radd_walk (p a b:Int) (hp:Md p) (ha:In p a) (hb:In p b):CallsP Try.prog 125 [u64 p,u64 a,u64 b] (u64 ((a + b) % p)):=by
  obtain ⟨h1,h2⟩:=hp
  obtain ⟨a1,a2⟩:=ha; obtain ⟨b1,b2⟩:=hb
  refine X_startP (n:=12) (m:=3) (rs:=[.tmp 6]) Try.func125 rfl rfl rfl rfl (by decide) fun base => ?_
  repeat (first|refine X_opc rfl ?_|refine X_dopc rfl ?_|refine ⟨(by show drawK _ _=true; kernel_rfl:drawX _ _ _),?_⟩|exact (by show drawK _ _=true; kernel_rfl:drawX _ _ _)|simp -dsimp (maxSteps:=20000000) (disch:=omega) only [simx,zzC,zzB,tys,ite_self,opnL,callB,callX,readsB,stepOp,nilCmp,ofVal,opBuiltin,opLen,PV.sk,scalBin,scalUn,intBin,opLoad,natOf,opConvert,opField,cellsP,oneP,Value.oneCell',opStore,toIV,scalT,scalA,scalC,boxesA,boxesC,zipB_none,zipB_mx,isZ,opZip,zeroP,opAppendZ,opMakeMap,opLookup,mboxB,opUpdate,↓reduceIte,Nat.reduceSub,Nat.reduceEqDiff,Nat.reduceAdd,Nat.reduceMul,Nat.reduceLT,Nat.reduceLeDiff,Int.reduceToNat,Int.reduceLE,Int.reduceLT,Int.reduceNeg,reduceCtorEq,zzR,gos,Int.reduceAdd,Int.reduceSub,Int.reduceMul,Int.reduceEq])
theorem half_mul (p a b:Int) (hb:0 ≤ b) (h:b % 2=0):(a * (b / 2) % p + a * (b / 2) % p) % p=a * b % p:=by
  rw [am_l,am_r]
  congr 1
  have:b=2 * (b / 2):=by omega
  rw [show a * b=a * (2 * (b / 2)) by rw [← this]]
  grind
theorem half_mul1 (p a b:Int) (hb:0 ≤ b) (h:b % 2=1):((a * (b / 2) % p + a * (b / 2) % p) % p + a) % p=a * b % p:=by
  rw [am_l,Int.add_assoc,am_l,Int.add_left_comm,am_l]
  congr 1
  have:b=2 * (b / 2) + 1:=by omega
  rw [show a * b=a * (2 * (b / 2) + 1) by rw [← this]]
  grind
theorem rmul_walk (p a:Int) (hp:Md p) (ha:In p a):∀ (n:Nat) (b:Int),0 ≤ b → b < 18446744073709551616 → b.toNat ≤ n → CallsP Try.prog 91 [u64 p,u64 a,u64 b] (u64 (a * b % p)):=by
  intro n
  induction n with
  | zero =>
    intro b b1 b2 hn
    have:b=0:=by omega
    subst this
    rw [Int.mul_zero,Int.zero_emod]
    refine X_startP (n:=27) (m:=3) (rs:=[.tmp 6]) Try.func91 rfl rfl rfl rfl (by decide) fun base => ?_
    repeat (first|refine X_opc rfl ?_|refine X_dopc rfl ?_|refine ⟨(by show drawK _ _=true; kernel_rfl:drawX _ _ _),?_⟩|exact (by show drawK _ _=true; kernel_rfl:drawX _ _ _)|simp -dsimp (maxSteps:=20000000) (disch:=omega) only [simx,zzC,zzB,tys,ite_self,opnL,callB,callX,readsB,stepOp,nilCmp,ofVal,opBuiltin,opLen,PV.sk,scalBin,scalUn,intBin,opLoad,natOf,opConvert,opField,cellsP,oneP,Value.oneCell',opStore,toIV,scalT,scalA,scalC,boxesA,boxesC,zipB_none,zipB_mx,isZ,opZip,zeroP,opAppendZ,opMakeMap,opLookup,mboxB,opUpdate,↓reduceIte,Nat.reduceSub,Nat.reduceEqDiff,Nat.reduceAdd,Nat.reduceMul,Nat.reduceLT,Nat.reduceLeDiff,Int.reduceToNat,Int.reduceLE,Int.reduceLT,Int.reduceNeg,reduceCtorEq,zzR,gos,Int.reduceAdd,Int.reduceSub,Int.reduceMul,Int.reduceEq])
  | succ n ih =>
    intro b b1 b2 hn
    by_cases c:b=0
    · subst c
      rw [Int.mul_zero,Int.zero_emod]
      refine X_startP (n:=27) (m:=3) (rs:=[.tmp 6]) Try.func91 rfl rfl rfl rfl (by decide) fun base => ?_
      repeat (first|refine X_opc rfl ?_|refine X_dopc rfl ?_|refine ⟨(by show drawK _ _=true; kernel_rfl:drawX _ _ _),?_⟩|exact (by show drawK _ _=true; kernel_rfl:drawX _ _ _)|simp -dsimp (maxSteps:=20000000) (disch:=omega) only [simx,zzC,zzB,tys,ite_self,opnL,callB,callX,readsB,stepOp,nilCmp,ofVal,opBuiltin,opLen,PV.sk,scalBin,scalUn,intBin,opLoad,natOf,opConvert,opField,cellsP,oneP,Value.oneCell',opStore,toIV,scalT,scalA,scalC,boxesA,boxesC,zipB_none,zipB_mx,isZ,opZip,zeroP,opAppendZ,opMakeMap,opLookup,mboxB,opUpdate,↓reduceIte,Nat.reduceSub,Nat.reduceEqDiff,Nat.reduceAdd,Nat.reduceMul,Nat.reduceLT,Nat.reduceLeDiff,Int.reduceToNat,Int.reduceLE,Int.reduceLT,Int.reduceNeg,reduceCtorEq,zzR,gos,Int.reduceAdd,Int.reduceSub,Int.reduceMul,Int.reduceEq])
    · have r:=ih (b / 2) (by omega) (by omega) (by omega)
      have hp1:=hp.1
      have i1:=emod_in (p:=p) (a * (b / 2)) (by omega)
      have d1:=radd_walk p _ _ hp i1 i1
      by_cases e:b % 2=0
      · rw [half_mul p a b b1 e] at d1
        clear i1 ih
        refine X_startP (n:=27) (m:=3) (rs:=[.tmp 6]) Try.func91 rfl rfl rfl rfl (by decide) fun base => ?_
        repeat (first|((first|refine X_call_fn2 rfl (by simp only [tys]) ?_|refine X_dcall_fn2 rfl (by simp only [tys]) ?_); apply Exists.intro; apply And.intro; (focus (simp -dsimp only [simx,zzC,zzB,tys,ite_self,opnL,callB,callX,readsB,stepOp,nilCmp,ofVal,opBuiltin,opLen,PV.sk,scalBin,scalUn,intBin,opLoad,natOf,opConvert,opField,cellsP,oneP,Value.oneCell',opStore,toIV,scalT,scalA,scalC,boxesA,boxesC,zipB_none,zipB_mx,isZ,opZip,zeroP,opAppendZ,opMakeMap,opLookup,mboxB,opUpdate,↓reduceIte,Nat.reduceSub,Nat.reduceEqDiff,Nat.reduceAdd,Nat.reduceMul,Nat.reduceLT,Nat.reduceLeDiff,Int.reduceToNat,Int.reduceLE,Int.reduceLT,Int.reduceNeg,reduceCtorEq,zzL,if_true,if_false] <;> rfl)); apply Exists.intro; apply And.intro; (focus (first|exact r|exact d1)))|refine X_opc rfl ?_|refine X_dopc rfl ?_|refine ⟨(by show drawK _ _=true; kernel_rfl:drawX _ _ _),?_⟩|exact (by show drawK _ _=true; kernel_rfl:drawX _ _ _)|simp -dsimp (maxSteps:=20000000) (disch:=omega) only [simx,zzC,zzB,tys,ite_self,opnL,callB,callX,readsB,stepOp,nilCmp,ofVal,opBuiltin,opLen,PV.sk,scalBin,scalUn,intBin,opLoad,natOf,opConvert,opField,cellsP,oneP,Value.oneCell',opStore,toIV,scalT,scalA,scalC,boxesA,boxesC,zipB_none,zipB_mx,isZ,opZip,zeroP,opAppendZ,opMakeMap,opLookup,mboxB,opUpdate,↓reduceIte,Nat.reduceSub,Nat.reduceEqDiff,Nat.reduceAdd,Nat.reduceMul,Nat.reduceLT,Nat.reduceLeDiff,Int.reduceToNat,Int.reduceLE,Int.reduceLT,Int.reduceNeg,reduceCtorEq,zzR,gos,Int.reduceAdd,Int.reduceSub,Int.reduceMul,Int.reduceEq])
      · have e1:b % 2=1:=by omega
        have i2:=emod_in (p:=p) (a * (b / 2) % p + a * (b / 2) % p) (by omega)
        have d2:=radd_walk p _ _ hp i2 ha
        rw [half_mul1 p a b b1 e1] at d2
        clear i1 i2 ih
        refine X_startP (n:=27) (m:=3) (rs:=[.tmp 6]) Try.func91 rfl rfl rfl rfl (by decide) fun base => ?_
        repeat (first|((first|refine X_call_fn2 rfl (by simp only [tys]) ?_|refine X_dcall_fn2 rfl (by simp only [tys]) ?_); apply Exists.intro; apply And.intro; (focus (simp -dsimp only [simx,zzC,zzB,tys,ite_self,opnL,callB,callX,readsB,stepOp,nilCmp,ofVal,opBuiltin,opLen,PV.sk,scalBin,scalUn,intBin,opLoad,natOf,opConvert,opField,cellsP,oneP,Value.oneCell',opStore,toIV,scalT,scalA,scalC,boxesA,boxesC,zipB_none,zipB_mx,isZ,opZip,zeroP,opAppendZ,opMakeMap,opLookup,mboxB,opUpdate,↓reduceIte,Nat.reduceSub,Nat.reduceEqDiff,Nat.reduceAdd,Nat.reduceMul,Nat.reduceLT,Nat.reduceLeDiff,Int.reduceToNat,Int.reduceLE,Int.reduceLT,Int.reduceNeg,reduceCtorEq,zzL,if_true,if_false] <;> rfl)); apply Exists.intro; apply And.intro; (focus (first|exact r|exact d1|exact d2)))|refine X_opc rfl ?_|refine X_dopc rfl ?_|refine ⟨(by show drawK _ _=true; kernel_rfl:drawX _ _ _),?_⟩|exact (by show drawK _ _=true; kernel_rfl:drawX _ _ _)|simp -dsimp (maxSteps:=20000000) (disch:=omega) only [simx,zzC,zzB,tys,ite_self,opnL,callB,callX,readsB,stepOp,nilCmp,ofVal,opBuiltin,opLen,PV.sk,scalBin,scalUn,intBin,opLoad,natOf,opConvert,opField,cellsP,oneP,Value.oneCell',opStore,toIV,scalT,scalA,scalC,boxesA,boxesC,zipB_none,zipB_mx,isZ,opZip,zeroP,opAppendZ,opMakeMap,opLookup,mboxB,opUpdate,↓reduceIte,Nat.reduceSub,Nat.reduceEqDiff,Nat.reduceAdd,Nat.reduceMul,Nat.reduceLT,Nat.reduceLeDiff,Int.reduceToNat,Int.reduceLE,Int.reduceLT,Int.reduceNeg,reduceCtorEq,zzR,gos,Int.reduceAdd,Int.reduceSub,Int.reduceMul,Int.reduceEq])
end Go.Proofs.Ytmalpmnmknpphaa.TM
namespace Go.Proofs.Ytmalpmnmknpphaa.TM
open Go Go.RowKit
noncomputable def finv (p a:Int):Int:=by
  classical exact if h:∃ x,In p x ∧ a * x % p=1 then h.choose else 0
theorem finv_spec {p a x:Int} (hx:In p x) (h:a * x % p=1):finv p a=x:=by
  have hex:∃ x,In p x ∧ a * x % p=1:=⟨x,hx,h⟩
  have hd:finv p a=hex.choose:=by unfold finv; rw [dif_pos hex]
  obtain ⟨h1,h2⟩:=hex.choose_spec
  rw [hd]
  generalize hex.choose=y at h1 h2
  have e1:y * (a * x % p) % p=y:=by rw [h,Int.mul_one,h1.emod]
  have e2:x * (a * y % p) % p=x:=by rw [h2,Int.mul_one,hx.emod]
  have e3:y * (a * x % p) % p=x * (a * y % p) % p:=by
    rw [mm_r,mm_r]
    congr 1
    grind
  rw [← e1,e3,e2]
noncomputable def invR (p a:Int):Int × Int:=if Int.gcd p a=1 then (finv p a,0) else (0,5)
structure Eu (p a r s x y:Int):Prop where
  hs0:0 ≤ s
  hsr:s < r
  hrp:r ≤ p
  hg:Int.gcd r s=Int.gcd p a
  hx:∃ z,x * a=r + z * p
  hy:∃ z,y * a=s + z * p
  hsg:(0 ≤ x ∧ y ≤ 0 ∧ -y * r + x * s=p) ∨ (x ≤ 0 ∧ 0 ≤ y ∧ y * r + -x * s=p)
  hx2:2 * x ≤ p ∧ -(2 * x) ≤ p
theorem eu_next {p a r s x y:Int} (h:Eu p a r s x y) (hp:p < 9223372036854775808) (h0:s ≠ 0) :
    Eu p a s (r - r / s * s) y (x - r / s * y) ∧ (∀ z,z=r / s * y → -9223372036854775808 ≤ z ∧ z < 9223372036854775808 ∧ -9223372036854775808 ≤ x - z ∧ x - z < 9223372036854775808) ∧ 0 ≤ r / s * s ∧ r / s * s ≤ r ∧ 0 ≤ r / s ∧ r / s ≤ r:=by
  obtain ⟨hs0,hsr,hrp,hg,⟨z1,hx⟩,⟨z2,hy⟩,hsg,hx2,hx3⟩:=h
  have hq:=Int.emod_add_mul_ediv r s
  have hqc:s * (r / s)=r / s * s:=Int.mul_comm _ _
  have hm0:=Int.emod_nonneg r h0
  have hm1:=Int.emod_lt_of_pos r (show 0 < s by omega)
  have hq0:0 ≤ r / s:=Int.ediv_nonneg (by omega) hs0
  have hqr:r / s ≤ r:=Int.ediv_le_self _ (by omega)
  have hrem:r - r / s * s=r % s:=by omega
  have hqs0:0 ≤ r / s * s:=Int.mul_nonneg hq0 hs0
  have zs:(0 ≤ x ∧ r / s * y ≤ 0) ∨ (x ≤ 0 ∧ 0 ≤ r / s * y):=by
    rcases hsg with ⟨g1,g2,g3⟩|⟨g1,g2,g3⟩
    · have h1:0 ≤ r / s * -y:=Int.mul_nonneg hq0 (by omega)
      have e:r / s * -y=-(r / s * y):=by grind
      exact .inl ⟨g1,by omega⟩
    · exact .inr ⟨g1,Int.mul_nonneg hq0 g2⟩
  -- the signs,and that nothing is beyond p
  have sg:(0 ≤ y ∧ x - r / s * y ≤ 0 ∧ -(x - r / s * y) * s + y * (r - r / s * s)=p) ∨ (y ≤ 0 ∧ 0 ≤ x - r / s * y ∧ (x - r / s * y) * s + -y * (r - r / s * s)=p):=by
    rcases hsg with ⟨g1,g2,g3⟩|⟨g1,g2,g3⟩
    · right
      have:0 ≤ r / s * -y:=Int.mul_nonneg hq0 (by omega)
      have e:r / s * -y=-(r / s * y):=by grind
      refine ⟨g2,by omega,?_⟩
      rw [← g3]; grind
    · left
      have:0 ≤ r / s * y:=Int.mul_nonneg hq0 g2
      refine ⟨g2,by omega,?_⟩
      rw [← g3]; grind
  have hy2:2 * y ≤ p ∧ -(2 * y) ≤ p:=by
    rcases hsg with ⟨g1,g2,g3⟩|⟨g1,g2,g3⟩
    · have h1:2 * -y ≤ r * -y:=Int.mul_le_mul_of_nonneg_right (by omega) (by omega)
      have h2:0 ≤ x * s:=Int.mul_nonneg g1 hs0
      have e:-y * r=r * -y:=by grind
      omega
    · have h1:2 * y ≤ r * y:=Int.mul_le_mul_of_nonneg_right (by omega) g2
      have h2:0 ≤ -x * s:=Int.mul_nonneg (by omega) hs0
      have e:y * r=r * y:=by grind
      omega
  have bd:∀ u,(0 ≤ u ∧ u * s ≤ p → u ≤ p):=by
    intro u ⟨h1,h2⟩
    have:u * 1 ≤ u * s:=Int.mul_le_mul_of_nonneg_left (by omega) h1
    omega
  have hb:-p ≤ x - r / s * y ∧ x - r / s * y ≤ p:=by
    rcases sg with ⟨g1,g2,g3⟩|⟨g1,g2,g3⟩
    · have h2:0 ≤ y * (r - r / s * s):=Int.mul_nonneg g1 (by omega)
      have:=bd (-(x - r / s * y)) ⟨by omega,by omega⟩
      omega
    · have h2:0 ≤ -y * (r - r / s * s):=Int.mul_nonneg (by omega) (by omega)
      have:=bd (x - r / s * y) ⟨by omega,by omega⟩
      omega
  refine ⟨⟨by omega,by omega,by omega,?_,⟨z2,hy⟩,⟨z1 - r / s * z2,?_⟩,sg,hy2⟩,?_,hqs0,by omega,hq0,hqr⟩
  · rw [Int.gcd_sub_mul_right_right,Int.gcd_comm,hg]
  · have:(x - r / s * y) * a=x * a - r / s * (y * a):=by grind
    rw [this,hx,hy]; grind
  · intro z hz
    subst hz
    clear sg hsg bd
    omega
theorem gcd_self0 (r:Int) (h:0 ≤ r):(Int.gcd r 0:Int)=r:=by simp [Int.gcd_zero_right]; omega
def itJ {α:Type} (f:α → α):Nat → α → α
  | 0,t => t
  | n + 1,t => f (itJ f n t)
theorem itJ_front {α:Type} (f:α → α):∀ (n:Nat) (t:α),itJ f (n + 1) t=itJ f n (f t)
  | 0,_ => rfl
  | n + 1,t => by rw [itJ,itJ_front f n t]; rfl
theorem run_ex {α:Type} (f:α → α) (z:α → Int) (I:α → Prop) (h:∀ t,I t → z t ≠ 0 → I (f t) ∧ 0 ≤ z (f t) ∧ z (f t) < z t):∀ (n:Nat) (t:α),z t=n → I t → ∃ N,N ≤ n ∧ z (itJ f N t)=0 ∧ ∀ j,j ≤ N → I (itJ f j t) ∧ (j < N → z (itJ f j t) ≠ 0):=by
  intro n
  induction n using Nat.strongRecOn with
  | _ n ih =>
  intro t hz hI
  by_cases c:z t=0
  · exact ⟨0, by omega, c, fun j hj => by obtain rfl : j = 0 := by omega
                                          exact ⟨hI,fun h => by omega⟩⟩
  · obtain ⟨h1,h2,h3⟩:=h t hI c
    obtain ⟨N,g0,g1,g2⟩:=ih (z (f t)).toNat (by omega) (f t) (by omega) h1
    refine ⟨N + 1,by omega,by rw [itJ_front]; exact g1,fun j hj => ?_⟩
    cases j with
    | zero => exact ⟨hI,fun _ => c⟩
    | succ j =>
      rw [itJ_front]
      obtain ⟨k1,k2⟩:=g2 j (by omega)
      exact ⟨k1,fun h => k2 (by omega)⟩
abbrev T4:=Int × Int × Int × Int
def euT (t:T4):T4:=(t.2.1,t.1 - t.1 / t.2.1 * t.2.1,t.2.2.2,t.2.2.1 - t.1 / t.2.1 * t.2.2.2)
theorem eu_run {p a:Int} (hp:p < 9223372036854775808) (hp2:2 ≤ p) (ha:In p a):∃ N,(itJ euT N (p,a,0,1)).2.1=0 ∧ ∀ j,j ≤ N → Eu p a (itJ euT j (p,a,0,1)).1 (itJ euT j (p,a,0,1)).2.1 (itJ euT j (p,a,0,1)).2.2.1 (itJ euT j (p,a,0,1)).2.2.2 ∧ (j < N → (itJ euT j (p,a,0,1)).2.1 ≠ 0):=by
  have h1:=ha.1; have h2:=ha.2
  have E:Eu p a p a 0 1:=⟨h1,h2,Int.le_refl _,rfl,⟨-1,by omega⟩,⟨0,by omega⟩,.inr ⟨by omega,by omega,by omega⟩,by omega⟩
  obtain ⟨N,_,g⟩:=run_ex euT (fun t => t.2.1) (fun t => Eu p a t.1 t.2.1 t.2.2.1 t.2.2.2) (fun t hI hz => by
    obtain ⟨E2,_⟩:=eu_next hI hp hz
    exact ⟨E2,E2.hs0,E2.hsr⟩) a.toNat (p,a,0,1) (by show a=_; omega) E
  exact ⟨N,g⟩
theorem eu_end {p a r x y:Int} (hp2:2 ≤ p) (E:Eu p a r 0 x y):(r == 1)=decide (Int.gcd p a=1) ∧ (Int.gcd p a=1 → In p (if x < 0 then x + p else x) ∧ a * (if x < 0 then x + p else x) % p=1):=by
  have h0:=E.hsr
  have hg:=E.hg
  have hg2:(Int.gcd p a:Int)=r:=by rw [← hg]; exact gcd_self0 r (by omega)
  obtain ⟨z,hz⟩:=E.hx
  have hx2:=E.hx2
  refine ⟨?_,fun h1 => ?_⟩
  · rw [Bool.eq_iff_iff]
    simp
    omega
  · by_cases cx:x < 0
    · rw [if_pos cx]
      refine ⟨⟨by omega,by omega⟩,?_⟩
      have:a * (x + p)=r + (z + a) * p:=by rw [Int.add_mul,← Int.add_assoc,← hz]; grind
      rw [this,Int.add_mul_emod_self_right,Int.emod_eq_of_lt (by omega) (by omega)]
      omega
    · rw [if_neg cx]
      refine ⟨⟨by omega,by omega⟩,?_⟩
      rw [Int.mul_comm,hz,Int.add_mul_emod_self_right,Int.emod_eq_of_lt (by omega) (by omega)]
      omega
theorem finv_in {p a:Int} (hp2:2 ≤ p) (hp:p < 9223372036854775808) (ha:In p a) (h:Int.gcd p a=1):In p (finv p a) ∧ a * finv p a % p=1:=by
  obtain ⟨N,g1,g2⟩:=eu_run hp hp2 ha
  obtain ⟨E,_⟩:=g2 N (Nat.le_refl _)
  rw [g1] at E
  obtain ⟨i1,i2⟩:=(eu_end hp2 E).2 h
  rw [finv_spec i1 i2]
  exact ⟨i1,i2⟩
structure Em (p a r s x y:Int):Prop where
  hs0:0 ≤ s
  hsr:s < r
  hrp:r ≤ p
  hg:Int.gcd r s=Int.gcd p a
  hx:x * a % p=r % p
  hy:y * a % p=s % p
  ix:In p x
  iy:In p y
theorem em_next {p a r s x y:Int} (hp2:2 ≤ p) (E:Em p a r s x y) (c:s ≠ 0):Em p a s (r - r / s * s) y ((x - r / s % p * y % p) % p):=by
  have hs0:=E.hs0; have hsr:=E.hsr; have hrp:=E.hrp
  have hq:=Int.emod_add_mul_ediv r s
  have hqc:s * (r / s)=r / s * s:=Int.mul_comm _ _
  have hm0:=Int.emod_nonneg r c
  have hm1:=Int.emod_lt_of_pos r (show 0 < s by omega)
  refine ⟨by omega,by omega,by omega,?_,E.hy,?_,E.iy,emod_in _ (by omega)⟩
  · rw [Int.gcd_sub_mul_right_right,Int.gcd_comm,E.hg]
  · rw [mm_l,Int.sub_mul,← sm_r,mm_l,sm_r,Int.mul_assoc]
    rw [← sm_l,E.hx,sm_l,← sm_r,mm_l,← mm_r,E.hy,mm_r,sm_r]
def emT (p:Int) (t:T4):T4:=(t.2.1,t.1 - t.1 / t.2.1 * t.2.1,t.2.2.2,(t.2.2.1 - t.1 / t.2.1 % p * t.2.2.2 % p) % p)
theorem em_run {p a:Int} (hp2:2 ≤ p) (ha:In p a):∃ N,(itJ (emT p) N (p,a,0,1)).2.1=0 ∧ ∀ j,j ≤ N → Em p a (itJ (emT p) j (p,a,0,1)).1 (itJ (emT p) j (p,a,0,1)).2.1 (itJ (emT p) j (p,a,0,1)).2.2.1 (itJ (emT p) j (p,a,0,1)).2.2.2 ∧ (j < N → (itJ (emT p) j (p,a,0,1)).2.1 ≠ 0):=by
  have h1:=ha.1; have h2:=ha.2
  have E:Em p a p a 0 1:=⟨h1,h2,Int.le_refl _,rfl,by simp,by simp,⟨by omega,by omega⟩,⟨by omega,by omega⟩⟩
  obtain ⟨N,_,g⟩:=run_ex (emT p) (fun t => t.2.1) (fun t => Em p a t.1 t.2.1 t.2.2.1 t.2.2.2) (fun t hI hz => by
    have E2:=em_next hp2 hI hz
    exact ⟨E2,E2.hs0,E2.hsr⟩) a.toNat (p,a,0,1) (by show a=_; omega) E
  exact ⟨N,g⟩
theorem em_end {p a r x y:Int} (hp2:2 ≤ p) (E:Em p a r 0 x y) (h:Int.gcd p a=1):finv p a=x:=by
  have h0:=E.hsr
  have hg:=E.hg
  have hg2:(Int.gcd p a:Int)=r:=by rw [← hg]; exact gcd_self0 r (by omega)
  refine finv_spec E.ix ?_
  rw [Int.mul_comm,E.hx,show r=1 by omega]
  exact Int.emod_eq_of_lt (by omega) (by omega)
def gcT (t:Int × Int):Int × Int:=(t.2,t.1 % t.2)
theorem gc_run {a b:Int} (ha:0 ≤ a) (hb:0 ≤ b):∃ N,(itJ gcT N (a,b)).2=0 ∧ (itJ gcT N (a,b)).1=(Int.gcd a b:Int) ∧ ∀ j,j ≤ N → (0 ≤ (itJ gcT j (a,b)).1 ∧ 0 ≤ (itJ gcT j (a,b)).2) ∧ (j < N → (itJ gcT j (a,b)).2 ≠ 0):=by
  obtain ⟨N,_,g1,g2⟩:=run_ex gcT (fun t => t.2) (fun t => (0 ≤ t.1 ∧ 0 ≤ t.2) ∧ Int.gcd t.1 t.2=Int.gcd a b) (fun t hI hz => by
    obtain ⟨⟨h1,h2⟩,h3⟩:=hI
    have m0:=Int.emod_nonneg t.1 hz
    have m1:=Int.emod_lt_of_pos t.1 (show 0 < t.2 by omega)
    refine ⟨⟨⟨h2,m0⟩,?_⟩,m0,m1⟩
    show Int.gcd t.2 (t.1 % t.2)=_
    rw [← h3,Int.gcd_comm t.1]
    have e:=Int.emod_add_mul_ediv t.1 t.2
    conv => rhs; rw [← e]
    simp) b.toNat (a,b) (by show b=_; omega) ⟨⟨ha,hb⟩,rfl⟩
  refine ⟨N,g1,?_,fun j hj => ⟨(g2 j hj).1.1,(g2 j hj).2⟩⟩
  obtain ⟨⟨h1,_⟩,h3⟩:=(g2 N (Nat.le_refl _)).1
  rw [← h3,g1]
  exact (gcd_self0 _ h1).symm
end Go.Proofs.Ytmalpmnmknpphaa.TM
namespace Go.Proofs.Ytmalpmnmknpphaa.TM
open Go Go.RowKit
attribute [local irreducible] K W WOps Effs Xg Xo Xr Xdg Xdo Xdr Xif CallsP CallR
def twoR (p a b v:Int):Int × Int:=if HasB p [a,b] then (v,0) else (0,1)
theorem has2 {p a b:Int} (h:HasB p [a,b]=true) (wa:W64 a) (wb:W64 b):Md p ∧ In p a ∧ In p b:=by
  obtain ⟨h1,h2,h3⟩:=(has_iff p _).1 h
  exact ⟨⟨h2,h3⟩,⟨wa.1,h1 a (by simp)⟩,⟨wb.1,h1 b (by simp)⟩⟩
theorem two_mul (p a b:Int) (wa:W64 a) (wb:W64 b):CallsP Try.prog 105 [u64 p,u64 a,u64 b,fnc 114] (.tup [u64 (twoR p a b (a * b % p)).1,i64 (twoR p a b (a * b % p)).2]):=by
  have q:=has_walk p [a,b] (by rw [mx_len]; simp)
  unfold twoR
  cases h:HasB p [a,b] with
  | false =>
    rw [h] at q
    refine X_startP (n:=21) (m:=4) (rs:=[.tmp 8,.tmp 9]) Try.func105 rfl rfl rfl rfl (by decide) fun base => ?_
    repeat (first|((first|refine X_call_fn2 rfl (by simp only [tys]) ?_|refine X_dcall_fn2 rfl (by simp only [tys]) ?_); apply Exists.intro; apply And.intro; (focus (simp -dsimp only [simx,zzC,zzB,tys,ite_self,opnL,callB,callX,readsB,stepOp,nilCmp,ofVal,opBuiltin,opLen,PV.sk,scalBin,scalUn,intBin,opLoad,natOf,opConvert,opField,cellsP,oneP,Value.oneCell',opStore,toIV,scalT,scalA,scalC,boxesA,boxesC,zipB_none,zipB_mx,isZ,opZip,zeroP,opAppendZ,opMakeMap,opLookup,mboxB,opUpdate,↓reduceIte,Nat.reduceSub,Nat.reduceEqDiff,Nat.reduceAdd,Nat.reduceMul,Nat.reduceLT,Nat.reduceLeDiff,Int.reduceToNat,Int.reduceLE,Int.reduceLT,Int.reduceNeg,reduceCtorEq,zzL,if_true,if_false] <;> rfl)); apply Exists.intro; apply And.intro; (focus (first|exact q)))|refine X_opc rfl ?_|refine X_dopc rfl ?_|refine ⟨(by show drawK _ _=true; kernel_rfl:drawX _ _ _),?_⟩|exact (by show drawK _ _=true; kernel_rfl:drawX _ _ _)|simp -dsimp (maxSteps:=20000000) (disch:=omega) only [simx,zzC,zzB,tys,ite_self,opnL,callB,callX,readsB,stepOp,nilCmp,ofVal,opBuiltin,opLen,PV.sk,scalBin,scalUn,intBin,opLoad,natOf,opConvert,opField,cellsP,oneP,Value.oneCell',opStore,toIV,scalT,scalA,scalC,boxesA,boxesC,zipB_none,zipB_mx,isZ,opZip,zeroP,opAppendZ,opMakeMap,opLookup,mboxB,opUpdate,↓reduceIte,Nat.reduceSub,Nat.reduceEqDiff,Nat.reduceAdd,Nat.reduceMul,Nat.reduceLT,Nat.reduceLeDiff,Int.reduceToNat,Int.reduceLE,Int.reduceLT,Int.reduceNeg,reduceCtorEq,zzR,gos,Int.reduceAdd,Int.reduceSub,Int.reduceMul,Int.reduceEq])
  | true =>
    rw [h] at q
    obtain ⟨h1,h2,h3⟩:=has2 h wa wb
    have d:=mul_walk p a b h1 h2 h3
    refine X_startP (n:=21) (m:=4) (rs:=[.tmp 8,.tmp 9]) Try.func105 rfl rfl rfl rfl (by decide) fun base => ?_
    repeat (first|((first|refine X_call_fn2 rfl (by simp only [tys]) ?_|refine X_dcall_fn2 rfl (by simp only [tys]) ?_); apply Exists.intro; apply And.intro; (focus (simp -dsimp only [simx,zzC,zzB,tys,ite_self,opnL,callB,callX,readsB,stepOp,nilCmp,ofVal,opBuiltin,opLen,PV.sk,scalBin,scalUn,intBin,opLoad,natOf,opConvert,opField,cellsP,oneP,Value.oneCell',opStore,toIV,scalT,scalA,scalC,boxesA,boxesC,zipB_none,zipB_mx,isZ,opZip,zeroP,opAppendZ,opMakeMap,opLookup,mboxB,opUpdate,↓reduceIte,Nat.reduceSub,Nat.reduceEqDiff,Nat.reduceAdd,Nat.reduceMul,Nat.reduceLT,Nat.reduceLeDiff,Int.reduceToNat,Int.reduceLE,Int.reduceLT,Int.reduceNeg,reduceCtorEq,zzL,if_true,if_false] <;> rfl)); apply Exists.intro; apply And.intro; (focus (first|exact q|exact d)))|(refine X_call_val2 rfl ?_; apply Exists.intro; apply And.intro; (focus (simp -dsimp only [simx,zzC,zzB,tys,ite_self,opnL,callB,callX,readsB,stepOp,nilCmp,ofVal,opBuiltin,opLen,PV.sk,scalBin,scalUn,intBin,opLoad,natOf,opConvert,opField,cellsP,oneP,Value.oneCell',opStore,toIV,scalT,scalA,scalC,boxesA,boxesC,zipB_none,zipB_mx,isZ,opZip,zeroP,opAppendZ,opMakeMap,opLookup,mboxB,opUpdate,↓reduceIte,Nat.reduceSub,Nat.reduceEqDiff,Nat.reduceAdd,Nat.reduceMul,Nat.reduceLT,Nat.reduceLeDiff,Int.reduceToNat,Int.reduceLE,Int.reduceLT,Int.reduceNeg,reduceCtorEq,zzL,if_true,if_false] <;> rfl)); apply And.intro; (focus (first|simp only [tys]|exact such_enter _)); apply Exists.intro; apply And.intro; (focus (simp -dsimp only [simx,zzC,zzB,tys,ite_self,opnL,callB,callX,readsB,stepOp,nilCmp,ofVal,opBuiltin,opLen,PV.sk,scalBin,scalUn,intBin,opLoad,natOf,opConvert,opField,cellsP,oneP,Value.oneCell',opStore,toIV,scalT,scalA,scalC,boxesA,boxesC,zipB_none,zipB_mx,isZ,opZip,zeroP,opAppendZ,opMakeMap,opLookup,mboxB,opUpdate,↓reduceIte,Nat.reduceSub,Nat.reduceEqDiff,Nat.reduceAdd,Nat.reduceMul,Nat.reduceLT,Nat.reduceLeDiff,Int.reduceToNat,Int.reduceLE,Int.reduceLT,Int.reduceNeg,reduceCtorEq,zzL,if_true,if_false] <;> rfl)); apply Exists.intro; apply And.intro; (focus (first|exact q|exact d)))|refine X_opc rfl ?_|refine X_dopc rfl ?_|refine ⟨(by show drawK _ _=true; kernel_rfl:drawX _ _ _),?_⟩|exact (by show drawK _ _=true; kernel_rfl:drawX _ _ _)|simp -dsimp (maxSteps:=20000000) (disch:=omega) only [simx,zzC,zzB,tys,ite_self,opnL,callB,callX,readsB,stepOp,nilCmp,ofVal,opBuiltin,opLen,PV.sk,scalBin,scalUn,intBin,opLoad,natOf,opConvert,opField,cellsP,oneP,Value.oneCell',opStore,toIV,scalT,scalA,scalC,boxesA,boxesC,zipB_none,zipB_mx,isZ,opZip,zeroP,opAppendZ,opMakeMap,opLookup,mboxB,opUpdate,↓reduceIte,Nat.reduceSub,Nat.reduceEqDiff,Nat.reduceAdd,Nat.reduceMul,Nat.reduceLT,Nat.reduceLeDiff,Int.reduceToNat,Int.reduceLE,Int.reduceLT,Int.reduceNeg,reduceCtorEq,zzR,gos,Int.reduceAdd,Int.reduceSub,Int.reduceMul,Int.reduceEq])
theorem Mul_walk (p a b:Int) (wa:W64 a) (wb:W64 b):CallsP Try.prog 79 [u64 p,u64 a,u64 b] (.tup [u64 (twoR p a b (a * b % p)).1,i64 (twoR p a b (a * b % p)).2]):=by
  have q:=two_mul p a b wa wb
  refine X_startP (n:=14) (m:=3) (rs:=[.tmp 6,.tmp 7]) Try.func79 rfl rfl rfl rfl (by decide) fun base => ?_
  repeat (first|((first|refine X_call_fn2 rfl (by simp only [tys]) ?_|refine X_dcall_fn2 rfl (by simp only [tys]) ?_); apply Exists.intro; apply And.intro; (focus (simp -dsimp only [simx,zzC,zzB,tys,ite_self,opnL,callB,callX,readsB,stepOp,nilCmp,ofVal,opBuiltin,opLen,PV.sk,scalBin,scalUn,intBin,opLoad,natOf,opConvert,opField,cellsP,oneP,Value.oneCell',opStore,toIV,scalT,scalA,scalC,boxesA,boxesC,zipB_none,zipB_mx,isZ,opZip,zeroP,opAppendZ,opMakeMap,opLookup,mboxB,opUpdate,↓reduceIte,Nat.reduceSub,Nat.reduceEqDiff,Nat.reduceAdd,Nat.reduceMul,Nat.reduceLT,Nat.reduceLeDiff,Int.reduceToNat,Int.reduceLE,Int.reduceLT,Int.reduceNeg,reduceCtorEq,zzL,if_true,if_false] <;> rfl)); apply Exists.intro; apply And.intro; (focus (first|exact q)))|refine X_opc rfl ?_|refine X_dopc rfl ?_|refine ⟨(by show drawK _ _=true; kernel_rfl:drawX _ _ _),?_⟩|exact (by show drawK _ _=true; kernel_rfl:drawX _ _ _)|simp -dsimp (maxSteps:=20000000) (disch:=omega) only [simx,zzC,zzB,tys,ite_self,opnL,callB,callX,readsB,stepOp,nilCmp,ofVal,opBuiltin,opLen,PV.sk,scalBin,scalUn,intBin,opLoad,natOf,opConvert,opField,cellsP,oneP,Value.oneCell',opStore,toIV,scalT,scalA,scalC,boxesA,boxesC,zipB_none,zipB_mx,isZ,opZip,zeroP,opAppendZ,opMakeMap,opLookup,mboxB,opUpdate,↓reduceIte,Nat.reduceSub,Nat.reduceEqDiff,Nat.reduceAdd,Nat.reduceMul,Nat.reduceLT,Nat.reduceLeDiff,Int.reduceToNat,Int.reduceLE,Int.reduceLT,Int.reduceNeg,reduceCtorEq,zzR,gos,Int.reduceAdd,Int.reduceSub,Int.reduceMul,Int.reduceEq])
end Go.Proofs.Ytmalpmnmknpphaa.TM
namespace Go.Proofs.Ytmalpmnmknpphaa.TM
open Go Go.RowKit
attribute [local irreducible] K W WOps Effs Xg Xo Xr Xdg Xdo Xdr Xif CallsP CallR
theorem subm_ge {p a b:Int} (ha:In p a) (hb:In p b) (h:b ≤ a):(a - b) % p=a - b:=Int.emod_eq_of_lt (by omega) (by have:=ha.2; have:=hb.1; omega)
theorem subm_lt {p a b:Int} (ha:In p a) (hb:In p b) (h:¬ b ≤ a):(a - b) % p=a + (p - b):=by
  rw [show a - b=a + (p - b) + p * (-1) by omega,Int.add_mul_emod_self_left]
  exact Int.emod_eq_of_lt (by have:=ha.1; have:=hb.2; omega) (by omega)
theorem sub_walk (p a b:Int) (hp:Md p) (ha:In p a) (hb:In p b):CallsP Try.prog 106 [u64 p,u64 a,u64 b] (u64 ((a - b) % p)):=by
  have p1:=hp.1; have p2:=hp.2
  have a1:=ha.1; have a2:=ha.2; have b1:=hb.1; have b2:=hb.2
  by_cases c:b ≤ a
  · rw [subm_ge ha hb c]
    refine X_startP (n:=18) (m:=3) (rs:=[.tmp 6]) Try.func106 rfl rfl rfl rfl (by decide) fun base => ?_
    repeat (first|refine X_opc rfl ?_|refine X_dopc rfl ?_|refine ⟨(by show drawK _ _=true; kernel_rfl:drawX _ _ _),?_⟩|exact (by show drawK _ _=true; kernel_rfl:drawX _ _ _)|simp -dsimp (maxSteps:=20000000) (disch:=omega) only [simx,zzC,zzB,tys,ite_self,opnL,callB,callX,readsB,stepOp,nilCmp,ofVal,opBuiltin,opLen,PV.sk,scalBin,scalUn,intBin,opLoad,natOf,opConvert,opField,cellsP,oneP,Value.oneCell',opStore,toIV,scalT,scalA,scalC,boxesA,boxesC,zipB_none,zipB_mx,isZ,opZip,zeroP,opAppendZ,opMakeMap,opLookup,mboxB,opUpdate,↓reduceIte,Nat.reduceSub,Nat.reduceEqDiff,Nat.reduceAdd,Nat.reduceMul,Nat.reduceLT,Nat.reduceLeDiff,Int.reduceToNat,Int.reduceLE,Int.reduceLT,Int.reduceNeg,reduceCtorEq,zzR,gos,Int.reduceAdd,Int.reduceSub,Int.reduceMul,Int.reduceEq])
  · rw [subm_lt ha hb c]
    refine X_startP (n:=18) (m:=3) (rs:=[.tmp 6]) Try.func106 rfl rfl rfl rfl (by decide) fun base => ?_
    repeat (first|refine X_opc rfl ?_|refine X_dopc rfl ?_|refine ⟨(by show drawK _ _=true; kernel_rfl:drawX _ _ _),?_⟩|exact (by show drawK _ _=true; kernel_rfl:drawX _ _ _)|simp -dsimp (maxSteps:=20000000) (disch:=omega) only [simx,zzC,zzB,tys,ite_self,opnL,callB,callX,readsB,stepOp,nilCmp,ofVal,opBuiltin,opLen,PV.sk,scalBin,scalUn,intBin,opLoad,natOf,opConvert,opField,cellsP,oneP,Value.oneCell',opStore,toIV,scalT,scalA,scalC,boxesA,boxesC,zipB_none,zipB_mx,isZ,opZip,zeroP,opAppendZ,opMakeMap,opLookup,mboxB,opUpdate,↓reduceIte,Nat.reduceSub,Nat.reduceEqDiff,Nat.reduceAdd,Nat.reduceMul,Nat.reduceLT,Nat.reduceLeDiff,Int.reduceToNat,Int.reduceLE,Int.reduceLT,Int.reduceNeg,reduceCtorEq,zzR,gos,Int.reduceAdd,Int.reduceSub,Int.reduceMul,Int.reduceEq])
theorem two_sub (p a b:Int) (wa:W64 a) (wb:W64 b):CallsP Try.prog 105 [u64 p,u64 a,u64 b,fnc 106] (.tup [u64 (twoR p a b ((a - b) % p)).1,i64 (twoR p a b ((a - b) % p)).2]):=by
  have h:=has_walk p [a,b] (by rw [mx_len]; simp)
  unfold twoR
  cases c:HasB p [a,b] with
  | false =>
    rw [c] at h
    refine X_startP (n:=21) (m:=4) (rs:=[.tmp 8,.tmp 9]) Try.func105 rfl rfl rfl rfl (by decide) fun base => ?_
    repeat (first|((first|refine X_call_fn2 rfl (by simp only [tys]) ?_|refine X_dcall_fn2 rfl (by simp only [tys]) ?_); apply Exists.intro; apply And.intro; (focus (simp -dsimp only [simx,zzC,zzB,tys,ite_self,opnL,callB,callX,readsB,stepOp,nilCmp,ofVal,opBuiltin,opLen,PV.sk,scalBin,scalUn,intBin,opLoad,natOf,opConvert,opField,cellsP,oneP,Value.oneCell',opStore,toIV,scalT,scalA,scalC,boxesA,boxesC,zipB_none,zipB_mx,isZ,opZip,zeroP,opAppendZ,opMakeMap,opLookup,mboxB,opUpdate,↓reduceIte,Nat.reduceSub,Nat.reduceEqDiff,Nat.reduceAdd,Nat.reduceMul,Nat.reduceLT,Nat.reduceLeDiff,Int.reduceToNat,Int.reduceLE,Int.reduceLT,Int.reduceNeg,reduceCtorEq,zzL,if_true,if_false] <;> rfl)); apply Exists.intro; apply And.intro; (focus (first|exact h)))|(refine X_call_val2 rfl ?_; apply Exists.intro; apply And.intro; (focus (simp -dsimp only [simx,zzC,zzB,tys,ite_self,opnL,callB,callX,readsB,stepOp,nilCmp,ofVal,opBuiltin,opLen,PV.sk,scalBin,scalUn,intBin,opLoad,natOf,opConvert,opField,cellsP,oneP,Value.oneCell',opStore,toIV,scalT,scalA,scalC,boxesA,boxesC,zipB_none,zipB_mx,isZ,opZip,zeroP,opAppendZ,opMakeMap,opLookup,mboxB,opUpdate,↓reduceIte,Nat.reduceSub,Nat.reduceEqDiff,Nat.reduceAdd,Nat.reduceMul,Nat.reduceLT,Nat.reduceLeDiff,Int.reduceToNat,Int.reduceLE,Int.reduceLT,Int.reduceNeg,reduceCtorEq,zzL,if_true,if_false] <;> rfl)); apply And.intro; (focus (first|simp only [tys]|exact such_enter _)); apply Exists.intro; apply And.intro; (focus (simp -dsimp only [simx,zzC,zzB,tys,ite_self,opnL,callB,callX,readsB,stepOp,nilCmp,ofVal,opBuiltin,opLen,PV.sk,scalBin,scalUn,intBin,opLoad,natOf,opConvert,opField,cellsP,oneP,Value.oneCell',opStore,toIV,scalT,scalA,scalC,boxesA,boxesC,zipB_none,zipB_mx,isZ,opZip,zeroP,opAppendZ,opMakeMap,opLookup,mboxB,opUpdate,↓reduceIte,Nat.reduceSub,Nat.reduceEqDiff,Nat.reduceAdd,Nat.reduceMul,Nat.reduceLT,Nat.reduceLeDiff,Int.reduceToNat,Int.reduceLE,Int.reduceLT,Int.reduceNeg,reduceCtorEq,zzL,if_true,if_false] <;> rfl)); apply Exists.intro; apply And.intro; (focus (first|exact h)))|refine X_opc rfl ?_|refine X_dopc rfl ?_|refine ⟨(by show drawK _ _=true; kernel_rfl:drawX _ _ _),?_⟩|exact (by show drawK _ _=true; kernel_rfl:drawX _ _ _)|simp -dsimp (maxSteps:=20000000) (disch:=omega) only [simx,zzC,zzB,tys,ite_self,opnL,callB,callX,readsB,stepOp,nilCmp,ofVal,opBuiltin,opLen,PV.sk,scalBin,scalUn,intBin,opLoad,natOf,opConvert,opField,cellsP,oneP,Value.oneCell',opStore,toIV,scalT,scalA,scalC,boxesA,boxesC,zipB_none,zipB_mx,isZ,opZip,zeroP,opAppendZ,opMakeMap,opLookup,mboxB,opUpdate,↓reduceIte,Nat.reduceSub,Nat.reduceEqDiff,Nat.reduceAdd,Nat.reduceMul,Nat.reduceLT,Nat.reduceLeDiff,Int.reduceToNat,Int.reduceLE,Int.reduceLT,Int.reduceNeg,reduceCtorEq,zzR,gos,Int.reduceAdd,Int.reduceSub,Int.reduceMul,Int.reduceEq])
  | true =>
    rw [c] at h
    obtain ⟨hp,ha,hb⟩:=has2 c wa wb
    have d:=sub_walk p a b hp ha hb
    refine X_startP (n:=21) (m:=4) (rs:=[.tmp 8,.tmp 9]) Try.func105 rfl rfl rfl rfl (by decide) fun base => ?_
    repeat (first|((first|refine X_call_fn2 rfl (by simp only [tys]) ?_|refine X_dcall_fn2 rfl (by simp only [tys]) ?_); apply Exists.intro; apply And.intro; (focus (simp -dsimp only [simx,zzC,zzB,tys,ite_self,opnL,callB,callX,readsB,stepOp,nilCmp,ofVal,opBuiltin,opLen,PV.sk,scalBin,scalUn,intBin,opLoad,natOf,opConvert,opField,cellsP,oneP,Value.oneCell',opStore,toIV,scalT,scalA,scalC,boxesA,boxesC,zipB_none,zipB_mx,isZ,opZip,zeroP,opAppendZ,opMakeMap,opLookup,mboxB,opUpdate,↓reduceIte,Nat.reduceSub,Nat.reduceEqDiff,Nat.reduceAdd,Nat.reduceMul,Nat.reduceLT,Nat.reduceLeDiff,Int.reduceToNat,Int.reduceLE,Int.reduceLT,Int.reduceNeg,reduceCtorEq,zzL,if_true,if_false] <;> rfl)); apply Exists.intro; apply And.intro; (focus (first|exact h|exact d)))|(refine X_call_val2 rfl ?_; apply Exists.intro; apply And.intro; (focus (simp -dsimp only [simx,zzC,zzB,tys,ite_self,opnL,callB,callX,readsB,stepOp,nilCmp,ofVal,opBuiltin,opLen,PV.sk,scalBin,scalUn,intBin,opLoad,natOf,opConvert,opField,cellsP,oneP,Value.oneCell',opStore,toIV,scalT,scalA,scalC,boxesA,boxesC,zipB_none,zipB_mx,isZ,opZip,zeroP,opAppendZ,opMakeMap,opLookup,mboxB,opUpdate,↓reduceIte,Nat.reduceSub,Nat.reduceEqDiff,Nat.reduceAdd,Nat.reduceMul,Nat.reduceLT,Nat.reduceLeDiff,Int.reduceToNat,Int.reduceLE,Int.reduceLT,Int.reduceNeg,reduceCtorEq,zzL,if_true,if_false] <;> rfl)); apply And.intro; (focus (first|simp only [tys]|exact such_enter _)); apply Exists.intro; apply And.intro; (focus (simp -dsimp only [simx,zzC,zzB,tys,ite_self,opnL,callB,callX,readsB,stepOp,nilCmp,ofVal,opBuiltin,opLen,PV.sk,scalBin,scalUn,intBin,opLoad,natOf,opConvert,opField,cellsP,oneP,Value.oneCell',opStore,toIV,scalT,scalA,scalC,boxesA,boxesC,zipB_none,zipB_mx,isZ,opZip,zeroP,opAppendZ,opMakeMap,opLookup,mboxB,opUpdate,↓reduceIte,Nat.reduceSub,Nat.reduceEqDiff,Nat.reduceAdd,Nat.reduceMul,Nat.reduceLT,Nat.reduceLeDiff,Int.reduceToNat,Int.reduceLE,Int.reduceLT,Int.reduceNeg,reduceCtorEq,zzL,if_true,if_false] <;> rfl)); apply Exists.intro; apply And.intro; (focus (first|exact h|exact d)))|refine X_opc rfl ?_|refine X_dopc rfl ?_|refine ⟨(by show drawK _ _=true; kernel_rfl:drawX _ _ _),?_⟩|exact (by show drawK _ _=true; kernel_rfl:drawX _ _ _)|simp -dsimp (maxSteps:=20000000) (disch:=omega) only [simx,zzC,zzB,tys,ite_self,opnL,callB,callX,readsB,stepOp,nilCmp,ofVal,opBuiltin,opLen,PV.sk,scalBin,scalUn,intBin,opLoad,natOf,opConvert,opField,cellsP,oneP,Value.oneCell',opStore,toIV,scalT,scalA,scalC,boxesA,boxesC,zipB_none,zipB_mx,isZ,opZip,zeroP,opAppendZ,opMakeMap,opLookup,mboxB,opUpdate,↓reduceIte,Nat.reduceSub,Nat.reduceEqDiff,Nat.reduceAdd,Nat.reduceMul,Nat.reduceLT,Nat.reduceLeDiff,Int.reduceToNat,Int.reduceLE,Int.reduceLT,Int.reduceNeg,reduceCtorEq,zzR,gos,Int.reduceAdd,Int.reduceSub,Int.reduceMul,Int.reduceEq])
theorem Sub_walk (p a b:Int) (wa:W64 a) (wb:W64 b):CallsP Try.prog 61 [u64 p,u64 a,u64 b] (.tup [u64 (twoR p a b ((a - b) % p)).1,i64 (twoR p a b ((a - b) % p)).2]):=by
  have d:=two_sub p a b wa wb
  refine X_startP (n:=14) (m:=3) (rs:=[.tmp 6,.tmp 7]) Try.func61 rfl rfl rfl rfl (by decide) fun base => ?_
  repeat (first|((first|refine X_call_fn2 rfl (by simp only [tys]) ?_|refine X_dcall_fn2 rfl (by simp only [tys]) ?_); apply Exists.intro; apply And.intro; (focus (simp -dsimp only [simx,zzC,zzB,tys,ite_self,opnL,callB,callX,readsB,stepOp,nilCmp,ofVal,opBuiltin,opLen,PV.sk,scalBin,scalUn,intBin,opLoad,natOf,opConvert,opField,cellsP,oneP,Value.oneCell',opStore,toIV,scalT,scalA,scalC,boxesA,boxesC,zipB_none,zipB_mx,isZ,opZip,zeroP,opAppendZ,opMakeMap,opLookup,mboxB,opUpdate,↓reduceIte,Nat.reduceSub,Nat.reduceEqDiff,Nat.reduceAdd,Nat.reduceMul,Nat.reduceLT,Nat.reduceLeDiff,Int.reduceToNat,Int.reduceLE,Int.reduceLT,Int.reduceNeg,reduceCtorEq,zzL,if_true,if_false] <;> rfl)); apply Exists.intro; apply And.intro; (focus (first|exact d)))|refine X_opc rfl ?_|refine X_dopc rfl ?_|refine ⟨(by show drawK _ _=true; kernel_rfl:drawX _ _ _),?_⟩|exact (by show drawK _ _=true; kernel_rfl:drawX _ _ _)|simp -dsimp (maxSteps:=20000000) (disch:=omega) only [simx,zzC,zzB,tys,ite_self,opnL,callB,callX,readsB,stepOp,nilCmp,ofVal,opBuiltin,opLen,PV.sk,scalBin,scalUn,intBin,opLoad,natOf,opConvert,opField,cellsP,oneP,Value.oneCell',opStore,toIV,scalT,scalA,scalC,boxesA,boxesC,zipB_none,zipB_mx,isZ,opZip,zeroP,opAppendZ,opMakeMap,opLookup,mboxB,opUpdate,↓reduceIte,Nat.reduceSub,Nat.reduceEqDiff,Nat.reduceAdd,Nat.reduceMul,Nat.reduceLT,Nat.reduceLeDiff,Int.reduceToNat,Int.reduceLE,Int.reduceLT,Int.reduceNeg,reduceCtorEq,zzR,gos,Int.reduceAdd,Int.reduceSub,Int.reduceMul,Int.reduceEq])
end Go.Proofs.Ytmalpmnmknpphaa.TM
namespace Go.Proofs.Ytmalpmnmknpphaa.TM
open Go Go.RowKit
def dotI:List Int → List Int → Int
  | x::a,y::b => x * y + dotI a b
  | _,_ => 0
theorem dotI_nil (b:List Int):dotI [] b=0:=by cases b <;> rfl
theorem dotI_snoc:∀ (a b:List Int) (x y:Int),a.length=b.length → dotI (a ++ [x]) (b ++ [y])=dotI a b + x * y
  | [],[],x,y,_ => by simp [dotI]
  | u::a,v::b,x,y,h => by
    simp only [List.cons_append,dotI]
    rw [dotI_snoc a b x y (by simpa using h)]; omega
  | [],_::_,_,_,h => by simp at h
  | _::_,[],_,_,h => by simp at h
theorem dotI_take {a b:List Int} {j:Nat} (ha:j < a.length) (hb:j < b.length):dotI (a.take (j + 1)) (b.take (j + 1))=dotI (a.take j) (b.take j) + a[j] * b[j]:=by
  rw [List.take_succ_eq_append_getElem ha,List.take_succ_eq_append_getElem hb]
  exact dotI_snoc _ _ _ _ (by rw [List.length_take,List.length_take]; omega)
abbrev matP (r c:Int) (l:List Int):PV:=.agg [i64 r,i64 c,lu l]
def SideB (n:Int):Bool:=decide (1 ≤ n) && decide (n ≤ 64)
theorem side_iff (n:Int):SideB n=true ↔ 1 ≤ n ∧ n ≤ 64:=by simp [SideB]
def MatB (p r c:Int) (l:List Int):Bool:=SideB r && (SideB c && (decide ((l.length:Int)=r * c) && HasB p l))
structure Mt (p:Int) (r c:Nat) (l:List Int):Prop where
  hp:Md p
  r1:1 ≤ r
  r2:r ≤ 64
  c1:1 ≤ c
  c2:c ≤ 64
  len:l.length=r * c
  has:∀ a ∈ l,a < p
theorem mat_of {p r c:Int} {l:List Int} (h:MatB p r c l=true):∃ R C:Nat,r=R ∧ c=C ∧ Mt p R C l:=by
  simp only [MatB,Bool.and_eq_true,side_iff,decide_eq_true_eq] at h
  obtain ⟨h1,h2,h3,h4⟩:=h
  obtain ⟨R,rfl⟩:=Int.eq_ofNat_of_zero_le (show 0 ≤ r by omega)
  obtain ⟨C,rfl⟩:=Int.eq_ofNat_of_zero_le (show 0 ≤ c by omega)
  obtain ⟨g1,g2,g3⟩:=(has_iff p l).1 h4
  refine ⟨R,C,rfl,rfl,⟨g2,g3⟩,by omega,by omega,by omega,by omega,?_,g1⟩
  have:(l.length:Int)=((R * C:Nat):Int):=by rw [h3]; push_cast; rfl
  omega
theorem mat_mk {p:Int} {r c:Nat} {l:List Int} (h:Mt p r c l):MatB p r c l=true:=by
  simp only [MatB,Bool.and_eq_true,side_iff,decide_eq_true_eq]
  have h1:=h.r1; have h2:=h.r2; have h3:=h.c1; have h4:=h.c2
  refine ⟨by omega,by omega,?_,(has_iff p l).2 ⟨h.has,h.hp.1,h.hp.2⟩⟩
  rw [h.len]; push_cast; rfl
theorem rc_bd {r c:Nat} (h1:r ≤ 64) (h2:c ≤ 64):r * c ≤ 4096:=Nat.mul_le_mul h1 h2
theorem ic_bd {i r c:Nat} (h:i < r):i * c + c ≤ r * c:=by rw [← Nat.succ_mul]; exact Nat.mul_le_mul_right c h
def rowM (c:Nat) (l:List Int) (i:Nat):List Int:=(l.drop (i * c)).take c
theorem rowM_len {r c i:Nat} {l:List Int} (hl:l.length=r * c) (h:i < r):(rowM c l i).length=c:=by
  have:=ic_bd (c:=c) h
  unfold rowM; rw [List.length_take,List.length_drop]; omega
theorem rowM_mem {c i:Nat} {l:List Int} {a:Int} (h:a ∈ rowM c l i):a ∈ l:=List.mem_of_mem_drop (List.mem_of_mem_take h)
def timesM (p:Int) (r c:Nat) (l x:List Int):List Int:=(List.range r).map fun i => dotI (rowM c l i) x % p
theorem timesM_take {p:Int} {r c:Nat} {l x:List Int} {j:Nat} (h:j < r):(List.range (j + 1)).map (fun i => dotI (rowM c l i) x % p)=(List.range j).map (fun i => dotI (rowM c l i) x % p) ++ [dotI (rowM c l j) x % p]:=by
  rw [List.range_succ,List.map_append]; rfl
def W64s (l:List Int):Prop:=∀ a ∈ l,W64 a
theorem in_of {p:Int} {l:List Int} (h:∀ a ∈ l,a < p) (hw:W64s l) {a:Int} (ha:a ∈ l):In p a:=⟨(hw a ha).1,h a ha⟩
def srcT (r c q:Nat):Nat:=(q % r) * c + q / r
def turnM (r c:Nat) (l:List Int):List Int:=(List.range (c * r)).map fun q => l.getD (srcT r c q) 0
theorem turnM_len (r c:Nat) (l:List Int):(turnM r c l).length=c * r:=by simp [turnM]
end Go.Proofs.Ytmalpmnmknpphaa.TM
