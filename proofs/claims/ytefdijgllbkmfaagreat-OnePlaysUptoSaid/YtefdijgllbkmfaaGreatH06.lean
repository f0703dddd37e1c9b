/- Walks of functions, and what they compute. Conditions: none, this text proves no statement. -/
import Derived.Test.YtefdijgllbkmfaaGreatProg
import Derived.Test.YtefdijgllbkmfaaGreatH05
import Derived.KernelRfl
import Derived.Test.YtefdijgllbkmfaaGreatH02
import Derived.Test.YtefdijgllbkmfaaGreatH03
set_option maxRecDepth 20000
set_option maxHeartbeats 4000000
namespace Go.SLYtefdijgllbkmfaaGreat
open Go Go.RowKit Go.Proofs Go.Proofs.Tryz
instance:kK Tryz.prog 22 (.slice 128):=⟨underlying22⟩
instance:kK Tryz.prog 23 (.slice 3):=⟨underlying23⟩
instance:kK Tryz.prog 26 (.slice 37):=⟨underlying26⟩
instance:kK Tryz.prog 27 (.pointer 126):=⟨underlying27⟩
instance:kK Tryz.prog 49 (.slice 101):=⟨underlying49⟩
instance:kK Tryz.prog 55 (.slice 38):=⟨underlying55⟩
instance:kK Tryz.prog 60 (.slice 175):=⟨underlying60⟩
instance:kK Tryz.prog 67 (.slice 25):=⟨underlying67⟩
instance:kK Tryz.prog 68 (.slice 74):=⟨underlying68⟩
instance:kK Tryz.prog 76 (.slice 33):=⟨underlying76⟩
instance:kK Tryz.prog 80 (.pointer 155):=⟨underlying80⟩
instance:kK Tryz.prog 114 (.pointer 190):=⟨underlying114⟩
instance:kK Tryz.prog 116 (.pointer 195):=⟨underlying116⟩
instance:kK Tryz.prog 118 (.pointer 203):=⟨underlying118⟩
instance:kK Tryz.prog 120 (.pointer 206):=⟨underlying120⟩
instance:kK Tryz.prog 122 (.pointer 147):=⟨underlying122⟩
instance:kK Tryz.prog 124 (.slice 132):=⟨underlying124⟩
instance:kK Tryz.prog 128 (.slice 131):=⟨underlying128⟩
instance:kK Tryz.prog 132 (.pointer 209):=⟨underlying132⟩
instance:kK Tryz.prog 138 (.slice 295):=⟨underlying138⟩
instance:kK Tryz.prog 153 (.slice 27):=⟨underlying153⟩
instance:kK Tryz.prog 188 (.slice 255):=⟨underlying188⟩
instance:kK Tryz.prog 191 (.slice 278):=⟨underlying191⟩
instance:kK Tryz.prog 192 (.slice 198):=⟨underlying192⟩
instance:kK Tryz.prog 193 (.slice 200):=⟨underlying193⟩
instance:kK Tryz.prog 196 (.slice 274):=⟨underlying196⟩
instance:kK Tryz.prog 201 (.slice 170):=⟨underlying201⟩
instance:kK Tryz.prog 207 (.slice 363):=⟨underlying207⟩
instance:kK Tryz.prog 257 (.slice 9):=⟨underlying257⟩
instance:kK Tryz.prog 271 (.pointer 198):=⟨underlying271⟩
instance:kK Tryz.prog 288 (.slice 290):=⟨underlying288⟩
instance:kK Tryz.prog 310 (.slice 383):=⟨underlying310⟩
instance:kK Tryz.prog 318 (.pointer 278):=⟨underlying318⟩
instance:kK Tryz.prog 324 (.pointer 200):=⟨underlying324⟩
instance:kK Tryz.prog 423 (.slice 310):=⟨underlying423⟩
instance:ir Tryz.prog 3 1:=⟨sizeOf3⟩
instance:ir Tryz.prog 4 1:=⟨sizeOf4⟩
instance:ir Tryz.prog 25 8:=⟨sizeOf25⟩
instance:ir Tryz.prog 27 1:=⟨sizeOf27⟩
instance:ir Tryz.prog 28 1:=⟨sizeOf28⟩
instance:ir Tryz.prog 33 1:=⟨sizeOf33⟩
instance:ir Tryz.prog 37 3:=⟨sizeOf37⟩
instance:ir Tryz.prog 38 1:=⟨sizeOf38⟩
instance:ir Tryz.prog 39 8:=⟨sizeOf39⟩
instance:ir Tryz.prog 41 13:=⟨sizeOf41⟩
instance:ir Tryz.prog 53 18:=⟨sizeOf53⟩
instance:ir Tryz.prog 55 1:=⟨sizeOf55⟩
instance:ir Tryz.prog 74 4:=⟨sizeOf74⟩
instance:ir Tryz.prog 93 4:=⟨sizeOf93⟩
instance:ir Tryz.prog 96 4:=⟨sizeOf96⟩
instance:ir Tryz.prog 101 6:=⟨sizeOf101⟩
instance:ir Tryz.prog 123 16:=⟨sizeOf123⟩
instance:ir Tryz.prog 128 1:=⟨sizeOf128⟩
instance:ir Tryz.prog 131 5:=⟨sizeOf131⟩
instance:ir Tryz.prog 132 1:=⟨sizeOf132⟩
instance:ir Tryz.prog 145 10:=⟨sizeOf145⟩
instance:ir Tryz.prog 170 4:=⟨sizeOf170⟩
instance:ir Tryz.prog 175 4:=⟨sizeOf175⟩
instance:ir Tryz.prog 198 1:=⟨sizeOf198⟩
instance:ir Tryz.prog 200 2:=⟨sizeOf200⟩
instance:ir Tryz.prog 249 4:=⟨sizeOf249⟩
instance:ir Tryz.prog 255 2:=⟨sizeOf255⟩
instance:ir Tryz.prog 260 1:=⟨sizeOf260⟩
instance:ir Tryz.prog 274 2:=⟨sizeOf274⟩
instance:ir Tryz.prog 278 3:=⟨sizeOf278⟩
instance:ir Tryz.prog 290 2:=⟨sizeOf290⟩
instance:ir Tryz.prog 295 2:=⟨sizeOf295⟩
instance:ir Tryz.prog 310 1:=⟨sizeOf310⟩
instance:ir Tryz.prog 363 2:=⟨sizeOf363⟩
instance:One Tryz.prog 3:=⟨isAgg3⟩
instance:One Tryz.prog 4:=⟨isAgg4⟩
instance:One Tryz.prog 9:=⟨isAgg9⟩
instance:One Tryz.prog 22:=⟨isAgg22⟩
instance:One Tryz.prog 23:=⟨isAgg23⟩
instance:One Tryz.prog 27:=⟨isAgg27⟩
instance:One Tryz.prog 28:=⟨isAgg28⟩
instance:One Tryz.prog 33:=⟨isAgg33⟩
instance:One Tryz.prog 38:=⟨isAgg38⟩
instance:One Tryz.prog 49:=⟨isAgg49⟩
instance:One Tryz.prog 55:=⟨isAgg55⟩
instance:One Tryz.prog 56:=⟨isAgg56⟩
instance:One Tryz.prog 57:=⟨isAgg57⟩
instance:One Tryz.prog 58:=⟨isAgg58⟩
instance:One Tryz.prog 59:=⟨isAgg59⟩
instance:One Tryz.prog 60:=⟨isAgg60⟩
instance:One Tryz.prog 76:=⟨isAgg76⟩
instance:One Tryz.prog 114:=⟨isAgg114⟩
instance:One Tryz.prog 116:=⟨isAgg116⟩
instance:One Tryz.prog 118:=⟨isAgg118⟩
instance:One Tryz.prog 120:=⟨isAgg120⟩
instance:One Tryz.prog 122:=⟨isAgg122⟩
instance:One Tryz.prog 124:=⟨isAgg124⟩
instance:One Tryz.prog 128:=⟨isAgg128⟩
instance:One Tryz.prog 132:=⟨isAgg132⟩
instance:One Tryz.prog 138:=⟨isAgg138⟩
instance:One Tryz.prog 153:=⟨isAgg153⟩
instance:One Tryz.prog 188:=⟨isAgg188⟩
instance:One Tryz.prog 191:=⟨isAgg191⟩
instance:One Tryz.prog 192:=⟨isAgg192⟩
instance:One Tryz.prog 193:=⟨isAgg193⟩
instance:One Tryz.prog 196:=⟨isAgg196⟩
instance:One Tryz.prog 201:=⟨isAgg201⟩
instance:One Tryz.prog 204:=⟨isAgg204⟩
instance:One Tryz.prog 207:=⟨isAgg207⟩
instance:One Tryz.prog 288:=⟨isAgg288⟩
instance:One Tryz.prog 310:=⟨isAgg310⟩
instance:iE Tryz.prog 25:=⟨isAgg25⟩
instance:iE Tryz.prog 37:=⟨isAgg37⟩
instance:iE Tryz.prog 39:=⟨isAgg39⟩
instance:iE Tryz.prog 41:=⟨isAgg41⟩
instance:iE Tryz.prog 53:=⟨isAgg53⟩
instance:iE Tryz.prog 74:=⟨isAgg74⟩
instance:iE Tryz.prog 93:=⟨isAgg93⟩
instance:iE Tryz.prog 96:=⟨isAgg96⟩
instance:iE Tryz.prog 101:=⟨isAgg101⟩
instance:iE Tryz.prog 123:=⟨isAgg123⟩
instance:iE Tryz.prog 131:=⟨isAgg131⟩
instance:iE Tryz.prog 145:=⟨isAgg145⟩
instance:iE Tryz.prog 170:=⟨isAgg170⟩
instance:iE Tryz.prog 175:=⟨isAgg175⟩
instance:iE Tryz.prog 198:=⟨isAgg198⟩
instance:iE Tryz.prog 200:=⟨isAgg200⟩
instance:iE Tryz.prog 249:=⟨isAgg249⟩
instance:iE Tryz.prog 255:=⟨isAgg255⟩
instance:iE Tryz.prog 274:=⟨isAgg274⟩
instance:iE Tryz.prog 278:=⟨isAgg278⟩
instance:iE Tryz.prog 290:=⟨isAgg290⟩
instance:iE Tryz.prog 295:=⟨isAgg295⟩
instance:iE Tryz.prog 363:=⟨isAgg363⟩
instance:cP Tryz.prog 25 0 0:=⟨ab (t:=22) underlying25 rfl sizeOf22⟩
instance:cP Tryz.prog 25 1 1:=⟨ab (t:=3) underlying25 rfl sizeOf3⟩
instance:cP Tryz.prog 25 2 2:=⟨ab (t:=3) underlying25 rfl sizeOf3⟩
instance:cP Tryz.prog 25 3 3:=⟨ab (t:=3) underlying25 rfl sizeOf3⟩
instance:cP Tryz.prog 25 4 4:=⟨ab (t:=23) underlying25 rfl sizeOf23⟩
instance:cP Tryz.prog 25 5 5:=⟨ab (t:=23) underlying25 rfl sizeOf23⟩
instance:cP Tryz.prog 25 6 6:=⟨ab (t:=3) underlying25 rfl sizeOf3⟩
instance:cP Tryz.prog 25 7 7:=⟨ab (t:=3) underlying25 rfl sizeOf3⟩
instance:cP Tryz.prog 37 0 0:=⟨ab (t:=3) underlying37 rfl sizeOf3⟩
instance:cP Tryz.prog 37 1 1:=⟨ab (t:=3) underlying37 rfl sizeOf3⟩
instance:cP Tryz.prog 37 2 2:=⟨ab (t:=3) underlying37 rfl sizeOf3⟩
instance:cP Tryz.prog 41 1 1:=⟨ab (t:=3) underlying41 rfl sizeOf3⟩
instance:cP Tryz.prog 41 4 4:=⟨ab (t:=39) underlying41 rfl sizeOf39⟩
instance:cP Tryz.prog 53 0 0:=⟨ab (t:=4) underlying53 rfl sizeOf4⟩
instance:cP Tryz.prog 53 1 1:=⟨ab (t:=38) underlying53 rfl sizeOf38⟩
instance:cP Tryz.prog 53 2 2:=⟨ab (t:=3) underlying53 rfl sizeOf3⟩
instance:cP Tryz.prog 53 3 3:=⟨ab (t:=3) underlying53 rfl sizeOf3⟩
instance:cP Tryz.prog 53 4 4:=⟨ab (t:=3) underlying53 rfl sizeOf3⟩
instance:cP Tryz.prog 53 5 5:=⟨ab (t:=39) underlying53 rfl sizeOf39⟩
instance:cP Tryz.prog 53 6 13:=⟨ab (t:=38) underlying53 rfl sizeOf38⟩
instance:cP Tryz.prog 53 7 14:=⟨ab (t:=4) underlying53 rfl sizeOf4⟩
instance:cP Tryz.prog 53 8 15:=⟨ab (t:=3) underlying53 rfl sizeOf3⟩
instance:cP Tryz.prog 53 9 16:=⟨ab (t:=3) underlying53 rfl sizeOf3⟩
instance:cP Tryz.prog 53 10 17:=⟨ab (t:=3) underlying53 rfl sizeOf3⟩
instance:cP Tryz.prog 63 0 0:=⟨ab (t:=25) underlying63 rfl sizeOf25⟩
instance:cP Tryz.prog 63 1 8:=⟨ab (t:=51) underlying63 rfl sizeOf51⟩
instance:cP Tryz.prog 63 2 24:=⟨ab (t:=54) underlying63 rfl sizeOf54⟩
instance:cP Tryz.prog 63 3 312:=⟨ab (t:=55) underlying63 rfl sizeOf55⟩
instance:cP Tryz.prog 63 4 313:=⟨ab (t:=56) underlying63 rfl sizeOf56⟩
instance:cP Tryz.prog 63 5 314:=⟨ab (t:=57) underlying63 rfl sizeOf57⟩
instance:cP Tryz.prog 63 6 315:=⟨ab (t:=23) underlying63 rfl sizeOf23⟩
instance:cP Tryz.prog 63 7 316:=⟨ab (t:=58) underlying63 rfl sizeOf58⟩
instance:cP Tryz.prog 63 8 317:=⟨ab (t:=59) underlying63 rfl sizeOf59⟩
instance:cP Tryz.prog 63 9 318:=⟨ab (t:=55) underlying63 rfl sizeOf55⟩
instance:cP Tryz.prog 63 10 319:=⟨ab (t:=60) underlying63 rfl sizeOf60⟩
instance:cP Tryz.prog 63 11 320:=⟨ab (t:=3) underlying63 rfl sizeOf3⟩
instance:cP Tryz.prog 63 12 321:=⟨ab (t:=61) underlying63 rfl sizeOf61⟩
instance:cP Tryz.prog 63 13 337:=⟨ab (t:=49) underlying63 rfl sizeOf49⟩
instance:cP Tryz.prog 74 0 0:=⟨ab (t:=3) underlying74 rfl sizeOf3⟩
instance:cP Tryz.prog 74 1 1:=⟨ab (t:=3) underlying74 rfl sizeOf3⟩
instance:cP Tryz.prog 74 2 2:=⟨ab (t:=3) underlying74 rfl sizeOf3⟩
instance:cP Tryz.prog 74 3 3:=⟨ab (t:=3) underlying74 rfl sizeOf3⟩
instance:cP Tryz.prog 78 0 0:=⟨ab (t:=76) underlying78 rfl sizeOf76⟩
instance:cP Tryz.prog 93 0 0:=⟨ab (t:=23) underlying93 rfl sizeOf23⟩
instance:cP Tryz.prog 93 1 1:=⟨ab (t:=4) underlying93 rfl sizeOf4⟩
instance:cP Tryz.prog 93 2 2:=⟨ab (t:=4) underlying93 rfl sizeOf4⟩
instance:cP Tryz.prog 93 3 3:=⟨ab (t:=4) underlying93 rfl sizeOf4⟩
instance:cP Tryz.prog 96 0 0:=⟨ab (t:=23) underlying96 rfl sizeOf23⟩
instance:cP Tryz.prog 96 1 1:=⟨ab (t:=4) underlying96 rfl sizeOf4⟩
instance:cP Tryz.prog 96 2 2:=⟨ab (t:=4) underlying96 rfl sizeOf4⟩
instance:cP Tryz.prog 96 3 3:=⟨ab (t:=4) underlying96 rfl sizeOf4⟩
instance:cP Tryz.prog 101 3 3:=⟨ab (t:=38) underlying101 rfl sizeOf38⟩
instance:cP Tryz.prog 101 5 5:=⟨ab (t:=4) underlying101 rfl sizeOf4⟩
instance:cP Tryz.prog 126 0 0:=⟨ab (t:=25) underlying126 rfl sizeOf25⟩
instance:cP Tryz.prog 126 1 8:=⟨ab (t:=114) underlying126 rfl sizeOf114⟩
instance:cP Tryz.prog 126 2 9:=⟨ab (t:=123) underlying126 rfl sizeOf123⟩
instance:cP Tryz.prog 126 3 25:=⟨ab (t:=55) underlying126 rfl sizeOf55⟩
instance:cP Tryz.prog 126 4 26:=⟨ab (t:=116) underlying126 rfl sizeOf116⟩
instance:cP Tryz.prog 126 5 27:=⟨ab (t:=124) underlying126 rfl sizeOf124⟩
instance:cP Tryz.prog 126 6 28:=⟨ab (t:=118) underlying126 rfl sizeOf118⟩
instance:cP Tryz.prog 126 7 29:=⟨ab (t:=120) underlying126 rfl sizeOf120⟩
instance:cP Tryz.prog 126 8 30:=⟨ab (t:=49) underlying126 rfl sizeOf49⟩
instance:cP Tryz.prog 131 0 0:=⟨ab (t:=3) underlying131 rfl sizeOf3⟩
instance:cP Tryz.prog 131 1 1:=⟨ab (t:=3) underlying131 rfl sizeOf3⟩
instance:cP Tryz.prog 131 2 2:=⟨ab (t:=3) underlying131 rfl sizeOf3⟩
instance:cP Tryz.prog 131 3 3:=⟨ab (t:=3) underlying131 rfl sizeOf3⟩
instance:cP Tryz.prog 131 4 4:=⟨ab (t:=38) underlying131 rfl sizeOf38⟩
instance:cP Tryz.prog 140 0 0:=⟨ab (t:=3) underlying140 rfl sizeOf3⟩
instance:cP Tryz.prog 140 1 1:=⟨ab (t:=55) underlying140 rfl sizeOf55⟩
instance:cP Tryz.prog 140 2 2:=⟨ab (t:=138) underlying140 rfl sizeOf138⟩
instance:cP Tryz.prog 140 3 3:=⟨ab (t:=23) underlying140 rfl sizeOf23⟩
instance:cP Tryz.prog 145 0 0:=⟨ab (t:=3) underlying145 rfl sizeOf3⟩
instance:cP Tryz.prog 145 1 1:=⟨ab (t:=3) underlying145 rfl sizeOf3⟩
instance:cP Tryz.prog 145 2 2:=⟨ab (t:=39) underlying145 rfl sizeOf39⟩
instance:cP Tryz.prog 147 0 0:=⟨ab (t:=145) underlying147 rfl sizeOf145⟩
instance:cP Tryz.prog 147 1 10:=⟨ab (t:=38) underlying147 rfl sizeOf38⟩
instance:cP Tryz.prog 147 2 11:=⟨ab (t:=3) underlying147 rfl sizeOf3⟩
instance:cP Tryz.prog 147 3 12:=⟨ab (t:=38) underlying147 rfl sizeOf38⟩
instance:cP Tryz.prog 147 4 13:=⟨ab (t:=4) underlying147 rfl sizeOf4⟩
instance:cP Tryz.prog 147 5 14:=⟨ab (t:=3) underlying147 rfl sizeOf3⟩
instance:cP Tryz.prog 147 6 15:=⟨ab (t:=3) underlying147 rfl sizeOf3⟩
instance:cP Tryz.prog 147 7 16:=⟨ab (t:=3) underlying147 rfl sizeOf3⟩
instance:cP Tryz.prog 155 0 0:=⟨ab (t:=153) underlying155 rfl sizeOf153⟩
instance:cP Tryz.prog 161 0 0:=⟨ab (t:=27) underlying161 rfl sizeOf27⟩
instance:cP Tryz.prog 161 1 1:=⟨ab (t:=3) underlying161 rfl sizeOf3⟩
instance:cP Tryz.prog 161 2 2:=⟨ab (t:=122) underlying161 rfl sizeOf122⟩
instance:cP Tryz.prog 161 3 3:=⟨ab (t:=131) underlying161 rfl sizeOf131⟩
instance:cP Tryz.prog 161 4 8:=⟨ab (t:=3) underlying161 rfl sizeOf3⟩
instance:cP Tryz.prog 161 5 9:=⟨ab (t:=93) underlying161 rfl sizeOf93⟩
instance:cP Tryz.prog 161 6 13:=⟨ab (t:=49) underlying161 rfl sizeOf49⟩
instance:cP Tryz.prog 167 0 0:=⟨ab (t:=33) underlying167 rfl sizeOf33⟩
instance:cP Tryz.prog 167 1 1:=⟨ab (t:=3) underlying167 rfl sizeOf3⟩
instance:cP Tryz.prog 167 2 2:=⟨ab (t:=131) underlying167 rfl sizeOf131⟩
instance:cP Tryz.prog 167 3 7:=⟨ab (t:=96) underlying167 rfl sizeOf96⟩
instance:cP Tryz.prog 167 4 11:=⟨ab (t:=49) underlying167 rfl sizeOf49⟩
instance:cP Tryz.prog 170 0 0:=⟨ab (t:=3) underlying170 rfl sizeOf3⟩
instance:cP Tryz.prog 170 1 1:=⟨ab (t:=3) underlying170 rfl sizeOf3⟩
instance:cP Tryz.prog 170 2 2:=⟨ab (t:=4) underlying170 rfl sizeOf4⟩
instance:cP Tryz.prog 170 3 3:=⟨ab (t:=38) underlying170 rfl sizeOf38⟩
instance:cP Tryz.prog 175 0 0:=⟨ab (t:=3) underlying175 rfl sizeOf3⟩
instance:cP Tryz.prog 175 1 1:=⟨ab (t:=3) underlying175 rfl sizeOf3⟩
instance:cP Tryz.prog 175 2 2:=⟨ab (t:=4) underlying175 rfl sizeOf4⟩
instance:cP Tryz.prog 175 3 3:=⟨ab (t:=38) underlying175 rfl sizeOf38⟩
instance:cP Tryz.prog 190 0 0:=⟨ab (t:=188) underlying190 rfl sizeOf188⟩
instance:cP Tryz.prog 195 0 0:=⟨ab (t:=191) underlying195 rfl sizeOf191⟩
instance:cP Tryz.prog 195 1 1:=⟨ab (t:=192) underlying195 rfl sizeOf192⟩
instance:cP Tryz.prog 195 2 2:=⟨ab (t:=193) underlying195 rfl sizeOf193⟩
instance:cP Tryz.prog 198 0 0:=⟨ab (t:=196) underlying198 rfl sizeOf196⟩
instance:cP Tryz.prog 200 0 0:=⟨ab (t:=198) underlying200 rfl sizeOf198⟩
instance:cP Tryz.prog 200 1 1:=⟨ab (t:=3) underlying200 rfl sizeOf3⟩
instance:cP Tryz.prog 203 0 0:=⟨ab (t:=55) underlying203 rfl sizeOf55⟩
instance:cP Tryz.prog 203 1 1:=⟨ab (t:=201) underlying203 rfl sizeOf201⟩
instance:cP Tryz.prog 206 0 0:=⟨ab (t:=3) underlying206 rfl sizeOf3⟩
instance:cP Tryz.prog 206 1 1:=⟨ab (t:=204) underlying206 rfl sizeOf204⟩
instance:cP Tryz.prog 209 0 0:=⟨ab (t:=3) underlying209 rfl sizeOf3⟩
instance:cP Tryz.prog 209 1 1:=⟨ab (t:=55) underlying209 rfl sizeOf55⟩
instance:cP Tryz.prog 209 2 2:=⟨ab (t:=207) underlying209 rfl sizeOf207⟩
instance:cP Tryz.prog 209 3 3:=⟨ab (t:=23) underlying209 rfl sizeOf23⟩
instance:cP Tryz.prog 249 0 0:=⟨ab (t:=3) underlying249 rfl sizeOf3⟩
instance:cP Tryz.prog 249 1 1:=⟨ab (t:=4) underlying249 rfl sizeOf4⟩
instance:cP Tryz.prog 249 2 2:=⟨ab (t:=3) underlying249 rfl sizeOf3⟩
instance:cP Tryz.prog 249 3 3:=⟨ab (t:=4) underlying249 rfl sizeOf4⟩
instance:cP Tryz.prog 255 0 0:=⟨ab (t:=4) underlying255 rfl sizeOf4⟩
instance:cP Tryz.prog 255 1 1:=⟨ab (t:=38) underlying255 rfl sizeOf38⟩
instance:cP Tryz.prog 260 0 0:=⟨ab (t:=28) underlying260 rfl sizeOf28⟩
instance:cP Tryz.prog 263 0 0:=⟨ab (t:=145) underlying263 rfl sizeOf145⟩
instance:cP Tryz.prog 263 1 10:=⟨ab (t:=55) underlying263 rfl sizeOf55⟩
instance:cP Tryz.prog 274 0 0:=⟨ab (t:=3) underlying274 rfl sizeOf3⟩
instance:cP Tryz.prog 274 1 1:=⟨ab (t:=3) underlying274 rfl sizeOf3⟩
instance:cP Tryz.prog 278 0 0:=⟨ab (t:=198) underlying278 rfl sizeOf198⟩
instance:cP Tryz.prog 278 1 1:=⟨ab (t:=4) underlying278 rfl sizeOf4⟩
instance:cP Tryz.prog 278 2 2:=⟨ab (t:=3) underlying278 rfl sizeOf3⟩
instance:cP Tryz.prog 287 0 0:=⟨ab (t:=3) underlying287 rfl sizeOf3⟩
instance:cP Tryz.prog 287 1 1:=⟨ab (t:=23) underlying287 rfl sizeOf23⟩
instance:cP Tryz.prog 290 0 0:=⟨ab (t:=3) underlying290 rfl sizeOf3⟩
instance:cP Tryz.prog 290 1 1:=⟨ab (t:=3) underlying290 rfl sizeOf3⟩
instance:cP Tryz.prog 295 0 0:=⟨ab (t:=3) underlying295 rfl sizeOf3⟩
instance:cP Tryz.prog 295 1 1:=⟨ab (t:=38) underlying295 rfl sizeOf38⟩
instance:cP Tryz.prog 363 0 0:=⟨ab (t:=3) underlying363 rfl sizeOf3⟩
instance:cP Tryz.prog 363 1 1:=⟨ab (t:=38) underlying363 rfl sizeOf38⟩
end Go.SLYtefdijgllbkmfaaGreat
namespace Go.SLYtefdijgllbkmfaaGreat
open Go Go.RowKit Go.Proofs Go.Proofs.Tryz
attribute [local irreducible] ax aQ bu cj bQ Y
theorem fG{W:World}{a:Int}(ha:0≤a∧a<18446744073709551616):Fn Tryz.prog W 222 [.int .u64 a] [] Unit (fun _=>.int .i64 (bH a)) (fun _=>True) (fun _=>[]):=by
 refine Fn.intro (N:=15) func222 rfl ntmps222 rfl fun F=>?_
 show ax _ _ _ _ _ _ [F]
 refine J 8 ?_
 refine .p (.dJ (Y.zm rfl rfl) (yb ha)) ?_
 refine JD 12 (fun h6=>?_) fun h6=>?_
 ·refine J 8 ?_
  refine .aC rfl rfl fun w s=>⟨(),?_,trivial,ar .auto s⟩
  exact ju (Jv h6).symm
 ·refine JD 7 (fun h9=>?_) fun h9=>?_
  ·refine J 8 ?_
   refine .aC rfl rfl fun w s=>⟨(),?_,trivial,ar .auto s⟩
   exact ju (Jw h6 h9).symm
  ·refine JD 7 (fun h12=>?_) fun h12=>?_
   ·refine J 8 ?_
    refine .aC rfl rfl fun w s=>⟨(),?_,trivial,ar .auto s⟩
    exact ju (Jx h6 h9 h12).symm
   ·refine J 9 ?_
    refine .aC rfl rfl fun w s=>⟨(),?_,trivial,ar .auto s⟩
    exact ju (Jy h6 h9 h12).symm
theorem mF{W:World}{a:Int}(ha:0≤a∧a<18446744073709551616):Fn Tryz.prog W 220 [.int .u64 a] [] Unit (fun _=>.int .u64 (fA a)) (fun _=>True) (fun _=>[]):=by
 refine Fn.intro (N:=7) func220 rfl ntmps220 rfl fun F=>?_
 show ax _ _ _ _ _ _ [F]
 refine J 9 ?_
 refine .c call222 rfl (fG ha) fun _ _=>?_
 refine JD 3 (fun h5=>?_) fun h5=>?_
 ·refine J 7 ?_
  refine .aC rfl rfl fun w s=>⟨(),?_,trivial,ar .auto s⟩
  exact ju (GZ h5).symm
 ·refine J 9 ?_
  refine .aC rfl rfl fun w s=>⟨(),?_,trivial,ar .auto s⟩
  exact ju (G0 h5).symm
theorem iv{W:World}{a:Int}(ha:0≤a∧a<18446744073709551616):Fn Tryz.prog W 223 [.int .u64 a] [] Unit (fun _=>.int .i64 (gb a)) (fun _=>True) (fun _=>[]):=by
 refine Fn.intro (N:=13) func223 rfl ntmps223 rfl fun F=>?_
 show ax _ _ _ _ _ _ [F]
 refine J 9 ?_
 refine .p (.dJ (Y.zn (n:=63) rfl rfl (by decide)) (oS ha 63 (by decide))) ?_
 refine JD 3 (fun h5=>?_) fun h5=>?_
 ·refine J 3 ?_
  refine .p (.dJ (Y.zm rfl rfl) (yb ha)) ?_
  refine .p (.dJ (Y.gy underlying38 underlying3 rfl (by have:=E7 a;omega)) rfl) ?_
  refine .p (.dJ (Y.neg rfl) (Hg (n:=((a.toNat % fS:Nat):Int)) (E7 a))) ?_
  refine .p (.sub rfl rfl (by have:=E7 a;omega)) ?_
  refine J 5 ?_
  refine .aC rfl rfl fun w s=>⟨(),?_,trivial,ar .auto s⟩
  exact ju (G3 ha h5).symm
 ·refine J 5 ?_
  refine .p (.dJ (Y.gy underlying38 underlying3 rfl (by have:=Bj ha h5;omega)) rfl) ?_
  refine J 4 ?_
  refine .aC rfl rfl fun w s=>⟨(),?_,trivial,ar .auto s⟩
  exact ju (Bj ha h5).2.symm
theorem Hh{W:World}{a b:Int}(ha:0≤a∧a<18446744073709551616)(hb:0≤b∧b<18446744073709551616):Fn Tryz.prog W 180 [.int .u64 a,.int .u64 b] [] Unit (fun _=>.int .u64 (n8 a b)) (fun _=>True) (fun _=>[]):=by
 refine Fn.intro (N:=20) func180 rfl ntmps180 rfl fun F=>?_
 show ax _ _ _ _ _ _ [F]
 refine J 9 ?_
 refine .c call222 rfl (fG ha) fun _ _=>?_
 refine J 2 ?_
 refine .lJ (t:=8) rfl (fun h3=>?_) (fun h3=>?_)
 ·refine J 6 ?_
  refine .gK rfl ?_
  refine J 7 ?_
  refine .aC rfl rfl fun w s=>⟨(),?_,trivial,ar .auto s⟩
  rw[← oM ha hb];unfold Cy;rw[if_pos (.inl h3)];rfl
 ·refine J 1 ?_
  refine .cg call222 rfl (fG hb) fun _ _=>?_
  refine JD 4 (fun h4=>?_) fun h4=>?_
  ·refine J 7 ?_
   refine .aC rfl rfl fun w s=>⟨(),?_,trivial,ar .auto s⟩
   rw[← oM ha hb];unfold Cy;rw[if_pos (.inr h4)];rfl
  ·have hno:¬(bH a=3∨bH b=3):=fun e=>e.elim h3 h4
   refine J 6 ?_
   refine .c call223 rfl (iv ha) fun _ _=>?_
   refine J 1 ?_
   refine .c call223 rfl (iv hb) fun _ _=>?_
   refine JD 3 (fun h17=>?_) fun h17=>?_
   ·refine J 8 ?_
    refine .aC rfl rfl fun w s=>⟨(),?_,trivial,ar .auto s⟩
    rw[← oM ha hb];unfold Cy;rw[if_neg hno,if_pos (by omega)]
   ·refine J 9 ?_
    refine .aC rfl rfl fun w s=>⟨(),?_,trivial,ar .auto s⟩
    rw[← oM ha hb];unfold Cy;rw[if_neg hno,if_neg (by omega)]
theorem Hi{W:World}{a b:Int}(ha:0≤a∧a<18446744073709551616)(hb:0≤b∧b<18446744073709551616):Fn Tryz.prog W 181 [.int .u64 a,.int .u64 b] [] Unit (fun _=>.int .u64 (n9 a b)) (fun _=>True) (fun _=>[]):=by
 refine Fn.intro (N:=20) func181 rfl ntmps181 rfl fun F=>?_
 show ax _ _ _ _ _ _ [F]
 refine J 9 ?_
 refine .c call222 rfl (fG ha) fun _ _=>?_
 refine J 2 ?_
 refine .lJ (t:=8) rfl (fun h3=>?_) (fun h3=>?_)
 ·refine J 6 ?_
  refine .gK rfl ?_
  refine J 7 ?_
  refine .aC rfl rfl fun w s=>⟨(),?_,trivial,ar .auto s⟩
  rw[← oN ha hb];unfold Cz;rw[if_pos (.inl h3)];rfl
 ·refine J 1 ?_
  refine .cg call222 rfl (fG hb) fun _ _=>?_
  refine JD 4 (fun h4=>?_) fun h4=>?_
  ·refine J 7 ?_
   refine .aC rfl rfl fun w s=>⟨(),?_,trivial,ar .auto s⟩
   rw[← oN ha hb];unfold Cz;rw[if_pos (.inr h4)];rfl
  ·have hno:¬(bH a=3∨bH b=3):=fun e=>e.elim h3 h4
   refine J 6 ?_
   refine .c call223 rfl (iv ha) fun _ _=>?_
   refine J 1 ?_
   refine .c call223 rfl (iv hb) fun _ _=>?_
   refine JD 3 (fun h17=>?_) fun h17=>?_
   ·refine J 8 ?_
    refine .aC rfl rfl fun w s=>⟨(),?_,trivial,ar .auto s⟩
    rw[← oN ha hb];unfold Cz;rw[if_neg hno,if_pos (by omega)]
   ·refine J 9 ?_
    refine .aC rfl rfl fun w s=>⟨(),?_,trivial,ar .auto s⟩
    rw[← oN ha hb];unfold Cz;rw[if_neg hno,if_neg (by omega)]
theorem E8{W:World}{a b:Int}(ha:0≤a∧a<18446744073709551616)(hb:0≤b∧b<18446744073709551616):Fn Tryz.prog W 182 [.int .u64 a,.int .u64 b] [] Unit (fun _=>.bool (D5 a b)) (fun _=>True) (fun _=>[]):=by
 refine Fn.intro (N:=28) func182 rfl ntmps182 rfl fun F=>?_
 show ax _ _ _ _ _ _ [F]
 refine J 9 ?_
 refine .c call222 rfl (fG ha) fun _ _=>?_
 refine J 2 ?_
 refine .lJ (t:=8) rfl (fun h3=>?_) (fun h3=>?_)
 ·refine J 16 ?_
  refine .gK rfl ?_
  refine J 7 ?_
  refine .aC rfl rfl fun w s=>⟨(),?_,trivial,ar .auto s⟩
  rw[← kv ha hb];unfold qE;rw[if_pos (.inl h3)]
 ·refine J 1 ?_
  refine .cg call222 rfl (fG hb) fun _ _=>?_
  refine J 3 ?_
  refine .lJ (t:=13) rfl (fun h4=>?_) (fun h4=>?_)
  ·refine J 11 ?_
   refine .gK rfl ?_
   refine J 7 ?_
   refine .aC rfl rfl fun w s=>⟨(),?_,trivial,ar .auto s⟩
   rw[← kv ha hb];unfold qE;rw[if_pos (.inr (.inl h4))]
  ·refine J 1 ?_
   refine .cg call222 rfl (fG ha) fun _ _=>?_
   refine J 2 ?_
   refine .lJ (t:=17) rfl (fun h5=>?_) (fun h5=>?_)
   ·refine J 1 ?_
    refine .cg call222 rfl (fG hb) fun _ _=>?_
    refine JD 5 (fun h6=>?_) fun h6=>?_
    ·refine J 7 ?_
     refine .aC rfl rfl fun w s=>⟨(),?_,trivial,ar .auto s⟩
     rw[← kv ha hb];unfold qE;rw[if_pos (.inr (.inr ⟨h5,h6⟩))]
    ·refine J 4 ?_
     have hno:¬(bH a=3∨bH b=3∨(bH a=1∧bH b=1)):=by omega
     refine J 1 ?_
     refine .c call223 rfl (iv ha) fun _ _=>?_
     refine J 1 ?_
     refine .c call223 rfl (iv hb) fun _ _=>?_
     refine J 5 ?_
     refine .aC rfl rfl fun w s=>⟨(),?_,trivial,ar .auto s⟩
     rw[← kv ha hb];unfold qE;rw[if_neg hno]
   ·refine J 7 ?_
    refine .jY rfl ?_
    refine J 4 ?_
    have hno:¬(bH a=3∨bH b=3∨(bH a=1∧bH b=1)):=by omega
    refine J 1 ?_
    refine .c call223 rfl (iv ha) fun _ _=>?_
    refine J 1 ?_
    refine .c call223 rfl (iv hb) fun _ _=>?_
    refine J 5 ?_
    refine .aC rfl rfl fun w s=>⟨(),?_,trivial,ar .auto s⟩
    rw[← kv ha hb];unfold qE;rw[if_neg hno]
theorem re{W:World}{op a b:Int}(ho:1≤op∧op≤4)(_ha:0≤a∧a<18446744073709551616)(_hb:0≤b∧b<18446744073709551616):Fn Tryz.prog W 179 [.int .i64 op,.int .u64 a,.int .u64 b] [] Unit (fun _=>.int .u64 (wF op a b)) (fun _=>True) (fun _=>[]):=by
 refine Fn.intro (N:=38) func179 rfl ntmps179 rfl fun F=>?_
 show ax _ _ _ _ _ _ [F]
 refine J 8 ?_
 refine .p (.ext (e:=Extern.MathFloatBits.float64frombits) func219 rfl rfl rfl (by kernel_rfl) rfl (fun w=>rfl)) ?_
 refine J 1 ?_
 refine .p (.ext (e:=Extern.MathFloatBits.float64frombits) func219 rfl rfl rfl (by kernel_rfl) rfl (fun w=>rfl)) ?_
 refine JD 22 (fun h15=>?_) fun h15=>?_
 ·refine J 3 ?_
  refine .aw rfl (af.Bn (Ieee.double.add _ _) rfl rfl rfl (fun w=>rfl)) ?_
  rintro _ _ ⟨r19,hr19,rfl,rfl⟩
  refine J 7 ?_
  refine .p (.ext (e:=Extern.MathFloatBits.float64bits) func221 rfl rfl rfl (by kernel_rfl) rfl (fun w=>rfl)) ?_
  refine .c call220 rfl (mF (wE hr19 (fun q e=>KS e))) fun _ _=>?_
  refine J 4 ?_
  refine .aC rfl rfl fun w s=>⟨(),?_,trivial,ar .auto s⟩
  rw[jE hr19.1];exact ju (show B9 a b=wF op a b by unfold wF;rw[if_pos h15])
 ·refine JD 6 (fun h20=>?_) fun h20=>?_
  ·refine J 3 ?_
   refine .aw rfl (af.Bn (Ieee.double.sub _ _) rfl rfl rfl (fun w=>rfl)) ?_
   rintro _ _ ⟨r24,hr24,rfl,rfl⟩
   refine J 7 ?_
   refine .p (.ext (e:=Extern.MathFloatBits.float64bits) func221 rfl rfl rfl (by kernel_rfl) rfl (fun w=>rfl)) ?_
   refine .c call220 rfl (mF (wE hr24 (fun q e=>KT e))) fun _ _=>?_
   refine J 4 ?_
   refine .aC rfl rfl fun w s=>⟨(),?_,trivial,ar .auto s⟩
   rw[jE hr24.1];exact ju (show Ca a b=wF op a b by unfold wF;rw[if_neg h15,if_pos h20])
  ·refine JD 6 (fun h25=>?_) fun h25=>?_
   ·refine J 3 ?_
    refine .aw rfl (af.Bn (Ieee.double.mul _ _) rfl rfl rfl (fun w=>rfl)) ?_
    rintro _ _ ⟨r29,hr29,rfl,rfl⟩
    refine J 7 ?_
    refine .p (.ext (e:=Extern.MathFloatBits.float64bits) func221 rfl rfl rfl (by kernel_rfl) rfl (fun w=>rfl)) ?_
    refine .c call220 rfl (mF (wE hr29 (fun q e=>KU e))) fun _ _=>?_
    refine J 4 ?_
    refine .aC rfl rfl fun w s=>⟨(),?_,trivial,ar .auto s⟩
    rw[jE hr29.1];exact ju (show Cb a b=wF op a b by unfold wF;rw[if_neg h15,if_neg h20,if_pos h25])
   ·refine JD 6 (fun h30=>?_) fun h30=>?_
    ·refine J 3 ?_
     refine .aw rfl (af.Bn (Ieee.double.div _ _) rfl rfl rfl (fun w=>rfl)) ?_
     rintro _ _ ⟨r34,hr34,rfl,rfl⟩
     refine J 7 ?_
     refine .p (.ext (e:=Extern.MathFloatBits.float64bits) func221 rfl rfl rfl (by kernel_rfl) rfl (fun w=>rfl)) ?_
     refine .c call220 rfl (mF (wE hr34 (fun q e=>KV e))) fun _ _=>?_
     refine J 4 ?_
     refine .aC rfl rfl fun w s=>⟨(),?_,trivial,ar .auto s⟩
     rw[jE hr34.1];exact ju (show Cc a b=wF op a b by unfold wF;rw[if_neg h15,if_neg h20,if_neg h25])
    ·omega
theorem CF{W:World}{a:Int}(ha:0≤a∧a<18446744073709551616):Fn Tryz.prog W 183 [.int .u64 a] [] Unit (fun _=>.int .u64 (fe a)) (fun _=>True) (fun _=>[]):=by
 refine Fn.intro (N:=46) func183 rfl ntmps183 rfl fun F=>?_
 show ax _ _ _ _ _ _ [F]
 have hexp:=Hf a
 refine J 9 ?_
 refine .c call222 rfl (fG ha) fun _ _=>?_
 refine J 2 ?_
 refine .lJ (t:=9) rfl (fun h3=>?_) (fun h3=>?_)
 ·refine J 6 ?_
  refine .gK rfl ?_
  refine J 7 ?_
  refine .aC rfl rfl fun w s=>⟨(),?_,trivial,ar .auto s⟩
  rw[KR ha (.inl h3)]
 ·refine J 1 ?_
  refine .cg call222 rfl (fG ha) fun _ _=>?_
  refine JD 4 (fun h4=>?_) fun h4=>?_
  ·refine J 7 ?_
   refine .aC rfl rfl fun w s=>⟨(),?_,trivial,ar .auto s⟩
   rw[KR ha (.inr h4)]
  ·have hno:¬(bH a=3∨bH a=1):=fun e=>e.elim h3 h4
   refine J 5 ?_
   refine .p (.dJ (Y.zn (n:=63) rfl rfl (by decide)) (oS ha 63 (by decide))) ?_
   refine J 7 ?_
   refine .p (.dJ (Y.zn (n:=52) rfl rfl (by decide)) (oS ha 52 (by decide))) ?_
   refine .p (.dJ (Y.zm rfl rfl) (CE ha)) ?_
   refine .p (.dJ (Y.gy underlying38 underlying3 rfl (by omega)) rfl) ?_
   refine .p (.dJ (Y.sub rfl rfl (by omega)) (show(E6 a:Int)-1023=fQ a from rfl)) ?_
   refine J 6 ?_
   refine .p (.dJ (Y.zm rfl rfl) (CD ha)) ?_
   refine .p (.dJ (Y.Lm rfl rfl) (zQ a)) ?_
   refine J 6 ?_
   have hpw:fQ a=(E6 a:Int)-1023:=rfl
   refine JD 4 (fun h26=>?_) fun h26=>?_
   ·refine J 7 ?_
    refine .aC rfl rfl fun w s=>⟨(),?_,trivial,ar .auto s⟩
    rw[LM ha hno h26]
   ·refine JD 9 (fun h28=>?_) fun h28=>?_
    ·refine JD 6 (fun h29=>?_) fun h29=>?_
     ·refine J 8 ?_
      refine .aC rfl rfl fun w s=>⟨(),?_,trivial,ar .auto s⟩
      rw[LN ha hno h26 h28 h29]
     ·refine J 9 ?_
      refine .aC rfl rfl fun w s=>⟨(),?_,trivial,ar .auto s⟩
      rw[LO ha hno h26 h28 h29]
    ·refine J 2 ?_
     refine .nJ (X:=Unit) [5,30,31,32,33,34,35,36,37,38,39,40,41] (fun _=>True) (fun _=>[(5,some (.int .u64 (gx a:Int)))]) (fun _=>[F]) ?_ ?_
     ·refine JD 6 (fun h31=>?_) fun h31=>?_
      ·refine J 4 ?_
       refine .p (.gh underlying3 underlying299 rfl (by omega)) ?_
       refine .p (.dJ (Y.BX rfl rfl (by omega)) (G4 h31 h28)) ?_
       refine J 2 ?_
       refine .eY () .auto ?_ ?_ ?_
       ·trivial
       ·exact⟨rfl,trivial⟩
       ·exact fun w s=>aK.kept .auto w s
      ·refine J 4 ?_
       refine .p (.gh underlying3 underlying299 rfl (by omega)) ?_
       refine .p (.dJ (Y.zn rfl rfl (by omega)) (G5 h31 h26)) ?_
       refine J 2 ?_
       refine .eY () .auto ?_ ?_ ?_
       ·trivial
       ·exact⟨rfl,trivial⟩
       ·exact fun w s=>aK.kept .auto w s
     ·rintro⟨⟩ -
      refine JD 6 (fun h42=>?_) fun h42=>?_
      ·refine J 3 ?_
       refine .p (.dJ (Y.neg rfl) (Bk _)) ?_
       refine J 5 ?_
       refine .aC rfl rfl fun w s=>⟨(),?_,trivial,ar .auto s⟩
       rw[LP ha hno h26 h28 h42]
      ·refine J 9 ?_
       refine .aC rfl rfl fun w s=>⟨(),?_,trivial,ar .auto s⟩
       rw[LQ ha hno h26 h28 h42]
theorem yc{W:World}{a:Int}(ha:0≤a∧a<18446744073709551616):Fn Tryz.prog W 184 [.int .u64 a] [] Unit (fun _=>.int .u64 (fj a)) (fun _=>True) (fun _=>[]):=by
 refine Fn.intro (N:=76) func184 rfl ntmps184 rfl fun F=>?_
 show ax _ _ _ _ _ _ [F]
 have hml:=wC ha
 refine J 10 ?_
 refine .nJ (X:=Unit) [0,3,10,11,12,13,14] (fun _=>True) (fun _=>[(3,some (.int .u64 (lF a:Int))),(0,some (.int .u64 ((dQ a):Int)))]) (fun _=>[F]) ?_ ?_
 ·refine J 3 ?_
  refine .p (.dJ (Y.zn (n:=63) rfl rfl (by decide)) (oS ha 63 (by decide))) ?_
  refine JD 3 (fun h12=>?_) fun h12=>?_
  ·refine J 7 ?_
   refine .p (.dJ (Y.neg rfl) (Bl ha h12).1) ?_
   refine J 2 ?_
   refine .eY () .auto ?_ ?_ ?_
   ·trivial
   ·exact⟨congrArg (fun z=>some (Value.int .u64 z)) (Bl ha h12).2,rfl,trivial⟩
   ·exact fun w s=>aK.kept .auto w s
  ·refine J 1 ?_
   refine .eY () .auto ?_ ?_ ?_
   ·trivial
   ·exact⟨congrArg (fun z=>some (Value.int .u64 z)) (Bm ha h12).2,congrArg (fun z=>some (Value.int .u64 z)) (Bm ha h12).1,trivial⟩
   ·exact fun w s=>aK.kept .auto w s
 ·rintro⟨⟩ -
  refine JD 7 (fun h16=>?_) fun h16=>?_
  ·have h16:dQ a=0:=by omega
   refine J 7 ?_
   refine .aC rfl rfl fun w s=>⟨(),?_,trivial,ar .auto s⟩
   rw[LR ha h16]
  ·have h16:¬dQ a=0:=by omega
   refine J 9 ?_
   refine .cM (X:=Nat) [4,17,18,19,20,21,22,23] (fun top=>top) (fun top=>top≤63∧(dQ a)<2 ^ (top+1)) (fun top=>[(4,some (.int .i64 (top:Int)))]) (fun _=>[F]) 63 ?_ ?_ ?_ ?_
   ·exact⟨Nat.le_refl _,Nat.lt_of_le_of_lt hml (by decide)⟩
   ·exact⟨rfl,trivial⟩
   ·exact fun w s=>aK.kept .auto w s
   rintro top ⟨ht63,htm⟩
   refine J 5 ?_
   refine .p (.gh underlying3 underlying299 rfl (by omega)) ?_
   refine .p (.dJ (Y.zn (n:=(top:Int)) rfl rfl (by omega)) (oR (by omega))) ?_
   refine JD 3 (fun h21=>?_) fun h21=>?_
   ·have htn:=E4 (m:=(dQ a)) (t:=top) (by omega) h16
    refine J 9 ?_
    refine .bf (top-1) .auto rfl ?_ ?_ ?_ ?_
    ·show top-1<top;omega
    ·exact⟨by omega,htn.2⟩
    ·exact⟨congrArg (fun z=>some (Value.int .i64 z)) (show(top:Int)-1=((top-1:Nat):Int) by omega),trivial⟩
    ·exact fun w s=>aK.kept .auto w s
   ·have htop:top=(dQ a).log2:=G6 h16 htm (by omega)
    refine J 8 ?_
    refine .p (.add rfl rfl (by omega)) ?_
    refine .p (.gh underlying3 underlying38 rfl (by omega)) ?_
    refine JD 10 (fun h28=>?_) fun h28=>?_
    ·have h28:top≤52:=by omega
     refine J 4 ?_
     refine .p (.BX rfl rfl (by decide)) ?_
     refine .p (.Lm rfl rfl) ?_
     refine J 3 ?_
     refine .p (.gh underlying3 underlying299 rfl (by omega)) ?_
     refine .p (.BX rfl rfl (by omega)) ?_
     refine .p (.zm rfl rfl) ?_
     refine .p (.dJ (Y.Lm rfl rfl) (Jz ha h16 htop h28)) ?_
     exact JR 5 ()
    ·have h28:¬top≤52:=by omega
     obtain⟨ct,hct⟩:∃ ct,top=ct+53:=⟨top - 53,by omega⟩
     have hct1:(top:Int)-52=((ct+1:Nat):Int):=by omega
     have hp1:2 ^ (ct+1)=2 * 2 ^ ct:=by rw[Nat.pow_succ,Nat.mul_comm]
     have hp2:2 ^ ct≤2 ^ 10:=Nat.pow_le_pow_right (by decide) (by omega)
     have hp0:0<2 ^ ct:=Nat.two_pow_pos _
     have hp10:(2:Nat) ^ 10=1024:=by decide
     have hmu:(dQ a)<18446744073709551616:=by omega
     have hwh:zl .u64 ((dQ a):Int) ((top:Int)-52)=(((dQ a) / 2 ^ (ct+1):Nat):Int):=by rw[hct1];exact oR (by omega)
     have hon:mQ .u64 1 ((top:Int)-52)=((2 ^ (ct+1):Nat):Int):=by rw[hct1];have:=kz (x:=1) (n:=ct+1) (by omega) (by omega);rw[Nat.one_mul] at this;exact this
     have hon1:((2 ^ (ct+1):Nat):Int)-1=((2 ^ (ct+1)-1:Nat):Int):=by omega
     have hre:pG .u64 ((dQ a):Int) ((2 ^ (ct+1)-1:Nat):Int)=(((dQ a) % 2 ^ (ct+1):Nat):Int):=ky hmu (by omega)
     have hha:mQ .u64 1 ((top:Int)-52-1)=((2 ^ ct:Nat):Int):=by rw[show(top:Int)-52-1=((ct:Nat):Int) by omega];have:=kz (x:=1) (n:=ct) (by omega) (by omega);rw[Nat.one_mul] at this;exact this
     have hwb:(dQ a) / 2 ^ (ct+1)≤9223372036854775808:=Nat.le_trans (Nat.div_le_self _ _) hml
     have hw0:(0:Int)≤(((dQ a) / 2 ^ (ct+1):Nat):Int):=Int.natCast_nonneg _
     have hod:pG .u64 (((dQ a) / 2 ^ (ct+1):Nat):Int) 1=(((dQ a) / 2 ^ (ct+1) % 2:Nat):Int):=ky (k:=1) (by omega) (by decide)
     have hpw:=Hd (t:=top) ht63
     have hkb:=He htop h28 ht63
     have hpb:=JB ht63
     refine J 6 ?_
     refine .p (.gh underlying3 underlying299 rfl (by omega)) ?_
     refine J 7 ?_
     refine .p (.dJ (Y.zn rfl rfl (by omega)) hwh) ?_
     refine J 7 ?_
     refine .p (.dJ (Y.BX rfl rfl (by omega)) hon) ?_
     refine .p (.dJ (Y.IW rfl rfl (by omega)) hon1) ?_
     refine .p (.dJ (Y.zm rfl rfl) hre) ?_
     refine J 6 ?_
     refine .p (.IW rfl rfl (by omega)) ?_
     refine .p (.dJ (Y.BX rfl rfl (by omega)) hha) ?_
     refine J 3 ?_
     refine .nJ (X:=Unit) [7,54,55,56,57,58,59,60,61,62,63,64,65,66,67,68] (fun _=>True) (fun _=>[(7,some (.int .u64 (ji (dQ a):Int)))]) (fun _=>[F]) ?_ ?_
     ·refine J 6 ?_
      apply aQ.ga 9 66 57 [57,58,59,60,61,62,63,64,65,66] rfl
      ·intro h57
       refine J 4 ?_
       apply aQ.fZ 4 65 61 [61,62,63,64,65] rfl
       ·intro h61
        refine J 1 ?_
        refine .g (.dJ (Y.zm rfl rfl) hod) ?_
        refine J 3 ?_
        refine .tt .auto rfl (by first | exact fun _ h=>h | exact aK.kept .auto)
       ·intro h61
        refine J 5 ?_
        refine .tt .auto rfl (by first | exact fun _ h=>h | exact aK.kept .auto)
       refine J 2 ?_
       refine .tt .auto rfl (by first | exact fun _ h=>h | exact aK.kept .auto)
      ·intro h57
       refine J 10 ?_
       refine .tt .auto rfl (by first | exact fun _ h=>h | exact aK.kept .auto)
      refine JD 2 (fun h66=>?_) fun h66=>?_
      ·simp only[Bool.and_eq_true,Bool.or_eq_true,decide_eq_true_eq] at h66
       refine J 2 ?_
       refine .p (.Dv rfl rfl (by omega)) ?_
       refine J 2 ?_
       refine .eY () .auto ?_ ?_ ?_
       ·trivial
       ·exact⟨congrArg (fun z=>some (Value.int .u64 z)) (Hb htop h28 (by omega)),trivial⟩
       ·exact fun w s=>aK.kept .auto w s
      ·simp only[Bool.and_eq_false_iff,Bool.or_eq_false_iff,decide_eq_false_iff_not] at h66
       refine J 1 ?_
       refine .eY () .auto ?_ ?_ ?_
       ·trivial
       ·exact⟨congrArg (fun z=>some (Value.int .u64 z)) (Hc htop h28 (by omega)),trivial⟩
       ·exact fun w s=>aK.kept .auto w s
     ·rintro⟨⟩ -
      refine J 4 ?_
      refine .p (.dJ (Y.BX rfl rfl (by decide)) hpw) ?_
      refine J 1 ?_
      refine .p (.Dv rfl rfl (by omega)) ?_
      refine .p (.dJ (Y.IW rfl rfl (by omega)) E5) ?_
      refine .p (.dJ (Y.Lm rfl rfl) (Ha ha h16 htop h28)) ?_
      exact JR 4 ()
end Go.SLYtefdijgllbkmfaaGreat
namespace Go.SLYtefdijgllbkmfaaGreat
open Go Go.RowKit Go.Proofs Go.Proofs.Tryz
attribute [local irreducible] ax aQ bu cj bQ Y
theorem CG{W:World}{op a b:Int}(ha:0≤a∧a<18446744073709551616)(hb:0≤b∧b<18446744073709551616):Fn Tryz.prog W 128 [.int .i64 op,.int .u64 a,.int .u64 b] [] Bool (fun y=>.tuple #[.int .u64 (aH op a b),.bool y]) (fun _=>True) (fun _=>[]):=by
 refine Fn.intro (N:=68) func128 rfl ntmps128 rfl fun F=>?_
 show ax _ _ _ _ _ _ [F]
 refine JD 24 (fun h10=>?_) fun h10=>?_
 ·refine J 10 ?_
  refine .eo rfl rfl rfl fun w s=>⟨true,?_,trivial,ar .auto s⟩
  rw[show aH op a b=a from by unfold aH;rw[if_pos h10]]
 ·refine JD 6 (fun h13=>?_) fun h13=>?_
  ·refine J 4 ?_
   refine .p (.yZ rfl rfl) ?_
   refine J 7 ?_
   refine .eo rfl rfl rfl fun w s=>⟨true,?_,trivial,ar .auto s⟩
   rw[show aH op a b=gU (a+b) from by unfold aH;rw[if_neg h10,if_pos h13]]
   rfl
  ·refine JD 6 (fun h18=>?_) fun h18=>?_
   ·refine J 4 ?_
    refine .p (.Gs rfl rfl) ?_
    refine J 7 ?_
    refine .eo rfl rfl rfl fun w s=>⟨true,?_,trivial,ar .auto s⟩
    rw[show aH op a b=gU (a-b) from by unfold aH;rw[if_neg h10,if_neg h13,if_pos h18]]
    rfl
   ·refine JD 6 (fun h23=>?_) fun h23=>?_
    ·refine J 4 ?_
     refine .p (.Du rfl rfl) ?_
     refine J 7 ?_
     refine .eo rfl rfl rfl fun w s=>⟨true,?_,trivial,ar .auto s⟩
     rw[show aH op a b=gU (a * b) from by unfold aH;rw[if_neg h10,if_neg h13,if_neg h18,if_pos h23]]
     rfl
    ·refine JD 6 (fun h28=>?_) fun h28=>?_
     ·refine JD 14 (fun h67=>?_) fun h67=>?_
      ·refine J 8 ?_
       refine .eo rfl rfl rfl fun w s=>⟨true,?_,trivial,ar .auto s⟩
       rw[show aH op a b=rV (decide (a<b)) from by unfold aH;rw[if_neg h10,if_neg h13,if_neg h18,if_neg h23,if_pos h28]]
       rw[decide_eq_true h67];rfl
      ·refine J 9 ?_
       refine .eo rfl rfl rfl fun w s=>⟨true,?_,trivial,ar .auto s⟩
       rw[show aH op a b=rV (decide (a<b)) from by unfold aH;rw[if_neg h10,if_neg h13,if_neg h18,if_neg h23,if_pos h28]]
       rw[decide_eq_false h67];rfl
     ·refine JD 7 (fun h33=>?_) fun h33=>?_
      ·refine J 2 ?_
       first | refine ax.dN rfl (fun _=>?_) (fun hc=>absurd h33 hc) | refine ax.cond rfl (fun _=>?_) (fun hc=>by rw[h33] at hc;cases hc)
       refine J 4 ?_
       refine .p (.add rfl rfl (by omega)) ?_
       refine J 2 ?_
       refine .c call179 rfl (re (op:=op-7+1) (by omega) ha hb) fun _ _=>?_
       refine J 7 ?_
       refine .eo rfl rfl rfl fun w s=>⟨true,?_,trivial,ar .auto s⟩
       rw[show aH op a b=B9 a b from by unfold aH;rw[if_neg h10,if_neg h13,if_neg h18,if_neg h23,if_neg h28,if_pos h33]]
       subst h33;rfl
      ·refine JD 6 (fun h35=>?_) fun h35=>?_
       ·refine J 2 ?_
        first | refine ax.dN rfl (fun _=>?_) (fun hc=>absurd h35 hc) | refine ax.cond rfl (fun _=>?_) (fun hc=>by rw[h35] at hc;cases hc)
        refine J 4 ?_
        refine .p (.add rfl rfl (by omega)) ?_
        refine J 2 ?_
        refine .c call179 rfl (re (op:=op-7+1) (by omega) ha hb) fun _ _=>?_
        refine J 7 ?_
        refine .eo rfl rfl rfl fun w s=>⟨true,?_,trivial,ar .auto s⟩
        rw[show aH op a b=Ca a b from by unfold aH;rw[if_neg h10,if_neg h13,if_neg h18,if_neg h23,if_neg h28,if_neg h33,if_pos h35]]
        subst h35;rfl
       ·refine JD 6 (fun h36=>?_) fun h36=>?_
        ·refine J 2 ?_
         first | refine ax.dN rfl (fun _=>?_) (fun hc=>absurd h36 hc) | refine ax.cond rfl (fun _=>?_) (fun hc=>by rw[h36] at hc;cases hc)
         refine J 4 ?_
         refine .p (.add rfl rfl (by omega)) ?_
         refine J 2 ?_
         refine .c call179 rfl (re (op:=op-7+1) (by omega) ha hb) fun _ _=>?_
         refine J 7 ?_
         refine .eo rfl rfl rfl fun w s=>⟨true,?_,trivial,ar .auto s⟩
         rw[show aH op a b=Cb a b from by unfold aH;rw[if_neg h10,if_neg h13,if_neg h18,if_neg h23,if_neg h28,if_neg h33,if_neg h35,if_pos h36]]
         subst h36;rfl
        ·refine JD 5 (fun h37=>?_) fun h37=>?_
         ·refine J 4 ?_
          refine .p (.add rfl rfl (by omega)) ?_
          refine J 2 ?_
          refine .c call179 rfl (re (op:=op-7+1) (by omega) ha hb) fun _ _=>?_
          refine J 7 ?_
          refine .eo rfl rfl rfl fun w s=>⟨true,?_,trivial,ar .auto s⟩
          rw[show aH op a b=Cc a b from by unfold aH;rw[if_neg h10,if_neg h13,if_neg h18,if_neg h23,if_neg h28,if_neg h33,if_neg h35,if_neg h36,if_pos h37]]
          subst h37;rfl
         ·refine JD 6 (fun h44=>?_) fun h44=>?_
          ·refine J 4 ?_
           refine .c call180 rfl (Hh ha hb) fun _ _=>?_
           refine J 7 ?_
           refine .eo rfl rfl rfl fun w s=>⟨true,?_,trivial,ar .auto s⟩
           rw[show aH op a b=n8 a b from by unfold aH;rw[if_neg h10,if_neg h13,if_neg h18,if_neg h23,if_neg h28,if_neg h33,if_neg h35,if_neg h36,if_neg h37,if_pos h44]]
          ·refine JD 6 (fun h49=>?_) fun h49=>?_
           ·refine J 4 ?_
            refine .c call181 rfl (Hi ha hb) fun _ _=>?_
            refine J 7 ?_
            refine .eo rfl rfl rfl fun w s=>⟨true,?_,trivial,ar .auto s⟩
            rw[show aH op a b=n9 a b from by unfold aH;rw[if_neg h10,if_neg h13,if_neg h18,if_neg h23,if_neg h28,if_neg h33,if_neg h35,if_neg h36,if_neg h37,if_neg h44,if_pos h49]]
           ·refine JD 6 (fun h54=>?_) fun h54=>?_
            ·refine J 3 ?_
             refine .c call182 rfl (E8 ha hb) fun _ _=>?_
             refine JD 10 (fun h67=>?_) fun h67=>?_
             ·refine J 8 ?_
              refine .eo rfl rfl rfl fun w s=>⟨true,?_,trivial,ar .auto s⟩
              rw[show aH op a b=rV (D5 a b) from by unfold aH;rw[if_neg h10,if_neg h13,if_neg h18,if_neg h23,if_neg h28,if_neg h33,if_neg h35,if_neg h36,if_neg h37,if_neg h44,if_neg h49,if_pos h54]]
              rw[h67];rfl
             ·refine J 9 ?_
              refine .eo rfl rfl rfl fun w s=>⟨true,?_,trivial,ar .auto s⟩
              rw[show aH op a b=rV (D5 a b) from by unfold aH;rw[if_neg h10,if_neg h13,if_neg h18,if_neg h23,if_neg h28,if_neg h33,if_neg h35,if_neg h36,if_neg h37,if_neg h44,if_neg h49,if_pos h54]]
              rw[h67];rfl
            ·refine JD 6 (fun h59=>?_) fun h59=>?_
             ·refine J 3 ?_
              refine .c call183 rfl (CF ha) fun _ _=>?_
              refine J 7 ?_
              refine .eo rfl rfl rfl fun w s=>⟨true,?_,trivial,ar .auto s⟩
              rw[show aH op a b=fe a from by unfold aH;rw[if_neg h10,if_neg h13,if_neg h18,if_neg h23,if_neg h28,if_neg h33,if_neg h35,if_neg h36,if_neg h37,if_neg h44,if_neg h49,if_neg h54,if_pos h59]]
             ·refine JD 6 (fun h63=>?_) fun h63=>?_
              ·refine J 3 ?_
               refine .c call184 rfl (yc ha) fun _ _=>?_
               refine J 7 ?_
               refine .eo rfl rfl rfl fun w s=>⟨true,?_,trivial,ar .auto s⟩
               rw[show aH op a b=fj a from by unfold aH;rw[if_neg h10,if_neg h13,if_neg h18,if_neg h23,if_neg h28,if_neg h33,if_neg h35,if_neg h36,if_neg h37,if_neg h44,if_neg h49,if_neg h54,if_neg h59,if_pos h63]]
              ·refine J 9 ?_
               refine .eo rfl rfl rfl fun w s=>⟨false,?_,trivial,ar .auto s⟩
               rw[show aH op a b=0 from by unfold aH;rw[if_neg h10,if_neg h13,if_neg h18,if_neg h23,if_neg h28,if_neg h33,if_neg h35,if_neg h36,if_neg h37,if_neg h44,if_neg h49,if_neg h54,if_neg h59,if_neg h63]]
end Go.SLYtefdijgllbkmfaaGreat
namespace Go.SLYtefdijgllbkmfaaGreat
open Go Go.RowKit
theorem yd{α β:Type}:∀ {xs:List (Nat×α)} {ys:List (Nat×β)},xs.map (·.1)=ys.map (·.1)→rows df xs=rows df ys
 | [],[],_=>rfl
 | [],y::ys,h=>by cases h
 | x::xs,[],h=>by cases h
 | x::xs,y::ys,h=>by
  simp only[List.map_cons,List.cons.injEq] at h
  rw[fL,fL,yd h.2]
  show[ptr x.1]++_=[ptr y.1]++_
  rw[h.1]
theorem rf{α β:Type}{xs:List (Nat×α)}{ys:List (Nat×β)}{v:Value}(h:xs.map (·.1)=ys.map (·.1)):∀ g,sl df 1 v xs g→sl df 1 v ys g:=fun g s=>by
 have hl:xs.length=ys.length:=by have:=congrArg List.length h;simpa using this
 rcases s with ⟨a,rfl,e⟩ | ⟨b,cap,sp,e1,e2, -,e4,e5⟩
 ·refine .inl ⟨a,?_,e⟩
  cases ys with
  | nil=>rfl
  | cons y ys=>simp at hl
 ·exact .inr ⟨b,cap,sp,by rw[← hl];exact e1,by rw[← hl];exact e2,fun _ _=>rfl,by rw[← hl];exact e4,by rw[← yd h];exact e5⟩
theorem Bo{α:Type}{f:α→aa}{xs:List α}{i:Nat}(hi:i<xs.length)(x:α):∀ g,seps [f x,aT f (xs.eraseIdx i)] g→aT f (xs.set i x) g:=fun g a=>by
 rw[iW f x hi];exact gX.1 a
def ye(k:Nat)(xs:List (Nat×Spc)):List (Nat×Spc):=(xs.take k).map (fun x=>(x.1,x.2.tick.2))++xs.drop k
theorem E9{xs:List (Nat×Spc)}:ye 0 xs=xs:=by unfold ye;simp
theorem Fa{xs:List (Nat×Spc)}{k:Nat}{x:Nat×Spc}(h:xs[k]?=some x):(ye k xs)[k]?=some x∧(ye k xs).set k (x.1,x.2.tick.2)=ye (k+1) xs:=by
 have hk:=(List.getElem?_eq_some_iff.1 h).1
 have hl:((xs.take k).map (fun x:Nat×Spc=>(x.1,x.2.tick.2))).length=k:=by rw[List.length_map,List.length_take];omega
 unfold ye
 rw[drop_cons h]
 refine⟨?_,?_⟩
 ·rw[List.getElem?_append_right (by omega),hl,Nat.sub_self];rfl
 ·rw[List.set_append_right _ _ (by omega),hl,Nat.sub_self,cy h,List.map_append,List.append_assoc];rfl
theorem Hj{xs:List (Nat×Spc)}:ye xs.length xs=xs.map (fun x=>(x.1,x.2.tick.2)):=by unfold ye;simp
theorem CH{b:Nat}{v:Value}{xs:List (Nat×Spc)}{l:List Spc}(h:xs.map (·.2)=l):∀ g,seps [arr b 0 [v],sl df 1 v xs,aT (fun x:Nat×Spc=>cH x.1 x.2) (xs.map (fun x=>(x.1,x.2.tick.2)))] g→da b (l.map fun s=>s.tick.2) g:=fun g a=>by
 refine⟨v,xs.map (fun x=>(x.1,x.2.tick.2)),by subst h;rw[List.map_map,List.map_map];rfl,?_⟩
 simp only[seps,aP] at a ⊢
 exact aS (fun _ b=>b) (aS (rf (by rw[List.map_map];rfl)) (fun _ b=>b)) g a
theorem one_set{b:Nat}{v:Value}{xs:List (Nat×Spc)}{l:List Spc}{i:Nat}{x:Nat×Spc}(h:xs.map (·.2)=l)(hx:xs[i]?=some x)(s:Spc):∀ g,seps [arr b 0 [v],sl df 1 v xs,cH x.1 s,aT (fun x:Nat×Spc=>cH x.1 x.2) (xs.eraseIdx i)] g→da b (l.set i s) g:=fun g a=>by
 have hi:=(List.getElem?_eq_some_iff.1 hx).1
 refine⟨v,xs.set i (x.1,s),by show(xs.set i (x.1,s)).map (·.2)=_;rw[List.map_set,h],?_⟩
 simp only[seps,aP] at a ⊢
 refine aS (fun _ b=>b) (aS (rf ?_) (fun g b=>?_)) g a
 ·rw[List.map_set]
  have:(xs.map (·.1))[i]?=some x.1:=by rw[List.getElem?_map,hx];rfl
  exact(eF this).symm
 ·rw[iW _ _ hi];exact b
theorem oV{α β:Type}{f:α→β}{l:List α}{i:Int}:cE (l.map f) i=(cE l i).map f:=by
 unfold cE;split
 ·rfl
 ·rw[List.getElem?_map]
end Go.SLYtefdijgllbkmfaaGreat
namespace Go.SLYtefdijgllbkmfaaGreat
open Go Go.RowKit
def oReady(l:List Spc)(n:Int):List Int:=match cE l n with | none=>[] | some s=>s.ready
def kA(l:List Spc)(n:Int):List Rec:=match cE l n with | none=>[] | some s=>s.au
def wG(l:List Spc)(n:Int):List Int:=match cE l n with | none=>[] | some s=>s.mem
def gv(ps:List eZ):Int:=if ps.length<1∨8<ps.length then 1 else checkAll ps
theorem sI{ps:List eZ}(h:¬(ps.length<1∨8<ps.length)):gv ps=checkAll ps:=if_neg h
theorem ma{ps:List eZ}(h:ps.length<1∨8<ps.length):gv ps=1:=if_pos h
theorem mX{l:List eZ}{n:Nat}{p:eZ}(h:l[n]?=some p)(hc:dD p=0):checkAll (l.drop n)=checkAll (l.drop (n+1)):=by rw[drop_cons h,checkAll,if_pos hc]
theorem jT{l:List eZ}{n:Nat}{p:eZ}(h:l[n]?=some p)(hc:¬dD p=0):checkAll (l.drop n)=dD p:=by rw[drop_cons h,checkAll,if_neg hc]
theorem pY{b:Nat}{v:Value}{xs:List (Nat×Spc)}{l:List Spc}(h:xs.map (·.2)=l):∀ g,seps [arr b 0 [v],sl df 1 v xs,aT (fun x:Nat×Spc=>cH x.1 x.2) xs] g→da b l g:=fun _ a=>⟨v,xs,h,a⟩
theorem wH{xs:List (Nat×Spc)}{l:List Spc}(h:xs.map (·.2)=l){n:Int}{s:Spc}(hg:cE l n=some s):∃ q,cE xs n=some (q,s)∧xs[n.toNat]?=some (q,s):=by
 rw[← h,oV] at hg
 cases hx:cE xs n with
 | none=>rw[hx] at hg;cases hg
 | some x =>
  rw[hx] at hg
  have e:x.2=s:=Option.some.inj hg
  subst e
  exact⟨x.1,rfl,(fN hx).2.2⟩
theorem zR{xs:List (Nat×Spc)}{l:List Spc}(h:xs.map (·.2)=l){n:Int}(hg:cE l n=none):cE xs n=none:=by
 rw[← h,oV] at hg
 cases hx:cE xs n with
 | none=>rfl
 | some x=>rw[hx] at hg;cases hg
theorem mG{xs:List (Nat×Spc)}{i q:Nat}{s:Spc}(hx:xs[i]?=some (q,s)):∀ g,aT (fun x:Nat×Spc=>cH x.1 x.2) xs g→seps [cH q s,aT (fun x:Nat×Spc=>cH x.1 x.2) (xs.eraseIdx i)] g:=lY (f:=fun x:Nat×Spc=>cH x.1 x.2) hx
theorem mc{b:Nat}{v:Value}{xs:List (Nat×Spc)}{l:List Spc}{i q:Nat}{s:Spc}(h:xs.map (·.2)=l)(hx:xs[i]?=some (q,s)):∀ g,seps [arr b 0 [v],sl df 1 v xs,cH q s,aT (fun x:Nat×Spc=>cH x.1 x.2) (xs.eraseIdx i)] g→da b l g:=fun g a=>by
 have:=one_set h hx s g a
 have e:l[i]?=some s:=by rw[← h,List.getElem?_map,hx];rfl
 rwa [eF e] at this
theorem Bp{b:Nat}{v:Value}{xs:List (Nat×Spc)}{l:List Spc}{i q:Nat}{s:Spc}(h:xs.map (·.2)=l)(hx:xs[i]?=some (q,s))(t:Spc):∀ g,seps [arr b 0 [v],sl df 1 v xs,cH q t,aT (fun x:Nat×Spc=>cH x.1 x.2) (xs.eraseIdx i)] g→da b (l.set i t) g:=one_set h hx t
theorem Hk{xs:List (Nat×Spc)}{k q:Nat}{s:Spc}(hx:xs[k]?=some (q,s)):∀ g,aT (fun x:Nat×Spc=>cH x.1 x.2) (ye k xs) g→seps [cH q s,aT (fun x:Nat×Spc=>cH x.1 x.2) ((ye k xs).eraseIdx k)] g:=mG (Fa hx).1
theorem JC{xs:List (Nat×Spc)}{k q:Nat}{s:Spc}(hx:xs[k]?=some (q,s)):∀ g,seps [cH q s.tick.2,aT (fun x:Nat×Spc=>cH x.1 x.2) ((ye k xs).eraseIdx k)] g→aT (fun x:Nat×Spc=>cH x.1 x.2) (ye (k+1) xs) g:=by
 obtain⟨h1,h2⟩:=Fa hx
 rw[← h2]
 exact Bo (f:=fun x:Nat×Spc=>cH x.1 x.2) (List.getElem?_eq_some_iff.1 h1).1 (q,s.tick.2)
theorem Fb{b:Nat}{v:Value}{xs:List (Nat×Spc)}{l:List Spc}(h:xs.map (·.2)=l){a:zK}(ha:a.kind=3):∀ g,seps [arr b 0 [v],sl df 1 v xs,aT (fun x:Nat×Spc=>cH x.1 x.2) (ye xs.length xs)] g→da b (oDo l a).2 g:=by
 have e:(oDo l a).2=l.map fun s=>s.tick.2:=by unfold oDo;rw[if_pos ha]
 rw[e,Hj]
 exact CH h
theorem yf{l:List Spc}{a:zK}(ha:a.kind=3):(oDo l a).1=0:=by unfold oDo;rw[if_pos ha]
theorem sJ{l:List Spc}{a:zK}(ha:¬a.kind=3)(hg:cE l a.space=none):oDo l a=(1,l):=by unfold oDo;rw[if_neg ha,hg]
theorem rh{l:List Spc}{a:zK}{s:Spc}(ha:a.kind=1)(hg:cE l a.space=some s):oDo l a=((s.run a.dv a.choice).2.1,l.set a.space.toNat (s.run a.dv a.choice).2.2):=by unfold oDo;rw[if_neg (by omega),hg];simp only;rw[if_pos ha]
theorem sK{l:List Spc}{a:zK}{s:Spc}(ha:a.kind=2)(hg:cE l a.space=some s):oDo l a=((s.done a.choice).2.1,l.set a.space.toNat (s.done a.choice).2.2):=by unfold oDo;rw[if_neg (by omega),hg];simp only;rw[if_neg (by omega),if_pos ha]
theorem yh{l:List Spc}{a:zK}{s:Spc}(h3:¬a.kind=3)(h1:¬a.kind=1)(h2:¬a.kind=2)(hg:cE l a.space=some s):oDo l a=(1,l):=by unfold oDo;rw[if_neg h3,hg];simp only;rw[if_neg h1,if_neg h2]
end Go.SLYtefdijgllbkmfaaGreat
namespace Go.SLYtefdijgllbkmfaaGreat
open Go Go.RowKit
theorem mY:∀ {l:List eZ},checkAll l=0→ ∀ p∈l,dD p=0
 | [],_,p,hp=>by cases hp
 | q::l,h,p,hp=>by
  unfold checkAll at h
  split at h
  ·rename_i hq
   rcases List.mem_cons.1 hp with rfl | hp
   ·exact hq
   ·exact mY h p hp
  ·rename_i hq;exact absurd h hq
theorem oW{ps:List eZ}(h:gv ps=0):1≤ps.length∧ps.length≤8∧ ∀ p∈ps,dD p=0:=by
 unfold gv at h
 split at h
 ·cases h
 ·exact⟨by omega,by omega,mY h⟩
theorem iq.new{ps:List eZ}(h:gv ps=0)(hw:∀ p∈ps, ∀ f∈p.funcs, ∀ i∈f,fq i.n):iq 1 (ps.map Spc.new):=fun s hs=>by
 obtain⟨p,hp,rfl⟩:=List.mem_map.1 hs
 exact q6.new ⟨(oW h).2.2 p hp,hw p hp⟩
theorem iq.qP{k:Nat}{l:List Spc}(h:iq k l)(hk:k≤1990):∀ s∈l,fE s:=fun s hs=>(h s hs).qP hk
theorem Fc{l:List Spc}{k:Nat}{s:Spc}(h:l[k]?=some s):kA l (k:Int)=s.au:=by unfold kA;rw[lP,h]
theorem Hl{l:List Spc}{k:Nat}{s:Spc}(h:l[k]?=some s):wG l (k:Int)=s.mem:=by unfold wG;rw[lP,h]
theorem CI{l:List Spc}{k:Nat}{s:Spc}(h:l[k]?=some s):oReady l (k:Int)=s.ready:=by unfold oReady;rw[lP,h]
/-! the laws' own fact -/
def Ln:List Ins:=[⟨32,1,0,0,0⟩]
def Dp:eZ:=⟨[Ln],0,0,0,[],[],0,0⟩
def lG(x y:Nat):bN:=⟨Kk y 1,[(Kk x 1,Ln)],0,0,0,.slice none 0 0,[],.slice none 0 0,[],0,0⟩
def LS(x y z:Nat):aa:=seps [arr z 0 (rows eH [lG x y,lG x y]),arr y 0 [Kk x 1],arr x 0 (rows dI Ln)]
theorem Fe{W:World}{x y z:Nat}:Rd W [LS x y z] eH 8 (Kk z 2) [lG x y,lG x y]:=Rd.lE (Rd.lit .here rfl (fun _ _=>rfl) rfl)
theorem Hm{W:World}{x y z:Nat}:∀ p∈ [lG x y,lG x y],fp W [LS x y z] p:=fun p hp=>by
 have e:p=lG x y:=by simpa using hp
 subst e
 refine⟨Rd.lE (Rd.lit (.there .here) rfl (fun _ _=>rfl) rfl),fun q hq=>?_,Rd.nil,Rd.nil⟩
 rw[show(lG x y).fs=[(Kk x 1,Ln)] from rfl,List.mem_singleton] at hq
 subst hq
 exact Rd.lE (Rd.lit (.there (.there .here)) rfl (fun _ _=>rfl) rfl)
theorem JE{x y:Nat}:[lG x y,lG x y].length≤1000000000∧ ∀ p∈ [lG x y,lG x y],p.fs.length≤1000000000∧p.aU.length≤1000000000∧p.aG.length≤1000000000:=⟨by show 2≤_;decide,fun p hp=>by
 have e:p=lG x y:=by simpa using hp
 subst e
 exact⟨by show 1≤_;decide,by show 0≤_;decide,by show 0≤_;decide⟩⟩
theorem Iv:gv [Dp,Dp]=0:=by decide +kernel
theorem Mr:∀ p∈ [Dp,Dp], ∀ f∈p.funcs, ∀ i∈f,fq i.n:=fun p hp f hf i hi=>by
 have:([Dp,Dp].all fun p=>p.funcs.all fun f=>f.all fun i=>decide (0≤i.n) && decide (i.n≤18446744073709551615))=true:=by decide +kernel
 have:=List.all_eq_true.1 (List.all_eq_true.1 (List.all_eq_true.1 this p hp) f hf) i hi
 exact(by simpa using this:0≤i.n∧i.n≤18446744073709551615)
def yi:List Spc:=[Dp,Dp].map Spc.new
def yj:List Spc:=(oDo yi ⟨1,1,0,0⟩).2
def yk:List Spc:=(oDo yj ⟨1,2,0,0⟩).2
def wI:List Spc:=(oDo yk ⟨3,9,0,0⟩).2
theorem Iw:iq 1 yi:=iq.new Iv Mr
theorem Ix:iq 2 yj:=Iw.act (by decide) _
theorem Iy:iq 3 yk:=Ix.act (by decide) _
theorem Ff:iq 4 wI:=Iy.act (by decide) _
theorem uv:yi.length=2∧yj.length=2∧yk.length=2∧wI.length=2:=by
 have h1:yi.length=2:=rfl
 have h2:yj.length=2:=(q7 _ _).trans h1
 have h3:yk.length=2:=(q7 _ _).trans h2
 exact⟨h1,h2,h3,(q7 _ _).trans h3⟩
theorem LU:(oDo yi ⟨1,1,0,0⟩).1=0:=by decide +kernel
theorem LV:(oDo yj ⟨1,2,0,0⟩).1=1:=by decide +kernel
theorem LW:(oDo yk ⟨3,9,0,0⟩).1=0:=by decide +kernel
def Ms:List Rec:=[⟨65537,32,0,65537,0,true⟩]
theorem LX:kA wI 0=[]:=by decide +kernel
theorem LY:kA wI 1=Ms:=by decide +kernel
theorem Mt:oReady wI 1=[0]:=by decide +kernel
end Go.SLYtefdijgllbkmfaaGreat
namespace Go.SLYtefdijgllbkmfaaGreat
open Go Go.RowKit
theorem Y.LZ{P:Program}{W:World}{N:Nat}{L:List (Nat×Option Value)}{H:List aa}{T:TypeId}{op:Op}{m n:Bool}(h:Y P W N op T L H (.bool m))(e:m=n):Y P W N op T L H (.bool n):=e ▸ h
theorem fp.at{W:World}{H:List aa}{A:aa}{v:bN}(h:fp W [A] v)(ha:At H A):fp W H v:=⟨h.fs.at ha,fun x hx=>(h.ins x hx).at ha,h.aU.at ha,h.aG.at ha⟩
/-! the laws' own fact -/
end Go.SLYtefdijgllbkmfaaGreat
namespace Go.SLYtefdijgllbkmfaaGreat
open Go Go.RowKit
section
variable{P:Program}{W:World}{N:Nat}{L:List (Nat×Option Value)}{H:List aa}{T:TypeId}
theorem Y.eqStr{xT yT:TypeId}{x y:Operand}{a b:ByteArray}(hx:ev L x=some (.string a))(hy:ev L y=some (.string b)):Y P W N (.binOp .eql xT x y yT) T L H (.bool (a.toList == b.toList)) :=
 Y.bin hx hy fun w=>by
  simp[eqGuard,binOp,Op.stringOp]
theorem Y.Fg{x:Operand}{t:TypeId}{a:ByteArray}(hu:P.underlying t=some .string)(hx:ev L x=some (.string a)):Y P W N (.call ⟨.builtin .len, #[x], #[t]⟩) T L H (.int .i64 a.size) :=
 Y.builtin (vs:=[.string a]) (by simp[evs,hx]) fun w cs=>by simp[Go.builtin,Builtin.len_,run_underlying hu,goInt]
theorem Y.Iz{x y:Operand}{t:Nat}{a:ByteArray}{kd:IntKind}{j:Int}{c:UInt8}(i:Nat)(hu:P.underlying t=some .string)(hx:ev L x=some (.string a))(hy:ev L y=some (.int kd j))(hj:j=(i:Int))(hv:a[i]?=some c):Y P W N (.index t x y) T L H (.int .u8 c.toNat):=fun dst pos after guard w0 w he hs=>by
 subst hj
 simp only[execOp,he.eval hx,he.eval hy]
 refine bJ ?_
 simp[Instr.index,asIntOf,run_underlying hu,hv]
end
theorem ux(bs:ByteArray):∀ (n i:Nat) (r:List UInt8),n=bs.size-i→r.length≤(ByteArray.toList.loop bs i r).length
 | 0,i,r,hn=>by
  unfold ByteArray.toList.loop
  rw[if_neg (by omega)];simp
 | n+1,i,r,hn=>by
  unfold ByteArray.toList.loop
  rw[if_pos (by omega)]
  have:=ux bs n (i+1) (bs.get! i::r) (by omega)
  simp only[List.length_cons] at this
  omega
theorem Bq{a:ByteArray}(h:a.size=0):a.toList=[]:=by
 unfold ByteArray.toList ByteArray.toList.loop
 rw[if_neg (by omega)];rfl
theorem Fh(a:ByteArray):(a.toList == (⟨#[]⟩:ByteArray).toList)=decide (a.data.toList=[]):=by
 rw[Bq (a:=⟨#[]⟩) rfl]
 have hs:a.size=a.data.toList.length:=by cases a;rfl
 by_cases h:a.size=0
 ·rw[Bq h,decide_eq_true (List.length_eq_zero_iff.1 (by omega))];rfl
 ·have h1:1≤a.toList.length:=by
   unfold ByteArray.toList ByteArray.toList.loop
   rw[if_pos (by omega)]
   exact ux a _ _ [a.get! 0] rfl
  rw[decide_eq_false (fun e=>h (by rw[hs,e];rfl))]
  cases e:a.toList with
  | nil=>rw[e] at h1;simp at h1
  | cons x r=>rfl
/-! what an instruction has -/
def wJ:List ByteArray:=[⟨#[]⟩,⟨#[65,120]⟩,⟨#[65,66,110]⟩,⟨#[65,66,67,110]⟩,⟨#[65,66,67,110]⟩,⟨#[65,66,67,110]⟩,⟨#[65,66,67,110]⟩,⟨#[65,66,67,110]⟩,⟨#[65,66,67,110]⟩,⟨#[65,66,67,110]⟩,⟨#[65,66,67,110]⟩,⟨#[65,66,67,110]⟩,⟨#[65,66,67,110]⟩,⟨#[65,66,67,110]⟩,⟨#[65,66,110]⟩,⟨#[65,66,110]⟩,⟨#[99]⟩,⟨#[65,99]⟩,⟨#[65,66,110]⟩,⟨#[65,66,110]⟩,⟨#[65,66,102]⟩,⟨#[65,66,110]⟩,⟨#[65,110]⟩,⟨#[65,110]⟩,⟨#[110]⟩,⟨#[109]⟩,⟨#[109]⟩,⟨#[77,107]⟩,⟨#[107]⟩,⟨#[107]⟩,⟨#[115]⟩,⟨#[115]⟩,⟨#[65,110]⟩,⟨#[65,66,110]⟩,⟨#[65,66,110]⟩,⟨#[65,112]⟩,⟨#[65,112]⟩,⟨#[65,110]⟩,⟨#[65,110]⟩]
def iw(op:Int):ByteArray:=if op<0∨39≤op then ⟨#[]⟩ else wJ.getD op.toNat ⟨#[]⟩
def Br(s:ByteArray)(c:Int):Bool:=s.data.toList.any fun b=>decide ((b.toNat:Int)=c)
def gP(n:Int)(is:Bool)(below:Int):Bool:=if is=false then decide (n=0) else decide (0≤n) && decide (n<below)
def oX(s:ByteArray):Int:=((s.data.toList.getLast?).map fun b=>(b.toNat:Int)).getD 0
def mf(p:eZ)(c:Int):Int:=if c=99 then 257 else if c=102 then p.funcs.length else if c=109 then p.aB else if c=107 then p.conds else if c=115 then p.aU.length else if c=112 then p.aG.length else 0
def mZ(p:eZ)(i:Ins)(c:Int):Bool:=if c=120 then true else if c=110 then decide (i.n=0) else decide (0<mf p c) && decide (i.n<mf p c)
def jU(p:eZ)(i:Ins):Bool:=if Br (iw i.op) 77=true then gP i.c true p.aB else gP i.c (Br (iw i.op) 67) 8
def nv(p:eZ)(i:Ins):Bool:=if (iw i.op).data.toList=[] then false else gP i.a (Br (iw i.op) 65) 8 && gP i.b (Br (iw i.op) 66) 8 && jU p i && mZ p i (oX (iw i.op))
theorem ri{n:Nat}(h:n<39):iw (n:Int)=wJ.getD n ⟨#[]⟩:=by unfold iw;rw[if_neg (by omega),Int.toNat_natCast]
theorem sL{op:Int}(h:op<0∨39≤op):iw op=⟨#[]⟩:=if_pos h
theorem pZ(n:Int)(b:Bool):gP n b 8=lM n b:=by
 unfold gP lM
 cases b
 ·simp
 ·simp only[Bool.true_and,Bool.true_eq_false,if_false]
  by_cases h0:n=0
  ·subst h0;rfl
  ·rw[decide_eq_false h0,Bool.false_or]
   by_cases h1:0<n
   ·rw[decide_eq_true h1,decide_eq_true (show 0≤n by omega)]
   ·rw[decide_eq_false h1,decide_eq_false (show ¬ 0≤n by omega)]
def IA(n:Nat):Bool :=
 let s:=wJ.getD n ⟨#[]⟩
 decide ((s.data.toList=[])=(cls (n:Int)=0)) &&
 (decide (cls (n:Int)=0) || (
  let f:=aR ⟨[],0,0,0,[],[],0,0⟩ (n:Int)
  (Br s 65 == decide (0<f.aq)) && (Br s 66 == decide (1<f.aq)) && (Br s 77 == f.mutex) && (f.mutex || (Br s 67 == decide (2<f.aq)))))
theorem zS:∀ n:Nat,n<39→IA n=true:=by decide +kernel
theorem zT(p:eZ)(op:Int):(aR p op).aq=(aR ⟨[],0,0,0,[],[],0,0⟩ op).aq∧(aR p op).mutex=(aR ⟨[],0,0,0,[],[],0,0⟩ op).mutex:=by
 unfold aR
 simp only[apply_ite Form.aq,apply_ite Form.mutex]
 exact⟨trivial,trivial⟩
theorem zU(p:eZ)(i:Ins)(hm:0≤p.aB)(hk:0≤p.conds){n:Nat}(hn:n<39)(ho:i.op=(n:Int))(hc:¬cls i.op=0):mZ p i (oX (iw i.op))=(aR p i.op).below i.n:=by
 have h:n=1∨n=2∨n=3∨n=4∨n=5∨n=6∨n=7∨n=8∨n=9∨n=10∨n=11∨n=12∨n=13∨n=14∨n=15∨n=16∨n=17∨n=18∨n=19∨n=20∨n=21∨n=22∨n=23∨n=24∨n=25∨n=26∨n=27∨n=28∨n=29∨n=30∨n=31∨n=32∨n=33∨n=34∨n=35∨n=36∨n=37∨n=38:=by
  have:n≠0:=fun e=>hc (by rw[ho,e];decide)
  omega
 rw[ho,ri hn]
 rcases h with rfl | rfl | rfl | rfl | rfl | rfl | rfl | rfl | rfl | rfl | rfl | rfl | rfl | rfl | rfl | rfl | rfl | rfl | rfl | rfl | rfl | rfl | rfl | rfl | rfl | rfl | rfl | rfl | rfl | rfl | rfl | rfl | rfl | rfl | rfl | rfl | rfl | rfl <;> simp[mZ,mf,wJ,oX,aR,Form.below] <;> (intro h;omega)
theorem fH(p:eZ)(i:Ins)(hm:0≤p.aB)(hk:0≤p.conds):nv p i=ez p i:=by
 by_cases ho:i.op<0∨39≤i.op
 ·have hc:cls i.op=0:=by unfold cls;rw[if_neg (by omega),if_neg (by omega),if_neg (by omega)]
  unfold nv ez
  rw[sL ho,if_pos hc];rfl
 ·obtain⟨n,hn⟩:∃ n:Nat,i.op=(n:Int):=⟨i.op.toNat,by omega⟩
  have hn39:n<39:=by omega
  have hr:=zS n hn39
  unfold IA at hr
  simp only[Bool.and_eq_true,decide_eq_true_eq,Bool.or_eq_true,beq_iff_eq] at hr
  have hs:=ri hn39
  rw[← hn] at hs hr
  by_cases hc:cls i.op=0
  ·unfold nv ez
   rw[if_pos hc,if_pos (by rw[hs];exact hr.1.mpr hc)]
  ·obtain⟨⟨⟨h1,h2⟩,h3⟩,h4⟩:=hr.2.resolve_left hc
   have hf:=zT p i.op
   rw[← hs] at h1 h2 h3 h4
   unfold nv ez
   rw[if_neg hc,if_neg (fun e=>hc (hr.1.mp (by rw[← hs];exact e)))]
   show _=(lM i.a (decide (0<(aR p i.op).aq)) && lM i.b (decide (1<(aR p i.op).aq)) && (if (aR p i.op).mutex=true then decide (0≤i.c) && decide (i.c<p.aB) else lM i.c (decide (2<(aR p i.op).aq))) && (aR p i.op).below i.n)
   rw[pZ,pZ,zU p i hm hk hn39 hn hc,h1,h2,hf.1]
   congr 2
   unfold jU
   rw[h3,hf.2]
   by_cases hmx:(aR ⟨[],0,0,0,[],[],0,0⟩ i.op).mutex=true
   ·rw[if_pos hmx,if_pos hmx];unfold gP;rw[if_neg (by decide)]
   ·rw[if_neg hmx,if_neg hmx,pZ,h4.resolve_left hmx]
end Go.SLYtefdijgllbkmfaaGreat
namespace Go.SLYtefdijgllbkmfaaGreat
open Go Go.RowKit
/-! what the libraries' steps do to the modes, to the events, to the space -/
/-! what giving and taking do -/
end Go.SLYtefdijgllbkmfaaGreat
namespace Go.SLYtefdijgllbkmfaaGreat
open Go Go.RowKit
/-! counting -/
def JF(l:List Int):Nat:=(l.map Int.toNat).sum
structure Room(want:List Int)(k:Mj):Prop where
 len:want.length=k.libs.length
 sum:JF want≤k.owner.length
 gN:∀ (i:Nat) (w:Int),want[i]?=some w→k.owner.count (i:Int)≤w.toNat
/-! what is taken -/
end Go.SLYtefdijgllbkmfaaGreat
namespace Go.SLYtefdijgllbkmfaaGreat
open Go Go.RowKit
/-! what is dealt out is there -/
end Go.SLYtefdijgllbkmfaaGreat
namespace Go.SLYtefdijgllbkmfaaGreat
open Go Go.RowKit
/-! what New makes -/
end Go.SLYtefdijgllbkmfaaGreat
namespace Go.SLYtefdijgllbkmfaaGreat
open Go Go.RowKit
def Deal.pk(d:Deal)(i:Nat)(b:Int):Int :=
 if d.iC.getD i 0≤d.out.getD i 0 then b
 else if b<0∨d.prio.getD b.toNat 0<d.prio.getD i 0∨(d.prio.getD i 0=d.prio.getD b.toNat 0∧d.out.getD i 0<d.out.getD b.toNat 0) then (i:Int) else b
def Deal.bst(d:Deal)(first:Nat):Nat→Nat→Int→Int
 | 0,_,b=>b
 | m+1,k,b=>Deal.bst d first m (k+1) (d.pk ((first+k) % d.iC.length) b)
def Deal.next(d:Deal)(first:Nat):Int:=d.bst first d.iC.length 0 (-1)
def Deal.Wt(d:Deal)(i:Nat):Prop:=d.out.getD i 0<d.iC.getD i 0
structure Rn(dem pri:List Int)(f:Nat)(p:Int)(k:Nat)(r:Int)(d:Deal):Prop where
 de:d.iC=dem
 pr:d.prio=pri
 ol:d.out.length=dem.length
 hi:0<d.left→ ∀ i,d.Wt i→pri.getD i 0≤p
 eq:0<d.left→ ∀ j,j<dem.length→d.Wt ((f+j) % dem.length)→pri.getD ((f+j) % dem.length) 0=p→d.out.getD ((f+j) % dem.length) 0=if j<k then r+1 else r
 lo:∀ i,pri.getD i 0<p→d.out.getD i 0=0
end Go.SLYtefdijgllbkmfaaGreat
namespace Go.SLYtefdijgllbkmfaaGreat
open Go Go.RowKit
theorem uy{x n:Int}(h0:0≤x)(h1:x≤n):within x n=true:=by unfold within;rw[decide_eq_true h0,decide_eq_true h1];rfl
theorem zV{x n:Int}(h:¬(0≤x∧x≤n)):within x n=false:=by
 refine Bool.eq_false_iff.2 fun e=>h ?_
 unfold within at e
 simpa using e
structure Mu(d:Deal)(f k:Nat)(b:Int):Prop where
 kl:k≤d.iC.length
 n:d.bst f (d.iC.length-k) k b=d.next f
 b:b = -1∨ ∃ i:Nat,b=(i:Int)∧i<d.iC.length∧d.Wt i
end Go.SLYtefdijgllbkmfaaGreat
namespace Go.SLYtefdijgllbkmfaaGreat
open Go Go.RowKit
def KW(s:ByteArray):List Value:=[.string s]
theorem ym{s:ByteArray}{k:Nat}(h:k<s.size):∃ x:UInt8,s[k]?=some x∧s.data.toList[k]?=some x:=by
 have h2:k<s.data.toList.length:=by cases s;exact h
 refine⟨s.data.toList[k],?_,List.getElem?_eq_getElem h2⟩
 have:s[k]?=some (s[k]'h):=getElem?_pos s k h
 rw[this];rfl
theorem sM{s:ByteArray}{c:Int}{k:Nat}{x:UInt8}(hx:s.data.toList[k]?=some x)(h:((s.data.toList.take k).any fun b=>decide ((b.toNat:Int)=c))=false)(hn:¬(x.toNat:Int)=c):((s.data.toList.take (k+1)).any fun b=>decide ((b.toNat:Int)=c))=false:=by
 rw[cy hx,List.any_append,h];simp[hn]
theorem Hn{s:ByteArray}{c:Int}{k:Nat}{x:UInt8}(hx:s.data.toList[k]?=some x)(h:(x.toNat:Int)=c):Br s c=true:=by
 unfold Br
 exact List.any_eq_true.2 ⟨x,List.mem_of_getElem? hx,decide_eq_true h⟩
theorem Fi{s:ByteArray}{c:Int}{k:Nat}(hk:k=s.size)(h:((s.data.toList.take k).any fun b=>decide ((b.toNat:Int)=c))=false):Br s c=false:=by
 rw[List.take_of_length_le (by cases s;exact Nat.le_of_eq hk.symm)] at h
 exact h
theorem Fj{s:ByteArray}(h:¬s.data.toList=[]):1≤s.size∧ ∃ c:UInt8,s[s.size-1]?=some c∧oX s=(c.toNat:Int):=by
 have hs:s.size=s.data.toList.length:=by cases s;rfl
 have h1:1≤s.size:=by
  rw[hs]
  exact List.length_pos_iff.2 h
 obtain⟨c,h2,h3⟩:=ym (s:=s) (k:=s.size - 1) (by omega)
 refine⟨h1,c,h2,?_⟩
 unfold oX
 rw[List.getLast?_eq_getElem?, ← hs,h3];rfl
theorem kB(op:Int):(iw op).size≤4:=by
 by_cases h:op<0∨39≤op
 ·rw[sL h];decide
 ·obtain⟨n,rfl⟩:∃ n:Nat,op=(n:Int):=⟨op.toNat,by omega⟩
  rw[ri (by omega)]
  have:∀ n:Nat,n<39→(wJ.getD n ⟨#[]⟩).size≤4:=by decide +kernel
  exact this n (by omega)
theorem Fk{n:Nat}{x:ByteArray}(h:wJ[n]?=some x):iw (n:Int)=x:=by
 have hn:=(List.getElem?_eq_some_iff.1 h).1
 rw[ri hn,List.getD_eq_getElem?_getD,h];rfl
theorem Ho{p:eZ}{i:Ins}{c:Int}(h:c=120):mZ p i c=true:=if_pos h
theorem Hp{p:eZ}{i:Ins}{c:Int}(h1:¬c=120)(h:c=110):mZ p i c=decide (i.n=0):=by unfold mZ;rw[if_neg h1,if_pos h]
theorem lb{p:eZ}{i:Ins}{c m:Int}(h1:¬c=120)(h2:¬c=110)(h:mf p c=m):mZ p i c=(decide (0<m) && decide (i.n<m)):=by unfold mZ;rw[if_neg h1,if_neg h2,h]
theorem lf{p:eZ}{i:Ins}{x y z w:Bool}(h0:¬(iw i.op).data.toList=[])(hx:gP i.a (Br (iw i.op) 65) 8=x)(hy:gP i.b (Br (iw i.op) 66) 8=y)(hz:jU p i=z)(hw:mZ p i (oX (iw i.op))=w):nv p i=(x && y && z && w):=by
 unfold nv;rw[if_neg h0,hx,hy,hz,hw]
theorem CJ{p:eZ}(h:eg p=true):(0≤p.aB∧p.aB≤4)∧(0≤p.conds∧p.conds≤4)∧p.funcs.length≤8∧p.aU.length≤4∧p.aG.length≤4:=by
 unfold eg at h
 simp only[Bool.and_eq_true,decide_eq_true_eq,within] at h
 obtain⟨⟨⟨⟨⟨⟨⟨⟨⟨⟨⟨h1,h2⟩,h3⟩,h4⟩,h5⟩,h6⟩,h7⟩,h8⟩,h9⟩, -⟩, -⟩, -⟩:=h
 exact⟨h4,h5,h2,h8,h9⟩
theorem jj{v:bN}:eg v.p=true↔((0<v.fs.length∧v.fs.length≤8)∧(0≤v.words∧v.words≤64)∧(0≤v.aB∧v.aB≤4)∧(0≤v.conds∧v.conds≤4)∧(0≤v.blocks∧v.blocks≤64)∧(0≤v.prio∧v.prio≤7)∧v.aU.length≤4∧v.aG.length≤4)∧(v.fs.all fun f=>decide (f.2.length≤256))=true∧(v.aU.all fun n=>within n 1048576)=true∧(v.aG.all fun n=>decide (0<n) && within n 8)=true:=by
 rw[← xv]
 unfold m9 m8 m7 vF within
 simp only[Bool.and_eq_true,decide_eq_true_eq,List.take_length,List.all_eq_true]
 constructor
 ·rintro⟨⟨⟨⟨⟨⟨⟨⟨⟨⟨⟨h1,h2⟩,h3⟩,h4⟩,h5⟩,h6⟩,h7⟩,h8⟩,h9⟩,a1⟩,a2⟩,a3⟩
  exact⟨⟨⟨by omega,by omega⟩,h3,h4,h5,h6,h7,by omega,by omega⟩,fun x hx=>by have:=a1 x hx;omega,a2,a3⟩
 ·rintro⟨⟨⟨h1,h2⟩,h3,h4,h5,h6,h7,h8,h9⟩,a1,a2,a3⟩
  exact⟨⟨⟨⟨⟨⟨⟨⟨⟨⟨⟨by omega,by omega⟩,h3⟩,h4⟩,h5⟩,h6⟩,h7⟩,by omega⟩,by omega⟩,fun x hx=>by have:=a1 x hx;omega⟩,a2⟩,a3⟩
theorem mH{v:bN}(h:¬eg v.p=true):dD v.p=9:=by unfold dD;rw[if_neg h]
end Go.SLYtefdijgllbkmfaaGreat
namespace Go.SLYtefdijgllbkmfaaGreat
open Go Go.RowKit
def dU{α:Type}(f:Nat→α)(n:Nat)(x:α):Nat→α:=fun m=>if m=n then x else f m
structure RT where
 used:Bool
 handle:Int
 why:Int
 fn:Int
 pc:Int
 aq:Nat→Int
 value:Int
 pA:Bool
 av:Int
 op:Int
 into:Int
def Hq:RT:=⟨false,0,0,0,0,fun _=>0,0,false,0,0,0⟩
structure gp where
 owner:Int
 wait:List Int
structure RSp where
 taken:Nat→Int
 thr:Nat→RT
 mem:List Int
 aF:List gp
 bn:List (List dh)
 cf:List Int
 sw:List (List Int)
 jv:List Tub
 blk:List Int
 ask:List pE
 now:Int
 til:Nat→Int
 au:List Rec
def RT.put(t:RT)(a v:Int):RT:={t with aq:=dU t.aq a.toNat v }
def RT.eX(t:RT)(a:Int):Int:=t.aq a.toNat
def RSp.t(s:RSp)(n:Nat):RT:=s.thr n
def RSp.aj(s:RSp)(n:Nat)(t:RT):RSp:={s with thr:=dU s.thr n t }
def rFree?(thr:Nat→RT):Nat→Nat→Option Nat
 | 0,_=>none
 | f+1,n=>if (thr n).used=true then rFree? thr f (n+1) else some n
def Fl(h f arg:Int):RT:={Hq with used:=true,handle:=h,fn:=f,aq:=dU (fun _=>0) 0 arg }
def lg(tk:Int)(n:Nat):Int:=gU (gU (gU (tk * 65536)+n)+1)
def RSp.begun(s:RSp)(n:Nat)(f arg:Int):RSp:={s with taken:=dU s.taken n (gU (s.taken n+1)),thr:=dU s.thr n (Fl (lg (gU (s.taken n+1)) n) f arg) }
def RSp.begin(s:RSp)(f arg:Int):Int×RSp :=
 match rFree? s.thr 16 0 with
 | none=>(-1,s)
 | some n=>((n:Int),s.begun n f arg)
def RSp.runs(s:RSp)(n:Int):Bool:=decide (0≤n) && decide (n<16) && (s.t n.toNat).used && decide ((s.t n.toNat).why=0)
def gE(p:eZ)(t:RT):Option Ins:=(p.funcs.getD t.fn.toNat [])[t.pc.toNat]?
/-! an instruction on its way -/
structure RA where
 s:RSp
 n:Nat
 i:Ins
 e:iZ
 late:List Rec
def RA.t(a:RA):RT:=a.s.t a.n
def RA.aj(a:RA)(t:RT):RA:={a with s:=a.s.aj a.n t }
def RA.say(a:RA)(x y e:Int)(fin:Bool):RA:={a with s:={a.s with au:=a.s.au++[⟨a.t.handle,a.i.op,x,y,e,fin⟩] } }
def RA.done(a:RA)(x y e:Int):RA:=(a.say x y e true).aj (a.t.put 7 e)
def RA.stop(a:RA)(why into x y:Int):RA:={(a.say x y 0 false).aj {a.t with why:=why,op:=a.i.op,into:=into } with e:={a.e with bE:=true } }
def RT.cV(t:RT)(y:Int):RT:={(if t.into=0 then t else t.put (t.into-1) y).put 7 0 with why:=0,into:=0 }
def RT.dL(t:RT)(y:Int):Rec:=⟨t.handle,t.op,0,if t.into=0 then 0 else y,0,true⟩
def RSp.dn(s:RSp)(n:Nat)(y:Int):RSp:=s.aj n ((s.t n).cV y)
def RA.free(a:RA)(n:Nat)(y:Int):RA:={a with s:=a.s.dn n y,late:=a.late++[(a.s.t n).dL y],e:={a.e with aM:=a.e.aM++[(n:Int)] } }
def RA.sN(a:RA):RA:=a.aj {a.t with used:=false }
def RA.ending(a:RA):RA:={a with e:={a.e with ended:=true } }
def RA.fin(a:RA)(v:Int):RA :=
 if a.t.pA=false∧a.t.av=0 then a.ending.aj {a.t with why:=9,value:=v } else
 (if a.t.pA=false then a.ending.free (a.t.av-1).toNat v else a.ending).sN
def RSp.open(s:RSp)(m:Nat)(choice:Int):Int×RSp :=
 let x:=s.aF.getD m ⟨0,[]⟩
 if x.wait.length=0 then (0,{s with aF:=s.aF.set m {x with owner:=0 } }) else
 let k:=pick choice x.wait.length
 (x.wait.getD k 0+1,{s with aF:=s.aF.set m ⟨x.wait.getD k 0+1,x.wait.eraseIdx k⟩ })
def RSp.want(s:RSp)(m:Nat)(who:Int):Bool×RSp :=
 let x:=s.aF.getD m ⟨0,[]⟩
 if x.owner≠0 then (false,{s with aF:=s.aF.set m {x with wait:=x.wait++[who] } }) else (true,{s with aF:=s.aF.set m {x with owner:=who+1 } })
def RA.fault(a:RA)(x y:Int):RA:=((a.aj {a.t with pc:=a.t.pc-1 }).say x y 6 true).fin 18446744073709551615
def RA.plain(a0:RA):RA :=
 let x:=a0.t.eX a0.i.a
 let y:=a0.t.eX a0.i.b
 let a:=a0.aj {a0.t with pc:=a0.t.pc+1 }
 if a.i.op=1 then a.aj (a.t.put a.i.a a.i.n) else
 if a.i.op=16 then a.aj {a.t with pc:=a.i.n } else
 if a.i.op=17 then (if x=0 then a.aj {a.t with pc:=a.i.n } else a) else
 if a.i.op=18 then (if (a.s.mem.length:Int)≤y then a.fault y 0 else (a.aj (a.t.put a.i.a (a.s.mem.getD y.toNat 0))).say y (a.s.mem.getD y.toNat 0) 0 true) else
 if a.i.op=19 then (if (a.s.mem.length:Int)≤x then a.fault x y else ({a with s:={a.s with mem:=a.s.mem.set x.toNat y } }:RA).say x y 0 true) else
 a.aj (a.t.put a.i.a (aH a.i.op y (a.t.eX a.i.c)))
def cA(thr:Nat→RT)(self:Nat)(h:Int):Nat→Nat→Int×Int
 | 0,_=>(0,3)
 | f+1,n =>
  let t:=thr n
  if t.used=false∨¬t.handle=h∨n=self∨t.pA=true then cA thr self h f (n+1) else
  if ¬t.av=0 then (0,4) else ((n:Int),0)
def RA.other(a:RA)(h:Int):Int×Int:=cA a.s.thr a.n h 16 0
def RA.spawn(a:RA)(y:Int):RA :=
 let r:=a.s.begin a.i.n y
 let b:RA:={a with s:=r.2 }
 if r.1<0 then (b.aj (b.t.put a.i.a 0)).done a.i.n 0 2 else
 let c:=b.aj (b.t.put a.i.a (b.s.t r.1.toNat).handle)
 ({c with e:={c.e with aM:=[r.1] } }:RA).done a.i.n (b.s.t r.1.toNat).handle 0
def RA.join(a:RA)(h:Int):RA :=
 let r:=a.other h
 if ¬r.2=0 then a.done h 0 r.2 else
 let n:=r.1.toNat
 if (a.s.t n).why=9 then
  let v:=(a.s.t n).value
  let b:=a.aj (a.t.put a.i.a v)
  ({b with s:=b.s.aj n {b.s.t n with used:=false } }:RA).done h v 0
 else ({a with s:=a.s.aj n {a.s.t n with av:=(a.n:Int)+1 } }:RA).stop 4 (a.i.a+1) h 0
def RA.cO(a:RA)(x:Int):RA :=
 let r:=a.other x
 let n:=r.1.toNat
 (if r.2=0∧(a.s.t n).why=9 then {a with s:=a.s.aj n {a.s.t n with used:=false } } else
  if r.2=0 then {a with s:=a.s.aj n {a.s.t n with pA:=true } } else a).done x 0 r.2
def RA.m0(a:RA)(w:Int):RA:=if 0<w then a.free (w-1).toNat 0 else a
def rSignal(a:RA):List dh→RA
 | []=>a
 | w::l =>
  let r:=a.s.want w.mutex.toNat w.who
  if r.1=true then rSignal (({a with s:=r.2 }:RA).free w.who.toNat 0) l else rSignal {a with s:=r.2.aj w.who.toNat {r.2.t w.who.toNat with why:=1 } } l
def RA.signal(a:RA)(c:Nat)(choice:Int):RA :=
 let b:=a.done a.i.n 0 0
 let l:=b.s.bn.getD c []
 if a.i.op=28∧0<l.length then rSignal {b with s:={b.s with bn:=b.s.bn.set c (l.eraseIdx (pick choice l.length)) } } [l.getD (pick choice l.length) ⟨0,0⟩]
 else rSignal {b with s:={b.s with bn:=b.s.bn.set c [] } } l
def RA.gate(a:RA)(choice:Int):RA :=
 let m:=a.i.n.toNat
 if a.i.op=25 then
  if (a.s.aF.getD m ⟨0,[]⟩).owner=(a.n:Int)+1 then a.done a.i.n 0 4 else
  let r:=a.s.want m a.n
  if r.1=true then ({a with s:=r.2 }:RA).done a.i.n 0 0 else ({a with s:=r.2 }:RA).stop 1 0 a.i.n 0
 else if a.i.op=26 then
  if ¬(a.s.aF.getD m ⟨0,[]⟩).owner=(a.n:Int)+1 then a.done a.i.n 0 5 else
  let r:=a.s.open m choice
  (({a with s:=r.2 }:RA).done a.i.n 0 0).m0 r.1
 else if a.i.op=27 then
  if ¬(a.s.aF.getD a.i.c.toNat ⟨0,[]⟩).owner=(a.n:Int)+1 then a.done a.i.n (gU a.i.c) 5 else
  let r:=a.s.open a.i.c.toNat choice
  (({a with s:={r.2 with bn:=r.2.bn.set m (r.2.bn.getD m []++[⟨a.n,a.i.c⟩]) } }:RA).stop 2 0 a.i.n (gU a.i.c)).m0 r.1
 else a.signal m choice
def RA.up(a:RA)(choice:Int):RA :=
 let n:=a.i.n.toNat
 let l:=a.s.sw.getD n []
 if 0<l.length then
  (({a with s:={a.s with sw:=a.s.sw.set n (l.eraseIdx (pick choice l.length)) } }:RA).done a.i.n 0 0).free (l.getD (pick choice l.length) 0).toNat 0
 else if a.s.cf.getD n 0=1048576 then a.done a.i.n 0 2
 else ({a with s:={a.s with cf:=a.s.cf.set n (a.s.cf.getD n 0+1) } }:RA).done a.i.n 0 0
def RA.down(a:RA):RA :=
 let n:=a.i.n.toNat
 if 0<a.s.cf.getD n 0 then ({a with s:={a.s with cf:=a.s.cf.set n (a.s.cf.getD n 0-1) } }:RA).done a.i.n 0 0
 else ({a with s:={a.s with sw:=a.s.sw.set n (a.s.sw.getD n []++[(a.n:Int)]) } }:RA).stop 3 0 a.i.n 0
def RA.pipe(a:RA):Tub:=a.s.jv.getD a.i.n.toNat Kx
def RA.CK(a:RA)(u:Tub):RA:={a with s:={a.s with jv:=a.s.jv.set a.i.n.toNat u } }
def RA.putP(a:RA)(x:Int):RA :=
 let p:=a.pipe
 if p.bC.length=0∧(p.words.length:Int)=p.room then (a.CK {p with bP:=p.bP++[⟨a.n,x⟩] }).stop 7 0 a.i.n x else
 let b:=a.done a.i.n x 0
 match p.bC with
 | w::r=>(b.CK {p with bC:=r }).free w.toNat x
 | []=>b.CK {p with words:=p.words++[x] }
def RA.getP(a:RA):RA :=
 let p:=a.pipe
 match p.words with
 | []=>(a.CK {p with bC:=p.bC++[(a.n:Int)] }).stop 6 (a.i.a+1) a.i.n 0
 | x::r =>
  let b:=(a.CK {p with words:=r }).aj (a.t.put a.i.a x)
  let c:=b.done a.i.n x 0
  match p.bP with
  | []=>c
  | w::q=>(c.CK {p with words:=r++[w.x],bP:=q }).free w.who.toNat 0
def RA.aO(a:RA)(block word into:Int):RA :=
 if (a.s.blk.length:Int)≤block then a.done block word 1 else
 ({a with s:={a.s with ask:=a.s.ask++[⟨a.n,block,decide (a.i.op=34),word⟩] } }:RA).stop 5 into block word
def RA.sleep(a:RA)(x:Int):RA :=
 if x=0 then a.done x 0 0 else if 1099511627776<x then a.done x 0 1 else
 ({a with s:={a.s with til:=dU a.s.til a.n (min (a.s.now+x) 1099511627776+1) } }:RA).stop 8 0 x 0
def RA.kernel(a:RA)(x y:Int):RA :=
 if a.i.op=33 then a.aO y 0 (a.i.a+1) else if a.i.op=34 then a.aO x y 0 else
 if a.i.op=35 then a.putP x else if a.i.op=36 then a.getP else if a.i.op=37 then a.sleep x else a.done x 0 0
def RA.call(a:RA)(choice:Int):RA :=
 let x:=a.t.eX a.i.a
 let y:=a.t.eX a.i.b
 if a.i.op=20 then a.spawn y else
 if a.i.op=32 then (a.aj (a.t.put a.i.a a.t.handle)).done 0 a.t.handle 0 else
 if a.i.op=24 then {a.done 0 0 0 with e:={a.e with yielded:=true } } else
 if a.i.op=21 then a.join y else if a.i.op=22 then a.cO x else
 if a.i.op=23 then (a.say x 0 0 true).fin x else
 if a.i.op=25∨a.i.op=26∨a.i.op=27∨a.i.op=28∨a.i.op=29 then a.gate choice else
 if a.i.op=30 then a.down else if a.i.op=31 then a.up choice else a.kernel x y
def RSp.run(p:eZ)(s:RSp)(n:Nat)(choice:Int):iZ×RSp :=
 let r:RA:=match gE p (s.t n) with
  | none=>((⟨s,n,⟨23,0,0,0,0⟩,iZ.z,[]⟩:RA).say 0 0 0 true).fin 0
  | some i=>if i.op≤19 then (⟨s,n,i,iZ.z,[]⟩:RA).plain else ((⟨s,n,i,iZ.z,[]⟩:RA).aj {s.t n with pc:=(s.t n).pc+1 }).call choice
 (r.e,{r.s with au:=r.s.au++r.late })
def RSp.done(s:RSp)(k:Int):Int×RSp :=
 if s.ask.length=0 then (0,s) else
 let r:=s.ask.getD (pick k s.ask.length) ⟨0,0,false,0⟩
 let y:=s.blk.getD r.block.toNat 0
 let s1:={s with ask:=s.ask.eraseIdx (pick k s.ask.length) }
 let s2:=if r.write=true then {s1 with blk:=s1.blk.set r.block.toNat r.x } else s1
 let z:=if r.write=true then 0 else y
 (r.who+1,{s2.dn r.who.toNat z with au:=s2.au++[(s2.t r.who.toNat).dL z] })
def rTick(s:RSp):Nat→Nat→List Int→List Int×RSp
 | 0,_,out=>(out,s)
 | f+1,n,out =>
  if 0<s.til n∧s.til n-1≤s.now then
   let s1:={s with til:=dU s.til n 0 }
   rTick {s1.dn n 0 with au:=s1.au++[(s1.t n).dL 0] } f (n+1) (out++[(n:Int)])
  else rTick s f (n+1) out
def RSp.tick(s:RSp):List Int×RSp:=rTick {s with now:=if s.now<1099511627776 then s.now+1 else s.now } 16 0 []
def RSp.new(p:eZ):RSp :=
 (RSp.begin ⟨fun _=>0,fun _=>Hq,List.replicate p.words.toNat 0,List.replicate p.aB.toNat ⟨0,[]⟩,List.replicate p.conds.toNat [],p.aU,List.replicate p.aU.length [],p.aG.map fun r=>⟨r,[],[],[]⟩,List.replicate p.blocks.toNat 0,[],0,fun _=>0,[]⟩ 0 0).2
end Go.SLYtefdijgllbkmfaaGreat
namespace Go.SLYtefdijgllbkmfaaGreat
open Go Go.RowKit
def Bt(t:RT):List Value:=[.bool t.used,.int .u64 t.handle,.int .i64 t.why,.int .i64 t.fn,.int .i64 t.pc,.int .u64 (t.aq 0),.int .u64 (t.aq 1),.int .u64 (t.aq 2),.int .u64 (t.aq 3),.int .u64 (t.aq 4),.int .u64 (t.aq 5),.int .u64 (t.aq 6),.int .u64 (t.aq 7),
 .int .u64 t.value,.bool t.pA,.int .i64 t.av,.int .i64 t.op,.int .i64 t.into]
def flatN{α:Type}(enc:α→List Value)(f:Nat→α):Nat→List Value
 | 0=>[]
 | n+1=>flatN enc f n++enc (f n)
def du(f:Nat→RT):List Value:=flatN Bt f 16
def ny(f:Nat→Int):List Value:=flatN bF f 16
def p9(f:Nat→Int):List Value:=flatN aL f 16
section
variable{α:Type}{enc:α→List Value}{k:Nat}
theorem dA(hk:∀ x,(enc x).length=k)(f:Nat→α):∀ n,(flatN enc f n).length=n * k
 | 0=>by simp[flatN]
 | n+1=>by rw[flatN,List.length_append,dA hk f n,hk,Nat.succ_mul]
theorem mI(hk:∀ x,(enc x).length=k)(f:Nat→α){i j:Nat}(hj:j<k):∀ n,i<n→(flatN enc f n)[i * k+j]?=(enc (f i))[j]?
 | 0,h=>absurd h (Nat.not_lt_zero _)
 | n+1,h=>by
  rw[flatN]
  by_cases e:i=n
  ·subst e;rw[List.getElem?_append_right (by rw[dA hk];omega),dA hk];congr 1;omega
  ·have h2:(i+1) * k≤n * k:=Nat.mul_le_mul_right k (by omega)
   rw[Nat.succ_mul] at h2
   rw[List.getElem?_append_left (by rw[dA hk];omega)];exact mI hk f hj n (by omega)
theorem mg{f g:Nat→α}:∀ n,(∀ m<n,f m=g m)→flatN enc f n=flatN enc g n
 | 0,_=>rfl
 | n+1,h=>by rw[flatN,flatN,mg n (fun m hm=>h m (by omega)),h n (by omega)]
theorem mJ(hk:∀ x,(enc x).length=k){f:Nat→α}{i j:Nat}{v:Value}{x:α}(hj:j<k)(he:(enc (f i)).set j v=enc x):∀ n,i<n→(flatN enc f n).set (i * k+j) v=flatN enc (dU f i x) n
 | 0,h=>absurd h (Nat.not_lt_zero _)
 | n+1,h=>by
  rw[flatN,flatN]
  by_cases e:i=n
  ·subst e
   rw[List.set_append_right _ _ (by rw[dA hk];omega),dA hk,show i * k+j-i * k=j from by omega,he,mg i (g:=dU f i x) (fun m hm=>by unfold dU;rw[if_neg (by omega)])]
   unfold dU;rw[if_pos rfl]
  ·have h2:(i+1) * k≤n * k:=Nat.mul_le_mul_right k (by omega)
   rw[Nat.succ_mul] at h2
   rw[List.set_append_left _ _ (by rw[dA hk];omega),mJ hk hj he n (by omega)]
   unfold dU;rw[if_neg (by omega)]
theorem qF:∀ (a b vs:List Value) (i:Nat),a.length≤i→setFrom (a++b) i vs=a++setFrom b (i-a.length) vs
 | a,b,[],i,_=>rfl
 | a,b,v::vs,i,h=>by
  show setFrom ((a++b).set i v) (i+1) vs=a++setFrom (b.set (i-a.length) v) (i-a.length+1) vs
  rw[List.set_append_right _ _ h,qF a _ vs (i+1) (by omega),show i+1-a.length=i-a.length+1 from by omega]
theorem oY:∀ (vs a b:List Value) (i:Nat),i+vs.length≤a.length→setFrom (a++b) i vs=setFrom a i vs++b
 | [],_,_,_,_=>rfl
 | v::vs,a,b,i,h=>by
  rw[List.length_cons] at h
  show setFrom ((a++b).set i v) (i+1) vs=setFrom (a.set i v) (i+1) vs++b
  rw[List.set_append_left _ _ (by omega),oY vs _ b (i+1) (by rw[List.length_set];omega)]
theorem uz(hk:∀ x,(enc x).length=k){f:Nat→α}{i:Nat}{x:α}:∀ n,i<n→setFrom (flatN enc f n) (i * k) (enc x)=flatN enc (dU f i x) n
 | 0,h=>absurd h (Nat.not_lt_zero _)
 | n+1,h=>by
  rw[flatN,flatN]
  by_cases e:i=n
  ·subst e
   rw[qF _ _ _ _ (by rw[dA hk];exact Nat.le_refl _),dA hk,Nat.sub_self,qp (by rw[hk,hk]),mg i (g:=dU f i x) (fun m hm=>by unfold dU;rw[if_neg (by omega)])]
   unfold dU;rw[if_pos rfl]
  ·have h2:(i+1) * k≤n * k:=Nat.mul_le_mul_right k (by omega)
   rw[Nat.succ_mul] at h2
   rw[oY _ _ _ _ (by rw[dA hk,hk];omega),uz hk n (by omega)]
   unfold dU;rw[if_neg (by omega)]
end
theorem nz(t:RT):(Bt t).length=18:=rfl
theorem dF{α:Type}{f:Nat→α}{n:Nat}{x:α}:dU f n x n=x:=by unfold dU;rw[if_pos rfl]
theorem jk{α:Type}{f:Nat→α}{n m:Nat}{x:α}(h:¬m=n):dU f n x m=f m:=by unfold dU;rw[if_neg h]
theorem Fm{α:Type}{f:Nat→α}{n:Nat}:dU f n (f n)=f:=by funext m;unfold dU;split <;> simp_all
theorem oZ{α:Type}{f:Nat→α}{n:Nat}{x y:α}:dU (dU f n x) n y=dU f n y:=by funext m;unfold dU;split <;> rfl
theorem JG{t:RT}{j:Nat}(hj:j<8):(Bt t)[5+j]?=some (.int .u64 (t.aq j)):=by
 rcases j with _ | _ | _ | _ | _ | _ | _ | _ | j
 all_goals first | rfl | omega
theorem JH{t:RT}{j:Nat}{v:Int}(hj:j<8):(Bt t).set (5+j) (.int .u64 v)=Bt {t with aq:=dU t.aq j v }:=by
 rcases j with _ | _ | _ | _ | _ | _ | _ | _ | j
 all_goals first | rfl | omega
section
variable{P:Program}{W:World}{N:Nat}{L:List (Nat×Option Value)}{H:List aa}{T:TypeId}
theorem Cell.t{b n j:Nat}{f:Nat→RT}{v:Value}[h:aX H b 24 (du f)](hn:n<16)(hv:(Bt (f n))[j]?=some v):Cell W H b (24+n * 18+j) v:=by
 rw[Nat.add_assoc]
 exact Cell.ao (o:=24) (i:=n * 18+j) ((mI nz f (List.getElem?_eq_some_iff.1 hv).1 16 hn).trans hv)
theorem Cell.tz{b n:Nat}{f:Nat→RT}[h:aX H b 24 (du f)](hn:n<16):Cell W H b (24+n * 18) (.bool (f n).used):=Cell.t (j:=0) hn rfl
theorem Cell.tr{b n j:Nat}{f:Nat→RT}[h:aX H b 24 (du f)](hn:n<16)(hj:j<8):Cell W H b (24+n * 18+5+j * 1) (.int .u64 ((f n).aq j)):=by
 rw[Nat.add_assoc (24+n * 18),Nat.mul_one];exact Cell.t hn (JG hj)
theorem Cells.t{b n:Nat}{f:Nat→RT}[h:aX H b 24 (du f)](hn:n<16):Cells W H b (24+n * 18) (Bt (f n)):=fun _ _ hv=>Cell.t hn hv
theorem Cell.tk{b n:Nat}{f:Nat→Int}[h:aX H b 8 (ny f)](hn:n<16):Cell W H b (8+n * 1) (.int .u64 (f n)) :=
 Cell.ao (o:=8) (i:=n * 1) ((mI (enc:=bF) (k:=1) (fun _=>rfl) f (j:=0) (by decide) 16 hn).trans rfl)
theorem Cell.tl{b n:Nat}{f:Nat→Int}[h:aX H b 321 (p9 f)](hn:n<16):Cell W H b (321+n * 1) (.int .i64 (f n)) :=
 Cell.ao (o:=321) (i:=n * 1) ((mI (enc:=aL) (k:=1) (fun _=>rfl) f (j:=0) (by decide) 16 hn).trans rfl)
section
variable{E:TypeId}{x y:Operand}{pos:String}{after:Array Edge}{guard:Option (Nat×Bool)}{b n:Nat}{H':List aa}
theorem af.t{j:Nat}{v:Value}{f:Nat→RT}{t:RT}(hz:∀ w,(sizeOf E).run P w = .ok 1 w)(hx:ev L x=some (.pointer (some ⟨b,24+n * 18+j,none⟩)))(hy:ev L y=some v)(hv:v.oneCell'=true)(hn:n<16)(hj:j<18)(he:(Bt (f n)).set j v=Bt t)
  [h0:aX H b 24 (du f)] [hr:bM H b 24 (du f) (du (dU f n t)) H']:af P W N ⟨none,.store E x y,T,pos,after,guard⟩ L H (fun L1 H1=>L1=L∧H1=H'):=by
 rw[Nat.add_assoc] at hx
 have e:(du f).set (n * 18+j) v=du (dU f n t):=mJ nz hj he 16 hn
 exact af.Ij (o:=24) (cs:=du f) (i:=n * 18+j) hz hx hy hv (_h0:=h0) (hr:=by rw[e];exact hr) (Nat.blt_eq.mpr (by rw[show(du f).length=288 from dA nz f 16];omega))
theorem af.Bu{u:Bool}{f:Nat→RT}(hz:∀ w,(sizeOf E).run P w = .ok 1 w)(hx:ev L x=some (.pointer (some ⟨b,24+n * 18,none⟩)))(hy:ev L y=some (.bool u))(hn:n<16)
  [h0:aX H b 24 (du f)] [hr:bM H b 24 (du f) (du (dU f n {f n with used:=u })) H']:af P W N ⟨none,.store E x y,T,pos,after,guard⟩ L H (fun L1 H1=>L1=L∧H1=H'):=af.t (j:=0) (t:={f n with used:=u }) hz hx hy rfl hn (by decide) rfl
theorem af.Hr{u:Int}{f:Nat→RT}(hz:∀ w,(sizeOf E).run P w = .ok 1 w)(hx:ev L x=some (.pointer (some ⟨b,24+n * 18+2,none⟩)))(hy:ev L y=some (.int .i64 u))(hn:n<16)
  [h0:aX H b 24 (du f)] [hr:bM H b 24 (du f) (du (dU f n {f n with why:=u })) H']:af P W N ⟨none,.store E x y,T,pos,after,guard⟩ L H (fun L1 H1=>L1=L∧H1=H'):=af.t (t:={f n with why:=u }) hz hx hy rfl hn (by decide) rfl
theorem af.KX{u:Int}{f:Nat→RT}(hz:∀ w,(sizeOf E).run P w = .ok 1 w)(hx:ev L x=some (.pointer (some ⟨b,24+n * 18+4,none⟩)))(hy:ev L y=some (.int .i64 u))(hn:n<16)
  [h0:aX H b 24 (du f)] [hr:bM H b 24 (du f) (du (dU f n {f n with pc:=u })) H']:af P W N ⟨none,.store E x y,T,pos,after,guard⟩ L H (fun L1 H1=>L1=L∧H1=H'):=af.t (t:={f n with pc:=u }) hz hx hy rfl hn (by decide) rfl
theorem af.qR{j:Nat}{u:Int}{f:Nat→RT}(hz:∀ w,(sizeOf E).run P w = .ok 1 w)(hx:ev L x=some (.pointer (some ⟨b,24+n * 18+5+j * 1,none⟩)))(hy:ev L y=some (.int .u64 u))(hn:n<16)(hj:j<8)
  [h0:aX H b 24 (du f)] [hr:bM H b 24 (du f) (du (dU f n {f n with aq:=dU (f n).aq j u })) H']:af P W N ⟨none,.store E x y,T,pos,after,guard⟩ L H (fun L1 H1=>L1=L∧H1=H'):=by
 rw[Nat.add_assoc (24+n * 18),Nat.mul_one] at hx;exact af.t hz hx hy rfl hn (by omega) (JH hj)
theorem af.L2{u:Int}{f:Nat→RT}(hz:∀ w,(sizeOf E).run P w = .ok 1 w)(hx:ev L x=some (.pointer (some ⟨b,24+n * 18+13,none⟩)))(hy:ev L y=some (.int .u64 u))(hn:n<16)
  [h0:aX H b 24 (du f)] [hr:bM H b 24 (du f) (du (dU f n {f n with value:=u })) H']:af P W N ⟨none,.store E x y,T,pos,after,guard⟩ L H (fun L1 H1=>L1=L∧H1=H'):=af.t (t:={f n with value:=u }) hz hx hy rfl hn (by decide) rfl
theorem af.L3{u:Bool}{f:Nat→RT}(hz:∀ w,(sizeOf E).run P w = .ok 1 w)(hx:ev L x=some (.pointer (some ⟨b,24+n * 18+14,none⟩)))(hy:ev L y=some (.bool u))(hn:n<16)
  [h0:aX H b 24 (du f)] [hr:bM H b 24 (du f) (du (dU f n {f n with pA:=u })) H']:af P W N ⟨none,.store E x y,T,pos,after,guard⟩ L H (fun L1 H1=>L1=L∧H1=H'):=af.t (t:={f n with pA:=u }) hz hx hy rfl hn (by decide) rfl
theorem af.KY{u:Int}{f:Nat→RT}(hz:∀ w,(sizeOf E).run P w = .ok 1 w)(hx:ev L x=some (.pointer (some ⟨b,24+n * 18+15,none⟩)))(hy:ev L y=some (.int .i64 u))(hn:n<16)
  [h0:aX H b 24 (du f)] [hr:bM H b 24 (du f) (du (dU f n {f n with av:=u })) H']:af P W N ⟨none,.store E x y,T,pos,after,guard⟩ L H (fun L1 H1=>L1=L∧H1=H'):=af.t (t:={f n with av:=u }) hz hx hy rfl hn (by decide) rfl
theorem af.Mv{u:Int}{f:Nat→RT}(hz:∀ w,(sizeOf E).run P w = .ok 1 w)(hx:ev L x=some (.pointer (some ⟨b,24+n * 18+16,none⟩)))(hy:ev L y=some (.int .i64 u))(hn:n<16)
  [h0:aX H b 24 (du f)] [hr:bM H b 24 (du f) (du (dU f n {f n with op:=u })) H']:af P W N ⟨none,.store E x y,T,pos,after,guard⟩ L H (fun L1 H1=>L1=L∧H1=H'):=af.t (t:={f n with op:=u }) hz hx hy rfl hn (by decide) rfl
theorem af.IB{u:Int}{f:Nat→RT}(hz:∀ w,(sizeOf E).run P w = .ok 1 w)(hx:ev L x=some (.pointer (some ⟨b,24+n * 18+17,none⟩)))(hy:ev L y=some (.int .i64 u))(hn:n<16)
  [h0:aX H b 24 (du f)] [hr:bM H b 24 (du f) (du (dU f n {f n with into:=u })) H']:af P W N ⟨none,.store E x y,T,pos,after,guard⟩ L H (fun L1 H1=>L1=L∧H1=H'):=af.t (t:={f n with into:=u }) hz hx hy rfl hn (by decide) rfl
theorem af.L4{f:Nat→RT}{t:RT}(hz:∀ w,(sizeOf E).run P w = .ok 18 w)(hx:ev L x=some (.pointer (some ⟨b,24+n * 18,none⟩)))(hy:ev L y=some (.agg (Bt t).toArray))(hn:n<16)
  [_h0:aX H b 24 (du f)] [hr:bM H b 24 (du f) (du (dU f n t)) H']:af P W N ⟨none,.store E x y,T,pos,after,guard⟩ L H (fun L1 H1=>L1=L∧H1=H') :=
 af.rC (o:=24) (cs:=du f) (i:=n * 18) hx hy hz (List.all_eq_true.1 rfl) (by rw[show setFrom (du f) (n * 18) (Bt t)=du (dU f n t) from uz nz 16 hn];exact hr.m3) (by rw[show(du f).length=288 from dA nz f 16,nz];omega)
theorem af.L5{u:Int}{f:Nat→Int}(hz:∀ w,(sizeOf E).run P w = .ok 1 w)(hx:ev L x=some (.pointer (some ⟨b,8+n * 1,none⟩)))(hy:ev L y=some (.int .u64 u))(hn:n<16)
  [h0:aX H b 8 (ny f)] [hr:bM H b 8 (ny f) (ny (dU f n u)) H']:af P W N ⟨none,.store E x y,T,pos,after,guard⟩ L H (fun L1 H1=>L1=L∧H1=H'):=by
 have e:(ny f).set (n * 1) (.int .u64 u)=ny (dU f n u):=mJ (enc:=bF) (k:=1) (fun _=>rfl) (j:=0) (by decide) rfl 16 hn
 exact af.Ij (o:=8) (cs:=ny f) (i:=n * 1) hz hx hy rfl (_h0:=h0) (hr:=by rw[e];exact hr) (Nat.blt_eq.mpr (by rw[show(ny f).length=16 from dA (k:=1) (fun _=>rfl) f 16];omega))
theorem af.JI{u:Int}{f:Nat→Int}(hz:∀ w,(sizeOf E).run P w = .ok 1 w)(hx:ev L x=some (.pointer (some ⟨b,321+n * 1,none⟩)))(hy:ev L y=some (.int .i64 u))(hn:n<16)
  [h0:aX H b 321 (p9 f)] [hr:bM H b 321 (p9 f) (p9 (dU f n u)) H']:af P W N ⟨none,.store E x y,T,pos,after,guard⟩ L H (fun L1 H1=>L1=L∧H1=H'):=by
 have e:(p9 f).set (n * 1) (.int .i64 u)=p9 (dU f n u):=mJ (enc:=aL) (k:=1) (fun _=>rfl) (j:=0) (by decide) rfl 16 hn
 exact af.Ij (o:=321) (cs:=p9 f) (i:=n * 1) hz hx hy rfl (_h0:=h0) (hr:=by rw[e];exact hr) (Nat.blt_eq.mpr (by rw[show(p9 f).length=16 from dA (k:=1) (fun _=>rfl) f 16];omega))
end
end
/-! the space's parts -/
def iL{α:Type}(enc:α→List Value)(k b o:Nat)(l:List α):aa:=ij (fun _:Value=>True) fun v=>[arr b o [v],sl enc k v l]
def eG{β γ:Type}(enc:γ×β→List Value)(k:Nat)(inner:γ×β→aa)(v:Value)(l:List β):aa:=ij (fun xs:List (γ×β)=>xs.map (·.2)=l) fun xs=>[sl enc k v xs,aT inner xs]
def cI{β γ:Type}(enc:γ×β→List Value)(inner:γ×β→aa)(b o:Nat)(m:β):aa:=ij (fun _:γ=>True) fun u=>[arr b o (enc (u,m)),inner (u,m)]
def gS{β γ:Type}(enc:γ×β→List Value)(k:Nat)(inner:γ×β→aa)(v:Value)(l:List β)(i:Nat):aa:=oc (cI enc inner (blk v) (cC v+i * k)) (fun m'=>eG enc k inner v (l.set i m'))
section
variable{β γ:Type}{enc:γ×β→List Value}{k:Nat}{inner:γ×β→aa}{v:Value}{l:List β}{i:Nat}{m:β}
theorem fR(hk:∀ x,(enc x).length=k)(hm:l[i]?=some m):∀ h,eG enc k inner v l h→seps [cI enc inner (blk v) (cC v+i * k) m,gS enc k inner v l i] h:=fun h ⟨xs,hxs,a⟩=>by
 obtain⟨x,hx⟩:=ay (show i<xs.length by rw[← List.length_map (f:=(·.2)),hxs];exact(List.getElem?_eq_some_iff.1 hm).1)
 have hxm:x.2=m:=by have:=nZ hxs hx;rw[hm] at this;exact(Option.some.inj this).symm
 have hxe:x=(x.1,m):=by rw[← hxm]
 rw[gX] at a ⊢
 have a2:sep (sep (arr (blk v) (cC v+i * k) (enc x)) (hole enc k v xs i)) (sep (inner x) (aT inner (xs.eraseIdx i))) h:=aS (rX hx) (fun g b=>by rw[iV _ hx] at b;exact b) h a
 rw[aN,aY (hole enc k v xs i), ← aN] at a2
 refine aS ?_ ?_ h a2
 ·intro g b;exact⟨x.1,trivial,by rw[gX, ← hxe];exact b⟩
 ·refine od fun m' g b=>?_
  obtain⟨h1,h2,⟨u, -,b1⟩,b2,d,rfl⟩:=b
  refine⟨xs.set i (u,m'),by show(xs.set i (u,m')).map (·.2)=_;rw[List.map_set,show xs.map (·.2)=l from hxs],?_⟩
  rw[gX] at b1 ⊢
  have b3:sep (sep (arr (blk v) (cC v+i * k) (enc (u,m'))) (inner (u,m'))) (sep (hole enc k v xs i) (aT inner (xs.eraseIdx i))) (join h1 h2):=⟨h1,h2,b1,b2,d,rfl⟩
  rw[aN,aY (inner (u,m')), ← aN] at b3
  refine aS (lS (List.getElem?_eq_some_iff.1 hx).1 (hk _)) (fun g c=>?_) _ b3
  rw[iV _ (List.getElem?_set_self (List.getElem?_eq_some_iff.1 hx).1),List.eraseIdx_set_eq];exact c
theorem gg(m':β):∀ h,seps [cI enc inner (blk v) (cC v+i * k) m',gS enc k inner v l i] h→eG enc k inner v (l.set i m') h:=mv m'
theorem gq(hm:l[i]?=some m):∀ h,seps [cI enc inner (blk v) (cC v+i * k) m,gS enc k inner v l i] h→eG enc k inner v l h:=fun h a=>by have:=gg m h a;rwa [eF hm] at this
end
def ef(x:Value×gp):List Value:=[.int .i64 x.2.owner,x.1]
def ej(x:Value×gp):aa:=sl aL 1 x.1 x.2.wait
def jV(x:Value×List Int):aa:=sl aL 1 x.1 x.2
def lH(x:Value×List dh):aa:=sl cN 2 x.1 x.2
def dR(x:(Value×Value×Value)×Tub):List Value:=[.int .i64 x.2.room,x.1.1,x.1.2.1,x.1.2.2]
def dS(x:(Value×Value×Value)×Tub):aa:=seps [sl bF 1 x.1.1 x.2.words,sl eP 2 x.1.2.1 x.2.bP,sl aL 1 x.1.2.2 x.2.bC]
def zW(b:Nat)(l:List gp):aa:=ij (fun _:Value=>True) fun v=>[arr b 313 [v],eG ef 2 ej v l]
def Ht(b:Nat)(l:List (List dh)):aa:=ij (fun _:Value=>True) fun v=>[arr b 314 [v],eG cn 1 lH v l]
def Lo(b:Nat)(l:List (List Int)):aa:=ij (fun _:Value=>True) fun v=>[arr b 316 [v],eG cn 1 jV v l]
structure RV where
 p:bN
 u:Value
def bV(b:Nat)(v:RV)(s:RSp):aa:=seps [arr b 0 (eH v.p),arr b 8 (ny s.taken),arr b 24 (du s.thr),iL bF 1 b 312 s.mem,zW b s.aF,Ht b s.bn,iL aL 1 b 315 s.cf,Lo b s.sw,arr b 317 [v.u],eG dR 4 dS v.u s.jv,iL bF 1 b 318 s.blk,iL ec 4 b 319 s.ask,arr b 320 [.int .i64 s.now],arr b 321 (p9 s.til),iL dr 6 b 337 s.au]
theorem bx{b:Nat}{v:RV}{s:RSp}:∀ h,bV b v s h→seps [arr b 0 (eH v.p),arr b 8 (ny s.taken),arr b 24 (du s.thr),iL bF 1 b 312 s.mem,zW b s.aF,Ht b s.bn,iL aL 1 b 315 s.cf,Lo b s.sw,arr b 317 [v.u],eG dR 4 dS v.u s.jv,iL bF 1 b 318 s.blk,iL ec 4 b 319 s.ask,arr b 320 [.int .i64 s.now],arr b 321 (p9 s.til),iL dr 6 b 337 s.au] h:=fun _ a=>a
def lh(b:Nat)(a:RA)(vw vl:Value):List Value:=[ptr b,.int .i64 (a.n:Int)]++dI a.i++[vw,.bool a.e.bE,.bool a.e.ended,.bool a.e.yielded,vl]
def cB(ba b:Nat)(v:RV)(a:RA):aa:=rM (fun _ _:Value=>True) fun vw vl=>[arr ba 0 (lh b a vw vl),sl aL 1 vw a.e.aM,sl dr 6 vl a.late,bV b v a.s]
end Go.SLYtefdijgllbkmfaaGreat
namespace Go.SLYtefdijgllbkmfaaGreat
open Go Go.RowKit
theorem Fo{c:Int}{n:Nat}(hn:0<n):(pick c n:Int)=if c.tmod n<0 then c.tmod n+n else c.tmod n:=by
 have h1:=Int.lt_tmod_of_pos c (show(0:Int)<n by omega)
 have h2:=Int.tmod_lt_of_pos c (show(0:Int)<n by omega)
 unfold pick
 split
 ·rw[Int.tmod_eq_of_lt (by omega) (by omega)];omega
 ·rw[show c.tmod n+n=c.tmod n+n * 1 from by omega,Int.tmod_eq_emod_of_nonneg (by omega),Int.add_mul_emod_self_left,Int.emod_eq_of_lt (by omega) h2];omega
structure w8(t:RT):Prop where
 r:∀ k,0≤t.aq k∧t.aq k≤18446744073709551615
 i:0≤t.into∧t.into≤8
 j:0≤t.av∧t.av≤16
 p:0≤t.pc∧t.pc≤1000000
 v:0≤t.value∧t.value≤18446744073709551615
def fT(s:RSp):Prop:=∀ m,w8 (s.thr m)
theorem fT.dU{s s':RSp}(h:fT s){n:Nat}{t:RT}(e:s'.thr=dU s.thr n t)(ht:w8 t):fT s':=fun m=>by
 rw[e];unfold SLYtefdijgllbkmfaaGreat.dU;split;exact ht;exact h m
theorem CL{b:Nat}{a:RA}{vw vl:Value}:(lh b a vw vl).set (7+2) (.bool true)=lh b a.ending vw vl:=rfl
theorem Fp{b:Nat}{a:RA}{vw vl:Value}:(lh b a vw vl).set (7+3) (.bool true)=lh b {a with e:={a.e with yielded:=true } } vw vl:=rfl
theorem qa{thr:Nat→RT}{self:Nat}{h:Int}:∀ {f n:Nat},(cA thr self h f n).2=0→ ∃ m:Nat,(cA thr self h f n).1=(m:Int)∧n≤m∧m<n+f∧¬m=self∧(thr m).used=true∧(thr m).handle=h∧(thr m).pA=false∧(thr m).av=0
 | 0,n,e=>by simp[cA] at e
 | f+1,n,e=>by
  rw[cA] at e ⊢
  try simp only at e ⊢
  split at e
  ·rename_i hc
   rw[if_pos hc]
   obtain⟨m,h1,h2,h3,h4⟩:=qa e
   exact⟨m,h1,by omega,by omega,h4⟩
  ·rename_i hc
   rw[if_neg hc]
   split at e
   ·simp at e
   ·rename_i hj
    rw[if_neg hj]
    simp only[not_or,Bool.not_eq_true,Bool.not_eq_false,Decidable.not_not] at hc hj
    exact⟨n,rfl,Nat.le_refl _,by omega,hc.2.2.1,hc.1,hc.2.1,hc.2.2.2,hj⟩
theorem jl{thr:Nat→RT}{self:Nat}{h:Int}:∀ {f n:Nat},(cA thr self h f n).2=0∨(cA thr self h f n).2=3∨(cA thr self h f n).2=4
 | 0,n=>by simp[cA]
 | f+1,n=>by
  rw[cA]
  try simp only
  split
  ·exact jl
  ·split
   ·simp
   ·simp
section
variable{a:RA}{x:Int}{m:Nat}
theorem yn(h:¬(a.other x).2=0):a.join x=a.done x 0 (a.other x).2:=by unfold RA.join;exact if_pos h
theorem yo(h1:¬¬(a.other x).2=0)(h2:(a.other x).1=(m:Int))(h3:(a.s.thr m).why=9):a.join x=({a.aj (a.t.put a.i.a (a.s.thr m).value) with s:=(a.aj (a.t.put a.i.a (a.s.thr m).value)).s.aj m {(a.aj (a.t.put a.i.a (a.s.thr m).value)).s.t m with used:=false } }:RA).done x (a.s.thr m).value 0:=by
 have e:(a.other x).1.toNat=m:=by rw[h2,Int.toNat_natCast]
 unfold RA.join;simp only[e];exact(if_neg h1).trans (if_pos h3)
theorem uA(h1:¬¬(a.other x).2=0)(h2:(a.other x).1=(m:Int))(h3:¬(a.s.thr m).why=9):a.join x=({a with s:=a.s.aj m {a.s.t m with av:=(a.n:Int)+1 } }:RA).stop 4 (a.i.a+1) x 0:=by
 have e:(a.other x).1.toNat=m:=by rw[h2,Int.toNat_natCast]
 unfold RA.join;simp only[e];exact(if_neg h1).trans (if_neg h3)
theorem Hu(h1:(a.other x).2=0)(h2:(a.other x).1=(m:Int))(h3:(a.s.thr m).why=9):a.cO x=({a with s:=a.s.aj m {a.s.t m with used:=false } }:RA).done x 0 (a.other x).2:=by
 have e:(a.other x).1.toNat=m:=by rw[h2,Int.toNat_natCast]
 unfold RA.cO;simp only[e];rw[if_pos ⟨h1,h3⟩]
theorem JJ(h1:(a.other x).2=0)(h2:(a.other x).1=(m:Int))(h3:¬(a.s.thr m).why=9):a.cO x=({a with s:=a.s.aj m {a.s.t m with pA:=true } }:RA).done x 0 (a.other x).2:=by
 have e:(a.other x).1.toNat=m:=by rw[h2,Int.toNat_natCast]
 unfold RA.cO;simp only[e];rw[if_neg (fun h=>h3 h.2),if_pos h1]
theorem Hv(h1:¬(a.other x).2=0):a.cO x=a.done x 0 (a.other x).2:=by
 unfold RA.cO;simp only;rw[if_neg (fun h=>h1 h.1),if_neg h1]
end
end Go.SLYtefdijgllbkmfaaGreat
