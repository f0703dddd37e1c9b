/- Walks of functions, and what they compute. Conditions: none, this text proves no statement. -/
import Derived.Test.YtefdijgllbkmfaaGreatProg
import Derived.Test.YtefdijgllbkmfaaGreatI05
import Derived.KernelRfl
import Derived.Test.YtefdijgllbkmfaaGreatI02
import Derived.Test.YtefdijgllbkmfaaGreatI03
set_option maxRecDepth 20000
set_option maxHeartbeats 4000000
namespace Go.SLYtefdijgllbkmfaaGreat
open Go Go.RowKit Go.Proofs Go.Proofs.Tryz
instance:kF Tryz.prog 22 (.slice 128):=⟨underlying22⟩
instance:kF Tryz.prog 23 (.slice 3):=⟨underlying23⟩
instance:kF Tryz.prog 26 (.slice 37):=⟨underlying26⟩
instance:kF Tryz.prog 27 (.pointer 126):=⟨underlying27⟩
instance:kF Tryz.prog 49 (.slice 101):=⟨underlying49⟩
instance:kF Tryz.prog 55 (.slice 38):=⟨underlying55⟩
instance:kF Tryz.prog 60 (.slice 175):=⟨underlying60⟩
instance:kF Tryz.prog 67 (.slice 25):=⟨underlying67⟩
instance:kF Tryz.prog 68 (.slice 74):=⟨underlying68⟩
instance:kF Tryz.prog 76 (.slice 33):=⟨underlying76⟩
instance:kF Tryz.prog 80 (.pointer 155):=⟨underlying80⟩
instance:kF Tryz.prog 114 (.pointer 190):=⟨underlying114⟩
instance:kF Tryz.prog 116 (.pointer 195):=⟨underlying116⟩
instance:kF Tryz.prog 118 (.pointer 203):=⟨underlying118⟩
instance:kF Tryz.prog 120 (.pointer 206):=⟨underlying120⟩
instance:kF Tryz.prog 122 (.pointer 147):=⟨underlying122⟩
instance:kF Tryz.prog 124 (.slice 132):=⟨underlying124⟩
instance:kF Tryz.prog 128 (.slice 131):=⟨underlying128⟩
instance:kF Tryz.prog 132 (.pointer 209):=⟨underlying132⟩
instance:kF Tryz.prog 138 (.slice 295):=⟨underlying138⟩
instance:kF Tryz.prog 153 (.slice 27):=⟨underlying153⟩
instance:kF Tryz.prog 188 (.slice 255):=⟨underlying188⟩
instance:kF Tryz.prog 191 (.slice 278):=⟨underlying191⟩
instance:kF Tryz.prog 192 (.slice 198):=⟨underlying192⟩
instance:kF Tryz.prog 193 (.slice 200):=⟨underlying193⟩
instance:kF Tryz.prog 196 (.slice 274):=⟨underlying196⟩
instance:kF Tryz.prog 201 (.slice 170):=⟨underlying201⟩
instance:kF Tryz.prog 207 (.slice 363):=⟨underlying207⟩
instance:kF Tryz.prog 257 (.slice 9):=⟨underlying257⟩
instance:kF Tryz.prog 271 (.pointer 198):=⟨underlying271⟩
instance:kF Tryz.prog 288 (.slice 290):=⟨underlying288⟩
instance:kF Tryz.prog 310 (.slice 383):=⟨underlying310⟩
instance:kF Tryz.prog 318 (.pointer 278):=⟨underlying318⟩
instance:kF Tryz.prog 324 (.pointer 200):=⟨underlying324⟩
instance:kF Tryz.prog 423 (.slice 310):=⟨underlying423⟩
instance:ij Tryz.prog 3 1:=⟨sizeOf3⟩
instance:ij Tryz.prog 4 1:=⟨sizeOf4⟩
instance:ij Tryz.prog 25 8:=⟨sizeOf25⟩
instance:ij Tryz.prog 27 1:=⟨sizeOf27⟩
instance:ij Tryz.prog 28 1:=⟨sizeOf28⟩
instance:ij Tryz.prog 33 1:=⟨sizeOf33⟩
instance:ij Tryz.prog 37 3:=⟨sizeOf37⟩
instance:ij Tryz.prog 38 1:=⟨sizeOf38⟩
instance:ij Tryz.prog 39 8:=⟨sizeOf39⟩
instance:ij Tryz.prog 41 13:=⟨sizeOf41⟩
instance:ij Tryz.prog 53 18:=⟨sizeOf53⟩
instance:ij Tryz.prog 55 1:=⟨sizeOf55⟩
instance:ij Tryz.prog 74 4:=⟨sizeOf74⟩
instance:ij Tryz.prog 93 4:=⟨sizeOf93⟩
instance:ij Tryz.prog 96 4:=⟨sizeOf96⟩
instance:ij Tryz.prog 101 6:=⟨sizeOf101⟩
instance:ij Tryz.prog 123 16:=⟨sizeOf123⟩
instance:ij Tryz.prog 128 1:=⟨sizeOf128⟩
instance:ij Tryz.prog 131 5:=⟨sizeOf131⟩
instance:ij Tryz.prog 132 1:=⟨sizeOf132⟩
instance:ij Tryz.prog 145 10:=⟨sizeOf145⟩
instance:ij Tryz.prog 170 4:=⟨sizeOf170⟩
instance:ij Tryz.prog 175 4:=⟨sizeOf175⟩
instance:ij Tryz.prog 198 1:=⟨sizeOf198⟩
instance:ij Tryz.prog 200 2:=⟨sizeOf200⟩
instance:ij Tryz.prog 249 4:=⟨sizeOf249⟩
instance:ij Tryz.prog 255 2:=⟨sizeOf255⟩
instance:ij Tryz.prog 260 1:=⟨sizeOf260⟩
instance:ij Tryz.prog 274 2:=⟨sizeOf274⟩
instance:ij Tryz.prog 278 3:=⟨sizeOf278⟩
instance:ij Tryz.prog 290 2:=⟨sizeOf290⟩
instance:ij Tryz.prog 295 2:=⟨sizeOf295⟩
instance:ij Tryz.prog 310 1:=⟨sizeOf310⟩
instance:ij Tryz.prog 363 2:=⟨sizeOf363⟩
instance:One Tryz.prog 3:=⟨isAgg3⟩
instance:One Tryz.prog 4:=⟨isAgg4⟩
instance:One Tryz.prog 9:=⟨isAgg9⟩
instance:One Tryz.prog 22:=⟨isAgg22⟩
instance:One Tryz.prog 23:=⟨isAgg23⟩
instance:One Tryz.prog 27:=⟨isAgg27⟩
instance:One Tryz.prog 28:=⟨isAgg28⟩
instance:One Tryz.prog 33:=⟨isAgg33⟩
instance:One Tryz.prog 38:=⟨isAgg38⟩
instance:One Tryz.prog 49:=⟨isAgg49⟩
instance:One Tryz.prog 55:=⟨isAgg55⟩
instance:One Tryz.prog 56:=⟨isAgg56⟩
instance:One Tryz.prog 57:=⟨isAgg57⟩
instance:One Tryz.prog 58:=⟨isAgg58⟩
instance:One Tryz.prog 59:=⟨isAgg59⟩
instance:One Tryz.prog 60:=⟨isAgg60⟩
instance:One Tryz.prog 76:=⟨isAgg76⟩
instance:One Tryz.prog 114:=⟨isAgg114⟩
instance:One Tryz.prog 116:=⟨isAgg116⟩
instance:One Tryz.prog 118:=⟨isAgg118⟩
instance:One Tryz.prog 120:=⟨isAgg120⟩
instance:One Tryz.prog 122:=⟨isAgg122⟩
instance:One Tryz.prog 124:=⟨isAgg124⟩
instance:One Tryz.prog 128:=⟨isAgg128⟩
instance:One Tryz.prog 132:=⟨isAgg132⟩
instance:One Tryz.prog 138:=⟨isAgg138⟩
instance:One Tryz.prog 153:=⟨isAgg153⟩
instance:One Tryz.prog 188:=⟨isAgg188⟩
instance:One Tryz.prog 191:=⟨isAgg191⟩
instance:One Tryz.prog 192:=⟨isAgg192⟩
instance:One Tryz.prog 193:=⟨isAgg193⟩
instance:One Tryz.prog 196:=⟨isAgg196⟩
instance:One Tryz.prog 201:=⟨isAgg201⟩
instance:One Tryz.prog 204:=⟨isAgg204⟩
instance:One Tryz.prog 207:=⟨isAgg207⟩
instance:One Tryz.prog 288:=⟨isAgg288⟩
instance:One Tryz.prog 310:=⟨isAgg310⟩
instance:iB Tryz.prog 25:=⟨isAgg25⟩
instance:iB Tryz.prog 37:=⟨isAgg37⟩
instance:iB Tryz.prog 39:=⟨isAgg39⟩
instance:iB Tryz.prog 41:=⟨isAgg41⟩
instance:iB Tryz.prog 53:=⟨isAgg53⟩
instance:iB Tryz.prog 74:=⟨isAgg74⟩
instance:iB Tryz.prog 93:=⟨isAgg93⟩
instance:iB Tryz.prog 96:=⟨isAgg96⟩
instance:iB Tryz.prog 101:=⟨isAgg101⟩
instance:iB Tryz.prog 123:=⟨isAgg123⟩
instance:iB Tryz.prog 131:=⟨isAgg131⟩
instance:iB Tryz.prog 145:=⟨isAgg145⟩
instance:iB Tryz.prog 170:=⟨isAgg170⟩
instance:iB Tryz.prog 175:=⟨isAgg175⟩
instance:iB Tryz.prog 198:=⟨isAgg198⟩
instance:iB Tryz.prog 200:=⟨isAgg200⟩
instance:iB Tryz.prog 249:=⟨isAgg249⟩
instance:iB Tryz.prog 255:=⟨isAgg255⟩
instance:iB Tryz.prog 274:=⟨isAgg274⟩
instance:iB Tryz.prog 278:=⟨isAgg278⟩
instance:iB Tryz.prog 290:=⟨isAgg290⟩
instance:iB Tryz.prog 295:=⟨isAgg295⟩
instance:iB Tryz.prog 363:=⟨isAgg363⟩
instance:cP Tryz.prog 25 0 0:=⟨ab (t:=22) underlying25 rfl sizeOf22⟩
instance:cP Tryz.prog 25 1 1:=⟨ab (t:=3) underlying25 rfl sizeOf3⟩
instance:cP Tryz.prog 25 2 2:=⟨ab (t:=3) underlying25 rfl sizeOf3⟩
instance:cP Tryz.prog 25 3 3:=⟨ab (t:=3) underlying25 rfl sizeOf3⟩
instance:cP Tryz.prog 25 4 4:=⟨ab (t:=23) underlying25 rfl sizeOf23⟩
instance:cP Tryz.prog 25 5 5:=⟨ab (t:=23) underlying25 rfl sizeOf23⟩
instance:cP Tryz.prog 25 6 6:=⟨ab (t:=3) underlying25 rfl sizeOf3⟩
instance:cP Tryz.prog 25 7 7:=⟨ab (t:=3) underlying25 rfl sizeOf3⟩
instance:cP Tryz.prog 37 0 0:=⟨ab (t:=3) underlying37 rfl sizeOf3⟩
instance:cP Tryz.prog 37 1 1:=⟨ab (t:=3) underlying37 rfl sizeOf3⟩
instance:cP Tryz.prog 37 2 2:=⟨ab (t:=3) underlying37 rfl sizeOf3⟩
instance:cP Tryz.prog 41 1 1:=⟨ab (t:=3) underlying41 rfl sizeOf3⟩
instance:cP Tryz.prog 41 4 4:=⟨ab (t:=39) underlying41 rfl sizeOf39⟩
instance:cP Tryz.prog 53 0 0:=⟨ab (t:=4) underlying53 rfl sizeOf4⟩
instance:cP Tryz.prog 53 1 1:=⟨ab (t:=38) underlying53 rfl sizeOf38⟩
instance:cP Tryz.prog 53 2 2:=⟨ab (t:=3) underlying53 rfl sizeOf3⟩
instance:cP Tryz.prog 53 3 3:=⟨ab (t:=3) underlying53 rfl sizeOf3⟩
instance:cP Tryz.prog 53 4 4:=⟨ab (t:=3) underlying53 rfl sizeOf3⟩
instance:cP Tryz.prog 53 5 5:=⟨ab (t:=39) underlying53 rfl sizeOf39⟩
instance:cP Tryz.prog 53 6 13:=⟨ab (t:=38) underlying53 rfl sizeOf38⟩
instance:cP Tryz.prog 53 7 14:=⟨ab (t:=4) underlying53 rfl sizeOf4⟩
instance:cP Tryz.prog 53 8 15:=⟨ab (t:=3) underlying53 rfl sizeOf3⟩
instance:cP Tryz.prog 53 9 16:=⟨ab (t:=3) underlying53 rfl sizeOf3⟩
instance:cP Tryz.prog 53 10 17:=⟨ab (t:=3) underlying53 rfl sizeOf3⟩
instance:cP Tryz.prog 63 0 0:=⟨ab (t:=25) underlying63 rfl sizeOf25⟩
instance:cP Tryz.prog 63 1 8:=⟨ab (t:=51) underlying63 rfl sizeOf51⟩
instance:cP Tryz.prog 63 2 24:=⟨ab (t:=54) underlying63 rfl sizeOf54⟩
instance:cP Tryz.prog 63 3 312:=⟨ab (t:=55) underlying63 rfl sizeOf55⟩
instance:cP Tryz.prog 63 4 313:=⟨ab (t:=56) underlying63 rfl sizeOf56⟩
instance:cP Tryz.prog 63 5 314:=⟨ab (t:=57) underlying63 rfl sizeOf57⟩
instance:cP Tryz.prog 63 6 315:=⟨ab (t:=23) underlying63 rfl sizeOf23⟩
instance:cP Tryz.prog 63 7 316:=⟨ab (t:=58) underlying63 rfl sizeOf58⟩
instance:cP Tryz.prog 63 8 317:=⟨ab (t:=59) underlying63 rfl sizeOf59⟩
instance:cP Tryz.prog 63 9 318:=⟨ab (t:=55) underlying63 rfl sizeOf55⟩
instance:cP Tryz.prog 63 10 319:=⟨ab (t:=60) underlying63 rfl sizeOf60⟩
instance:cP Tryz.prog 63 11 320:=⟨ab (t:=3) underlying63 rfl sizeOf3⟩
instance:cP Tryz.prog 63 12 321:=⟨ab (t:=61) underlying63 rfl sizeOf61⟩
instance:cP Tryz.prog 63 13 337:=⟨ab (t:=49) underlying63 rfl sizeOf49⟩
instance:cP Tryz.prog 74 0 0:=⟨ab (t:=3) underlying74 rfl sizeOf3⟩
instance:cP Tryz.prog 74 1 1:=⟨ab (t:=3) underlying74 rfl sizeOf3⟩
instance:cP Tryz.prog 74 2 2:=⟨ab (t:=3) underlying74 rfl sizeOf3⟩
instance:cP Tryz.prog 74 3 3:=⟨ab (t:=3) underlying74 rfl sizeOf3⟩
instance:cP Tryz.prog 78 0 0:=⟨ab (t:=76) underlying78 rfl sizeOf76⟩
instance:cP Tryz.prog 93 0 0:=⟨ab (t:=23) underlying93 rfl sizeOf23⟩
instance:cP Tryz.prog 93 1 1:=⟨ab (t:=4) underlying93 rfl sizeOf4⟩
instance:cP Tryz.prog 93 2 2:=⟨ab (t:=4) underlying93 rfl sizeOf4⟩
instance:cP Tryz.prog 93 3 3:=⟨ab (t:=4) underlying93 rfl sizeOf4⟩
instance:cP Tryz.prog 96 0 0:=⟨ab (t:=23) underlying96 rfl sizeOf23⟩
instance:cP Tryz.prog 96 1 1:=⟨ab (t:=4) underlying96 rfl sizeOf4⟩
instance:cP Tryz.prog 96 2 2:=⟨ab (t:=4) underlying96 rfl sizeOf4⟩
instance:cP Tryz.prog 96 3 3:=⟨ab (t:=4) underlying96 rfl sizeOf4⟩
instance:cP Tryz.prog 101 3 3:=⟨ab (t:=38) underlying101 rfl sizeOf38⟩
instance:cP Tryz.prog 101 5 5:=⟨ab (t:=4) underlying101 rfl sizeOf4⟩
instance:cP Tryz.prog 126 0 0:=⟨ab (t:=25) underlying126 rfl sizeOf25⟩
instance:cP Tryz.prog 126 1 8:=⟨ab (t:=114) underlying126 rfl sizeOf114⟩
instance:cP Tryz.prog 126 2 9:=⟨ab (t:=123) underlying126 rfl sizeOf123⟩
instance:cP Tryz.prog 126 3 25:=⟨ab (t:=55) underlying126 rfl sizeOf55⟩
instance:cP Tryz.prog 126 4 26:=⟨ab (t:=116) underlying126 rfl sizeOf116⟩
instance:cP Tryz.prog 126 5 27:=⟨ab (t:=124) underlying126 rfl sizeOf124⟩
instance:cP Tryz.prog 126 6 28:=⟨ab (t:=118) underlying126 rfl sizeOf118⟩
instance:cP Tryz.prog 126 7 29:=⟨ab (t:=120) underlying126 rfl sizeOf120⟩
instance:cP Tryz.prog 126 8 30:=⟨ab (t:=49) underlying126 rfl sizeOf49⟩
instance:cP Tryz.prog 131 0 0:=⟨ab (t:=3) underlying131 rfl sizeOf3⟩
instance:cP Tryz.prog 131 1 1:=⟨ab (t:=3) underlying131 rfl sizeOf3⟩
instance:cP Tryz.prog 131 2 2:=⟨ab (t:=3) underlying131 rfl sizeOf3⟩
instance:cP Tryz.prog 131 3 3:=⟨ab (t:=3) underlying131 rfl sizeOf3⟩
instance:cP Tryz.prog 131 4 4:=⟨ab (t:=38) underlying131 rfl sizeOf38⟩
instance:cP Tryz.prog 140 0 0:=⟨ab (t:=3) underlying140 rfl sizeOf3⟩
instance:cP Tryz.prog 140 1 1:=⟨ab (t:=55) underlying140 rfl sizeOf55⟩
instance:cP Tryz.prog 140 2 2:=⟨ab (t:=138) underlying140 rfl sizeOf138⟩
instance:cP Tryz.prog 140 3 3:=⟨ab (t:=23) underlying140 rfl sizeOf23⟩
instance:cP Tryz.prog 145 0 0:=⟨ab (t:=3) underlying145 rfl sizeOf3⟩
instance:cP Tryz.prog 145 1 1:=⟨ab (t:=3) underlying145 rfl sizeOf3⟩
instance:cP Tryz.prog 145 2 2:=⟨ab (t:=39) underlying145 rfl sizeOf39⟩
instance:cP Tryz.prog 147 0 0:=⟨ab (t:=145) underlying147 rfl sizeOf145⟩
instance:cP Tryz.prog 147 1 10:=⟨ab (t:=38) underlying147 rfl sizeOf38⟩
instance:cP Tryz.prog 147 2 11:=⟨ab (t:=3) underlying147 rfl sizeOf3⟩
instance:cP Tryz.prog 147 3 12:=⟨ab (t:=38) underlying147 rfl sizeOf38⟩
instance:cP Tryz.prog 147 4 13:=⟨ab (t:=4) underlying147 rfl sizeOf4⟩
instance:cP Tryz.prog 147 5 14:=⟨ab (t:=3) underlying147 rfl sizeOf3⟩
instance:cP Tryz.prog 147 6 15:=⟨ab (t:=3) underlying147 rfl sizeOf3⟩
instance:cP Tryz.prog 147 7 16:=⟨ab (t:=3) underlying147 rfl sizeOf3⟩
instance:cP Tryz.prog 155 0 0:=⟨ab (t:=153) underlying155 rfl sizeOf153⟩
instance:cP Tryz.prog 161 0 0:=⟨ab (t:=27) underlying161 rfl sizeOf27⟩
instance:cP Tryz.prog 161 1 1:=⟨ab (t:=3) underlying161 rfl sizeOf3⟩
instance:cP Tryz.prog 161 2 2:=⟨ab (t:=122) underlying161 rfl sizeOf122⟩
instance:cP Tryz.prog 161 3 3:=⟨ab (t:=131) underlying161 rfl sizeOf131⟩
instance:cP Tryz.prog 161 4 8:=⟨ab (t:=3) underlying161 rfl sizeOf3⟩
instance:cP Tryz.prog 161 5 9:=⟨ab (t:=93) underlying161 rfl sizeOf93⟩
instance:cP Tryz.prog 161 6 13:=⟨ab (t:=49) underlying161 rfl sizeOf49⟩
instance:cP Tryz.prog 167 0 0:=⟨ab (t:=33) underlying167 rfl sizeOf33⟩
instance:cP Tryz.prog 167 1 1:=⟨ab (t:=3) underlying167 rfl sizeOf3⟩
instance:cP Tryz.prog 167 2 2:=⟨ab (t:=131) underlying167 rfl sizeOf131⟩
instance:cP Tryz.prog 167 3 7:=⟨ab (t:=96) underlying167 rfl sizeOf96⟩
instance:cP Tryz.prog 167 4 11:=⟨ab (t:=49) underlying167 rfl sizeOf49⟩
instance:cP Tryz.prog 170 0 0:=⟨ab (t:=3) underlying170 rfl sizeOf3⟩
instance:cP Tryz.prog 170 1 1:=⟨ab (t:=3) underlying170 rfl sizeOf3⟩
instance:cP Tryz.prog 170 2 2:=⟨ab (t:=4) underlying170 rfl sizeOf4⟩
instance:cP Tryz.prog 170 3 3:=⟨ab (t:=38) underlying170 rfl sizeOf38⟩
instance:cP Tryz.prog 175 0 0:=⟨ab (t:=3) underlying175 rfl sizeOf3⟩
instance:cP Tryz.prog 175 1 1:=⟨ab (t:=3) underlying175 rfl sizeOf3⟩
instance:cP Tryz.prog 175 2 2:=⟨ab (t:=4) underlying175 rfl sizeOf4⟩
instance:cP Tryz.prog 175 3 3:=⟨ab (t:=38) underlying175 rfl sizeOf38⟩
instance:cP Tryz.prog 190 0 0:=⟨ab (t:=188) underlying190 rfl sizeOf188⟩
instance:cP Tryz.prog 195 0 0:=⟨ab (t:=191) underlying195 rfl sizeOf191⟩
instance:cP Tryz.prog 195 1 1:=⟨ab (t:=192) underlying195 rfl sizeOf192⟩
instance:cP Tryz.prog 195 2 2:=⟨ab (t:=193) underlying195 rfl sizeOf193⟩
instance:cP Tryz.prog 198 0 0:=⟨ab (t:=196) underlying198 rfl sizeOf196⟩
instance:cP Tryz.prog 200 0 0:=⟨ab (t:=198) underlying200 rfl sizeOf198⟩
instance:cP Tryz.prog 200 1 1:=⟨ab (t:=3) underlying200 rfl sizeOf3⟩
instance:cP Tryz.prog 203 0 0:=⟨ab (t:=55) underlying203 rfl sizeOf55⟩
instance:cP Tryz.prog 203 1 1:=⟨ab (t:=201) underlying203 rfl sizeOf201⟩
instance:cP Tryz.prog 206 0 0:=⟨ab (t:=3) underlying206 rfl sizeOf3⟩
instance:cP Tryz.prog 206 1 1:=⟨ab (t:=204) underlying206 rfl sizeOf204⟩
instance:cP Tryz.prog 209 0 0:=⟨ab (t:=3) underlying209 rfl sizeOf3⟩
instance:cP Tryz.prog 209 1 1:=⟨ab (t:=55) underlying209 rfl sizeOf55⟩
instance:cP Tryz.prog 209 2 2:=⟨ab (t:=207) underlying209 rfl sizeOf207⟩
instance:cP Tryz.prog 209 3 3:=⟨ab (t:=23) underlying209 rfl sizeOf23⟩
instance:cP Tryz.prog 249 0 0:=⟨ab (t:=3) underlying249 rfl sizeOf3⟩
instance:cP Tryz.prog 249 1 1:=⟨ab (t:=4) underlying249 rfl sizeOf4⟩
instance:cP Tryz.prog 249 2 2:=⟨ab (t:=3) underlying249 rfl sizeOf3⟩
instance:cP Tryz.prog 249 3 3:=⟨ab (t:=4) underlying249 rfl sizeOf4⟩
instance:cP Tryz.prog 255 0 0:=⟨ab (t:=4) underlying255 rfl sizeOf4⟩
instance:cP Tryz.prog 255 1 1:=⟨ab (t:=38) underlying255 rfl sizeOf38⟩
instance:cP Tryz.prog 260 0 0:=⟨ab (t:=28) underlying260 rfl sizeOf28⟩
instance:cP Tryz.prog 263 0 0:=⟨ab (t:=145) underlying263 rfl sizeOf145⟩
instance:cP Tryz.prog 263 1 10:=⟨ab (t:=55) underlying263 rfl sizeOf55⟩
instance:cP Tryz.prog 274 0 0:=⟨ab (t:=3) underlying274 rfl sizeOf3⟩
instance:cP Tryz.prog 274 1 1:=⟨ab (t:=3) underlying274 rfl sizeOf3⟩
instance:cP Tryz.prog 278 0 0:=⟨ab (t:=198) underlying278 rfl sizeOf198⟩
instance:cP Tryz.prog 278 1 1:=⟨ab (t:=4) underlying278 rfl sizeOf4⟩
instance:cP Tryz.prog 278 2 2:=⟨ab (t:=3) underlying278 rfl sizeOf3⟩
instance:cP Tryz.prog 287 0 0:=⟨ab (t:=3) underlying287 rfl sizeOf3⟩
instance:cP Tryz.prog 287 1 1:=⟨ab (t:=23) underlying287 rfl sizeOf23⟩
instance:cP Tryz.prog 290 0 0:=⟨ab (t:=3) underlying290 rfl sizeOf3⟩
instance:cP Tryz.prog 290 1 1:=⟨ab (t:=3) underlying290 rfl sizeOf3⟩
instance:cP Tryz.prog 295 0 0:=⟨ab (t:=3) underlying295 rfl sizeOf3⟩
instance:cP Tryz.prog 295 1 1:=⟨ab (t:=38) underlying295 rfl sizeOf38⟩
instance:cP Tryz.prog 363 0 0:=⟨ab (t:=3) underlying363 rfl sizeOf3⟩
instance:cP Tryz.prog 363 1 1:=⟨ab (t:=38) underlying363 rfl sizeOf38⟩
end Go.SLYtefdijgllbkmfaaGreat
namespace Go.SLYtefdijgllbkmfaaGreat
open Go Go.RowKit Go.Proofs Go.Proofs.Tryz
attribute [local irreducible] ax aS bo bY bP Y
theorem fB{W:World}{a:Int}(ha:0≤a∧a<18446744073709551616):Fn Tryz.prog W 222 [.int .u64 a] [] Unit (fun _=>.int .i64 (bC a)) (fun _=>True) (fun _=>[]):=by
 refine Fn.intro (N:=15) func222 rfl ntmps222 rfl fun F=>?_
 show ax _ _ _ _ _ _ [F]
 refine J 8 ?_
 refine .p (.dJ (Y.za rfl rfl) (xR ha)) ?_
 refine JD 12 (fun h6=>?_) fun h6=>?_
 ·refine J 8 ?_
  refine .aI rfl rfl fun w s=>⟨(),?_,trivial,aq .auto s⟩
  exact jt (I1 h6).symm
 ·refine JD 7 (fun h9=>?_) fun h9=>?_
  ·refine J 8 ?_
   refine .aI rfl rfl fun w s=>⟨(),?_,trivial,aq .auto s⟩
   exact jt (I2 h6 h9).symm
  ·refine JD 7 (fun h12=>?_) fun h12=>?_
   ·refine J 8 ?_
    refine .aI rfl rfl fun w s=>⟨(),?_,trivial,aq .auto s⟩
    exact jt (I3 h6 h9 h12).symm
   ·refine J 9 ?_
    refine .aI rfl rfl fun w s=>⟨(),?_,trivial,aq .auto s⟩
    exact jt (I4 h6 h9 h12).symm
theorem mB{W:World}{a:Int}(ha:0≤a∧a<18446744073709551616):Fn Tryz.prog W 220 [.int .u64 a] [] Unit (fun _=>.int .u64 (fw a)) (fun _=>True) (fun _=>[]):=by
 refine Fn.intro (N:=7) func220 rfl ntmps220 rfl fun F=>?_
 show ax _ _ _ _ _ _ [F]
 refine J 9 ?_
 refine .c call222 rfl (fB ha) fun _ _=>?_
 refine JD 3 (fun h5=>?_) fun h5=>?_
 ·refine J 7 ?_
  refine .aI rfl rfl fun w s=>⟨(),?_,trivial,aq .auto s⟩
  exact jt (Gv h5).symm
 ·refine J 9 ?_
  refine .aI rfl rfl fun w s=>⟨(),?_,trivial,aq .auto s⟩
  exact jt (Gw h5).symm
theorem il{W:World}{a:Int}(ha:0≤a∧a<18446744073709551616):Fn Tryz.prog W 223 [.int .u64 a] [] Unit (fun _=>.int .i64 (fT a)) (fun _=>True) (fun _=>[]):=by
 refine Fn.intro (N:=13) func223 rfl ntmps223 rfl fun F=>?_
 show ax _ _ _ _ _ _ [F]
 refine J 9 ?_
 refine .p (.dJ (Y.zb (n:=63) rfl rfl (by decide)) (oP ha 63 (by decide))) ?_
 refine JD 3 (fun h5=>?_) fun h5=>?_
 ·refine J 3 ?_
  refine .p (.dJ (Y.za rfl rfl) (xR ha)) ?_
  refine .p (.dJ (Y.gp underlying38 underlying3 rfl (by have:=EC a;omega)) rfl) ?_
  refine .p (.dJ (Y.neg rfl) (GL (n:=((a.toNat % fS:Nat):Int)) (EC a))) ?_
  refine .p (.sub rfl rfl (by have:=EC a;omega)) ?_
  refine J 5 ?_
  refine .aI rfl rfl fun w s=>⟨(),?_,trivial,aq .auto s⟩
  exact jt (Gx ha h5).symm
 ·refine J 5 ?_
  refine .p (.dJ (Y.gp underlying38 underlying3 rfl (by have:=AZ ha h5;omega)) rfl) ?_
  refine J 4 ?_
  refine .aI rfl rfl fun w s=>⟨(),?_,trivial,aq .auto s⟩
  exact jt (AZ ha h5).2.symm
theorem GM{W:World}{a b:Int}(ha:0≤a∧a<18446744073709551616)(hb:0≤b∧b<18446744073709551616):Fn Tryz.prog W 180 [.int .u64 a,.int .u64 b] [] Unit (fun _=>.int .u64 (nW a b)) (fun _=>True) (fun _=>[]):=by
 refine Fn.intro (N:=20) func180 rfl ntmps180 rfl fun F=>?_
 show ax _ _ _ _ _ _ [F]
 refine J 9 ?_
 refine .c call222 rfl (fB ha) fun _ _=>?_
 refine J 2 ?_
 refine .lE (t:=8) rfl (fun h3=>?_) (fun h3=>?_)
 ·refine J 6 ?_
  refine .hJ rfl ?_
  refine J 7 ?_
  refine .aI rfl rfl fun w s=>⟨(),?_,trivial,aq .auto s⟩
  rw[← oJ ha hb];unfold B9;rw[if_pos (.inl h3)];rfl
 ·refine J 1 ?_
  refine .cg call222 rfl (fB hb) fun _ _=>?_
  refine JD 4 (fun h4=>?_) fun h4=>?_
  ·refine J 7 ?_
   refine .aI rfl rfl fun w s=>⟨(),?_,trivial,aq .auto s⟩
   rw[← oJ ha hb];unfold B9;rw[if_pos (.inr h4)];rfl
  ·have hno:¬(bC a=3∨bC b=3):=fun e=>e.elim h3 h4
   refine J 6 ?_
   refine .c call223 rfl (il ha) fun _ _=>?_
   refine J 1 ?_
   refine .c call223 rfl (il hb) fun _ _=>?_
   refine JD 3 (fun h17=>?_) fun h17=>?_
   ·refine J 8 ?_
    refine .aI rfl rfl fun w s=>⟨(),?_,trivial,aq .auto s⟩
    rw[← oJ ha hb];unfold B9;rw[if_neg hno,if_pos (by omega)]
   ·refine J 9 ?_
    refine .aI rfl rfl fun w s=>⟨(),?_,trivial,aq .auto s⟩
    rw[← oJ ha hb];unfold B9;rw[if_neg hno,if_neg (by omega)]
theorem GN{W:World}{a b:Int}(ha:0≤a∧a<18446744073709551616)(hb:0≤b∧b<18446744073709551616):Fn Tryz.prog W 181 [.int .u64 a,.int .u64 b] [] Unit (fun _=>.int .u64 (nX a b)) (fun _=>True) (fun _=>[]):=by
 refine Fn.intro (N:=20) func181 rfl ntmps181 rfl fun F=>?_
 show ax _ _ _ _ _ _ [F]
 refine J 9 ?_
 refine .c call222 rfl (fB ha) fun _ _=>?_
 refine J 2 ?_
 refine .lE (t:=8) rfl (fun h3=>?_) (fun h3=>?_)
 ·refine J 6 ?_
  refine .hJ rfl ?_
  refine J 7 ?_
  refine .aI rfl rfl fun w s=>⟨(),?_,trivial,aq .auto s⟩
  rw[← oK ha hb];unfold Ca;rw[if_pos (.inl h3)];rfl
 ·refine J 1 ?_
  refine .cg call222 rfl (fB hb) fun _ _=>?_
  refine JD 4 (fun h4=>?_) fun h4=>?_
  ·refine J 7 ?_
   refine .aI rfl rfl fun w s=>⟨(),?_,trivial,aq .auto s⟩
   rw[← oK ha hb];unfold Ca;rw[if_pos (.inr h4)];rfl
  ·have hno:¬(bC a=3∨bC b=3):=fun e=>e.elim h3 h4
   refine J 6 ?_
   refine .c call223 rfl (il ha) fun _ _=>?_
   refine J 1 ?_
   refine .c call223 rfl (il hb) fun _ _=>?_
   refine JD 3 (fun h17=>?_) fun h17=>?_
   ·refine J 8 ?_
    refine .aI rfl rfl fun w s=>⟨(),?_,trivial,aq .auto s⟩
    rw[← oK ha hb];unfold Ca;rw[if_neg hno,if_pos (by omega)]
   ·refine J 9 ?_
    refine .aI rfl rfl fun w s=>⟨(),?_,trivial,aq .auto s⟩
    rw[← oK ha hb];unfold Ca;rw[if_neg hno,if_neg (by omega)]
theorem ED{W:World}{a b:Int}(ha:0≤a∧a<18446744073709551616)(hb:0≤b∧b<18446744073709551616):Fn Tryz.prog W 182 [.int .u64 a,.int .u64 b] [] Unit (fun _=>.bool (DC a b)) (fun _=>True) (fun _=>[]):=by
 refine Fn.intro (N:=28) func182 rfl ntmps182 rfl fun F=>?_
 show ax _ _ _ _ _ _ [F]
 refine J 9 ?_
 refine .c call222 rfl (fB ha) fun _ _=>?_
 refine J 2 ?_
 refine .lE (t:=8) rfl (fun h3=>?_) (fun h3=>?_)
 ·refine J 16 ?_
  refine .hJ rfl ?_
  refine J 7 ?_
  refine .aI rfl rfl fun w s=>⟨(),?_,trivial,aq .auto s⟩
  rw[← kn ha hb];unfold qB;rw[if_pos (.inl h3)]
 ·refine J 1 ?_
  refine .cg call222 rfl (fB hb) fun _ _=>?_
  refine J 3 ?_
  refine .lE (t:=13) rfl (fun h4=>?_) (fun h4=>?_)
  ·refine J 11 ?_
   refine .hJ rfl ?_
   refine J 7 ?_
   refine .aI rfl rfl fun w s=>⟨(),?_,trivial,aq .auto s⟩
   rw[← kn ha hb];unfold qB;rw[if_pos (.inr (.inl h4))]
  ·refine J 1 ?_
   refine .cg call222 rfl (fB ha) fun _ _=>?_
   refine J 2 ?_
   refine .lE (t:=17) rfl (fun h5=>?_) (fun h5=>?_)
   ·refine J 1 ?_
    refine .cg call222 rfl (fB hb) fun _ _=>?_
    refine JD 5 (fun h6=>?_) fun h6=>?_
    ·refine J 7 ?_
     refine .aI rfl rfl fun w s=>⟨(),?_,trivial,aq .auto s⟩
     rw[← kn ha hb];unfold qB;rw[if_pos (.inr (.inr ⟨h5,h6⟩))]
    ·refine J 4 ?_
     have hno:¬(bC a=3∨bC b=3∨(bC a=1∧bC b=1)):=by omega
     refine J 1 ?_
     refine .c call223 rfl (il ha) fun _ _=>?_
     refine J 1 ?_
     refine .c call223 rfl (il hb) fun _ _=>?_
     refine J 5 ?_
     refine .aI rfl rfl fun w s=>⟨(),?_,trivial,aq .auto s⟩
     rw[← kn ha hb];unfold qB;rw[if_neg hno]
   ·refine J 7 ?_
    refine .nE rfl ?_
    refine J 4 ?_
    have hno:¬(bC a=3∨bC b=3∨(bC a=1∧bC b=1)):=by omega
    refine J 1 ?_
    refine .c call223 rfl (il ha) fun _ _=>?_
    refine J 1 ?_
    refine .c call223 rfl (il hb) fun _ _=>?_
    refine J 5 ?_
    refine .aI rfl rfl fun w s=>⟨(),?_,trivial,aq .auto s⟩
    rw[← kn ha hb];unfold qB;rw[if_neg hno]
theorem q4{W:World}{op a b:Int}(ho:1≤op∧op≤4)(_ha:0≤a∧a<18446744073709551616)(_hb:0≤b∧b<18446744073709551616):Fn Tryz.prog W 179 [.int .i64 op,.int .u64 a,.int .u64 b] [] Unit (fun _=>.int .u64 (wx op a b)) (fun _=>True) (fun _=>[]):=by
 refine Fn.intro (N:=38) func179 rfl ntmps179 rfl fun F=>?_
 show ax _ _ _ _ _ _ [F]
 refine J 8 ?_
 refine .p (.ext (e:=Extern.MathFloatBits.float64frombits) func219 rfl rfl rfl (by kernel_rfl) rfl (fun w=>rfl)) ?_
 refine J 1 ?_
 refine .p (.ext (e:=Extern.MathFloatBits.float64frombits) func219 rfl rfl rfl (by kernel_rfl) rfl (fun w=>rfl)) ?_
 refine JD 22 (fun h15=>?_) fun h15=>?_
 ·refine J 3 ?_
  refine .aw rfl (af.A3 (Ieee.double.add _ _) rfl rfl rfl (fun w=>rfl)) ?_
  rintro _ _ ⟨r19,hr19,rfl,rfl⟩
  refine J 7 ?_
  refine .p (.ext (e:=Extern.MathFloatBits.float64bits) func221 rfl rfl rfl (by kernel_rfl) rfl (fun w=>rfl)) ?_
  refine .c call220 rfl (mB (wv hr19 (fun q e=>Kr e))) fun _ _=>?_
  refine J 4 ?_
  refine .aI rfl rfl fun w s=>⟨(),?_,trivial,aq .auto s⟩
  rw[jD hr19.1];exact jt (show BK a b=wx op a b by unfold wx;rw[if_pos h15])
 ·refine JD 6 (fun h20=>?_) fun h20=>?_
  ·refine J 3 ?_
   refine .aw rfl (af.A3 (Ieee.double.sub _ _) rfl rfl rfl (fun w=>rfl)) ?_
   rintro _ _ ⟨LM,hr24,rfl,rfl⟩
   refine J 7 ?_
   refine .p (.ext (e:=Extern.MathFloatBits.float64bits) func221 rfl rfl rfl (by kernel_rfl) rfl (fun w=>rfl)) ?_
   refine .c call220 rfl (mB (wv hr24 (fun q e=>Ks e))) fun _ _=>?_
   refine J 4 ?_
   refine .aI rfl rfl fun w s=>⟨(),?_,trivial,aq .auto s⟩
   rw[jD hr24.1];exact jt (show BL a b=wx op a b by unfold wx;rw[if_neg h15,if_pos h20])
  ·refine JD 6 (fun h25=>?_) fun h25=>?_
   ·refine J 3 ?_
    refine .aw rfl (af.A3 (Ieee.double.mul _ _) rfl rfl rfl (fun w=>rfl)) ?_
    rintro _ _ ⟨r29,hr29,rfl,rfl⟩
    refine J 7 ?_
    refine .p (.ext (e:=Extern.MathFloatBits.float64bits) func221 rfl rfl rfl (by kernel_rfl) rfl (fun w=>rfl)) ?_
    refine .c call220 rfl (mB (wv hr29 (fun q e=>Kt e))) fun _ _=>?_
    refine J 4 ?_
    refine .aI rfl rfl fun w s=>⟨(),?_,trivial,aq .auto s⟩
    rw[jD hr29.1];exact jt (show BM a b=wx op a b by unfold wx;rw[if_neg h15,if_neg h20,if_pos h25])
   ·refine JD 6 (fun h30=>?_) fun h30=>?_
    ·refine J 3 ?_
     refine .aw rfl (af.A3 (Ieee.double.div _ _) rfl rfl rfl (fun w=>rfl)) ?_
     rintro _ _ ⟨r34,hr34,rfl,rfl⟩
     refine J 7 ?_
     refine .p (.ext (e:=Extern.MathFloatBits.float64bits) func221 rfl rfl rfl (by kernel_rfl) rfl (fun w=>rfl)) ?_
     refine .c call220 rfl (mB (wv hr34 (fun q e=>Ku e))) fun _ _=>?_
     refine J 4 ?_
     refine .aI rfl rfl fun w s=>⟨(),?_,trivial,aq .auto s⟩
     rw[jD hr34.1];exact jt (show BN a b=wx op a b by unfold wx;rw[if_neg h15,if_neg h20,if_neg h25])
    ·omega
theorem Cg{W:World}{a:Int}(ha:0≤a∧a<18446744073709551616):Fn Tryz.prog W 183 [.int .u64 a] [] Unit (fun _=>.int .u64 (eY a)) (fun _=>True) (fun _=>[]):=by
 refine Fn.intro (N:=46) func183 rfl ntmps183 rfl fun F=>?_
 show ax _ _ _ _ _ _ [F]
 have hexp:=GK a
 refine J 9 ?_
 refine .c call222 rfl (fB ha) fun _ _=>?_
 refine J 2 ?_
 refine .lE (t:=9) rfl (fun h3=>?_) (fun h3=>?_)
 ·refine J 6 ?_
  refine .hJ rfl ?_
  refine J 7 ?_
  refine .aI rfl rfl fun w s=>⟨(),?_,trivial,aq .auto s⟩
  rw[Kq ha (.inl h3)]
 ·refine J 1 ?_
  refine .cg call222 rfl (fB ha) fun _ _=>?_
  refine JD 4 (fun h4=>?_) fun h4=>?_
  ·refine J 7 ?_
   refine .aI rfl rfl fun w s=>⟨(),?_,trivial,aq .auto s⟩
   rw[Kq ha (.inr h4)]
  ·have hno:¬(bC a=3∨bC a=1):=fun e=>e.elim h3 h4
   refine J 5 ?_
   refine .p (.dJ (Y.zb (n:=63) rfl rfl (by decide)) (oP ha 63 (by decide))) ?_
   refine J 7 ?_
   refine .p (.dJ (Y.zb (n:=52) rfl rfl (by decide)) (oP ha 52 (by decide))) ?_
   refine .p (.dJ (Y.za rfl rfl) (Cf ha)) ?_
   refine .p (.dJ (Y.gp underlying38 underlying3 rfl (by omega)) rfl) ?_
   refine .p (.dJ (Y.sub rfl rfl (by omega)) (show(EB a:Int)-1023=fK a from rfl)) ?_
   refine J 6 ?_
   refine .p (.dJ (Y.za rfl rfl) (Ce ha)) ?_
   refine .p (.dJ (Y.KT rfl rfl) (zB a)) ?_
   refine J 6 ?_
   have hpw:fK a=(EB a:Int)-1023:=rfl
   refine JD 4 (fun h26=>?_) fun h26=>?_
   ·refine J 7 ?_
    refine .aI rfl rfl fun w s=>⟨(),?_,trivial,aq .auto s⟩
    rw[Lg ha hno h26]
   ·refine JD 9 (fun h28=>?_) fun h28=>?_
    ·refine JD 6 (fun h29=>?_) fun h29=>?_
     ·refine J 8 ?_
      refine .aI rfl rfl fun w s=>⟨(),?_,trivial,aq .auto s⟩
      rw[Lh ha hno h26 h28 h29]
     ·refine J 9 ?_
      refine .aI rfl rfl fun w s=>⟨(),?_,trivial,aq .auto s⟩
      rw[Li ha hno h26 h28 h29]
    ·refine J 2 ?_
     refine .mX (X:=Unit) [5,30,31,32,33,34,35,36,37,38,39,40,41] (fun _=>True) (fun _=>[(5,some (.int .u64 (gn a:Int)))]) (fun _=>[F]) ?_ ?_
     ·refine JD 6 (fun h31=>?_) fun h31=>?_
      ·refine J 4 ?_
       refine .p (.fY underlying3 underlying299 rfl (by omega)) ?_
       refine .p (.dJ (Y.BB rfl rfl (by omega)) (Gy h31 h28)) ?_
       refine J 2 ?_
       refine .eK () .auto ?_ ?_ ?_
       ·trivial
       ·exact⟨rfl,trivial⟩
       ·exact fun w s=>aK.kept .auto w s
      ·refine J 4 ?_
       refine .p (.fY underlying3 underlying299 rfl (by omega)) ?_
       refine .p (.dJ (Y.zb rfl rfl (by omega)) (Gz h31 h26)) ?_
       refine J 2 ?_
       refine .eK () .auto ?_ ?_ ?_
       ·trivial
       ·exact⟨rfl,trivial⟩
       ·exact fun w s=>aK.kept .auto w s
     ·rintro⟨⟩ -
      refine JD 6 (fun h42=>?_) fun h42=>?_
      ·refine J 3 ?_
       refine .p (.dJ (Y.neg rfl) (A0 _)) ?_
       refine J 5 ?_
       refine .aI rfl rfl fun w s=>⟨(),?_,trivial,aq .auto s⟩
       rw[Lj ha hno h26 h28 h42]
      ·refine J 9 ?_
       refine .aI rfl rfl fun w s=>⟨(),?_,trivial,aq .auto s⟩
       rw[Lk ha hno h26 h28 h42]
theorem xS{W:World}{a:Int}(ha:0≤a∧a<18446744073709551616):Fn Tryz.prog W 184 [.int .u64 a] [] Unit (fun _=>.int .u64 (fc a)) (fun _=>True) (fun _=>[]):=by
 refine Fn.intro (N:=76) func184 rfl ntmps184 rfl fun F=>?_
 show ax _ _ _ _ _ _ [F]
 have hml:=wq ha
 refine J 10 ?_
 refine .mX (X:=Unit) [0,3,10,11,12,13,14] (fun _=>True) (fun _=>[(3,some (.int .u64 (lB a:Int))),(0,some (.int .u64 ((dN a):Int)))]) (fun _=>[F]) ?_ ?_
 ·refine J 3 ?_
  refine .p (.dJ (Y.zb (n:=63) rfl rfl (by decide)) (oP ha 63 (by decide))) ?_
  refine JD 3 (fun h12=>?_) fun h12=>?_
  ·refine J 7 ?_
   refine .p (.dJ (Y.neg rfl) (A1 ha h12).1) ?_
   refine J 2 ?_
   refine .eK () .auto ?_ ?_ ?_
   ·trivial
   ·exact⟨congrArg (fun z=>some (Value.int .u64 z)) (A1 ha h12).2,rfl,trivial⟩
   ·exact fun w s=>aK.kept .auto w s
  ·refine J 1 ?_
   refine .eK () .auto ?_ ?_ ?_
   ·trivial
   ·exact⟨congrArg (fun z=>some (Value.int .u64 z)) (A2 ha h12).2,congrArg (fun z=>some (Value.int .u64 z)) (A2 ha h12).1,trivial⟩
   ·exact fun w s=>aK.kept .auto w s
 ·rintro⟨⟩ -
  refine JD 7 (fun h16=>?_) fun h16=>?_
  ·have h16:dN a=0:=by omega
   refine J 7 ?_
   refine .aI rfl rfl fun w s=>⟨(),?_,trivial,aq .auto s⟩
   rw[Ll ha h16]
  ·have h16:¬dN a=0:=by omega
   refine J 9 ?_
   refine .da (X:=Nat) [4,17,18,19,20,21,22,23] (fun top=>top) (fun top=>top≤63∧(dN a)<2 ^ (top+1)) (fun top=>[(4,some (.int .i64 (top:Int)))]) (fun _=>[F]) 63 ?_ ?_ ?_ ?_
   ·exact⟨Nat.le_refl _,Nat.lt_of_le_of_lt hml (by decide)⟩
   ·exact⟨rfl,trivial⟩
   ·exact fun w s=>aK.kept .auto w s
   rintro top ⟨ht63,htm⟩
   refine J 5 ?_
   refine .p (.fY underlying3 underlying299 rfl (by omega)) ?_
   refine .p (.dJ (Y.zb (n:=(top:Int)) rfl rfl (by omega)) (oO (by omega))) ?_
   refine JD 3 (fun h21=>?_) fun h21=>?_
   ·have htn:=Ez (m:=(dN a)) (t:=top) (by omega) h16
    refine J 9 ?_
    refine .bq (top-1) .auto rfl ?_ ?_ ?_ ?_
    ·show top-1<top;omega
    ·exact⟨by omega,htn.2⟩
    ·exact⟨congrArg (fun z=>some (Value.int .i64 z)) (show(top:Int)-1=((top-1:Nat):Int) by omega),trivial⟩
    ·exact fun w s=>aK.kept .auto w s
   ·have htop:top=(dN a).log2:=GA h16 htm (by omega)
    refine J 8 ?_
    refine .p (.add rfl rfl (by omega)) ?_
    refine .p (.fY underlying3 underlying38 rfl (by omega)) ?_
    refine JD 10 (fun h28=>?_) fun h28=>?_
    ·have h28:top≤52:=by omega
     refine J 4 ?_
     refine .p (.BB rfl rfl (by decide)) ?_
     refine .p (.KT rfl rfl) ?_
     refine J 3 ?_
     refine .p (.fY underlying3 underlying299 rfl (by omega)) ?_
     refine .p (.BB rfl rfl (by omega)) ?_
     refine .p (.za rfl rfl) ?_
     refine .p (.dJ (Y.KT rfl rfl) (I5 ha h16 htop h28)) ?_
     exact JR 5 ()
    ·have h28:¬top≤52:=by omega
     obtain⟨ct,hct⟩:∃ ct,top=ct+53:=⟨top - 53,by omega⟩
     have hct1:(top:Int)-52=((ct+1:Nat):Int):=by omega
     have hp1:2 ^ (ct+1)=2 * 2 ^ ct:=by rw[Nat.pow_succ,Nat.mul_comm]
     have hp2:2 ^ ct≤2 ^ 10:=Nat.pow_le_pow_right (by decide) (by omega)
     have hp0:0<2 ^ ct:=Nat.two_pow_pos _
     have hp10:(2:Nat) ^ 10=1024:=by decide
     have hmu:(dN a)<18446744073709551616:=by omega
     have hwh:y9 .u64 ((dN a):Int) ((top:Int)-52)=(((dN a) / 2 ^ (ct+1):Nat):Int):=by rw[hct1];exact oO (by omega)
     have hon:mN .u64 1 ((top:Int)-52)=((2 ^ (ct+1):Nat):Int):=by rw[hct1];have:=kq (x:=1) (n:=ct+1) (by omega) (by omega);rw[Nat.one_mul] at this;exact this
     have hon1:((2 ^ (ct+1):Nat):Int)-1=((2 ^ (ct+1)-1:Nat):Int):=by omega
     have hre:pC .u64 ((dN a):Int) ((2 ^ (ct+1)-1:Nat):Int)=(((dN a) % 2 ^ (ct+1):Nat):Int):=kp hmu (by omega)
     have hha:mN .u64 1 ((top:Int)-52-1)=((2 ^ ct:Nat):Int):=by rw[show(top:Int)-52-1=((ct:Nat):Int) by omega];have:=kq (x:=1) (n:=ct) (by omega) (by omega);rw[Nat.one_mul] at this;exact this
     have hwb:(dN a) / 2 ^ (ct+1)≤9223372036854775808:=Nat.le_trans (Nat.div_le_self _ _) hml
     have hw0:(0:Int)≤(((dN a) / 2 ^ (ct+1):Nat):Int):=Int.natCast_nonneg _
     have hod:pC .u64 (((dN a) / 2 ^ (ct+1):Nat):Int) 1=(((dN a) / 2 ^ (ct+1) % 2:Nat):Int):=kp (k:=1) (by omega) (by decide)
     have hpw:=GI (t:=top) ht63
     have hkb:=GJ htop h28 ht63
     have hpb:=I7 ht63
     refine J 6 ?_
     refine .p (.fY underlying3 underlying299 rfl (by omega)) ?_
     refine J 7 ?_
     refine .p (.dJ (Y.zb rfl rfl (by omega)) hwh) ?_
     refine J 7 ?_
     refine .p (.dJ (Y.BB rfl rfl (by omega)) hon) ?_
     refine .p (.dJ (Y.Il rfl rfl (by omega)) hon1) ?_
     refine .p (.dJ (Y.za rfl rfl) hre) ?_
     refine J 6 ?_
     refine .p (.Il rfl rfl (by omega)) ?_
     refine .p (.dJ (Y.BB rfl rfl (by omega)) hha) ?_
     refine J 3 ?_
     refine .mX (X:=Unit) [7,54,55,56,57,58,59,60,61,62,63,64,65,66,67,68] (fun _=>True) (fun _=>[(7,some (.int .u64 (jh (dN a):Int)))]) (fun _=>[F]) ?_ ?_
     ·refine J 6 ?_
      apply aS.fu 9 66 57 [57,58,59,60,61,62,63,64,65,66] rfl
      ·intro h57
       refine J 4 ?_
       apply aS.gr 4 65 61 [61,62,63,64,65] rfl
       ·intro h61
        refine J 1 ?_
        refine .g (.dJ (Y.za rfl rfl) hod) ?_
        refine J 3 ?_
        refine .tg .auto rfl (by first | exact fun _ h=>h | exact aK.kept .auto)
       ·intro h61
        refine J 5 ?_
        refine .tg .auto rfl (by first | exact fun _ h=>h | exact aK.kept .auto)
       refine J 2 ?_
       refine .tg .auto rfl (by first | exact fun _ h=>h | exact aK.kept .auto)
      ·intro h57
       refine J 10 ?_
       refine .tg .auto rfl (by first | exact fun _ h=>h | exact aK.kept .auto)
      refine JD 2 (fun h66=>?_) fun h66=>?_
      ·simp only[Bool.and_eq_true,Bool.or_eq_true,decide_eq_true_eq] at h66
       refine J 2 ?_
       refine .p (.C4 rfl rfl (by omega)) ?_
       refine J 2 ?_
       refine .eK () .auto ?_ ?_ ?_
       ·trivial
       ·exact⟨congrArg (fun z=>some (Value.int .u64 z)) (GG htop h28 (by omega)),trivial⟩
       ·exact fun w s=>aK.kept .auto w s
      ·simp only[Bool.and_eq_false_iff,Bool.or_eq_false_iff,decide_eq_false_iff_not] at h66
       refine J 1 ?_
       refine .eK () .auto ?_ ?_ ?_
       ·trivial
       ·exact⟨congrArg (fun z=>some (Value.int .u64 z)) (GH htop h28 (by omega)),trivial⟩
       ·exact fun w s=>aK.kept .auto w s
     ·rintro⟨⟩ -
      refine J 4 ?_
      refine .p (.dJ (Y.BB rfl rfl (by decide)) hpw) ?_
      refine J 1 ?_
      refine .p (.C4 rfl rfl (by omega)) ?_
      refine .p (.dJ (Y.Il rfl rfl (by omega)) EA) ?_
      refine .p (.dJ (Y.KT rfl rfl) (GF ha h16 htop h28)) ?_
      exact JR 4 ()
end Go.SLYtefdijgllbkmfaaGreat
namespace Go.SLYtefdijgllbkmfaaGreat
open Go Go.RowKit Go.Proofs Go.Proofs.Tryz
attribute [local irreducible] ax aS bo bY bP Y
theorem Ch{W:World}{op a b:Int}(ha:0≤a∧a<18446744073709551616)(hb:0≤b∧b<18446744073709551616):Fn Tryz.prog W 128 [.int .i64 op,.int .u64 a,.int .u64 b] [] Bool (fun y=>.tuple #[.int .u64 (aE op a b),.bool y]) (fun _=>True) (fun _=>[]):=by
 refine Fn.intro (N:=68) func128 rfl ntmps128 rfl fun F=>?_
 show ax _ _ _ _ _ _ [F]
 refine JD 24 (fun h10=>?_) fun h10=>?_
 ·refine J 10 ?_
  refine .ef rfl rfl rfl fun w s=>⟨true,?_,trivial,aq .auto s⟩
  rw[show aE op a b=a from by unfold aE;rw[if_pos h10]]
 ·refine JD 6 (fun h13=>?_) fun h13=>?_
  ·refine J 4 ?_
   refine .p (.yN rfl rfl) ?_
   refine J 7 ?_
   refine .ef rfl rfl rfl fun w s=>⟨true,?_,trivial,aq .auto s⟩
   rw[show aE op a b=gO (a+b) from by unfold aE;rw[if_neg h10,if_pos h13]]
   rfl
  ·refine JD 6 (fun h18=>?_) fun h18=>?_
   ·refine J 4 ?_
    refine .p (.FX rfl rfl) ?_
    refine J 7 ?_
    refine .ef rfl rfl rfl fun w s=>⟨true,?_,trivial,aq .auto s⟩
    rw[show aE op a b=gO (a-b) from by unfold aE;rw[if_neg h10,if_neg h13,if_pos h18]]
    rfl
   ·refine JD 6 (fun h23=>?_) fun h23=>?_
    ·refine J 4 ?_
     refine .p (.C3 rfl rfl) ?_
     refine J 7 ?_
     refine .ef rfl rfl rfl fun w s=>⟨true,?_,trivial,aq .auto s⟩
     rw[show aE op a b=gO (a * b) from by unfold aE;rw[if_neg h10,if_neg h13,if_neg h18,if_pos h23]]
     rfl
    ·refine JD 6 (fun h28=>?_) fun h28=>?_
     ·refine JD 14 (fun h67=>?_) fun h67=>?_
      ·refine J 8 ?_
       refine .ef rfl rfl rfl fun w s=>⟨true,?_,trivial,aq .auto s⟩
       rw[show aE op a b=rP (decide (a<b)) from by unfold aE;rw[if_neg h10,if_neg h13,if_neg h18,if_neg h23,if_pos h28]]
       rw[decide_eq_true h67];rfl
      ·refine J 9 ?_
       refine .ef rfl rfl rfl fun w s=>⟨true,?_,trivial,aq .auto s⟩
       rw[show aE op a b=rP (decide (a<b)) from by unfold aE;rw[if_neg h10,if_neg h13,if_neg h18,if_neg h23,if_pos h28]]
       rw[decide_eq_false h67];rfl
     ·refine JD 7 (fun h33=>?_) fun h33=>?_
      ·refine J 2 ?_
       first | refine ax.dK rfl (fun _=>?_) (fun hc=>absurd h33 hc) | refine ax.cond rfl (fun _=>?_) (fun hc=>by rw[h33] at hc;cases hc)
       refine J 4 ?_
       refine .p (.add rfl rfl (by omega)) ?_
       refine J 2 ?_
       refine .c call179 rfl (q4 (op:=op-7+1) (by omega) ha hb) fun _ _=>?_
       refine J 7 ?_
       refine .ef rfl rfl rfl fun w s=>⟨true,?_,trivial,aq .auto s⟩
       rw[show aE op a b=BK a b from by unfold aE;rw[if_neg h10,if_neg h13,if_neg h18,if_neg h23,if_neg h28,if_pos h33]]
       subst h33;rfl
      ·refine JD 6 (fun h35=>?_) fun h35=>?_
       ·refine J 2 ?_
        first | refine ax.dK rfl (fun _=>?_) (fun hc=>absurd h35 hc) | refine ax.cond rfl (fun _=>?_) (fun hc=>by rw[h35] at hc;cases hc)
        refine J 4 ?_
        refine .p (.add rfl rfl (by omega)) ?_
        refine J 2 ?_
        refine .c call179 rfl (q4 (op:=op-7+1) (by omega) ha hb) fun _ _=>?_
        refine J 7 ?_
        refine .ef rfl rfl rfl fun w s=>⟨true,?_,trivial,aq .auto s⟩
        rw[show aE op a b=BL a b from by unfold aE;rw[if_neg h10,if_neg h13,if_neg h18,if_neg h23,if_neg h28,if_neg h33,if_pos h35]]
        subst h35;rfl
       ·refine JD 6 (fun h36=>?_) fun h36=>?_
        ·refine J 2 ?_
         first | refine ax.dK rfl (fun _=>?_) (fun hc=>absurd h36 hc) | refine ax.cond rfl (fun _=>?_) (fun hc=>by rw[h36] at hc;cases hc)
         refine J 4 ?_
         refine .p (.add rfl rfl (by omega)) ?_
         refine J 2 ?_
         refine .c call179 rfl (q4 (op:=op-7+1) (by omega) ha hb) fun _ _=>?_
         refine J 7 ?_
         refine .ef rfl rfl rfl fun w s=>⟨true,?_,trivial,aq .auto s⟩
         rw[show aE op a b=BM a b from by unfold aE;rw[if_neg h10,if_neg h13,if_neg h18,if_neg h23,if_neg h28,if_neg h33,if_neg h35,if_pos h36]]
         subst h36;rfl
        ·refine JD 5 (fun h37=>?_) fun h37=>?_
         ·refine J 4 ?_
          refine .p (.add rfl rfl (by omega)) ?_
          refine J 2 ?_
          refine .c call179 rfl (q4 (op:=op-7+1) (by omega) ha hb) fun _ _=>?_
          refine J 7 ?_
          refine .ef rfl rfl rfl fun w s=>⟨true,?_,trivial,aq .auto s⟩
          rw[show aE op a b=BN a b from by unfold aE;rw[if_neg h10,if_neg h13,if_neg h18,if_neg h23,if_neg h28,if_neg h33,if_neg h35,if_neg h36,if_pos h37]]
          subst h37;rfl
         ·refine JD 6 (fun h44=>?_) fun h44=>?_
          ·refine J 4 ?_
           refine .c call180 rfl (GM ha hb) fun _ _=>?_
           refine J 7 ?_
           refine .ef rfl rfl rfl fun w s=>⟨true,?_,trivial,aq .auto s⟩
           rw[show aE op a b=nW a b from by unfold aE;rw[if_neg h10,if_neg h13,if_neg h18,if_neg h23,if_neg h28,if_neg h33,if_neg h35,if_neg h36,if_neg h37,if_pos h44]]
          ·refine JD 6 (fun h49=>?_) fun h49=>?_
           ·refine J 4 ?_
            refine .c call181 rfl (GN ha hb) fun _ _=>?_
            refine J 7 ?_
            refine .ef rfl rfl rfl fun w s=>⟨true,?_,trivial,aq .auto s⟩
            rw[show aE op a b=nX a b from by unfold aE;rw[if_neg h10,if_neg h13,if_neg h18,if_neg h23,if_neg h28,if_neg h33,if_neg h35,if_neg h36,if_neg h37,if_neg h44,if_pos h49]]
           ·refine JD 6 (fun h54=>?_) fun h54=>?_
            ·refine J 3 ?_
             refine .c call182 rfl (ED ha hb) fun _ _=>?_
             refine JD 10 (fun h67=>?_) fun h67=>?_
             ·refine J 8 ?_
              refine .ef rfl rfl rfl fun w s=>⟨true,?_,trivial,aq .auto s⟩
              rw[show aE op a b=rP (DC a b) from by unfold aE;rw[if_neg h10,if_neg h13,if_neg h18,if_neg h23,if_neg h28,if_neg h33,if_neg h35,if_neg h36,if_neg h37,if_neg h44,if_neg h49,if_pos h54]]
              rw[h67];rfl
             ·refine J 9 ?_
              refine .ef rfl rfl rfl fun w s=>⟨true,?_,trivial,aq .auto s⟩
              rw[show aE op a b=rP (DC a b) from by unfold aE;rw[if_neg h10,if_neg h13,if_neg h18,if_neg h23,if_neg h28,if_neg h33,if_neg h35,if_neg h36,if_neg h37,if_neg h44,if_neg h49,if_pos h54]]
              rw[h67];rfl
            ·refine JD 6 (fun h59=>?_) fun h59=>?_
             ·refine J 3 ?_
              refine .c call183 rfl (Cg ha) fun _ _=>?_
              refine J 7 ?_
              refine .ef rfl rfl rfl fun w s=>⟨true,?_,trivial,aq .auto s⟩
              rw[show aE op a b=eY a from by unfold aE;rw[if_neg h10,if_neg h13,if_neg h18,if_neg h23,if_neg h28,if_neg h33,if_neg h35,if_neg h36,if_neg h37,if_neg h44,if_neg h49,if_neg h54,if_pos h59]]
             ·refine JD 6 (fun h63=>?_) fun h63=>?_
              ·refine J 3 ?_
               refine .c call184 rfl (xS ha) fun _ _=>?_
               refine J 7 ?_
               refine .ef rfl rfl rfl fun w s=>⟨true,?_,trivial,aq .auto s⟩
               rw[show aE op a b=fc a from by unfold aE;rw[if_neg h10,if_neg h13,if_neg h18,if_neg h23,if_neg h28,if_neg h33,if_neg h35,if_neg h36,if_neg h37,if_neg h44,if_neg h49,if_neg h54,if_neg h59,if_pos h63]]
              ·refine J 9 ?_
               refine .ef rfl rfl rfl fun w s=>⟨false,?_,trivial,aq .auto s⟩
               rw[show aE op a b=0 from by unfold aE;rw[if_neg h10,if_neg h13,if_neg h18,if_neg h23,if_neg h28,if_neg h33,if_neg h35,if_neg h36,if_neg h37,if_neg h44,if_neg h49,if_neg h54,if_neg h59,if_neg h63]]
end Go.SLYtefdijgllbkmfaaGreat
namespace Go.SLYtefdijgllbkmfaaGreat
open Go Go.RowKit
theorem xU{α β:Type}:∀ {xs:List (Nat×α)} {ys:List (Nat×β)},xs.map (·.1)=ys.map (·.1)→rows dD xs=rows dD ys
 | [],[],_=>rfl
 | [],y::ys,h=>by cases h
 | x::xs,[],h=>by cases h
 | x::xs,y::ys,h=>by
  simp only[List.map_cons,List.cons.injEq] at h
  rw[fH,fH,xU h.2]
  show[ptr x.1]++_=[ptr y.1]++_
  rw[h.1]
theorem q5{α β:Type}{xs:List (Nat×α)}{ys:List (Nat×β)}{v:Value}(h:xs.map (·.1)=ys.map (·.1)):∀ g,sl dD 1 v xs g→sl dD 1 v ys g:=fun g s=>by
 have hl:xs.length=ys.length:=by have:=congrArg List.length h;simpa using this
 rcases s with ⟨a,rfl,e⟩ | ⟨b,cap,sp,e1,e2, -,e4,e5⟩
 ·refine .inl ⟨a,?_,e⟩
  cases ys with
  | nil=>rfl
  | cons y ys=>simp at hl
 ·exact .inr ⟨b,cap,sp,by rw[← hl];exact e1,by rw[← hl];exact e2,fun _ _=>rfl,by rw[← hl];exact e4,by rw[← xU h];exact e5⟩
theorem A4{α:Type}{f:α→aa}{xs:List α}{i:Nat}(hi:i<xs.length)(x:α):∀ g,seps [f x,bb f (xs.eraseIdx i)] g→bb f (xs.set i x) g:=fun g a=>by
 rw[iV f x hi];exact gR.1 a
def xV(k:Nat)(xs:List (Nat×Spc)):List (Nat×Spc):=(xs.take k).map (fun x=>(x.1,x.2.tick.2))++xs.drop k
theorem EE{xs:List (Nat×Spc)}:xV 0 xs=xs:=by unfold xV;simp
theorem EF{xs:List (Nat×Spc)}{k:Nat}{x:Nat×Spc}(h:xs[k]?=some x):(xV k xs)[k]?=some x∧(xV k xs).set k (x.1,x.2.tick.2)=xV (k+1) xs:=by
 have hk:=(List.getElem?_eq_some_iff.1 h).1
 have hl:((xs.take k).map (fun x:Nat×Spc=>(x.1,x.2.tick.2))).length=k:=by rw[List.length_map,List.length_take];omega
 unfold xV
 rw[drop_cons h]
 refine⟨?_,?_⟩
 ·rw[List.getElem?_append_right (by omega),hl,Nat.sub_self];rfl
 ·rw[List.set_append_right _ _ (by omega),hl,Nat.sub_self,cx h,List.map_append,List.append_assoc];rfl
theorem GO{xs:List (Nat×Spc)}:xV xs.length xs=xs.map (fun x=>(x.1,x.2.tick.2)):=by unfold xV;simp
theorem Ci{b:Nat}{v:Value}{xs:List (Nat×Spc)}{l:List Spc}(h:xs.map (·.2)=l):∀ g,seps [arr b 0 [v],sl dD 1 v xs,bb (fun x:Nat×Spc=>dx x.1 x.2) (xs.map (fun x=>(x.1,x.2.tick.2)))] g→gd b (l.map fun s=>s.tick.2) g:=fun g a=>by
 refine⟨v,xs.map (fun x=>(x.1,x.2.tick.2)),by subst h;rw[List.map_map,List.map_map];rfl,?_⟩
 simp only[seps,aO] at a ⊢
 exact aR (fun _ b=>b) (aR (q5 (by rw[List.map_map];rfl)) (fun _ b=>b)) g a
theorem one_set{b:Nat}{v:Value}{xs:List (Nat×Spc)}{l:List Spc}{i:Nat}{x:Nat×Spc}(h:xs.map (·.2)=l)(hx:xs[i]?=some x)(s:Spc):∀ g,seps [arr b 0 [v],sl dD 1 v xs,dx x.1 s,bb (fun x:Nat×Spc=>dx x.1 x.2) (xs.eraseIdx i)] g→gd b (l.set i s) g:=fun g a=>by
 have hi:=(List.getElem?_eq_some_iff.1 hx).1
 refine⟨v,xs.set i (x.1,s),by show(xs.set i (x.1,s)).map (·.2)=_;rw[List.map_set,h],?_⟩
 simp only[seps,aO] at a ⊢
 refine aR (fun _ b=>b) (aR (q5 ?_) (fun g b=>?_)) g a
 ·rw[List.map_set]
  have:(xs.map (·.1))[i]?=some x.1:=by rw[List.getElem?_map,hx];rfl
  exact(eH this).symm
 ·rw[iV _ _ hi];exact b
theorem oS{α β:Type}{f:α→β}{l:List α}{i:Int}:cH (l.map f) i=(cH l i).map f:=by
 unfold cH;split
 ·rfl
 ·rw[List.getElem?_map]
end Go.SLYtefdijgllbkmfaaGreat
namespace Go.SLYtefdijgllbkmfaaGreat
open Go Go.RowKit
def kr(l:List Spc)(n:Int):List Rec:=match cH l n with | none=>[] | some s=>s.au
theorem gJ.more{k k':Nat}{l:List Spc}(h:gJ k l)(hk:k≤k'):gJ k' l:=fun s hs=>(h s hs).more hk
def iK(ps:List eB):Int:=if ps.length<1∨8<ps.length then 1 else checkAll ps
theorem sC{ps:List eB}(h:¬(ps.length<1∨8<ps.length)):iK ps=checkAll ps:=if_neg h
theorem qC{ps:List eB}(h:ps.length<1∨8<ps.length):iK ps=1:=if_pos h
theorem tC{l:List eB}{n:Nat}{p:eB}(h:l[n]?=some p)(hc:cK p=0):checkAll (l.drop n)=checkAll (l.drop (n+1)):=by rw[drop_cons h,checkAll,if_pos hc]
theorem mT{l:List eB}{n:Nat}{p:eB}(h:l[n]?=some p)(hc:¬cK p=0):checkAll (l.drop n)=cK p:=by rw[drop_cons h,checkAll,if_neg hc]
def wy(n:Int)(a:iF):List iF:=if a.kind=3 then [⟨3,0,0,0⟩] else if a.space=n then [{a with space:=0 }] else []
def dX(acts:List iF)(n:Int):List iF:=acts.flatMap (wy n)
theorem ji{acts:List iF}{n:Int}{k:Nat}{a:iF}(h:acts[k]?=some a):dX (acts.take (k+1)) n=dX (acts.take k) n++wy n a:=by
 unfold dX;rw[cx h,List.flatMap_append];simp
theorem EG(n:Int)(a:iF):(wy n a).length≤1:=by
 unfold wy;split
 ·exact Nat.le_refl _
 ·split
  ·exact Nat.le_refl _
  ·exact Nat.zero_le _
theorem iQ:∀ (acts:List iF) (n:Int),(dX acts n).length≤acts.length
 | [],_=>Nat.le_refl _
 | a::acts,n=>by
  have h1:=iQ acts n
  have h2:=EG n a
  show(List.flatMap _ (a::acts)).length≤_
  rw[List.flatMap_cons,List.length_append,List.length_cons]
  show _+(dX acts n).length≤_
  omega
def ku(l:List Spc)(acts:List iF):List Spc:=acts.foldl (fun l a=>(oDo l a).2) l
theorem uj{l:List Spc}{acts:List iF}{k:Nat}{a:iF}(h:acts[k]?=some a):ku l (acts.take (k+1))=(oDo (ku l (acts.take k)) a).2:=by
 unfold ku;rw[cx h,List.foldl_append];rfl
theorem wz{k:Nat}{l:List Spc}(h:gJ k l):∀ (acts:List iF) (m:Nat),m≤acts.length→k+acts.length≤1990→gJ (k+m) (ku l (acts.take m))
 | acts,0,_,_=>by rw[List.take_zero];exact h
 | acts,m+1,hm,hl=>by
  have ih:=wz h acts m (by omega) hl
  obtain⟨a,ha⟩:=aB (show m<acts.length by omega)
  rw[uj ha]
  exact ih.act (by omega) a
def aloneR(ps:List eB)(n:Int)(acts:List iF):List Rec :=
 match cH ps n with
 | none=>[]
 | some p=>if cK p=0 then kr (ku [Spc.new p] (dX acts n)) 0 else []
def l4(ps:List eB)(n:Int):Int :=
 match cH ps n with
 | none=>1
 | some p=>cK p
theorem zC{b:Nat}{v:Value}{xs:List (Nat×Spc)}{l:List Spc}(h:xs.map (·.2)=l):∀ g,seps [arr b 0 [v],sl dD 1 v xs,bb (fun x:Nat×Spc=>dx x.1 x.2) xs] g→gd b l g:=fun _ a=>⟨v,xs,h,a⟩
theorem I8{xs:List (Nat×Spc)}{l:List Spc}(h:xs.map (·.2)=l){n:Int}{s:Spc}(hg:cH l n=some s):∃ q,cH xs n=some (q,s)∧xs[n.toNat]?=some (q,s):=by
 rw[← h,oS] at hg
 cases hx:cH xs n with
 | none=>rw[hx] at hg;cases hg
 | some x =>
  rw[hx] at hg
  have e:x.2=s:=Option.some.inj hg
  subst e
  exact⟨x.1,rfl,(gG hx).2.2⟩
theorem I9{xs:List (Nat×Spc)}{l:List Spc}(h:xs.map (·.2)=l){n:Int}(hg:cH l n=none):cH xs n=none:=by
 rw[← h,oS] at hg
 cases hx:cH xs n with
 | none=>rfl
 | some x=>rw[hx] at hg;cases hg
theorem wA{xs:List (Nat×Spc)}{i q:Nat}{s:Spc}(hx:xs[i]?=some (q,s)):∀ g,bb (fun x:Nat×Spc=>dx x.1 x.2) xs g→seps [dx q s,bb (fun x:Nat×Spc=>dx x.1 x.2) (xs.eraseIdx i)] g:=lT (f:=fun x:Nat×Spc=>dx x.1 x.2) hx
theorem xW{b:Nat}{v:Value}{xs:List (Nat×Spc)}{l:List Spc}{i q:Nat}{s:Spc}(h:xs.map (·.2)=l)(hx:xs[i]?=some (q,s)):∀ g,seps [arr b 0 [v],sl dD 1 v xs,dx q s,bb (fun x:Nat×Spc=>dx x.1 x.2) (xs.eraseIdx i)] g→gd b l g:=fun g a=>by
 have:=one_set h hx s g a
 have e:l[i]?=some s:=by rw[← h,List.getElem?_map,hx];rfl
 rwa [eH e] at this
theorem A5{b:Nat}{v:Value}{xs:List (Nat×Spc)}{l:List Spc}{i q:Nat}{s:Spc}(h:xs.map (·.2)=l)(hx:xs[i]?=some (q,s))(t:Spc):∀ g,seps [arr b 0 [v],sl dD 1 v xs,dx q t,bb (fun x:Nat×Spc=>dx x.1 x.2) (xs.eraseIdx i)] g→gd b (l.set i t) g:=one_set h hx t
theorem GP{xs:List (Nat×Spc)}{k q:Nat}{s:Spc}(hx:xs[k]?=some (q,s)):∀ g,bb (fun x:Nat×Spc=>dx x.1 x.2) (xV k xs) g→seps [dx q s,bb (fun x:Nat×Spc=>dx x.1 x.2) ((xV k xs).eraseIdx k)] g:=wA (EF hx).1
theorem Ja{xs:List (Nat×Spc)}{k q:Nat}{s:Spc}(hx:xs[k]?=some (q,s)):∀ g,seps [dx q s.tick.2,bb (fun x:Nat×Spc=>dx x.1 x.2) ((xV k xs).eraseIdx k)] g→bb (fun x:Nat×Spc=>dx x.1 x.2) (xV (k+1) xs) g:=by
 obtain⟨h1,h2⟩:=EF hx
 rw[← h2]
 exact A4 (f:=fun x:Nat×Spc=>dx x.1 x.2) (List.getElem?_eq_some_iff.1 h1).1 (q,s.tick.2)
theorem EH{b:Nat}{v:Value}{xs:List (Nat×Spc)}{l:List Spc}(h:xs.map (·.2)=l){a:iF}(ha:a.kind=3):∀ g,seps [arr b 0 [v],sl dD 1 v xs,bb (fun x:Nat×Spc=>dx x.1 x.2) (xV xs.length xs)] g→gd b (oDo l a).2 g:=by
 have e:(oDo l a).2=l.map fun s=>s.tick.2:=by unfold oDo;rw[if_pos ha]
 rw[e,GO]
 exact Ci h
theorem xX{l:List Spc}{a:iF}(ha:a.kind=3):(oDo l a).1=0:=by unfold oDo;rw[if_pos ha]
theorem sD{l:List Spc}{a:iF}(ha:¬a.kind=3)(hg:cH l a.space=none):oDo l a=(1,l):=by unfold oDo;rw[if_neg ha,hg]
theorem q6{l:List Spc}{a:iF}{s:Spc}(ha:a.kind=1)(hg:cH l a.space=some s):oDo l a=((s.run a.cy a.choice).2.1,l.set a.space.toNat (s.run a.cy a.choice).2.2):=by unfold oDo;rw[if_neg (by omega),hg];simp only;rw[if_pos ha]
theorem sE{l:List Spc}{a:iF}{s:Spc}(ha:a.kind=2)(hg:cH l a.space=some s):oDo l a=((s.done a.choice).2.1,l.set a.space.toNat (s.done a.choice).2.2):=by unfold oDo;rw[if_neg (by omega),hg];simp only;rw[if_neg (by omega),if_pos ha]
theorem xY{l:List Spc}{a:iF}{s:Spc}(h3:¬a.kind=3)(h1:¬a.kind=1)(h2:¬a.kind=2)(hg:cH l a.space=some s):oDo l a=(1,l):=by unfold oDo;rw[if_neg h3,hg];simp only;rw[if_neg h1,if_neg h2]
end Go.SLYtefdijgllbkmfaaGreat
namespace Go.SLYtefdijgllbkmfaaGreat
open Go Go.RowKit
theorem mU:∀ {l:List eB},checkAll l=0→ ∀ p∈l,cK p=0
 | [],_,p,hp=>by cases hp
 | q::l,h,p,hp=>by
  unfold checkAll at h
  split at h
  ·rename_i hq
   rcases List.mem_cons.1 hp with rfl | hp
   ·exact hq
   ·exact mU h p hp
  ·rename_i hq;exact absurd h hq
theorem wB{ps:List eB}(h:iK ps=0):1≤ps.length∧ps.length≤8∧ ∀ p∈ps,cK p=0:=by
 unfold iK at h
 split at h
 ·cases h
 ·exact⟨by omega,by omega,mU h⟩
theorem gJ.new{ps:List eB}(h:iK ps=0)(hw:∀ p∈ps, ∀ f∈p.funcs, ∀ i∈f,ff i.n):gJ 1 (ps.map Spc.new):=fun s hs=>by
 obtain⟨p,hp,rfl⟩:=List.mem_map.1 hs
 exact tm.new ⟨(wB h).2.2 p hp,hw p hp⟩
theorem gJ.Ao{k:Nat}{l:List Spc}(h:gJ k l)(hk:k≤1990):∀ s∈l,ig s:=fun s hs=>(h s hs).Ao hk
theorem EI{l:List Spc}{k:Nat}{s:Spc}(h:l[k]?=some s):kr l (k:Int)=s.au:=by unfold kr;rw[nV,h]
/-! the laws' own fact -/
def KU:List Ins:=[⟨32,1,0,0,0⟩]
def FT:eB:=⟨[KU],0,0,0,[],[],0,0⟩
def ju(x y:Nat):bI:=⟨Gr y 1,[(Gr x 1,KU)],0,0,0,.slice none 0 0,[],.slice none 0 0,[],0,0⟩
def Lm(x y z:Nat):aa:=seps [arr z 0 (rows eg [ju x y,ju x y]),arr y 0 [Gr x 1],arr x 0 (rows dC KU)]
theorem EJ{W:World}{x y z:Nat}:Rd W [Lm x y z] eg 8 (Gr z 2) [ju x y,ju x y]:=Rd.kL (Rd.lit .here rfl (fun _ _=>rfl) rfl)
theorem GQ{W:World}{x y z:Nat}:∀ p∈ [ju x y,ju x y],eD W [Lm x y z] p:=fun p hp=>by
 have e:p=ju x y:=by simpa using hp
 subst e
 refine⟨Rd.kL (Rd.lit (.there .here) rfl (fun _ _=>rfl) rfl),fun q hq=>?_,Rd.nil,Rd.nil⟩
 rw[show(ju x y).fs=[(Gr x 1,KU)] from rfl,List.mem_singleton] at hq
 subst hq
 exact Rd.kL (Rd.lit (.there (.there .here)) rfl (fun _ _=>rfl) rfl)
theorem Jb{x y:Nat}:[ju x y,ju x y].length≤1000000000∧ ∀ p∈ [ju x y,ju x y],p.fs.length≤1000000000∧p.aT.length≤1000000000∧p.aC.length≤1000000000:=⟨by show 2≤_;decide,fun p hp=>by
 have e:p=ju x y:=by simpa using hp
 subst e
 exact⟨by show 1≤_;decide,by show 0≤_;decide,by show 0≤_;decide⟩⟩
theorem LU:∀ p∈ [FT,FT], ∀ f∈p.funcs, ∀ i∈f,ff i.n:=fun p hp f hf i hi=>by
 have:([FT,FT].all fun p=>p.funcs.all fun f=>f.all fun i=>decide (0≤i.n) && decide (i.n≤18446744073709551615))=true:=by decide +kernel
 have:=List.all_eq_true.1 (List.all_eq_true.1 (List.all_eq_true.1 this p hp) f hf) i hi
 exact(by simpa using this:0≤i.n∧i.n≤18446744073709551615)
def LV:List Rec:=[⟨65537,32,0,65537,0,true⟩]
end Go.SLYtefdijgllbkmfaaGreat
namespace Go.SLYtefdijgllbkmfaaGreat
open Go Go.RowKit
theorem Y.Jc{P:Program}{W:World}{N:Nat}{L:List (Nat×Option Value)}{H:List aa}{T:TypeId}{op:Op}{m n:Bool}(h:Y P W N op T L H (.bool m))(e:m=n):Y P W N op T L H (.bool n):=e ▸ h
theorem uk{n:Int}{a:iF}(h:a.kind=3):wy n a=[⟨3,0,0,0⟩]:=if_pos h
theorem xZ{n:Int}{a:iF}(h:¬a.kind=3)(hs:a.space=n):wy n a=[{a with space:=0 }]:=by unfold wy;rw[if_neg h,if_pos hs]
theorem ya{n:Int}{a:iF}(h:¬a.kind=3)(hs:¬a.space=n):wy n a=[]:=by unfold wy;rw[if_neg h,if_neg hs]
theorem eD.at{W:World}{H:List aa}{A:aa}{v:bI}(h:eD W [A] v)(ha:At H A):eD W H v:=⟨h.fs.at ha,fun x hx=>(h.ins x hx).at ha,h.aT.at ha,h.aC.at ha⟩
theorem eD.kL{W:World}{H:List aa}{v:bI}(h:eD W H v):eD W [seps H] v:=⟨Rd.kL h.fs,fun x hx=>Rd.kL (h.ins x hx),Rd.kL h.aT,Rd.kL h.aC⟩
theorem k0{ps:List eB}{n:Int}(h:cH ps n=none)(acts:List iF):l4 ps n=1∧aloneR ps n acts=[]:=by unfold l4 aloneR;rw[h];exact⟨rfl,rfl⟩
theorem mC{ps:List eB}{n:Int}{p:eB}(h:cH ps n=some p)(hc:¬cK p=0)(acts:List iF):l4 ps n=cK p∧aloneR ps n acts=[]:=by
 refine⟨?_,?_⟩
 ·unfold l4;rw[h]
 ·unfold aloneR;rw[h];exact if_neg hc
theorem mD{ps:List eB}{n:Int}{p:eB}(h:cH ps n=some p)(hc:cK p=0)(acts:List iF):l4 ps n=0∧aloneR ps n acts=kr (ku [Spc.new p] (dX acts n)) 0:=by
 refine⟨?_,?_⟩
 ·unfold l4;rw[h];exact hc
 ·unfold aloneR;rw[h];exact if_pos hc
theorem l5(p:eB):iK [p]=cK p:=by
 rw[sC (by simp)]
 by_cases h:cK p=0
 ·rw[h];unfold checkAll;rw[if_pos h];rfl
 ·unfold checkAll;rw[if_neg h]
theorem sF{l:List Spc}:∀ acts:List iF,(ku l acts).length=l.length
 | []=>rfl
 | a::acts=>(sF (l:=(oDo l a).2) acts).trans (AR _ _)
/-! the laws' own fact -/
def Ln:List iF:=[⟨1,1,0,3⟩,⟨3,5,0,0⟩,⟨1,0,0,0⟩]
def Lo:List iF:=[⟨1,0,0,3⟩,⟨3,0,0,0⟩]
theorem LW:dX Ln 1=Lo:=by decide +kernel
def KV:List iF:=[⟨1,1,0,0⟩]
def KW(x y z w:Nat):aa:=seps [Lm x y z,arr w 0 (rows ek KV)]
theorem EK{W:World}{x y z w:Nat}:Rd W [KW x y z w] eg 8 (Gr z 2) [ju x y,ju x y]:=Rd.kL (EJ.at .here)
theorem GR{W:World}{x y z w:Nat}:∀ p∈ [ju x y,ju x y],eD W [KW x y z w] p:=fun p hp=>((GQ p hp).at .here).kL
theorem Cj{W:World}{x y z w:Nat}:Rd W [KW x y z w] ek 4 (Gr w 1) KV:=Rd.kL (Rd.lit (.there .here) rfl (fun _ _=>rfl) rfl)
theorem LX:l4 [FT,FT] 1=0:=by decide +kernel
theorem LM:aloneR [FT,FT] 1 KV=LV:=by decide +kernel
end Go.SLYtefdijgllbkmfaaGreat
namespace Go.SLYtefdijgllbkmfaaGreat
open Go Go.RowKit
section
variable{P:Program}{W:World}{N:Nat}{L:List (Nat×Option Value)}{H:List aa}{T:TypeId}
theorem Y.eqStr{xT yT:TypeId}{x y:Operand}{a b:ByteArray}(hx:ev L x=some (.string a))(hy:ev L y=some (.string b)):Y P W N (.binOp .eql xT x y yT) T L H (.bool (a.toList == b.toList)) :=
 Y.bin hx hy fun w=>by
  simp[eqGuard,binOp,Op.stringOp]
theorem Y.EL{x:Operand}{t:TypeId}{a:ByteArray}(hu:P.underlying t=some .string)(hx:ev L x=some (.string a)):Y P W N (.call ⟨.builtin .len, #[x], #[t]⟩) T L H (.int .i64 a.size) :=
 Y.builtin (vs:=[.string a]) (by simp[evs,hx]) fun w cs=>by simp[Go.builtin,Builtin.len_,run_underlying hu,goInt]
theorem Y.HZ{x y:Operand}{t:Nat}{a:ByteArray}{kd:IntKind}{j:Int}{c:UInt8}(i:Nat)(hu:P.underlying t=some .string)(hx:ev L x=some (.string a))(hy:ev L y=some (.int kd j))(hj:j=(i:Int))(hv:a[i]?=some c):Y P W N (.index t x y) T L H (.int .u8 c.toNat):=fun dst pos after guard w0 w he hs=>by
 subst hj
 simp only[execOp,he.eval hx,he.eval hy]
 refine bE ?_
 simp[Instr.index,asIntOf,run_underlying hu,hv]
end
theorem uo(bs:ByteArray):∀ (n i:Nat) (r:List UInt8),n=bs.size-i→r.length≤(ByteArray.toList.loop bs i r).length
 | 0,i,r,hn=>by
  unfold ByteArray.toList.loop
  rw[if_neg (by omega)];simp
 | n+1,i,r,hn=>by
  unfold ByteArray.toList.loop
  rw[if_pos (by omega)]
  have:=uo bs n (i+1) (bs.get! i::r) (by omega)
  simp only[List.length_cons] at this
  omega
theorem A6{a:ByteArray}(h:a.size=0):a.toList=[]:=by
 unfold ByteArray.toList ByteArray.toList.loop
 rw[if_neg (by omega)];rfl
theorem EM(a:ByteArray):(a.toList == (⟨#[]⟩:ByteArray).toList)=decide (a.data.toList=[]):=by
 rw[A6 (a:=⟨#[]⟩) rfl]
 have hs:a.size=a.data.toList.length:=by cases a;rfl
 by_cases h:a.size=0
 ·rw[A6 h,decide_eq_true (List.length_eq_zero_iff.1 (by omega))];rfl
 ·have h1:1≤a.toList.length:=by
   unfold ByteArray.toList ByteArray.toList.loop
   rw[if_pos (by omega)]
   exact uo a _ _ [a.get! 0] rfl
  rw[decide_eq_false (fun e=>h (by rw[hs,e];rfl))]
  cases e:a.toList with
  | nil=>rw[e] at h1;simp at h1
  | cons x r=>rfl
/-! what an instruction has -/
def wC:List ByteArray:=[⟨#[]⟩,⟨#[65,120]⟩,⟨#[65,66,110]⟩,⟨#[65,66,67,110]⟩,⟨#[65,66,67,110]⟩,⟨#[65,66,67,110]⟩,⟨#[65,66,67,110]⟩,⟨#[65,66,67,110]⟩,⟨#[65,66,67,110]⟩,⟨#[65,66,67,110]⟩,⟨#[65,66,67,110]⟩,⟨#[65,66,67,110]⟩,⟨#[65,66,67,110]⟩,⟨#[65,66,67,110]⟩,⟨#[65,66,110]⟩,⟨#[65,66,110]⟩,⟨#[99]⟩,⟨#[65,99]⟩,⟨#[65,66,110]⟩,⟨#[65,66,110]⟩,⟨#[65,66,102]⟩,⟨#[65,66,110]⟩,⟨#[65,110]⟩,⟨#[65,110]⟩,⟨#[110]⟩,⟨#[109]⟩,⟨#[109]⟩,⟨#[77,107]⟩,⟨#[107]⟩,⟨#[107]⟩,⟨#[115]⟩,⟨#[115]⟩,⟨#[65,110]⟩,⟨#[65,66,110]⟩,⟨#[65,66,110]⟩,⟨#[65,112]⟩,⟨#[65,112]⟩,⟨#[65,110]⟩,⟨#[65,110]⟩]
def im(op:Int):ByteArray:=if op<0∨39≤op then ⟨#[]⟩ else wC.getD op.toNat ⟨#[]⟩
def A7(s:ByteArray)(c:Int):Bool:=s.data.toList.any fun b=>decide ((b.toNat:Int)=c)
def gK(n:Int)(is:Bool)(below:Int):Bool:=if is=false then decide (n=0) else decide (0≤n) && decide (n<below)
def oT(s:ByteArray):Int:=((s.data.toList.getLast?).map fun b=>(b.toNat:Int)).getD 0
def l6(p:eB)(c:Int):Int:=if c=99 then 257 else if c=102 then p.funcs.length else if c=109 then p.ay else if c=107 then p.conds else if c=115 then p.aT.length else if c=112 then p.aC.length else 0
def mV(p:eB)(i:Ins)(c:Int):Bool:=if c=120 then true else if c=110 then decide (i.n=0) else decide (0<l6 p c) && decide (i.n<l6 p c)
def jP(p:eB)(i:Ins):Bool:=if A7 (im i.op) 77=true then gK i.c true p.ay else gK i.c (A7 (im i.op) 67) 8
def nr(p:eB)(i:Ins):Bool:=if (im i.op).data.toList=[] then false else gK i.a (A7 (im i.op) 65) 8 && gK i.b (A7 (im i.op) 66) 8 && jP p i && mV p i (oT (im i.op))
theorem q7{n:Nat}(h:n<39):im (n:Int)=wC.getD n ⟨#[]⟩:=by unfold im;rw[if_neg (by omega),Int.toNat_natCast]
theorem sG{op:Int}(h:op<0∨39≤op):im op=⟨#[]⟩:=if_pos h
theorem pU(n:Int)(b:Bool):gK n b 8=lI n b:=by
 unfold gK lI
 cases b
 ·simp
 ·simp only[Bool.true_and,Bool.true_eq_false,if_false]
  by_cases h0:n=0
  ·subst h0;rfl
  ·rw[decide_eq_false h0,Bool.false_or]
   by_cases h1:0<n
   ·rw[decide_eq_true h1,decide_eq_true (show 0≤n by omega)]
   ·rw[decide_eq_false h1,decide_eq_false (show ¬ 0≤n by omega)]
def H2(n:Nat):Bool :=
 let s:=wC.getD n ⟨#[]⟩
 decide ((s.data.toList=[])=(cls (n:Int)=0)) &&
 (decide (cls (n:Int)=0) || (
  let f:=aQ ⟨[],0,0,0,[],[],0,0⟩ (n:Int)
  (A7 s 65 == decide (0<f.av)) && (A7 s 66 == decide (1<f.av)) && (A7 s 77 == f.mutex) && (f.mutex || (A7 s 67 == decide (2<f.av)))))
theorem zD:∀ n:Nat,n<39→H2 n=true:=by decide +kernel
theorem zE(p:eB)(op:Int):(aQ p op).av=(aQ ⟨[],0,0,0,[],[],0,0⟩ op).av∧(aQ p op).mutex=(aQ ⟨[],0,0,0,[],[],0,0⟩ op).mutex:=by
 unfold aQ
 simp only[apply_ite Form.av,apply_ite Form.mutex]
 exact⟨trivial,trivial⟩
theorem zF(p:eB)(i:Ins)(hm:0≤p.ay)(hk:0≤p.conds){n:Nat}(hn:n<39)(ho:i.op=(n:Int))(hc:¬cls i.op=0):mV p i (oT (im i.op))=(aQ p i.op).below i.n:=by
 have h:n=1∨n=2∨n=3∨n=4∨n=5∨n=6∨n=7∨n=8∨n=9∨n=10∨n=11∨n=12∨n=13∨n=14∨n=15∨n=16∨n=17∨n=18∨n=19∨n=20∨n=21∨n=22∨n=23∨n=24∨n=25∨n=26∨n=27∨n=28∨n=29∨n=30∨n=31∨n=32∨n=33∨n=34∨n=35∨n=36∨n=37∨n=38:=by
  have:n≠0:=fun e=>hc (by rw[ho,e];decide)
  omega
 rw[ho,q7 hn]
 rcases h with rfl | rfl | rfl | rfl | rfl | rfl | rfl | rfl | rfl | rfl | rfl | rfl | rfl | rfl | rfl | rfl | rfl | rfl | rfl | rfl | rfl | rfl | rfl | rfl | rfl | rfl | rfl | rfl | rfl | rfl | rfl | rfl | rfl | rfl | rfl | rfl | rfl | rfl <;> simp[mV,l6,wC,oT,aQ,Form.below] <;> (intro h;omega)
theorem fC(p:eB)(i:Ins)(hm:0≤p.ay)(hk:0≤p.conds):nr p i=ey p i:=by
 by_cases ho:i.op<0∨39≤i.op
 ·have hc:cls i.op=0:=by unfold cls;rw[if_neg (by omega),if_neg (by omega),if_neg (by omega)]
  unfold nr ey
  rw[sG ho,if_pos hc];rfl
 ·obtain⟨n,hn⟩:∃ n:Nat,i.op=(n:Int):=⟨i.op.toNat,by omega⟩
  have hn39:n<39:=by omega
  have hr:=zD n hn39
  unfold H2 at hr
  simp only[Bool.and_eq_true,decide_eq_true_eq,Bool.or_eq_true,beq_iff_eq] at hr
  have hs:=q7 hn39
  rw[← hn] at hs hr
  by_cases hc:cls i.op=0
  ·unfold nr ey
   rw[if_pos hc,if_pos (by rw[hs];exact hr.1.mpr hc)]
  ·obtain⟨⟨⟨h1,h2⟩,h3⟩,h4⟩:=hr.2.resolve_left hc
   have hf:=zE p i.op
   rw[← hs] at h1 h2 h3 h4
   unfold nr ey
   rw[if_neg hc,if_neg (fun e=>hc (hr.1.mp (by rw[← hs];exact e)))]
   show _=(lI i.a (decide (0<(aQ p i.op).av)) && lI i.b (decide (1<(aQ p i.op).av)) && (if (aQ p i.op).mutex=true then decide (0≤i.c) && decide (i.c<p.ay) else lI i.c (decide (2<(aQ p i.op).av))) && (aQ p i.op).below i.n)
   rw[pU,pU,zF p i hm hk hn39 hn hc,h1,h2,hf.1]
   congr 2
   unfold jP
   rw[h3,hf.2]
   by_cases hmx:(aQ ⟨[],0,0,0,[],[],0,0⟩ i.op).mutex=true
   ·rw[if_pos hmx,if_pos hmx];unfold gK;rw[if_neg (by decide)]
   ·rw[if_neg hmx,if_neg hmx,pU,h4.resolve_left hmx]
end Go.SLYtefdijgllbkmfaaGreat
namespace Go.SLYtefdijgllbkmfaaGreat
open Go Go.RowKit
/-! what the libraries' steps do to the modes, to the events, to the space -/
/-! what giving and taking do -/
end Go.SLYtefdijgllbkmfaaGreat
namespace Go.SLYtefdijgllbkmfaaGreat
open Go Go.RowKit
/-! counting -/
def Jd(l:List Int):Nat:=(l.map Int.toNat).sum
structure Room(want:List Int)(k:LK):Prop where
 len:want.length=k.libs.length
 sum:Jd want≤k.owner.length
 gH:∀ (i:Nat) (w:Int),want[i]?=some w→k.owner.count (i:Int)≤w.toNat
/-! what is taken -/
end Go.SLYtefdijgllbkmfaaGreat
namespace Go.SLYtefdijgllbkmfaaGreat
open Go Go.RowKit
/-! what is dealt out is there -/
end Go.SLYtefdijgllbkmfaaGreat
namespace Go.SLYtefdijgllbkmfaaGreat
open Go Go.RowKit
/-! what New makes -/
end Go.SLYtefdijgllbkmfaaGreat
namespace Go.SLYtefdijgllbkmfaaGreat
open Go Go.RowKit
def Deal.pk(d:Deal)(i:Nat)(b:Int):Int :=
 if d.iz.getD i 0≤d.out.getD i 0 then b
 else if b<0∨d.prio.getD b.toNat 0<d.prio.getD i 0∨(d.prio.getD i 0=d.prio.getD b.toNat 0∧d.out.getD i 0<d.out.getD b.toNat 0) then (i:Int) else b
def Deal.bst(d:Deal)(first:Nat):Nat→Nat→Int→Int
 | 0,_,b=>b
 | m+1,k,b=>Deal.bst d first m (k+1) (d.pk ((first+k) % d.iz.length) b)
def Deal.next(d:Deal)(first:Nat):Int:=d.bst first d.iz.length 0 (-1)
def Deal.Wt(d:Deal)(i:Nat):Prop:=d.out.getD i 0<d.iz.getD i 0
structure Rn(dem pri:List Int)(f:Nat)(p:Int)(k:Nat)(r:Int)(d:Deal):Prop where
 de:d.iz=dem
 pr:d.prio=pri
 ol:d.out.length=dem.length
 hi:0<d.left→ ∀ i,d.Wt i→pri.getD i 0≤p
 eq:0<d.left→ ∀ j,j<dem.length→d.Wt ((f+j) % dem.length)→pri.getD ((f+j) % dem.length) 0=p→d.out.getD ((f+j) % dem.length) 0=if j<k then r+1 else r
 lo:∀ i,pri.getD i 0<p→d.out.getD i 0=0
end Go.SLYtefdijgllbkmfaaGreat
namespace Go.SLYtefdijgllbkmfaaGreat
open Go Go.RowKit
theorem uq{x n:Int}(h0:0≤x)(h1:x≤n):within x n=true:=by unfold within;rw[decide_eq_true h0,decide_eq_true h1];rfl
theorem zG{x n:Int}(h:¬(0≤x∧x≤n)):within x n=false:=by
 refine Bool.eq_false_iff.2 fun e=>h ?_
 unfold within at e
 simpa using e
structure LY(d:Deal)(f k:Nat)(b:Int):Prop where
 kl:k≤d.iz.length
 n:d.bst f (d.iz.length-k) k b=d.next f
 b:b = -1∨ ∃ i:Nat,b=(i:Int)∧i<d.iz.length∧d.Wt i
end Go.SLYtefdijgllbkmfaaGreat
namespace Go.SLYtefdijgllbkmfaaGreat
open Go Go.RowKit
def Kv(s:ByteArray):List Value:=[.string s]
theorem yb{s:ByteArray}{k:Nat}(h:k<s.size):∃ x:UInt8,s[k]?=some x∧s.data.toList[k]?=some x:=by
 have h2:k<s.data.toList.length:=by cases s;exact h
 refine⟨s.data.toList[k],?_,List.getElem?_eq_getElem h2⟩
 have:s[k]?=some (s[k]'h):=getElem?_pos s k h
 rw[this];rfl
theorem sH{s:ByteArray}{c:Int}{k:Nat}{x:UInt8}(hx:s.data.toList[k]?=some x)(h:((s.data.toList.take k).any fun b=>decide ((b.toNat:Int)=c))=false)(hn:¬(x.toNat:Int)=c):((s.data.toList.take (k+1)).any fun b=>decide ((b.toNat:Int)=c))=false:=by
 rw[cx hx,List.any_append,h];simp[hn]
theorem GS{s:ByteArray}{c:Int}{k:Nat}{x:UInt8}(hx:s.data.toList[k]?=some x)(h:(x.toNat:Int)=c):A7 s c=true:=by
 unfold A7
 exact List.any_eq_true.2 ⟨x,List.mem_of_getElem? hx,decide_eq_true h⟩
theorem EN{s:ByteArray}{c:Int}{k:Nat}(hk:k=s.size)(h:((s.data.toList.take k).any fun b=>decide ((b.toNat:Int)=c))=false):A7 s c=false:=by
 rw[List.take_of_length_le (by cases s;exact Nat.le_of_eq hk.symm)] at h
 exact h
theorem EO{s:ByteArray}(h:¬s.data.toList=[]):1≤s.size∧ ∃ c:UInt8,s[s.size-1]?=some c∧oT s=(c.toNat:Int):=by
 have hs:s.size=s.data.toList.length:=by cases s;rfl
 have h1:1≤s.size:=by
  rw[hs]
  exact List.length_pos_iff.2 h
 obtain⟨c,h2,h3⟩:=yb (s:=s) (k:=s.size - 1) (by omega)
 refine⟨h1,c,h2,?_⟩
 unfold oT
 rw[List.getLast?_eq_getElem?, ← hs,h3];rfl
theorem kv(op:Int):(im op).size≤4:=by
 by_cases h:op<0∨39≤op
 ·rw[sG h];decide
 ·obtain⟨n,rfl⟩:∃ n:Nat,op=(n:Int):=⟨op.toNat,by omega⟩
  rw[q7 (by omega)]
  have:∀ n:Nat,n<39→(wC.getD n ⟨#[]⟩).size≤4:=by decide +kernel
  exact this n (by omega)
theorem EP{n:Nat}{x:ByteArray}(h:wC[n]?=some x):im (n:Int)=x:=by
 have hn:=(List.getElem?_eq_some_iff.1 h).1
 rw[q7 hn,List.getD_eq_getElem?_getD,h];rfl
theorem GU{p:eB}{i:Ins}{c:Int}(h:c=120):mV p i c=true:=if_pos h
theorem GV{p:eB}{i:Ins}{c:Int}(h1:¬c=120)(h:c=110):mV p i c=decide (i.n=0):=by unfold mV;rw[if_neg h1,if_pos h]
theorem k8{p:eB}{i:Ins}{c m:Int}(h1:¬c=120)(h2:¬c=110)(h:l6 p c=m):mV p i c=(decide (0<m) && decide (i.n<m)):=by unfold mV;rw[if_neg h1,if_neg h2,h]
theorem k9{p:eB}{i:Ins}{x y z w:Bool}(h0:¬(im i.op).data.toList=[])(hx:gK i.a (A7 (im i.op) 65) 8=x)(hy:gK i.b (A7 (im i.op) 66) 8=y)(hz:jP p i=z)(hw:mV p i (oT (im i.op))=w):nr p i=(x && y && z && w):=by
 unfold nr;rw[if_neg h0,hx,hy,hz,hw]
theorem Ck{p:eB}(h:ei p=true):(0≤p.ay∧p.ay≤4)∧(0≤p.conds∧p.conds≤4)∧p.funcs.length≤8∧p.aT.length≤4∧p.aC.length≤4:=by
 unfold ei at h
 simp only[Bool.and_eq_true,decide_eq_true_eq,within] at h
 obtain⟨⟨⟨⟨⟨⟨⟨⟨⟨⟨⟨h1,h2⟩,h3⟩,h4⟩,h5⟩,h6⟩,h7⟩,h8⟩,h9⟩, -⟩, -⟩, -⟩:=h
 exact⟨h4,h5,h2,h8,h9⟩
theorem jj{v:bI}:ei v.p=true↔((0<v.fs.length∧v.fs.length≤8)∧(0≤v.words∧v.words≤64)∧(0≤v.ay∧v.ay≤4)∧(0≤v.conds∧v.conds≤4)∧(0≤v.blocks∧v.blocks≤64)∧(0≤v.prio∧v.prio≤7)∧v.aT.length≤4∧v.aC.length≤4)∧(v.fs.all fun f=>decide (f.2.length≤256))=true∧(v.aT.all fun n=>within n 1048576)=true∧(v.aC.all fun n=>decide (0<n) && within n 8)=true:=by
 rw[← xi]
 unfold m5 m4 m3 vv within
 simp only[Bool.and_eq_true,decide_eq_true_eq,List.take_length,List.all_eq_true]
 constructor
 ·rintro⟨⟨⟨⟨⟨⟨⟨⟨⟨⟨⟨h1,h2⟩,h3⟩,h4⟩,h5⟩,h6⟩,h7⟩,h8⟩,h9⟩,a1⟩,a2⟩,a3⟩
  exact⟨⟨⟨by omega,by omega⟩,h3,h4,h5,h6,h7,by omega,by omega⟩,fun x hx=>by have:=a1 x hx;omega,a2,a3⟩
 ·rintro⟨⟨⟨h1,h2⟩,h3,h4,h5,h6,h7,h8,h9⟩,a1,a2,a3⟩
  exact⟨⟨⟨⟨⟨⟨⟨⟨⟨⟨⟨by omega,by omega⟩,h3⟩,h4⟩,h5⟩,h6⟩,h7⟩,by omega⟩,by omega⟩,fun x hx=>by have:=a1 x hx;omega⟩,a2⟩,a3⟩
theorem mE{v:bI}(h:¬ei v.p=true):cK v.p=9:=by unfold cK;rw[if_neg h]
end Go.SLYtefdijgllbkmfaaGreat
namespace Go.SLYtefdijgllbkmfaaGreat
open Go Go.RowKit
def dR{α:Type}(f:Nat→α)(n:Nat)(x:α):Nat→α:=fun m=>if m=n then x else f m
structure RT where
 used:Bool
 handle:Int
 why:Int
 fn:Int
 pc:Int
 av:Nat→Int
 value:Int
 pq:Bool
 ar:Int
 op:Int
 into:Int
def Je:RT:=⟨false,0,0,0,0,fun _=>0,0,false,0,0,0⟩
structure gg where
 owner:Int
 wait:List Int
structure RSp where
 taken:Nat→Int
 thr:Nat→RT
 mem:List Int
 aD:List gg
 bm:List (List dc)
 bX:List Int
 sw:List (List Int)
 jv:List Tub
 blk:List Int
 ask:List pz
 now:Int
 til:Nat→Int
 au:List Rec
def RT.put(t:RT)(a v:Int):RT:={t with av:=dR t.av a.toNat v }
def RT.eW(t:RT)(a:Int):Int:=t.av a.toNat
def RSp.t(s:RSp)(n:Nat):RT:=s.thr n
def RSp.aj(s:RSp)(n:Nat)(t:RT):RSp:={s with thr:=dR s.thr n t }
def rFree?(thr:Nat→RT):Nat→Nat→Option Nat
 | 0,_=>none
 | f+1,n=>if (thr n).used=true then rFree? thr f (n+1) else some n
def ER(h f arg:Int):RT:={Je with used:=true,handle:=h,fn:=f,av:=dR (fun _=>0) 0 arg }
def lb(tk:Int)(n:Nat):Int:=gO (gO (gO (tk * 65536)+n)+1)
def RSp.begun(s:RSp)(n:Nat)(f arg:Int):RSp:={s with taken:=dR s.taken n (gO (s.taken n+1)),thr:=dR s.thr n (ER (lb (gO (s.taken n+1)) n) f arg) }
def RSp.begin(s:RSp)(f arg:Int):Int×RSp :=
 match rFree? s.thr 16 0 with
 | none=>(-1,s)
 | some n=>((n:Int),s.begun n f arg)
def gy(p:eB)(t:RT):Option Ins:=(p.funcs.getD t.fn.toNat [])[t.pc.toNat]?
/-! an instruction on its way -/
structure RA where
 s:RSp
 n:Nat
 i:Ins
 e:iY
 late:List Rec
def RA.t(a:RA):RT:=a.s.t a.n
def RA.aj(a:RA)(t:RT):RA:={a with s:=a.s.aj a.n t }
def RA.say(a:RA)(x y e:Int)(fin:Bool):RA:={a with s:={a.s with au:=a.s.au++[⟨a.t.handle,a.i.op,x,y,e,fin⟩] } }
def RA.done(a:RA)(x y e:Int):RA:=(a.say x y e true).aj (a.t.put 7 e)
def RA.stop(a:RA)(why into x y:Int):RA:={(a.say x y 0 false).aj {a.t with why:=why,op:=a.i.op,into:=into } with e:={a.e with bA:=true } }
def RT.cS(t:RT)(y:Int):RT:={(if t.into=0 then t else t.put (t.into-1) y).put 7 0 with why:=0,into:=0 }
def RT.dH(t:RT)(y:Int):Rec:=⟨t.handle,t.op,0,if t.into=0 then 0 else y,0,true⟩
def RSp.di(s:RSp)(n:Nat)(y:Int):RSp:=s.aj n ((s.t n).cS y)
def RA.free(a:RA)(n:Nat)(y:Int):RA:={a with s:=a.s.di n y,late:=a.late++[(a.s.t n).dH y],e:={a.e with aL:=a.e.aL++[(n:Int)] } }
def RA.sI(a:RA):RA:=a.aj {a.t with used:=false }
def RA.ending(a:RA):RA:={a with e:={a.e with ended:=true } }
def RA.fin(a:RA)(v:Int):RA :=
 if a.t.pq=false∧a.t.ar=0 then a.ending.aj {a.t with why:=9,value:=v } else
 (if a.t.pq=false then a.ending.free (a.t.ar-1).toNat v else a.ending).sI
def RSp.open(s:RSp)(m:Nat)(choice:Int):Int×RSp :=
 let x:=s.aD.getD m ⟨0,[]⟩
 if x.wait.length=0 then (0,{s with aD:=s.aD.set m {x with owner:=0 } }) else
 let k:=pick choice x.wait.length
 (x.wait.getD k 0+1,{s with aD:=s.aD.set m ⟨x.wait.getD k 0+1,x.wait.eraseIdx k⟩ })
def RSp.want(s:RSp)(m:Nat)(who:Int):Bool×RSp :=
 let x:=s.aD.getD m ⟨0,[]⟩
 if x.owner≠0 then (false,{s with aD:=s.aD.set m {x with wait:=x.wait++[who] } }) else (true,{s with aD:=s.aD.set m {x with owner:=who+1 } })
def RA.fault(a:RA)(x y:Int):RA:=((a.aj {a.t with pc:=a.t.pc-1 }).say x y 6 true).fin 18446744073709551615
def RA.plain(a0:RA):RA :=
 let x:=a0.t.eW a0.i.a
 let y:=a0.t.eW a0.i.b
 let a:=a0.aj {a0.t with pc:=a0.t.pc+1 }
 if a.i.op=1 then a.aj (a.t.put a.i.a a.i.n) else
 if a.i.op=16 then a.aj {a.t with pc:=a.i.n } else
 if a.i.op=17 then (if x=0 then a.aj {a.t with pc:=a.i.n } else a) else
 if a.i.op=18 then (if (a.s.mem.length:Int)≤y then a.fault y 0 else (a.aj (a.t.put a.i.a (a.s.mem.getD y.toNat 0))).say y (a.s.mem.getD y.toNat 0) 0 true) else
 if a.i.op=19 then (if (a.s.mem.length:Int)≤x then a.fault x y else ({a with s:={a.s with mem:=a.s.mem.set x.toNat y } }:RA).say x y 0 true) else
 a.aj (a.t.put a.i.a (aE a.i.op y (a.t.eW a.i.c)))
def cz(thr:Nat→RT)(self:Nat)(h:Int):Nat→Nat→Int×Int
 | 0,_=>(0,3)
 | f+1,n =>
  let t:=thr n
  if t.used=false∨¬t.handle=h∨n=self∨t.pq=true then cz thr self h f (n+1) else
  if ¬t.ar=0 then (0,4) else ((n:Int),0)
def RA.other(a:RA)(h:Int):Int×Int:=cz a.s.thr a.n h 16 0
def RA.spawn(a:RA)(y:Int):RA :=
 let r:=a.s.begin a.i.n y
 let b:RA:={a with s:=r.2 }
 if r.1<0 then (b.aj (b.t.put a.i.a 0)).done a.i.n 0 2 else
 let c:=b.aj (b.t.put a.i.a (b.s.t r.1.toNat).handle)
 ({c with e:={c.e with aL:=[r.1] } }:RA).done a.i.n (b.s.t r.1.toNat).handle 0
def RA.join(a:RA)(h:Int):RA :=
 let r:=a.other h
 if ¬r.2=0 then a.done h 0 r.2 else
 let n:=r.1.toNat
 if (a.s.t n).why=9 then
  let v:=(a.s.t n).value
  let b:=a.aj (a.t.put a.i.a v)
  ({b with s:=b.s.aj n {b.s.t n with used:=false } }:RA).done h v 0
 else ({a with s:=a.s.aj n {a.s.t n with ar:=(a.n:Int)+1 } }:RA).stop 4 (a.i.a+1) h 0
def RA.cO(a:RA)(x:Int):RA :=
 let r:=a.other x
 let n:=r.1.toNat
 (if r.2=0∧(a.s.t n).why=9 then {a with s:=a.s.aj n {a.s.t n with used:=false } } else
  if r.2=0 then {a with s:=a.s.aj n {a.s.t n with pq:=true } } else a).done x 0 r.2
def RA.mW(a:RA)(w:Int):RA:=if 0<w then a.free (w-1).toNat 0 else a
def rSignal(a:RA):List dc→RA
 | []=>a
 | w::l =>
  let r:=a.s.want w.mutex.toNat w.who
  if r.1=true then rSignal (({a with s:=r.2 }:RA).free w.who.toNat 0) l else rSignal {a with s:=r.2.aj w.who.toNat {r.2.t w.who.toNat with why:=1 } } l
def RA.signal(a:RA)(c:Nat)(choice:Int):RA :=
 let b:=a.done a.i.n 0 0
 let l:=b.s.bm.getD c []
 if a.i.op=28∧0<l.length then rSignal {b with s:={b.s with bm:=b.s.bm.set c (l.eraseIdx (pick choice l.length)) } } [l.getD (pick choice l.length) ⟨0,0⟩]
 else rSignal {b with s:={b.s with bm:=b.s.bm.set c [] } } l
def RA.gate(a:RA)(choice:Int):RA :=
 let m:=a.i.n.toNat
 if a.i.op=25 then
  if (a.s.aD.getD m ⟨0,[]⟩).owner=(a.n:Int)+1 then a.done a.i.n 0 4 else
  let r:=a.s.want m a.n
  if r.1=true then ({a with s:=r.2 }:RA).done a.i.n 0 0 else ({a with s:=r.2 }:RA).stop 1 0 a.i.n 0
 else if a.i.op=26 then
  if ¬(a.s.aD.getD m ⟨0,[]⟩).owner=(a.n:Int)+1 then a.done a.i.n 0 5 else
  let r:=a.s.open m choice
  (({a with s:=r.2 }:RA).done a.i.n 0 0).mW r.1
 else if a.i.op=27 then
  if ¬(a.s.aD.getD a.i.c.toNat ⟨0,[]⟩).owner=(a.n:Int)+1 then a.done a.i.n (gO a.i.c) 5 else
  let r:=a.s.open a.i.c.toNat choice
  (({a with s:={r.2 with bm:=r.2.bm.set m (r.2.bm.getD m []++[⟨a.n,a.i.c⟩]) } }:RA).stop 2 0 a.i.n (gO a.i.c)).mW r.1
 else a.signal m choice
def RA.up(a:RA)(choice:Int):RA :=
 let n:=a.i.n.toNat
 let l:=a.s.sw.getD n []
 if 0<l.length then
  (({a with s:={a.s with sw:=a.s.sw.set n (l.eraseIdx (pick choice l.length)) } }:RA).done a.i.n 0 0).free (l.getD (pick choice l.length) 0).toNat 0
 else if a.s.bX.getD n 0=1048576 then a.done a.i.n 0 2
 else ({a with s:={a.s with bX:=a.s.bX.set n (a.s.bX.getD n 0+1) } }:RA).done a.i.n 0 0
def RA.down(a:RA):RA :=
 let n:=a.i.n.toNat
 if 0<a.s.bX.getD n 0 then ({a with s:={a.s with bX:=a.s.bX.set n (a.s.bX.getD n 0-1) } }:RA).done a.i.n 0 0
 else ({a with s:={a.s with sw:=a.s.sw.set n (a.s.sw.getD n []++[(a.n:Int)]) } }:RA).stop 3 0 a.i.n 0
def RA.pipe(a:RA):Tub:=a.s.jv.getD a.i.n.toNat J4
def RA.Cl(a:RA)(u:Tub):RA:={a with s:={a.s with jv:=a.s.jv.set a.i.n.toNat u } }
def RA.putP(a:RA)(x:Int):RA :=
 let p:=a.pipe
 if p.bz.length=0∧(p.words.length:Int)=p.room then (a.Cl {p with bN:=p.bN++[⟨a.n,x⟩] }).stop 7 0 a.i.n x else
 let b:=a.done a.i.n x 0
 match p.bz with
 | w::r=>(b.Cl {p with bz:=r }).free w.toNat x
 | []=>b.Cl {p with words:=p.words++[x] }
def RA.getP(a:RA):RA :=
 let p:=a.pipe
 match p.words with
 | []=>(a.Cl {p with bz:=p.bz++[(a.n:Int)] }).stop 6 (a.i.a+1) a.i.n 0
 | x::r =>
  let b:=(a.Cl {p with words:=r }).aj (a.t.put a.i.a x)
  let c:=b.done a.i.n x 0
  match p.bN with
  | []=>c
  | w::q=>(c.Cl {p with words:=r++[w.x],bN:=q }).free w.who.toNat 0
def RA.aN(a:RA)(block word into:Int):RA :=
 if (a.s.blk.length:Int)≤block then a.done block word 1 else
 ({a with s:={a.s with ask:=a.s.ask++[⟨a.n,block,decide (a.i.op=34),word⟩] } }:RA).stop 5 into block word
def RA.sleep(a:RA)(x:Int):RA :=
 if x=0 then a.done x 0 0 else if 1099511627776<x then a.done x 0 1 else
 ({a with s:={a.s with til:=dR a.s.til a.n (min (a.s.now+x) 1099511627776+1) } }:RA).stop 8 0 x 0
def RA.kernel(a:RA)(x y:Int):RA :=
 if a.i.op=33 then a.aN y 0 (a.i.a+1) else if a.i.op=34 then a.aN x y 0 else
 if a.i.op=35 then a.putP x else if a.i.op=36 then a.getP else if a.i.op=37 then a.sleep x else a.done x 0 0
def RA.call(a:RA)(choice:Int):RA :=
 let x:=a.t.eW a.i.a
 let y:=a.t.eW a.i.b
 if a.i.op=20 then a.spawn y else
 if a.i.op=32 then (a.aj (a.t.put a.i.a a.t.handle)).done 0 a.t.handle 0 else
 if a.i.op=24 then {a.done 0 0 0 with e:={a.e with yielded:=true } } else
 if a.i.op=21 then a.join y else if a.i.op=22 then a.cO x else
 if a.i.op=23 then (a.say x 0 0 true).fin x else
 if a.i.op=25∨a.i.op=26∨a.i.op=27∨a.i.op=28∨a.i.op=29 then a.gate choice else
 if a.i.op=30 then a.down else if a.i.op=31 then a.up choice else a.kernel x y
def RSp.run(p:eB)(s:RSp)(n:Nat)(choice:Int):iY×RSp :=
 let r:RA:=match gy p (s.t n) with
  | none=>((⟨s,n,⟨23,0,0,0,0⟩,iY.z,[]⟩:RA).say 0 0 0 true).fin 0
  | some i=>if i.op≤19 then (⟨s,n,i,iY.z,[]⟩:RA).plain else ((⟨s,n,i,iY.z,[]⟩:RA).aj {s.t n with pc:=(s.t n).pc+1 }).call choice
 (r.e,{r.s with au:=r.s.au++r.late })
def RSp.done(s:RSp)(k:Int):Int×RSp :=
 if s.ask.length=0 then (0,s) else
 let r:=s.ask.getD (pick k s.ask.length) ⟨0,0,false,0⟩
 let y:=s.blk.getD r.block.toNat 0
 let s1:={s with ask:=s.ask.eraseIdx (pick k s.ask.length) }
 let s2:=if r.write=true then {s1 with blk:=s1.blk.set r.block.toNat r.x } else s1
 let z:=if r.write=true then 0 else y
 (r.who+1,{s2.di r.who.toNat z with au:=s2.au++[(s2.t r.who.toNat).dH z] })
def rTick(s:RSp):Nat→Nat→List Int→List Int×RSp
 | 0,_,out=>(out,s)
 | f+1,n,out =>
  if 0<s.til n∧s.til n-1≤s.now then
   let s1:={s with til:=dR s.til n 0 }
   rTick {s1.di n 0 with au:=s1.au++[(s1.t n).dH 0] } f (n+1) (out++[(n:Int)])
  else rTick s f (n+1) out
def RSp.tick(s:RSp):List Int×RSp:=rTick {s with now:=if s.now<1099511627776 then s.now+1 else s.now } 16 0 []
def RSp.new(p:eB):RSp :=
 (RSp.begin ⟨fun _=>0,fun _=>Je,List.replicate p.words.toNat 0,List.replicate p.ay.toNat ⟨0,[]⟩,List.replicate p.conds.toNat [],p.aT,List.replicate p.aT.length [],p.aC.map fun r=>⟨r,[],[],[]⟩,List.replicate p.blocks.toNat 0,[],0,fun _=>0,[]⟩ 0 0).2
end Go.SLYtefdijgllbkmfaaGreat
namespace Go.SLYtefdijgllbkmfaaGreat
open Go Go.RowKit
def Cm(t:RT):List Value:=[.bool t.used,.int .u64 t.handle,.int .i64 t.why,.int .i64 t.fn,.int .i64 t.pc,.int .u64 (t.av 0),.int .u64 (t.av 1),.int .u64 (t.av 2),.int .u64 (t.av 3),.int .u64 (t.av 4),.int .u64 (t.av 5),.int .u64 (t.av 6),.int .u64 (t.av 7),
 .int .u64 t.value,.bool t.pq,.int .i64 t.ar,.int .i64 t.op,.int .i64 t.into]
def flatN{α:Type}(enc:α→List Value)(f:Nat→α):Nat→List Value
 | 0=>[]
 | n+1=>flatN enc f n++enc (f n)
def dF(f:Nat→RT):List Value:=flatN Cm f 16
def ns(f:Nat→Int):List Value:=flatN cM f 16
def pV(f:Nat→Int):List Value:=flatN aP f 16
section
variable{α:Type}{enc:α→List Value}{k:Nat}
theorem dr(hk:∀ x,(enc x).length=k)(f:Nat→α):∀ n,(flatN enc f n).length=n * k
 | 0=>by simp[flatN]
 | n+1=>by rw[flatN,List.length_append,dr hk f n,hk,Nat.succ_mul]
theorem mF(hk:∀ x,(enc x).length=k)(f:Nat→α){i j:Nat}(hj:j<k):∀ n,i<n→(flatN enc f n)[i * k+j]?=(enc (f i))[j]?
 | 0,h=>absurd h (Nat.not_lt_zero _)
 | n+1,h=>by
  rw[flatN]
  by_cases e:i=n
  ·subst e;rw[List.getElem?_append_right (by rw[dr hk];omega),dr hk];congr 1;omega
  ·have h2:(i+1) * k≤n * k:=Nat.mul_le_mul_right k (by omega)
   rw[Nat.succ_mul] at h2
   rw[List.getElem?_append_left (by rw[dr hk];omega)];exact mF hk f hj n (by omega)
theorem l7{f g:Nat→α}:∀ n,(∀ m<n,f m=g m)→flatN enc f n=flatN enc g n
 | 0,_=>rfl
 | n+1,h=>by rw[flatN,flatN,l7 n (fun m hm=>h m (by omega)),h n (by omega)]
theorem mG(hk:∀ x,(enc x).length=k){f:Nat→α}{i j:Nat}{v:Value}{x:α}(hj:j<k)(he:(enc (f i)).set j v=enc x):∀ n,i<n→(flatN enc f n).set (i * k+j) v=flatN enc (dR f i x) n
 | 0,h=>absurd h (Nat.not_lt_zero _)
 | n+1,h=>by
  rw[flatN,flatN]
  by_cases e:i=n
  ·subst e
   rw[List.set_append_right _ _ (by rw[dr hk];omega),dr hk,show i * k+j-i * k=j from by omega,he,l7 i (g:=dR f i x) (fun m hm=>by unfold dR;rw[if_neg (by omega)])]
   unfold dR;rw[if_pos rfl]
  ·have h2:(i+1) * k≤n * k:=Nat.mul_le_mul_right k (by omega)
   rw[Nat.succ_mul] at h2
   rw[List.set_append_left _ _ (by rw[dr hk];omega),mG hk hj he n (by omega)]
   unfold dR;rw[if_neg (by omega)]
theorem qD:∀ (a b vs:List Value) (i:Nat),a.length≤i→setFrom (a++b) i vs=a++setFrom b (i-a.length) vs
 | a,b,[],i,_=>rfl
 | a,b,v::vs,i,h=>by
  show setFrom ((a++b).set i v) (i+1) vs=a++setFrom (b.set (i-a.length) v) (i-a.length+1) vs
  rw[List.set_append_right _ _ h,qD a _ vs (i+1) (by omega),show i+1-a.length=i-a.length+1 from by omega]
theorem oU:∀ (vs a b:List Value) (i:Nat),i+vs.length≤a.length→setFrom (a++b) i vs=setFrom a i vs++b
 | [],_,_,_,_=>rfl
 | v::vs,a,b,i,h=>by
  rw[List.length_cons] at h
  show setFrom ((a++b).set i v) (i+1) vs=setFrom (a.set i v) (i+1) vs++b
  rw[List.set_append_left _ _ (by omega),oU vs _ b (i+1) (by rw[List.length_set];omega)]
theorem ur(hk:∀ x,(enc x).length=k){f:Nat→α}{i:Nat}{x:α}:∀ n,i<n→setFrom (flatN enc f n) (i * k) (enc x)=flatN enc (dR f i x) n
 | 0,h=>absurd h (Nat.not_lt_zero _)
 | n+1,h=>by
  rw[flatN,flatN]
  by_cases e:i=n
  ·subst e
   rw[qD _ _ _ _ (by rw[dr hk];exact Nat.le_refl _),dr hk,Nat.sub_self,ql (by rw[hk,hk]),l7 i (g:=dR f i x) (fun m hm=>by unfold dR;rw[if_neg (by omega)])]
   unfold dR;rw[if_pos rfl]
  ·have h2:(i+1) * k≤n * k:=Nat.mul_le_mul_right k (by omega)
   rw[Nat.succ_mul] at h2
   rw[oU _ _ _ _ (by rw[dr hk,hk];omega),ur hk n (by omega)]
   unfold dR;rw[if_neg (by omega)]
end
theorem nt(t:RT):(Cm t).length=18:=rfl
theorem dz{α:Type}{f:Nat→α}{n:Nat}{x:α}:dR f n x n=x:=by unfold dR;rw[if_pos rfl]
theorem jk{α:Type}{f:Nat→α}{n m:Nat}{x:α}(h:¬m=n):dR f n x m=f m:=by unfold dR;rw[if_neg h]
theorem ES{α:Type}{f:Nat→α}{n:Nat}:dR f n (f n)=f:=by funext m;unfold dR;split <;> simp_all
theorem oV{α:Type}{f:Nat→α}{n:Nat}{x y:α}:dR (dR f n x) n y=dR f n y:=by funext m;unfold dR;split <;> rfl
theorem Jf{t:RT}{j:Nat}(hj:j<8):(Cm t)[5+j]?=some (.int .u64 (t.av j)):=by
 rcases j with _ | _ | _ | _ | _ | _ | _ | _ | j
 all_goals first | rfl | omega
theorem Jg{t:RT}{j:Nat}{v:Int}(hj:j<8):(Cm t).set (5+j) (.int .u64 v)=Cm {t with av:=dR t.av j v }:=by
 rcases j with _ | _ | _ | _ | _ | _ | _ | _ | j
 all_goals first | rfl | omega
section
variable{P:Program}{W:World}{N:Nat}{L:List (Nat×Option Value)}{H:List aa}{T:TypeId}
theorem Cell.t{b n j:Nat}{f:Nat→RT}{v:Value}[h:aW H b 24 (dF f)](hn:n<16)(hv:(Cm (f n))[j]?=some v):Cell W H b (24+n * 18+j) v:=by
 rw[Nat.add_assoc]
 exact Cell.ao (o:=24) (i:=n * 18+j) ((mF nt f (List.getElem?_eq_some_iff.1 hv).1 16 hn).trans hv)
theorem Cell.tz{b n:Nat}{f:Nat→RT}[h:aW H b 24 (dF f)](hn:n<16):Cell W H b (24+n * 18) (.bool (f n).used):=Cell.t (j:=0) hn rfl
theorem Cell.tr{b n j:Nat}{f:Nat→RT}[h:aW H b 24 (dF f)](hn:n<16)(hj:j<8):Cell W H b (24+n * 18+5+j * 1) (.int .u64 ((f n).av j)):=by
 rw[Nat.add_assoc (24+n * 18),Nat.mul_one];exact Cell.t hn (Jf hj)
theorem Cells.t{b n:Nat}{f:Nat→RT}[h:aW H b 24 (dF f)](hn:n<16):Cells W H b (24+n * 18) (Cm (f n)):=fun _ _ hv=>Cell.t hn hv
theorem Cell.tk{b n:Nat}{f:Nat→Int}[h:aW H b 8 (ns f)](hn:n<16):Cell W H b (8+n * 1) (.int .u64 (f n)) :=
 Cell.ao (o:=8) (i:=n * 1) ((mF (enc:=cM) (k:=1) (fun _=>rfl) f (j:=0) (by decide) 16 hn).trans rfl)
theorem Cell.tl{b n:Nat}{f:Nat→Int}[h:aW H b 321 (pV f)](hn:n<16):Cell W H b (321+n * 1) (.int .i64 (f n)) :=
 Cell.ao (o:=321) (i:=n * 1) ((mF (enc:=aP) (k:=1) (fun _=>rfl) f (j:=0) (by decide) 16 hn).trans rfl)
section
variable{E:TypeId}{x y:Operand}{pos:String}{after:Array Edge}{guard:Option (Nat×Bool)}{b n:Nat}{H':List aa}
theorem af.t{j:Nat}{v:Value}{f:Nat→RT}{t:RT}(hz:∀ w,(sizeOf E).run P w = .ok 1 w)(hx:ev L x=some (.pointer (some ⟨b,24+n * 18+j,none⟩)))(hy:ev L y=some v)(hv:v.oneCell'=true)(hn:n<16)(hj:j<18)(he:(Cm (f n)).set j v=Cm t)
  [h0:aW H b 24 (dF f)] [hr:bM H b 24 (dF f) (dF (dR f n t)) H']:af P W N ⟨none,.store E x y,T,pos,after,guard⟩ L H (fun L1 H1=>L1=L∧H1=H'):=by
 rw[Nat.add_assoc] at hx
 have e:(dF f).set (n * 18+j) v=dF (dR f n t):=mG nt hj he 16 hn
 exact af.HO (o:=24) (cs:=dF f) (i:=n * 18+j) hz hx hy hv (_h0:=h0) (hr:=by rw[e];exact hr) (Nat.blt_eq.mpr (by rw[show(dF f).length=288 from dr nt f 16];omega))
theorem af.A8{u:Bool}{f:Nat→RT}(hz:∀ w,(sizeOf E).run P w = .ok 1 w)(hx:ev L x=some (.pointer (some ⟨b,24+n * 18,none⟩)))(hy:ev L y=some (.bool u))(hn:n<16)
  [h0:aW H b 24 (dF f)] [hr:bM H b 24 (dF f) (dF (dR f n {f n with used:=u })) H']:af P W N ⟨none,.store E x y,T,pos,after,guard⟩ L H (fun L1 H1=>L1=L∧H1=H'):=af.t (j:=0) (t:={f n with used:=u }) hz hx hy rfl hn (by decide) rfl
theorem af.GW{u:Int}{f:Nat→RT}(hz:∀ w,(sizeOf E).run P w = .ok 1 w)(hx:ev L x=some (.pointer (some ⟨b,24+n * 18+2,none⟩)))(hy:ev L y=some (.int .i64 u))(hn:n<16)
  [h0:aW H b 24 (dF f)] [hr:bM H b 24 (dF f) (dF (dR f n {f n with why:=u })) H']:af P W N ⟨none,.store E x y,T,pos,after,guard⟩ L H (fun L1 H1=>L1=L∧H1=H'):=af.t (t:={f n with why:=u }) hz hx hy rfl hn (by decide) rfl
theorem af.Kw{u:Int}{f:Nat→RT}(hz:∀ w,(sizeOf E).run P w = .ok 1 w)(hx:ev L x=some (.pointer (some ⟨b,24+n * 18+4,none⟩)))(hy:ev L y=some (.int .i64 u))(hn:n<16)
  [h0:aW H b 24 (dF f)] [hr:bM H b 24 (dF f) (dF (dR f n {f n with pc:=u })) H']:af P W N ⟨none,.store E x y,T,pos,after,guard⟩ L H (fun L1 H1=>L1=L∧H1=H'):=af.t (t:={f n with pc:=u }) hz hx hy rfl hn (by decide) rfl
theorem af.qN{j:Nat}{u:Int}{f:Nat→RT}(hz:∀ w,(sizeOf E).run P w = .ok 1 w)(hx:ev L x=some (.pointer (some ⟨b,24+n * 18+5+j * 1,none⟩)))(hy:ev L y=some (.int .u64 u))(hn:n<16)(hj:j<8)
  [h0:aW H b 24 (dF f)] [hr:bM H b 24 (dF f) (dF (dR f n {f n with av:=dR (f n).av j u })) H']:af P W N ⟨none,.store E x y,T,pos,after,guard⟩ L H (fun L1 H1=>L1=L∧H1=H'):=by
 rw[Nat.add_assoc (24+n * 18),Nat.mul_one] at hx;exact af.t hz hx hy rfl hn (by omega) (Jg hj)
theorem af.Lp{u:Int}{f:Nat→RT}(hz:∀ w,(sizeOf E).run P w = .ok 1 w)(hx:ev L x=some (.pointer (some ⟨b,24+n * 18+13,none⟩)))(hy:ev L y=some (.int .u64 u))(hn:n<16)
  [h0:aW H b 24 (dF f)] [hr:bM H b 24 (dF f) (dF (dR f n {f n with value:=u })) H']:af P W N ⟨none,.store E x y,T,pos,after,guard⟩ L H (fun L1 H1=>L1=L∧H1=H'):=af.t (t:={f n with value:=u }) hz hx hy rfl hn (by decide) rfl
theorem af.Lq{u:Bool}{f:Nat→RT}(hz:∀ w,(sizeOf E).run P w = .ok 1 w)(hx:ev L x=some (.pointer (some ⟨b,24+n * 18+14,none⟩)))(hy:ev L y=some (.bool u))(hn:n<16)
  [h0:aW H b 24 (dF f)] [hr:bM H b 24 (dF f) (dF (dR f n {f n with pq:=u })) H']:af P W N ⟨none,.store E x y,T,pos,after,guard⟩ L H (fun L1 H1=>L1=L∧H1=H'):=af.t (t:={f n with pq:=u }) hz hx hy rfl hn (by decide) rfl
theorem af.Kx{u:Int}{f:Nat→RT}(hz:∀ w,(sizeOf E).run P w = .ok 1 w)(hx:ev L x=some (.pointer (some ⟨b,24+n * 18+15,none⟩)))(hy:ev L y=some (.int .i64 u))(hn:n<16)
  [h0:aW H b 24 (dF f)] [hr:bM H b 24 (dF f) (dF (dR f n {f n with ar:=u })) H']:af P W N ⟨none,.store E x y,T,pos,after,guard⟩ L H (fun L1 H1=>L1=L∧H1=H'):=af.t (t:={f n with ar:=u }) hz hx hy rfl hn (by decide) rfl
theorem af.LZ{u:Int}{f:Nat→RT}(hz:∀ w,(sizeOf E).run P w = .ok 1 w)(hx:ev L x=some (.pointer (some ⟨b,24+n * 18+16,none⟩)))(hy:ev L y=some (.int .i64 u))(hn:n<16)
  [h0:aW H b 24 (dF f)] [hr:bM H b 24 (dF f) (dF (dR f n {f n with op:=u })) H']:af P W N ⟨none,.store E x y,T,pos,after,guard⟩ L H (fun L1 H1=>L1=L∧H1=H'):=af.t (t:={f n with op:=u }) hz hx hy rfl hn (by decide) rfl
theorem af.H3{u:Int}{f:Nat→RT}(hz:∀ w,(sizeOf E).run P w = .ok 1 w)(hx:ev L x=some (.pointer (some ⟨b,24+n * 18+17,none⟩)))(hy:ev L y=some (.int .i64 u))(hn:n<16)
  [h0:aW H b 24 (dF f)] [hr:bM H b 24 (dF f) (dF (dR f n {f n with into:=u })) H']:af P W N ⟨none,.store E x y,T,pos,after,guard⟩ L H (fun L1 H1=>L1=L∧H1=H'):=af.t (t:={f n with into:=u }) hz hx hy rfl hn (by decide) rfl
theorem af.Lr{f:Nat→RT}{t:RT}(hz:∀ w,(sizeOf E).run P w = .ok 18 w)(hx:ev L x=some (.pointer (some ⟨b,24+n * 18,none⟩)))(hy:ev L y=some (.agg (Cm t).toArray))(hn:n<16)
  [_h0:aW H b 24 (dF f)] [hr:bM H b 24 (dF f) (dF (dR f n t)) H']:af P W N ⟨none,.store E x y,T,pos,after,guard⟩ L H (fun L1 H1=>L1=L∧H1=H') :=
 af.rq (o:=24) (cs:=dF f) (i:=n * 18) hx hy hz (List.all_eq_true.1 rfl) (by rw[show setFrom (dF f) (n * 18) (Cm t)=dF (dR f n t) from ur nt 16 hn];exact hr.mY) (by rw[show(dF f).length=288 from dr nt f 16,nt];omega)
theorem af.Lt{u:Int}{f:Nat→Int}(hz:∀ w,(sizeOf E).run P w = .ok 1 w)(hx:ev L x=some (.pointer (some ⟨b,8+n * 1,none⟩)))(hy:ev L y=some (.int .u64 u))(hn:n<16)
  [h0:aW H b 8 (ns f)] [hr:bM H b 8 (ns f) (ns (dR f n u)) H']:af P W N ⟨none,.store E x y,T,pos,after,guard⟩ L H (fun L1 H1=>L1=L∧H1=H'):=by
 have e:(ns f).set (n * 1) (.int .u64 u)=ns (dR f n u):=mG (enc:=cM) (k:=1) (fun _=>rfl) (j:=0) (by decide) rfl 16 hn
 exact af.HO (o:=8) (cs:=ns f) (i:=n * 1) hz hx hy rfl (_h0:=h0) (hr:=by rw[e];exact hr) (Nat.blt_eq.mpr (by rw[show(ns f).length=16 from dr (k:=1) (fun _=>rfl) f 16];omega))
theorem af.Jh{u:Int}{f:Nat→Int}(hz:∀ w,(sizeOf E).run P w = .ok 1 w)(hx:ev L x=some (.pointer (some ⟨b,321+n * 1,none⟩)))(hy:ev L y=some (.int .i64 u))(hn:n<16)
  [h0:aW H b 321 (pV f)] [hr:bM H b 321 (pV f) (pV (dR f n u)) H']:af P W N ⟨none,.store E x y,T,pos,after,guard⟩ L H (fun L1 H1=>L1=L∧H1=H'):=by
 have e:(pV f).set (n * 1) (.int .i64 u)=pV (dR f n u):=mG (enc:=aP) (k:=1) (fun _=>rfl) (j:=0) (by decide) rfl 16 hn
 exact af.HO (o:=321) (cs:=pV f) (i:=n * 1) hz hx hy rfl (_h0:=h0) (hr:=by rw[e];exact hr) (Nat.blt_eq.mpr (by rw[show(pV f).length=16 from dr (k:=1) (fun _=>rfl) f 16];omega))
end
end
/-! the space's parts -/
def jl{α:Type}(enc:α→List Value)(k b o:Nat)(l:List α):aa:=hZ (fun _:Value=>True) fun v=>[arr b o [v],sl enc k v l]
def eI{β γ:Type}(enc:γ×β→List Value)(k:Nat)(inner:γ×β→aa)(v:Value)(l:List β):aa:=hZ (fun xs:List (γ×β)=>xs.map (·.2)=l) fun xs=>[sl enc k v xs,bb inner xs]
def cE{β γ:Type}(enc:γ×β→List Value)(inner:γ×β→aa)(b o:Nat)(m:β):aa:=hZ (fun _:γ=>True) fun u=>[arr b o (enc (u,m)),inner (u,m)]
def gM{β γ:Type}(enc:γ×β→List Value)(k:Nat)(inner:γ×β→aa)(v:Value)(l:List β)(i:Nat):aa:=n8 (cE enc inner (blk v) (cB v+i * k)) (fun m'=>eI enc k inner v (l.set i m'))
section
variable{β γ:Type}{enc:γ×β→List Value}{k:Nat}{inner:γ×β→aa}{v:Value}{l:List β}{i:Nat}{m:β}
theorem fL(hk:∀ x,(enc x).length=k)(hm:l[i]?=some m):∀ h,eI enc k inner v l h→seps [cE enc inner (blk v) (cB v+i * k) m,gM enc k inner v l i] h:=fun h ⟨xs,hxs,a⟩=>by
 obtain⟨x,hx⟩:=aB (show i<xs.length by rw[← List.length_map (f:=(·.2)),hxs];exact(List.getElem?_eq_some_iff.1 hm).1)
 have hxm:x.2=m:=by have:=nU hxs hx;rw[hm] at this;exact(Option.some.inj this).symm
 have hxe:x=(x.1,m):=by rw[← hxm]
 rw[gR] at a ⊢
 have a2:sep (sep (arr (blk v) (cB v+i * k) (enc x)) (hole enc k v xs i)) (sep (inner x) (bb inner (xs.eraseIdx i))) h:=aR (rR hx) (fun g b=>by rw[iU _ hx] at b;exact b) h a
 rw[aM,aX (hole enc k v xs i), ← aM] at a2
 refine aR ?_ ?_ h a2
 ·intro g b;exact⟨x.1,trivial,by rw[gR, ← hxe];exact b⟩
 ·refine n9 fun m' g b=>?_
  obtain⟨h1,h2,⟨u, -,b1⟩,b2,d,rfl⟩:=b
  refine⟨xs.set i (u,m'),by show(xs.set i (u,m')).map (·.2)=_;rw[List.map_set,show xs.map (·.2)=l from hxs],?_⟩
  rw[gR] at b1 ⊢
  have b3:sep (sep (arr (blk v) (cB v+i * k) (enc (u,m'))) (inner (u,m'))) (sep (hole enc k v xs i) (bb inner (xs.eraseIdx i))) (join h1 h2):=⟨h1,h2,b1,b2,d,rfl⟩
  rw[aM,aX (inner (u,m')), ← aM] at b3
  refine aR (lN (List.getElem?_eq_some_iff.1 hx).1 (hk _)) (fun g c=>?_) _ b3
  rw[iU _ (List.getElem?_set_self (List.getElem?_eq_some_iff.1 hx).1),List.eraseIdx_set_eq];exact c
theorem fX(m':β):∀ h,seps [cE enc inner (blk v) (cB v+i * k) m',gM enc k inner v l i] h→eI enc k inner v (l.set i m') h:=mo m'
theorem gh(hm:l[i]?=some m):∀ h,seps [cE enc inner (blk v) (cB v+i * k) m,gM enc k inner v l i] h→eI enc k inner v l h:=fun h a=>by have:=fX m h a;rwa [eH hm] at this
end
def ed(x:Value×gg):List Value:=[.int .i64 x.2.owner,x.1]
def eh(x:Value×gg):aa:=sl aP 1 x.1 x.2.wait
def jQ(x:Value×List Int):aa:=sl aP 1 x.1 x.2
def lC(x:Value×List dc):aa:=sl cN 2 x.1 x.2
def dO(x:(Value×Value×Value)×Tub):List Value:=[.int .i64 x.2.room,x.1.1,x.1.2.1,x.1.2.2]
def dP(x:(Value×Value×Value)×Tub):aa:=seps [sl cM 1 x.1.1 x.2.words,sl eO 2 x.1.2.1 x.2.bN,sl aP 1 x.1.2.2 x.2.bz]
def zH(b:Nat)(l:List gg):aa:=hZ (fun _:Value=>True) fun v=>[arr b 313 [v],eI ed 2 eh v l]
def GX(b:Nat)(l:List (List dc)):aa:=hZ (fun _:Value=>True) fun v=>[arr b 314 [v],eI cj 1 lC v l]
def KX(b:Nat)(l:List (List Int)):aa:=hZ (fun _:Value=>True) fun v=>[arr b 316 [v],eI cj 1 jQ v l]
structure RV where
 p:bI
 u:Value
def cp(b:Nat)(v:RV)(s:RSp):aa:=seps [arr b 0 (eg v.p),arr b 8 (ns s.taken),arr b 24 (dF s.thr),jl cM 1 b 312 s.mem,zH b s.aD,GX b s.bm,jl aP 1 b 315 s.bX,KX b s.sw,arr b 317 [v.u],eI dO 4 dP v.u s.jv,jl cM 1 b 318 s.blk,jl dY 4 b 319 s.ask,arr b 320 [.int .i64 s.now],arr b 321 (pV s.til),jl dp 6 b 337 s.au]
theorem bB{b:Nat}{v:RV}{s:RSp}:∀ h,cp b v s h→seps [arr b 0 (eg v.p),arr b 8 (ns s.taken),arr b 24 (dF s.thr),jl cM 1 b 312 s.mem,zH b s.aD,GX b s.bm,jl aP 1 b 315 s.bX,KX b s.sw,arr b 317 [v.u],eI dO 4 dP v.u s.jv,jl cM 1 b 318 s.blk,jl dY 4 b 319 s.ask,arr b 320 [.int .i64 s.now],arr b 321 (pV s.til),jl dp 6 b 337 s.au] h:=fun _ a=>a
def lf(b:Nat)(a:RA)(vw vl:Value):List Value:=[ptr b,.int .i64 (a.n:Int)]++dC a.i++[vw,.bool a.e.bA,.bool a.e.ended,.bool a.e.yielded,vl]
def cA(ba b:Nat)(v:RV)(a:RA):aa:=rG (fun _ _:Value=>True) fun vw vl=>[arr ba 0 (lf b a vw vl),sl aP 1 vw a.e.aL,sl dp 6 vl a.late,cp b v a.s]
end Go.SLYtefdijgllbkmfaaGreat
namespace Go.SLYtefdijgllbkmfaaGreat
open Go Go.RowKit
theorem ET{c:Int}{n:Nat}(hn:0<n):(pick c n:Int)=if c.tmod n<0 then c.tmod n+n else c.tmod n:=by
 have h1:=Int.lt_tmod_of_pos c (show(0:Int)<n by omega)
 have h2:=Int.tmod_lt_of_pos c (show(0:Int)<n by omega)
 unfold pick
 split
 ·rw[Int.tmod_eq_of_lt (by omega) (by omega)];omega
 ·rw[show c.tmod n+n=c.tmod n+n * 1 from by omega,Int.tmod_eq_emod_of_nonneg (by omega),Int.add_mul_emod_self_left,Int.emod_eq_of_lt (by omega) h2];omega
structure wR(t:RT):Prop where
 r:∀ k,0≤t.av k∧t.av k≤18446744073709551615
 i:0≤t.into∧t.into≤8
 j:0≤t.ar∧t.ar≤16
 p:0≤t.pc∧t.pc≤1000000
 v:0≤t.value∧t.value≤18446744073709551615
def fM(s:RSp):Prop:=∀ m,wR (s.thr m)
theorem fM.dR{s s':RSp}(h:fM s){n:Nat}{t:RT}(e:s'.thr=dR s.thr n t)(ht:wR t):fM s':=fun m=>by
 rw[e];unfold SLYtefdijgllbkmfaaGreat.dR;split;exact ht;exact h m
theorem Cn{b:Nat}{a:RA}{vw vl:Value}:(lf b a vw vl).set (7+2) (.bool true)=lf b a.ending vw vl:=rfl
theorem EU{b:Nat}{a:RA}{vw vl:Value}:(lf b a vw vl).set (7+3) (.bool true)=lf b {a with e:={a.e with yielded:=true } } vw vl:=rfl
theorem pW{thr:Nat→RT}{self:Nat}{h:Int}:∀ {f n:Nat},(cz thr self h f n).2=0→ ∃ m:Nat,(cz thr self h f n).1=(m:Int)∧n≤m∧m<n+f∧¬m=self∧(thr m).used=true∧(thr m).handle=h∧(thr m).pq=false∧(thr m).ar=0
 | 0,n,e=>by simp[cz] at e
 | f+1,n,e=>by
  rw[cz] at e ⊢
  try simp only at e ⊢
  split at e
  ·rename_i hc
   rw[if_pos hc]
   obtain⟨m,h1,h2,h3,h4⟩:=pW e
   exact⟨m,h1,by omega,by omega,h4⟩
  ·rename_i hc
   rw[if_neg hc]
   split at e
   ·simp at e
   ·rename_i hj
    rw[if_neg hj]
    simp only[not_or,Bool.not_eq_true,Bool.not_eq_false,Decidable.not_not] at hc hj
    exact⟨n,rfl,Nat.le_refl _,by omega,hc.2.2.1,hc.1,hc.2.1,hc.2.2.2,hj⟩
theorem jm{thr:Nat→RT}{self:Nat}{h:Int}:∀ {f n:Nat},(cz thr self h f n).2=0∨(cz thr self h f n).2=3∨(cz thr self h f n).2=4
 | 0,n=>by simp[cz]
 | f+1,n=>by
  rw[cz]
  try simp only
  split
  ·exact jm
  ·split
   ·simp
   ·simp
section
variable{a:RA}{x:Int}{m:Nat}
theorem yc(h:¬(a.other x).2=0):a.join x=a.done x 0 (a.other x).2:=by unfold RA.join;exact if_pos h
theorem yd(h1:¬¬(a.other x).2=0)(h2:(a.other x).1=(m:Int))(h3:(a.s.thr m).why=9):a.join x=({a.aj (a.t.put a.i.a (a.s.thr m).value) with s:=(a.aj (a.t.put a.i.a (a.s.thr m).value)).s.aj m {(a.aj (a.t.put a.i.a (a.s.thr m).value)).s.t m with used:=false } }:RA).done x (a.s.thr m).value 0:=by
 have e:(a.other x).1.toNat=m:=by rw[h2,Int.toNat_natCast]
 unfold RA.join;simp only[e];exact(if_neg h1).trans (if_pos h3)
theorem uu(h1:¬¬(a.other x).2=0)(h2:(a.other x).1=(m:Int))(h3:¬(a.s.thr m).why=9):a.join x=({a with s:=a.s.aj m {a.s.t m with ar:=(a.n:Int)+1 } }:RA).stop 4 (a.i.a+1) x 0:=by
 have e:(a.other x).1.toNat=m:=by rw[h2,Int.toNat_natCast]
 unfold RA.join;simp only[e];exact(if_neg h1).trans (if_neg h3)
theorem GY(h1:(a.other x).2=0)(h2:(a.other x).1=(m:Int))(h3:(a.s.thr m).why=9):a.cO x=({a with s:=a.s.aj m {a.s.t m with used:=false } }:RA).done x 0 (a.other x).2:=by
 have e:(a.other x).1.toNat=m:=by rw[h2,Int.toNat_natCast]
 unfold RA.cO;simp only[e];rw[if_pos ⟨h1,h3⟩]
theorem Ji(h1:(a.other x).2=0)(h2:(a.other x).1=(m:Int))(h3:¬(a.s.thr m).why=9):a.cO x=({a with s:=a.s.aj m {a.s.t m with pq:=true } }:RA).done x 0 (a.other x).2:=by
 have e:(a.other x).1.toNat=m:=by rw[h2,Int.toNat_natCast]
 unfold RA.cO;simp only[e];rw[if_neg (fun h=>h3 h.2),if_pos h1]
theorem GZ(h1:¬(a.other x).2=0):a.cO x=a.done x 0 (a.other x).2:=by
 unfold RA.cO;simp only;rw[if_neg (fun h=>h1 h.1),if_neg h1]
end
end Go.SLYtefdijgllbkmfaaGreat
