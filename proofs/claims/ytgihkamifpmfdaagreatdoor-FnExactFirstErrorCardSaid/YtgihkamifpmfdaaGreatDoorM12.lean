/- Part 12. No condition. -/
import Derived.Test.YtgihkamifpmfdaaGreatDoorM11
namespace Go.Proofs.YtgihkamifpmfdaaGreatDoor
open Go.RowKit Tryz
set_option linter.unusedVariables false
set_option linter.defProp false
set_option maxRecDepth 10000
set_option linter.unusedSimpArgs false
set_option maxHeartbeats 4000000
abbrev Bn:Sh:=.st [.one,.one,.one]
abbrev Dq:Sh:=.st [.one,.one,.one,.one,Bn,.one,.one]
abbrev IA:Sh:=.st [.one,.one,Dq]
abbrev QK:Sh:=.st [.one,.one,Bn,.one,.one,Dq]
abbrev QO:Sh:=.st [.one,.one,.one,.one,.one]
abbrev QJ:Sh:=.st [.one,.one]
abbrev QN:Sh:=.st [.one,.one,.one]
abbrev NJ:Sh:=.st [.one,Bn]
abbrev QI:Sh:=.st [.one,.one,Dq]
abbrev QM:Sh:=.st [.one,.one,Bn,.one,.one,.one,Bn,.one]
abbrev QH:Sh:=.st [.one,Bn]
abbrev QL:Sh:=.st [.one,.one,.one,.one,Bn,Dq]
abbrev Yj:Sh:=.st [.one,.one,.one,.one,.one,.one]
abbrev nG:Sh:=.st [.one]
abbrev Ai:Sh:=.st [.one,.one,.one]
abbrev Be:Sh:=.st [.one,.one,.one,.one,Ai,.one,.one]
abbrev BL:Sh:=.st [.one,.one,Be]
abbrev CL:Sh:=.st [.one,.one,Ai,.one,.one,Be]
abbrev FL:Sh:=.st [.one,.one,.one,.one,.one]
abbrev DR:Sh:=.st [.one,.one]
abbrev FK:Sh:=.st [.one,.one,.one]
abbrev BC:Sh:=.st [.one,Ai]
abbrev DH:Sh:=.st [.one,.one,Be]
abbrev FJ:Sh:=.st [.one,.one,Ai,.one,.one,.one,Ai,.one]
abbrev CZ:Sh:=.st [.one,Ai]
abbrev FI:Sh:=.st [.one,.one,.one,.one,Ai,Be]
abbrev Dw:Sh:=.st [.one,.one,.one,.one,.one,.one]
abbrev P0:Sh:=.st [.one]
abbrev E8:Sh:=.st [.one,.one,.one,.one]
abbrev CX:Sh:=.st [.one,.one]
abbrev Lj:Sh:=.st [.one,CX]
abbrev nE:Sh:=.st [P0,.one]
abbrev Bd:Sh:=.st [.one,.one,CX,.one]
abbrev jk:Sh:=.st [.one,.one,.one,.one]
abbrev BB:Sh:=.st [.one,Ai]
abbrev Bf:Sh:=.st [BC,.one,.one]
abbrev ji:Sh:=.st [P0,.one]
def tyF:Nat→Option TI
 |2=>some ⟨.one,.lf (.int .i64 0),[.int .i64 0],8,.int .i64⟩
 |3=>some ⟨.one,.lf (.int .i64 0),[.int .i64 0],8,.int .i64⟩
 |4=>some ⟨.one,.lf (.bool false),[.bool false],1,.bool⟩
 |5=>some ⟨.one,.lf (.int .u8 0),[.int .u8 0],1,.int .u8⟩
 |9=>some ⟨.one,.lf (.string ⟨#[]⟩),[.string ⟨#[]⟩],16,.str⟩
 |39=>some ⟨.one,.sl true .one [],[.slice none 0 0],24,.sl 9 .one⟩
 |176=>some ⟨Bn,.st [.lf (.int .i64 0),.lf (.string ⟨#[]⟩),.sl true Bn []],[.int .i64 0,.string ⟨#[]⟩,.slice none 0 0],48,.st [(3,.one),(9,.one),(174,.one)]⟩
 |174=>some ⟨.one,.sl true Bn [],[.slice none 0 0],24,.sl 176 Bn⟩
 |183=>some ⟨.one,.sl true Dq [],[.slice none 0 0],24,.sl 186 Dq⟩
 |394=>some ⟨IA,.st [.lf (.string ⟨#[]⟩),.sl true .one [],.st [.lf (.int .i64 0),.lf (.string ⟨#[]⟩),.lf (.string ⟨#[]⟩),.lf (.int .i64 0),.st [.lf (.int .i64 0),.lf (.string ⟨#[]⟩),.sl true Bn []],.sl true Dq [],.sl true IA []]],[.string ⟨#[]⟩,.slice none 0 0,.int .i64 0,.string ⟨#[]⟩,.string ⟨#[]⟩,.int .i64 0,.int .i64 0,.string ⟨#[]⟩,.slice none 0 0,.slice none 0 0,.slice none 0 0],184,.st [(9,.one),(39,.one),(186,Dq)]⟩
 |184=>some ⟨.one,.sl true IA [],[.slice none 0 0],24,.sl 394 IA⟩
 |186=>some ⟨Dq,.st [.lf (.int .i64 0),.lf (.string ⟨#[]⟩),.lf (.string ⟨#[]⟩),.lf (.int .i64 0),.st [.lf (.int .i64 0),.lf (.string ⟨#[]⟩),.sl true Bn []],.sl true Dq [],.sl true IA []],[.int .i64 0,.string ⟨#[]⟩,.string ⟨#[]⟩,.int .i64 0,.int .i64 0,.string ⟨#[]⟩,.slice none 0 0,.slice none 0 0,.slice none 0 0],144,.st [(3,.one),(9,.one),(9,.one),(3,.one),(176,Bn),(183,.one),(184,.one)]⟩
 |319=>some ⟨QK,.st [.lf (.string ⟨#[]⟩),.sl true Bn [],.st [.lf (.int .i64 0),.lf (.string ⟨#[]⟩),.sl true Bn []],.lf (.bool false),.sl true .one [],.st [.lf (.int .i64 0),.lf (.string ⟨#[]⟩),.lf (.string ⟨#[]⟩),.lf (.int .i64 0),.st [.lf (.int .i64 0),.lf (.string ⟨#[]⟩),.sl true Bn []],.sl true Dq [],.sl true IA []]],[.string ⟨#[]⟩,.slice none 0 0,.int .i64 0,.string ⟨#[]⟩,.slice none 0 0,.bool false,.slice none 0 0,.int .i64 0,.string ⟨#[]⟩,.string ⟨#[]⟩,.int .i64 0,.int .i64 0,.string ⟨#[]⟩,.slice none 0 0,.slice none 0 0,.slice none 0 0],264,.st [(9,.one),(174,.one),(176,Bn),(4,.one),(39,.one),(186,Dq)]⟩
 |166=>some ⟨.one,.sl true QK [],[.slice none 0 0],24,.sl 319 QK⟩
 |168=>some ⟨QO,.st [.lf (.string ⟨#[]⟩),.sl true .one [],.lf (.bool false),.lf (.bool false),.sl true QK []],[.string ⟨#[]⟩,.slice none 0 0,.bool false,.bool false,.slice none 0 0],72,.st [(9,.one),(39,.one),(4,.one),(4,.one),(166,.one)]⟩
 |56=>some ⟨.one,.sl true QO [],[.slice none 0 0],24,.sl 168 QO⟩
 |322=>some ⟨QJ,.st [.lf (.string ⟨#[]⟩),.sl true Bn []],[.string ⟨#[]⟩,.slice none 0 0],40,.st [(9,.one),(174,.one)]⟩
 |170=>some ⟨.one,.sl true QJ [],[.slice none 0 0],24,.sl 322 QJ⟩
 |172=>some ⟨QN,.st [.lf (.string ⟨#[]⟩),.sl true .one [],.sl true QJ []],[.string ⟨#[]⟩,.slice none 0 0,.slice none 0 0],64,.st [(9,.one),(39,.one),(170,.one)]⟩
 |57=>some ⟨.one,.sl true QN [],[.slice none 0 0],24,.sl 172 QN⟩
 |326=>some ⟨NJ,.st [.lf (.string ⟨#[]⟩),.st [.lf (.int .i64 0),.lf (.string ⟨#[]⟩),.sl true Bn []]],[.string ⟨#[]⟩,.int .i64 0,.string ⟨#[]⟩,.slice none 0 0],64,.st [(9,.one),(176,Bn)]⟩
 |177=>some ⟨.one,.sl true NJ [],[.slice none 0 0],24,.sl 326 NJ⟩
 |329=>some ⟨QI,.st [.lf (.string ⟨#[]⟩),.sl true .one [],.st [.lf (.int .i64 0),.lf (.string ⟨#[]⟩),.lf (.string ⟨#[]⟩),.lf (.int .i64 0),.st [.lf (.int .i64 0),.lf (.string ⟨#[]⟩),.sl true Bn []],.sl true Dq [],.sl true IA []]],[.string ⟨#[]⟩,.slice none 0 0,.int .i64 0,.string ⟨#[]⟩,.string ⟨#[]⟩,.int .i64 0,.int .i64 0,.string ⟨#[]⟩,.slice none 0 0,.slice none 0 0,.slice none 0 0],184,.st [(9,.one),(39,.one),(186,Dq)]⟩
 |178=>some ⟨.one,.sl true QI [],[.slice none 0 0],24,.sl 329 QI⟩
 |180=>some ⟨QM,.st [.lf (.string ⟨#[]⟩),.sl true .one [],.st [.lf (.int .i64 0),.lf (.string ⟨#[]⟩),.sl true Bn []],.sl true NJ [],.lf (.bool false),.lf (.bool false),.st [.lf (.int .i64 0),.lf (.string ⟨#[]⟩),.sl true Bn []],.sl true QI []],[.string ⟨#[]⟩,.slice none 0 0,.int .i64 0,.string ⟨#[]⟩,.slice none 0 0,.slice none 0 0,.bool false,.bool false,.int .i64 0,.string ⟨#[]⟩,.slice none 0 0,.slice none 0 0],192,.st [(9,.one),(39,.one),(176,Bn),(177,.one),(4,.one),(4,.one),(176,Bn),(178,.one)]⟩
 |58=>some ⟨.one,.sl true QM [],[.slice none 0 0],24,.sl 180 QM⟩
 |332=>some ⟨QH,.st [.lf (.string ⟨#[]⟩),.st [.lf (.int .i64 0),.lf (.string ⟨#[]⟩),.sl true Bn []]],[.string ⟨#[]⟩,.int .i64 0,.string ⟨#[]⟩,.slice none 0 0],64,.st [(9,.one),(176,Bn)]⟩
 |182=>some ⟨.one,.sl true QH [],[.slice none 0 0],24,.sl 332 QH⟩
 |188=>some ⟨QL,.st [.lf (.string ⟨#[]⟩),.sl true .one [],.sl true NJ [],.sl true QH [],.st [.lf (.int .i64 0),.lf (.string ⟨#[]⟩),.sl true Bn []],.st [.lf (.int .i64 0),.lf (.string ⟨#[]⟩),.lf (.string ⟨#[]⟩),.lf (.int .i64 0),.st [.lf (.int .i64 0),.lf (.string ⟨#[]⟩),.sl true Bn []],.sl true Dq [],.sl true IA []]],[.string ⟨#[]⟩,.slice none 0 0,.slice none 0 0,.slice none 0 0,.int .i64 0,.string ⟨#[]⟩,.slice none 0 0,.int .i64 0,.string ⟨#[]⟩,.string ⟨#[]⟩,.int .i64 0,.int .i64 0,.string ⟨#[]⟩,.slice none 0 0,.slice none 0 0,.slice none 0 0],280,.st [(9,.one),(39,.one),(177,.one),(182,.one),(176,Bn),(186,Dq)]⟩
 |59=>some ⟨.one,.sl true QL [],[.slice none 0 0],24,.sl 188 QL⟩
 |61=>some ⟨Yj,.st [.lf (.string ⟨#[]⟩),.sl true .one [],.sl true QO [],.sl true QN [],.sl true QM [],.sl true QL []],[.string ⟨#[]⟩,.slice none 0 0,.slice none 0 0,.slice none 0 0,.slice none 0 0,.slice none 0 0],136,.st [(9,.one),(39,.one),(56,.one),(57,.one),(58,.one),(59,.one)]⟩
 |22=>some ⟨.one,.sl true Yj [],[.slice none 0 0],24,.sl 61 Yj⟩
 |24=>some ⟨nG,.st [.sl true Yj []],[.slice none 0 0],24,.st [(22,.one)]⟩
 |85=>some ⟨Ai,.st [.lf (.int .i64 0),.lf (.string ⟨#[]⟩),.sl true Ai []],[.int .i64 0,.string ⟨#[]⟩,.slice none 0 0],48,.st [(3,.one),(9,.one),(83,.one)]⟩
 |83=>some ⟨.one,.sl true Ai [],[.slice none 0 0],24,.sl 85 Ai⟩
 |92=>some ⟨.one,.sl true Be [],[.slice none 0 0],24,.sl 95 Be⟩
 |229=>some ⟨BL,.st [.lf (.string ⟨#[]⟩),.sl true .one [],.st [.lf (.int .i64 0),.lf (.string ⟨#[]⟩),.lf (.string ⟨#[]⟩),.lf (.int .i64 0),.st [.lf (.int .i64 0),.lf (.string ⟨#[]⟩),.sl true Ai []],.sl true Be [],.sl true BL []]],[.string ⟨#[]⟩,.slice none 0 0,.int .i64 0,.string ⟨#[]⟩,.string ⟨#[]⟩,.int .i64 0,.int .i64 0,.string ⟨#[]⟩,.slice none 0 0,.slice none 0 0,.slice none 0 0],184,.st [(9,.one),(39,.one),(95,Be)]⟩
 |93=>some ⟨.one,.sl true BL [],[.slice none 0 0],24,.sl 229 BL⟩
 |95=>some ⟨Be,.st [.lf (.int .i64 0),.lf (.string ⟨#[]⟩),.lf (.string ⟨#[]⟩),.lf (.int .i64 0),.st [.lf (.int .i64 0),.lf (.string ⟨#[]⟩),.sl true Ai []],.sl true Be [],.sl true BL []],[.int .i64 0,.string ⟨#[]⟩,.string ⟨#[]⟩,.int .i64 0,.int .i64 0,.string ⟨#[]⟩,.slice none 0 0,.slice none 0 0,.slice none 0 0],144,.st [(3,.one),(9,.one),(9,.one),(3,.one),(85,Ai),(92,.one),(93,.one)]⟩
 |137=>some ⟨CL,.st [.lf (.string ⟨#[]⟩),.sl true Ai [],.st [.lf (.int .i64 0),.lf (.string ⟨#[]⟩),.sl true Ai []],.lf (.bool false),.sl true .one [],.st [.lf (.int .i64 0),.lf (.string ⟨#[]⟩),.lf (.string ⟨#[]⟩),.lf (.int .i64 0),.st [.lf (.int .i64 0),.lf (.string ⟨#[]⟩),.sl true Ai []],.sl true Be [],.sl true BL []]],[.string ⟨#[]⟩,.slice none 0 0,.int .i64 0,.string ⟨#[]⟩,.slice none 0 0,.bool false,.slice none 0 0,.int .i64 0,.string ⟨#[]⟩,.string ⟨#[]⟩,.int .i64 0,.int .i64 0,.string ⟨#[]⟩,.slice none 0 0,.slice none 0 0,.slice none 0 0],264,.st [(9,.one),(83,.one),(85,Ai),(4,.one),(39,.one),(95,Be)]⟩
 |75=>some ⟨.one,.sl true CL [],[.slice none 0 0],24,.sl 137 CL⟩
 |77=>some ⟨FL,.st [.lf (.string ⟨#[]⟩),.sl true .one [],.lf (.bool false),.lf (.bool false),.sl true CL []],[.string ⟨#[]⟩,.slice none 0 0,.bool false,.bool false,.slice none 0 0],72,.st [(9,.one),(39,.one),(4,.one),(4,.one),(75,.one)]⟩
 |40=>some ⟨.one,.sl true FL [],[.slice none 0 0],24,.sl 77 FL⟩
 |144=>some ⟨DR,.st [.lf (.string ⟨#[]⟩),.sl true Ai []],[.string ⟨#[]⟩,.slice none 0 0],40,.st [(9,.one),(83,.one)]⟩
 |79=>some ⟨.one,.sl true DR [],[.slice none 0 0],24,.sl 144 DR⟩
 |81=>some ⟨FK,.st [.lf (.string ⟨#[]⟩),.sl true .one [],.sl true DR []],[.string ⟨#[]⟩,.slice none 0 0,.slice none 0 0],64,.st [(9,.one),(39,.one),(79,.one)]⟩
 |41=>some ⟨.one,.sl true FK [],[.slice none 0 0],24,.sl 81 FK⟩
 |207=>some ⟨BC,.st [.lf (.string ⟨#[]⟩),.st [.lf (.int .i64 0),.lf (.string ⟨#[]⟩),.sl true Ai []]],[.string ⟨#[]⟩,.int .i64 0,.string ⟨#[]⟩,.slice none 0 0],64,.st [(9,.one),(85,Ai)]⟩
 |86=>some ⟨.one,.sl true BC [],[.slice none 0 0],24,.sl 207 BC⟩
 |148=>some ⟨DH,.st [.lf (.string ⟨#[]⟩),.sl true .one [],.st [.lf (.int .i64 0),.lf (.string ⟨#[]⟩),.lf (.string ⟨#[]⟩),.lf (.int .i64 0),.st [.lf (.int .i64 0),.lf (.string ⟨#[]⟩),.sl true Ai []],.sl true Be [],.sl true BL []]],[.string ⟨#[]⟩,.slice none 0 0,.int .i64 0,.string ⟨#[]⟩,.string ⟨#[]⟩,.int .i64 0,.int .i64 0,.string ⟨#[]⟩,.slice none 0 0,.slice none 0 0,.slice none 0 0],184,.st [(9,.one),(39,.one),(95,Be)]⟩
 |87=>some ⟨.one,.sl true DH [],[.slice none 0 0],24,.sl 148 DH⟩
 |89=>some ⟨FJ,.st [.lf (.string ⟨#[]⟩),.sl true .one [],.st [.lf (.int .i64 0),.lf (.string ⟨#[]⟩),.sl true Ai []],.sl true BC [],.lf (.bool false),.lf (.bool false),.st [.lf (.int .i64 0),.lf (.string ⟨#[]⟩),.sl true Ai []],.sl true DH []],[.string ⟨#[]⟩,.slice none 0 0,.int .i64 0,.string ⟨#[]⟩,.slice none 0 0,.slice none 0 0,.bool false,.bool false,.int .i64 0,.string ⟨#[]⟩,.slice none 0 0,.slice none 0 0],192,.st [(9,.one),(39,.one),(85,Ai),(86,.one),(4,.one),(4,.one),(85,Ai),(87,.one)]⟩
 |42=>some ⟨.one,.sl true FJ [],[.slice none 0 0],24,.sl 89 FJ⟩
 |199=>some ⟨CZ,.st [.lf (.string ⟨#[]⟩),.st [.lf (.int .i64 0),.lf (.string ⟨#[]⟩),.sl true Ai []]],[.string ⟨#[]⟩,.int .i64 0,.string ⟨#[]⟩,.slice none 0 0],64,.st [(9,.one),(85,Ai)]⟩
 |91=>some ⟨.one,.sl true CZ [],[.slice none 0 0],24,.sl 199 CZ⟩
 |97=>some ⟨FI,.st [.lf (.string ⟨#[]⟩),.sl true .one [],.sl true BC [],.sl true CZ [],.st [.lf (.int .i64 0),.lf (.string ⟨#[]⟩),.sl true Ai []],.st [.lf (.int .i64 0),.lf (.string ⟨#[]⟩),.lf (.string ⟨#[]⟩),.lf (.int .i64 0),.st [.lf (.int .i64 0),.lf (.string ⟨#[]⟩),.sl true Ai []],.sl true Be [],.sl true BL []]],[.string ⟨#[]⟩,.slice none 0 0,.slice none 0 0,.slice none 0 0,.int .i64 0,.string ⟨#[]⟩,.slice none 0 0,.int .i64 0,.string ⟨#[]⟩,.string ⟨#[]⟩,.int .i64 0,.int .i64 0,.string ⟨#[]⟩,.slice none 0 0,.slice none 0 0,.slice none 0 0],280,.st [(9,.one),(39,.one),(86,.one),(91,.one),(85,Ai),(95,Be)]⟩
 |43=>some ⟨.one,.sl true FI [],[.slice none 0 0],24,.sl 97 FI⟩
 |45=>some ⟨Dw,.st [.lf (.string ⟨#[]⟩),.sl true .one [],.sl true FL [],.sl true FK [],.sl true FJ [],.sl true FI []],[.string ⟨#[]⟩,.slice none 0 0,.slice none 0 0,.slice none 0 0,.slice none 0 0,.slice none 0 0],136,.st [(9,.one),(39,.one),(40,.one),(41,.one),(42,.one),(43,.one)]⟩
 |27=>some ⟨.one,.sl true Dw [],[.slice none 0 0],24,.sl 45 Dw⟩
 |29=>some ⟨P0,.st [.sl true Dw []],[.slice none 0 0],24,.st [(27,.one)]⟩
 |37=>some ⟨E8,.st [.lf (.int .i64 0),.lf (.int .i64 0),.lf (.string ⟨#[]⟩),.lf (.string ⟨#[]⟩)],[.int .i64 0,.int .i64 0,.string ⟨#[]⟩,.string ⟨#[]⟩],48,.st [(3,.one),(3,.one),(9,.one),(9,.one)]⟩
 |34=>some ⟨.one,.sl true E8 [],[.slice none 0 0],24,.sl 37 E8⟩
 |49=>some ⟨CX,.st [.lf (.int .i64 0),.lf (.int .i64 0)],[.int .i64 0,.int .i64 0],16,.st [(3,.one),(3,.one)]⟩
 |51=>some ⟨Lj,.st [.lf (.int .i64 0),.st [.lf (.int .i64 0),.lf (.int .i64 0)]],[.int .i64 0,.int .i64 0,.int .i64 0],24,.st [(3,.one),(49,CX)]⟩
 |46=>some ⟨.one,.sl true Lj [],[.slice none 0 0],24,.sl 51 Lj⟩
 |65=>some ⟨.one,.sl true CX [],[.slice none 0 0],24,.sl 49 CX⟩
 |68=>some ⟨.one,.sl true .one [],[.slice none 0 0],24,.sl 5 .one⟩
 |70=>some ⟨.one,.sl true .one [],[.slice none 0 0],24,.sl 3 .one⟩
 |72=>some ⟨nE,.st [.st [.sl true Dw []],.sl true .one []],[.slice none 0 0,.slice none 0 0],48,.st [(29,P0),(70,.one)]⟩
 |211=>some ⟨Bd,.st [.lf (.int .i64 0),.lf (.int .i64 0),.st [.lf (.int .i64 0),.lf (.int .i64 0)],.sl true Bd []],[.int .i64 0,.int .i64 0,.int .i64 0,.int .i64 0,.slice none 0 0],56,.st [(3,.one),(3,.one),(49,CX),(124,.one)]⟩
 |124=>some ⟨.one,.sl true Bd [],[.slice none 0 0],24,.sl 211 Bd⟩
 |224=>some ⟨.one,.sl true .one [],[.slice none 0 0],24,.sl 4 .one⟩
 |235=>some ⟨jk,.st [.sl true .one [],.sl true .one [],.sl true .one [],.sl true .one []],[.slice none 0 0,.slice none 0 0,.slice none 0 0,.slice none 0 0],96,.ar 4 39 .one⟩
 |346=>some ⟨BB,.st [.lf (.string ⟨#[]⟩),.st [.lf (.int .i64 0),.lf (.string ⟨#[]⟩),.sl true Ai []]],[.string ⟨#[]⟩,.int .i64 0,.string ⟨#[]⟩,.slice none 0 0],64,.st [(9,.one),(85,Ai)]⟩
 |258=>some ⟨.one,.sl true BB [],[.slice none 0 0],24,.sl 346 BB⟩
 |353=>some ⟨Bf,.st [.st [.lf (.string ⟨#[]⟩),.st [.lf (.int .i64 0),.lf (.string ⟨#[]⟩),.sl true Ai []]],.lf (.int .i64 0),.sl true .one []],[.string ⟨#[]⟩,.int .i64 0,.string ⟨#[]⟩,.slice none 0 0,.int .i64 0,.slice none 0 0],96,.st [(207,BC),(3,.one),(70,.one)]⟩
 |268=>some ⟨.one,.sl true Bf [],[.slice none 0 0],24,.sl 353 Bf⟩
 |306=>some ⟨.one,.lf (.int .u64 0),[.int .u64 0],8,.int .u64⟩
 |375=>some ⟨ji,.st [.st [.sl true Dw []],.sl true Bf []],[.slice none 0 0,.slice none 0 0],48,.st [(29,P0),(268,.one)]⟩
 |382=>some ⟨.one,.lf (.int .u32 0),[.int .u32 0],4,.int .u32⟩
 |384=>some ⟨.one,.lf (.int .u64 0),[.int .u64 0],8,.int .u64⟩
 |395=>some ⟨.one,.sl true .one [],[.slice none 0 0],24,.sl 70 .one⟩
 |443=>some ⟨.one,.sl true .one [],[.slice none 0 0],24,.sl 39 .one⟩
 |_=>none
theorem dQ:∀T ti,tyF T=some ti→Mg prog T ti:=by
 intro T ti h
 unfold tyF at h
 split at h<;>first|(cases h;done)|(cases h;exact Mg.of (by kernel_rfl) rfl (by kernel_rfl) rfl (by intro fl h;cases h<;>rfl))
noncomputable def cx:Cx:=⟨prog,tyF,dQ⟩
def ty2:=@id (cx.ty 2=some _) rfl
def ty3:=@id (cx.ty 3=some _) rfl
def ty4:=@id (cx.ty 4=some _) rfl
def ty5:=@id (cx.ty 5=some _) rfl
def ty9:=@id (cx.ty 9=some _) rfl
def my:=@id (cx.ty 39=some _) rfl
def jP:=@id (cx.ty 176=some _) rfl
def jQ:=@id (cx.ty 174=some _) rfl
def jK:=@id (cx.ty 183=some _) rfl
def ir:=@id (cx.ty 394=some _) rfl
def jJ:=@id (cx.ty 184=some _) rfl
def jI:=@id (cx.ty 186=some _) rfl
def j7:=@id (cx.ty 319=some _) rfl
def jU:=@id (cx.ty 166=some _) rfl
def jT:=@id (cx.ty 168=some _) rfl
def mi:=@id (cx.ty 56=some _) rfl
def j6:=@id (cx.ty 322=some _) rfl
def jS:=@id (cx.ty 170=some _) rfl
def jR:=@id (cx.ty 172=some _) rfl
def mh:=@id (cx.ty 57=some _) rfl
def j5:=@id (cx.ty 326=some _) rfl
def jO:=@id (cx.ty 177=some _) rfl
def j4:=@id (cx.ty 329=some _) rfl
def jN:=@id (cx.ty 178=some _) rfl
def jM:=@id (cx.ty 180=some _) rfl
def mg:=@id (cx.ty 58=some _) rfl
def j3:=@id (cx.ty 332=some _) rfl
def jL:=@id (cx.ty 182=some _) rfl
def jH:=@id (cx.ty 188=some _) rfl
def mf:=@id (cx.ty 59=some _) rfl
def me:=@id (cx.ty 61=some _) rfl
def n8:=@id (cx.ty 22=some _) rfl
def n7:=@id (cx.ty 24=some _) rfl
def mT:=@id (cx.ty 85=some _) rfl
def mU:=@id (cx.ty 83=some _) rfl
def mO:=@id (cx.ty 92=some _) rfl
def jC:=@id (cx.ty 229=some _) rfl
def mN:=@id (cx.ty 93=some _) rfl
def mM:=@id (cx.ty 95=some _) rfl
def jX:=@id (cx.ty 137=some _) rfl
def mY:=@id (cx.ty 75=some _) rfl
def mX:=@id (cx.ty 77=some _) rfl
def mw:=@id (cx.ty 40=some _) rfl
def jW:=@id (cx.ty 144=some _) rfl
def mW:=@id (cx.ty 79=some _) rfl
def mV:=@id (cx.ty 81=some _) rfl
def mu:=@id (cx.ty 41=some _) rfl
def jF:=@id (cx.ty 207=some _) rfl
def mS:=@id (cx.ty 86=some _) rfl
def jV:=@id (cx.ty 148=some _) rfl
def mR:=@id (cx.ty 87=some _) rfl
def mQ:=@id (cx.ty 89=some _) rfl
def mr:=@id (cx.ty 42=some _) rfl
def jG:=@id (cx.ty 199=some _) rfl
def mP:=@id (cx.ty 91=some _) rfl
def mL:=@id (cx.ty 97=some _) rfl
def mq:=@id (cx.ty 43=some _) rfl
def mo:=@id (cx.ty 45=some _) rfl
def n6:=@id (cx.ty 27=some _) rfl
def n5:=@id (cx.ty 29=some _) rfl
def mz:=@id (cx.ty 37=some _) rfl
def n4:=@id (cx.ty 34=some _) rfl
def ml:=@id (cx.ty 49=some _) rfl
def mj:=@id (cx.ty 51=some _) rfl
def mm:=@id (cx.ty 46=some _) rfl
def md:=@id (cx.ty 65=some _) rfl
def mc:=@id (cx.ty 68=some _) rfl
def ma:=@id (cx.ty 70=some _) rfl
def mZ:=@id (cx.ty 72=some _) rfl
def jE:=@id (cx.ty 211=some _) rfl
def jY:=@id (cx.ty 124=some _) rfl
def jD:=@id (cx.ty 224=some _) rfl
def jB:=@id (cx.ty 235=some _) rfl
def j2:=@id (cx.ty 346=some _) rfl
def jA:=@id (cx.ty 258=some _) rfl
def iz:=@id (cx.ty 353=some _) rfl
def j9:=@id (cx.ty 268=some _) rfl
def j8:=@id (cx.ty 306=some _) rfl
def iy:=@id (cx.ty 375=some _) rfl
def ix:=@id (cx.ty 382=some _) rfl
def iu:=@id (cx.ty 384=some _) rfl
def iq:=@id (cx.ty 395=some _) rfl
def ip:=@id (cx.ty 443=some _) rfl
def AO.dd (_o:Bool) (x:AO):DD:=.st [.lf (.int .i64 x.Dt),.lf (.int .i64 x.BA),.lf (.string x.AH),.lf (.string x.A5)]
theorem AO.dd_eq (o:Bool) (x:AO):x.dd o=.st [.lf (.int .i64 x.Dt),.lf (.int .i64 x.BA),.lf (.string x.AH),.lf (.string x.A5)]:=rfl
theorem AO.sh_dd (o:Bool) (x:AO):(x.dd o).sh=E8:=by
 rw[AO.dd_eq];simp only[DD.sh,DD.shs]
theorem AO.vw_dd (o:Bool) (x:AO):(x.dd o).vw=x.dd false:=by
 simp only[AO.dd_eq,DD.vw,DD.vws]
theorem AO.is_dd (o:Bool) (x:AO):(x.dd o).is o x.enc:=by
 rw[AO.dd_eq,AO.enc_eq]
 exact D6 (Ak (BQ _) (Ak (BQ _) (Ak (BQ _) (Ak (BQ _) (Bz)))))
theorem AO.vws_dd (o:Bool) (l:List AO):DD.vws (l.map (AO.dd o))=l.map (AO.dd false):=B6 (AO.vw_dd o) l
theorem AO.shs_dd (o:Bool) (l:List AO):DD.shs (l.map (AO.dd o))=List.replicate l.length E8:=BN (AO.sh_dd o) l
def A3.dd (_o:Bool) (x:A3):DD:=.st [.lf (.int .i64 x.BA),.lf (.int .i64 x.fAt)]
theorem A3.dd_eq (o:Bool) (x:A3):x.dd o=.st [.lf (.int .i64 x.BA),.lf (.int .i64 x.fAt)]:=rfl
theorem A3.sh_dd (o:Bool) (x:A3):(x.dd o).sh=CX:=by
 rw[A3.dd_eq];simp only[DD.sh,DD.shs]
theorem A3.vw_dd (o:Bool) (x:A3):(x.dd o).vw=x.dd false:=by
 simp only[A3.dd_eq,DD.vw,DD.vws]
theorem A3.is_dd (o:Bool) (x:A3):(x.dd o).is o x.enc:=by
 rw[A3.dd_eq,A3.enc_eq]
 exact D6 (Ak (BQ _) (Ak (BQ _) (Bz)))
theorem A3.vws_dd (o:Bool) (l:List A3):DD.vws (l.map (A3.dd o))=l.map (A3.dd false):=B6 (A3.vw_dd o) l
theorem A3.shs_dd (o:Bool) (l:List A3):DD.shs (l.map (A3.dd o))=List.replicate l.length CX:=BN (A3.sh_dd o) l
def AP.dd (o:Bool) (x:AP):DD:=.st [.lf (.int .i64 x.Dt),A3.dd o x.fAt]
theorem AP.dd_eq (o:Bool) (x:AP):x.dd o=.st [.lf (.int .i64 x.Dt),A3.dd o x.fAt]:=rfl
theorem AP.sh_dd (o:Bool) (x:AP):(x.dd o).sh=Lj:=by
 rw[AP.dd_eq];simp only[DD.sh,DD.shs,A3.sh_dd]
theorem AP.vw_dd (o:Bool) (x:AP):(x.dd o).vw=x.dd false:=by
 simp only[AP.dd_eq,DD.vw,DD.vws,A3.vw_dd o]
theorem AP.is_dd (o:Bool) (x:AP):(x.dd o).is o x.enc:=by
 rw[AP.dd_eq,AP.enc_eq]
 exact D6 (Ak (BQ _) (Ak (A3.is_dd o x.fAt) (Bz)))
theorem AP.vws_dd (o:Bool) (l:List AP):DD.vws (l.map (AP.dd o))=l.map (AP.dd false):=B6 (AP.vw_dd o) l
theorem AP.shs_dd (o:Bool) (l:List AP):DD.shs (l.map (AP.dd o))=List.replicate l.length Lj:=BN (AP.sh_dd o) l
mutual
def A7.dd (o:Bool):A7→DD
 |⟨AH,fN,fAt,AB⟩=> .st [.lf (.int .i64 AH),.lf (.int .i64 fN),A3.dd o fAt,.sl o Bd (A7.dds o AB)]
def A7.dds (o:Bool):List A7→List DD
 |[]=>[]
 |x::l=>x.dd o::A7.dds o l
end
theorem A7.dds_eq (o:Bool):∀l:List A7,A7.dds o l=l.map (A7.dd o)
 |[]=>rfl
 |x::l=>by simp only[A7.dds,A7.dds_eq o l,List.map_cons]
theorem A7.dd_eq (o:Bool) (x:A7):x.dd o=.st [.lf (.int .i64 x.AH),.lf (.int .i64 x.fN),A3.dd o x.fAt,.sl o Bd (x.AB.map (A7.dd o))]:=by
 cases x;simp only[A7.dd,A7.dds_eq]
theorem A7.sh_dd (o:Bool) (x:A7):(x.dd o).sh=Bd:=by
 rw[A7.dd_eq];simp only[DD.sh,DD.shs,A3.sh_dd]
mutual
theorem A7.vw_dd (o:Bool):∀x:A7,(x.dd o).vw=x.dd false
 |⟨AH,fN,fAt,AB⟩=>by simp only[A7.dd,DD.vw,DD.vws,A3.vw_dd o fAt,A7.vws_dds o AB]
theorem A7.vws_dds (o:Bool):∀l:List A7,DD.vws (A7.dds o l)=A7.dds false l
 |[]=>rfl
 |x::l=>by simp only[A7.dds,DD.vws,A7.vw_dd o x,A7.vws_dds o l]
end
mutual
theorem A7.is_dd (o:Bool) (x:A7):(x.dd o).is o x.enc:=by
 rw[A7.dd_eq,A7.enc_eq]
 exact D6 (Ak (BQ _) (Ak (BQ _) (Ak (A3.is_dd o x.fAt) (Ak (CD (A7.sh_dd o) (by decide) (fun y hy=>A7.is_dd o y)) (Bz)))))
termination_by SizeOf.sizeOf x
decreasing_by all_goals first|(have:=List.sizeOf_lt_of_mem hy;have:=x.lt_fArgs;omega)
end
theorem A7.vws_dd (o:Bool) (l:List A7):DD.vws (l.map (A7.dd o))=l.map (A7.dd false):=B6 (A7.vw_dd o) l
theorem A7.shs_dd (o:Bool) (l:List A7):DD.shs (l.map (A7.dd o))=List.replicate l.length Bd:=BN (A7.sh_dd o) l
mutual
def A0.dd (o:Bool):A0→DD
 |⟨AH,A5,AB⟩=> .st [.lf (.int .i64 AH),.lf (.string A5),.sl o Ai (A0.dds o AB)]
def A0.dds (o:Bool):List A0→List DD
 |[]=>[]
 |x::l=>x.dd o::A0.dds o l
end
theorem A0.dds_eq (o:Bool):∀l:List A0,A0.dds o l=l.map (A0.dd o)
 |[]=>rfl
 |x::l=>by simp only[A0.dds,A0.dds_eq o l,List.map_cons]
theorem A0.dd_eq (o:Bool) (x:A0):x.dd o=.st [.lf (.int .i64 x.AH),.lf (.string x.A5),.sl o Ai (x.AB.map (A0.dd o))]:=by
 cases x;simp only[A0.dd,A0.dds_eq]
theorem A0.sh_dd (o:Bool) (x:A0):(x.dd o).sh=Ai:=by
 rw[A0.dd_eq];simp only[DD.sh,DD.shs]
mutual
theorem A0.vw_dd (o:Bool):∀x:A0,(x.dd o).vw=x.dd false
 |⟨AH,A5,AB⟩=>by simp only[A0.dd,DD.vw,DD.vws,A0.vws_dds o AB]
theorem A0.vws_dds (o:Bool):∀l:List A0,DD.vws (A0.dds o l)=A0.dds false l
 |[]=>rfl
 |x::l=>by simp only[A0.dds,DD.vws,A0.vw_dd o x,A0.vws_dds o l]
end
mutual
theorem A0.is_dd (o:Bool) (x:A0):(x.dd o).is o x.enc:=by
 rw[A0.dd_eq,A0.enc_eq]
 exact D6 (Ak (BQ _) (Ak (BQ _) (Ak (CD (A0.sh_dd o) (by decide) (fun y hy=>A0.is_dd o y)) (Bz))))
termination_by SizeOf.sizeOf x
decreasing_by all_goals first|(have:=List.sizeOf_lt_of_mem hy;have:=x.lt_fArgs;omega)
end
theorem A0.vws_dd (o:Bool) (l:List A0):DD.vws (l.map (A0.dd o))=l.map (A0.dd false):=B6 (A0.vw_dd o) l
theorem A0.shs_dd (o:Bool) (l:List A0):DD.shs (l.map (A0.dd o))=List.replicate l.length Ai:=BN (A0.sh_dd o) l
mutual
def Ac.dd (o:Bool):Ac→DD
 |⟨AZ,Aa,Ab⟩=> .st [.lf (.string AZ),.sl o .one (Aa.map dS),AG.dd o Ab]
def Ac.dds (o:Bool):List Ac→List DD
 |[]=>[]
 |x::l=>x.dd o::Ac.dds o l
def AG.dd (o:Bool):AG→DD
 |⟨AH,AK,A5,fN,AM,AB,Af⟩=> .st [.lf (.int .i64 AH),.lf (.string AK),.lf (.string A5),.lf (.int .i64 fN),A0.dd o AM,.sl o Be (AG.dds o AB),.sl o BL (Ac.dds o Af)]
def AG.dds (o:Bool):List AG→List DD
 |[]=>[]
 |x::l=>x.dd o::AG.dds o l
end
theorem Ac.dds_eq (o:Bool):∀l:List Ac,Ac.dds o l=l.map (Ac.dd o)
 |[]=>rfl
 |x::l=>by simp only[Ac.dds,Ac.dds_eq o l,List.map_cons]
theorem AG.dds_eq (o:Bool):∀l:List AG,AG.dds o l=l.map (AG.dd o)
 |[]=>rfl
 |x::l=>by simp only[AG.dds,AG.dds_eq o l,List.map_cons]
theorem Ac.dd_eq (o:Bool) (x:Ac):x.dd o=.st [.lf (.string x.AZ),.sl o .one (x.Aa.map dS),AG.dd o x.Ab]:=by
 cases x;simp only[Ac.dd]
theorem AG.dd_eq (o:Bool) (x:AG):x.dd o=.st [.lf (.int .i64 x.AH),.lf (.string x.AK),.lf (.string x.A5),.lf (.int .i64 x.fN),A0.dd o x.AM,.sl o Be (x.AB.map (AG.dd o)),.sl o BL (x.Af.map (Ac.dd o))]:=by
 cases x;simp only[AG.dd,Ac.dds_eq,AG.dds_eq]
theorem AG.sh_dd (o:Bool) (x:AG):(x.dd o).sh=Be:=by
 rw[AG.dd_eq];simp only[DD.sh,DD.shs,A0.sh_dd]
theorem Ac.sh_dd (o:Bool) (x:Ac):(x.dd o).sh=BL:=by
 rw[Ac.dd_eq];simp only[DD.sh,DD.shs,AG.sh_dd]
mutual
theorem Ac.vw_dd (o:Bool):∀x:Ac,(x.dd o).vw=x.dd false
 |⟨AZ,Aa,Ab⟩=>by simp only[Ac.dd,DD.vw,DD.vws,EU,AG.vw_dd o Ab]
theorem Ac.vws_dds (o:Bool):∀l:List Ac,DD.vws (Ac.dds o l)=Ac.dds false l
 |[]=>rfl
 |x::l=>by simp only[Ac.dds,DD.vws,Ac.vw_dd o x,Ac.vws_dds o l]
theorem AG.vw_dd (o:Bool):∀x:AG,(x.dd o).vw=x.dd false
 |⟨AH,AK,A5,fN,AM,AB,Af⟩=>by simp only[AG.dd,DD.vw,DD.vws,A0.vw_dd o AM,AG.vws_dds o AB,Ac.vws_dds o Af]
theorem AG.vws_dds (o:Bool):∀l:List AG,DD.vws (AG.dds o l)=AG.dds false l
 |[]=>rfl
 |x::l=>by simp only[AG.dds,DD.vws,AG.vw_dd o x,AG.vws_dds o l]
end
mutual
theorem Ac.is_dd (o:Bool) (x:Ac):(x.dd o).is o x.enc:=by
 rw[Ac.dd_eq,Ac.enc_eq]
 exact D6 (Ak (BQ _) (Ak (CD (s:=.one) (fun _=>rfl) (by decide) (fun _ _=>BQ _)) (Ak (AG.is_dd o x.Ab) (Bz))))
termination_by SizeOf.sizeOf x
decreasing_by all_goals first|(have:=x.lt_fBody;omega)
theorem AG.is_dd (o:Bool) (x:AG):(x.dd o).is o x.enc:=by
 rw[AG.dd_eq,AG.enc_eq]
 exact D6 (Ak (BQ _) (Ak (BQ _) (Ak (BQ _) (Ak (BQ _) (Ak (A0.is_dd o x.AM) (Ak (CD (AG.sh_dd o) (by decide) (fun y hy=>AG.is_dd o y)) (Ak (CD (Ac.sh_dd o) (by decide) (fun y hy=>Ac.is_dd o y)) (Bz))))))))
termination_by SizeOf.sizeOf x
decreasing_by all_goals first|(have:=List.sizeOf_lt_of_mem hy;have:=x.lt_fArgs;omega)|(have:=List.sizeOf_lt_of_mem hy;have:=x.lt_fArms;omega)
end
theorem Ac.vws_dd (o:Bool) (l:List Ac):DD.vws (l.map (Ac.dd o))=l.map (Ac.dd false):=B6 (Ac.vw_dd o) l
theorem Ac.shs_dd (o:Bool) (l:List Ac):DD.shs (l.map (Ac.dd o))=List.replicate l.length BL:=BN (Ac.sh_dd o) l
theorem AG.vws_dd (o:Bool) (l:List AG):DD.vws (l.map (AG.dd o))=l.map (AG.dd false):=B6 (AG.vw_dd o) l
theorem AG.shs_dd (o:Bool) (l:List AG):DD.shs (l.map (AG.dd o))=List.replicate l.length Be:=BN (AG.sh_dd o) l
def A6.dd (o:Bool) (x:A6):DD:=.st [.lf (.string x.Fl),A0.dd o x.AM]
theorem A6.dd_eq (o:Bool) (x:A6):x.dd o=.st [.lf (.string x.Fl),A0.dd o x.AM]:=rfl
theorem A6.sh_dd (o:Bool) (x:A6):(x.dd o).sh=BB:=by
 rw[A6.dd_eq];simp only[DD.sh,DD.shs,A0.sh_dd]
theorem A6.vw_dd (o:Bool) (x:A6):(x.dd o).vw=x.dd false:=by
 simp only[A6.dd_eq,DD.vw,DD.vws,A0.vw_dd o]
theorem A6.is_dd (o:Bool) (x:A6):(x.dd o).is o x.enc:=by
 rw[A6.dd_eq,A6.enc_eq]
 exact D6 (Ak (BQ _) (Ak (A0.is_dd o x.AM) (Bz)))
theorem A6.vws_dd (o:Bool) (l:List A6):DD.vws (l.map (A6.dd o))=l.map (A6.dd false):=B6 (A6.vw_dd o) l
theorem A6.shs_dd (o:Bool) (l:List A6):DD.shs (l.map (A6.dd o))=List.replicate l.length BB:=BN (A6.sh_dd o) l
def A9.dd (o:Bool) (x:A9):DD:=.st [.lf (.string x.AK),A0.dd o x.AM]
theorem A9.dd_eq (o:Bool) (x:A9):x.dd o=.st [.lf (.string x.AK),A0.dd o x.AM]:=rfl
theorem A9.sh_dd (o:Bool) (x:A9):(x.dd o).sh=BC:=by
 rw[A9.dd_eq];simp only[DD.sh,DD.shs,A0.sh_dd]
theorem A9.vw_dd (o:Bool) (x:A9):(x.dd o).vw=x.dd false:=by
 simp only[A9.dd_eq,DD.vw,DD.vws,A0.vw_dd o]
theorem A9.is_dd (o:Bool) (x:A9):(x.dd o).is o x.enc:=by
 rw[A9.dd_eq,A9.enc_eq]
 exact D6 (Ak (BQ _) (Ak (A0.is_dd o x.AM) (Bz)))
theorem A9.vws_dd (o:Bool) (l:List A9):DD.vws (l.map (A9.dd o))=l.map (A9.dd false):=B6 (A9.vw_dd o) l
theorem A9.shs_dd (o:Bool) (l:List A9):DD.shs (l.map (A9.dd o))=List.replicate l.length BC:=BN (A9.sh_dd o) l
def AD.dd (o:Bool) (x:AD):DD:=.st [A9.dd o x.DT,.lf (.int .i64 x.Eu),.sl o .one (x.DY.map dI)]
theorem AD.dd_eq (o:Bool) (x:AD):x.dd o=.st [A9.dd o x.DT,.lf (.int .i64 x.Eu),.sl o .one (x.DY.map dI)]:=rfl
theorem AD.sh_dd (o:Bool) (x:AD):(x.dd o).sh=Bf:=by
 rw[AD.dd_eq];simp only[DD.sh,DD.shs,A9.sh_dd]
theorem AD.vw_dd (o:Bool) (x:AD):(x.dd o).vw=x.dd false:=by
 simp only[AD.dd_eq,DD.vw,DD.vws,A9.vw_dd o,Tw]
theorem AD.is_dd (o:Bool) (x:AD):(x.dd o).is o x.enc:=by
 rw[AD.dd_eq,AD.enc_eq]
 exact D6 (Ak (A9.is_dd o x.DT) (Ak (BQ _) (Ak (CD (s:=.one) (fun _=>rfl) (by decide) (fun _ _=>BQ _)) (Bz))))
theorem AD.vws_dd (o:Bool) (l:List AD):DD.vws (l.map (AD.dd o))=l.map (AD.dd false):=B6 (AD.vw_dd o) l
theorem AD.shs_dd (o:Bool) (l:List AD):DD.shs (l.map (AD.dd o))=List.replicate l.length Bf:=BN (AD.sh_dd o) l
def AA.dd (o:Bool) (x:AA):DD:=.st [.lf (.string x.A5),.sl o Ai (x.Av.map (A0.dd o))]
theorem AA.dd_eq (o:Bool) (x:AA):x.dd o=.st [.lf (.string x.A5),.sl o Ai (x.Av.map (A0.dd o))]:=rfl
theorem AA.sh_dd (o:Bool) (x:AA):(x.dd o).sh=DR:=by
 rw[AA.dd_eq];simp only[DD.sh,DD.shs]
theorem AA.vw_dd (o:Bool) (x:AA):(x.dd o).vw=x.dd false:=by
 simp only[AA.dd_eq,DD.vw,DD.vws,B6 (A0.vw_dd o)]
theorem AA.is_dd (o:Bool) (x:AA):(x.dd o).is o x.enc:=by
 rw[AA.dd_eq,AA.enc_eq]
 exact D6 (Ak (BQ _) (Ak (CD (A0.sh_dd o) (by decide) (fun y hy=>A0.is_dd o y)) (Bz)))
theorem AA.vws_dd (o:Bool) (l:List AA):DD.vws (l.map (AA.dd o))=l.map (AA.dd false):=B6 (AA.vw_dd o) l
theorem AA.shs_dd (o:Bool) (l:List AA):DD.shs (l.map (AA.dd o))=List.replicate l.length DR:=BN (AA.sh_dd o) l
def AF.dd (o:Bool) (x:AF):DD:=.st [.lf (.string x.A5),.sl o .one (x.Aa.map dS),.sl o DR (x.A4.map (AA.dd o))]
theorem AF.dd_eq (o:Bool) (x:AF):x.dd o=.st [.lf (.string x.A5),.sl o .one (x.Aa.map dS),.sl o DR (x.A4.map (AA.dd o))]:=rfl
theorem AF.sh_dd (o:Bool) (x:AF):(x.dd o).sh=FK:=by
 rw[AF.dd_eq];simp only[DD.sh,DD.shs]
theorem AF.vw_dd (o:Bool) (x:AF):(x.dd o).vw=x.dd false:=by
 simp only[AF.dd_eq,DD.vw,DD.vws,EU,B6 (AA.vw_dd o)]
theorem AF.is_dd (o:Bool) (x:AF):(x.dd o).is o x.enc:=by
 rw[AF.dd_eq,AF.enc_eq]
 exact D6 (Ak (BQ _) (Ak (CD (s:=.one) (fun _=>rfl) (by decide) (fun _ _=>BQ _)) (Ak (CD (AA.sh_dd o) (by decide) (fun y hy=>AA.is_dd o y)) (Bz))))
theorem AF.vws_dd (o:Bool) (l:List AF):DD.vws (l.map (AF.dd o))=l.map (AF.dd false):=B6 (AF.vw_dd o) l
theorem AF.shs_dd (o:Bool) (l:List AF):DD.shs (l.map (AF.dd o))=List.replicate l.length FK:=BN (AF.sh_dd o) l
def AY.dd (o:Bool) (x:AY):DD:=.st [.lf (.string x.A5),.sl o .one (x.Aa.map dS),AG.dd o x.Ab]
theorem AY.dd_eq (o:Bool) (x:AY):x.dd o=.st [.lf (.string x.A5),.sl o .one (x.Aa.map dS),AG.dd o x.Ab]:=rfl
theorem AY.sh_dd (o:Bool) (x:AY):(x.dd o).sh=DH:=by
 rw[AY.dd_eq];simp only[DD.sh,DD.shs,AG.sh_dd]
theorem AY.vw_dd (o:Bool) (x:AY):(x.dd o).vw=x.dd false:=by
 simp only[AY.dd_eq,DD.vw,DD.vws,EU,AG.vw_dd o]
theorem AY.is_dd (o:Bool) (x:AY):(x.dd o).is o x.enc:=by
 rw[AY.dd_eq,AY.enc_eq]
 exact D6 (Ak (BQ _) (Ak (CD (s:=.one) (fun _=>rfl) (by decide) (fun _ _=>BQ _)) (Ak (AG.is_dd o x.Ab) (Bz))))
theorem AY.vws_dd (o:Bool) (l:List AY):DD.vws (l.map (AY.dd o))=l.map (AY.dd false):=B6 (AY.vw_dd o) l
theorem AY.shs_dd (o:Bool) (l:List AY):DD.shs (l.map (AY.dd o))=List.replicate l.length DH:=BN (AY.sh_dd o) l
def AJ.dd (o:Bool) (x:AJ):DD:=.st [.lf (.string x.AK),.sl o .one (x.Aa.map dS),A0.dd o x.At,.sl o BC (x.Ah.map (A9.dd o)),.lf (.bool x.Ca),.lf (.bool x.BT),A0.dd o x.B4,.sl o DH (x.Ar.map (AY.dd o))]
theorem AJ.dd_eq (o:Bool) (x:AJ):x.dd o=.st [.lf (.string x.AK),.sl o .one (x.Aa.map dS),A0.dd o x.At,.sl o BC (x.Ah.map (A9.dd o)),.lf (.bool x.Ca),.lf (.bool x.BT),A0.dd o x.B4,.sl o DH (x.Ar.map (AY.dd o))]:=rfl
theorem AJ.sh_dd (o:Bool) (x:AJ):(x.dd o).sh=FJ:=by
 rw[AJ.dd_eq];simp only[DD.sh,DD.shs,A0.sh_dd]
theorem AJ.vw_dd (o:Bool) (x:AJ):(x.dd o).vw=x.dd false:=by
 simp only[AJ.dd_eq,DD.vw,DD.vws,EU,A0.vw_dd o,B6 (A9.vw_dd o),B6 (AY.vw_dd o)]
theorem AJ.is_dd (o:Bool) (x:AJ):(x.dd o).is o x.enc:=by
 rw[AJ.dd_eq,AJ.enc_eq]
 exact D6 (Ak (BQ _) (Ak (CD (s:=.one) (fun _=>rfl) (by decide) (fun _ _=>BQ _)) (Ak (A0.is_dd o x.At) (Ak (CD (A9.sh_dd o) (by decide) (fun y hy=>A9.is_dd o y)) (Ak (BQ _) (Ak (BQ _) (Ak (A0.is_dd o x.B4) (Ak (CD (AY.sh_dd o) (by decide) (fun y hy=>AY.is_dd o y)) (Bz)))))))))
theorem AJ.vws_dd (o:Bool) (l:List AJ):DD.vws (l.map (AJ.dd o))=l.map (AJ.dd false):=B6 (AJ.vw_dd o) l
theorem AJ.shs_dd (o:Bool) (l:List AJ):DD.shs (l.map (AJ.dd o))=List.replicate l.length FJ:=BN (AJ.sh_dd o) l
def AX.dd (o:Bool) (x:AX):DD:=.st [.lf (.string x.A5),A0.dd o x.AM]
theorem AX.dd_eq (o:Bool) (x:AX):x.dd o=.st [.lf (.string x.A5),A0.dd o x.AM]:=rfl
theorem AX.sh_dd (o:Bool) (x:AX):(x.dd o).sh=CZ:=by
 rw[AX.dd_eq];simp only[DD.sh,DD.shs,A0.sh_dd]
theorem AX.vw_dd (o:Bool) (x:AX):(x.dd o).vw=x.dd false:=by
 simp only[AX.dd_eq,DD.vw,DD.vws,A0.vw_dd o]
theorem AX.is_dd (o:Bool) (x:AX):(x.dd o).is o x.enc:=by
 rw[AX.dd_eq,AX.enc_eq]
 exact D6 (Ak (BQ _) (Ak (A0.is_dd o x.AM) (Bz)))
theorem AX.vws_dd (o:Bool) (l:List AX):DD.vws (l.map (AX.dd o))=l.map (AX.dd false):=B6 (AX.vw_dd o) l
theorem AX.shs_dd (o:Bool) (l:List AX):DD.shs (l.map (AX.dd o))=List.replicate l.length CZ:=BN (AX.sh_dd o) l
def AL.dd (o:Bool) (x:AL):DD:=.st [.lf (.string x.A5),.sl o .one (x.Aa.map dS),.sl o BC (x.Ah.map (A9.dd o)),.sl o CZ (x.Am.map (AX.dd o)),A0.dd o x.B9,AG.dd o x.Ab]
theorem AL.dd_eq (o:Bool) (x:AL):x.dd o=.st [.lf (.string x.A5),.sl o .one (x.Aa.map dS),.sl o BC (x.Ah.map (A9.dd o)),.sl o CZ (x.Am.map (AX.dd o)),A0.dd o x.B9,AG.dd o x.Ab]:=rfl
theorem AL.sh_dd (o:Bool) (x:AL):(x.dd o).sh=FI:=by
 rw[AL.dd_eq];simp only[DD.sh,DD.shs,AG.sh_dd,A0.sh_dd]
theorem AL.vw_dd (o:Bool) (x:AL):(x.dd o).vw=x.dd false:=by
 simp only[AL.dd_eq,DD.vw,DD.vws,EU,B6 (A9.vw_dd o),B6 (AX.vw_dd o),A0.vw_dd o,AG.vw_dd o]
theorem AL.is_dd (o:Bool) (x:AL):(x.dd o).is o x.enc:=by
 rw[AL.dd_eq,AL.enc_eq]
 exact D6 (Ak (BQ _) (Ak (CD (s:=.one) (fun _=>rfl) (by decide) (fun _ _=>BQ _)) (Ak (CD (A9.sh_dd o) (by decide) (fun y hy=>A9.is_dd o y)) (Ak (CD (AX.sh_dd o) (by decide) (fun y hy=>AX.is_dd o y)) (Ak (A0.is_dd o x.B9) (Ak (AG.is_dd o x.Ab) (Bz)))))))
theorem AL.vws_dd (o:Bool) (l:List AL):DD.vws (l.map (AL.dd o))=l.map (AL.dd false):=B6 (AL.vw_dd o) l
theorem AL.shs_dd (o:Bool) (l:List AL):DD.shs (l.map (AL.dd o))=List.replicate l.length FI:=BN (AL.sh_dd o) l
def AC.dd (o:Bool) (x:AC):DD:=.st [.lf (.string x.A5),.sl o Ai (x.Am.map (A0.dd o)),A0.dd o x.B9,.lf (.bool x.BS),.sl o .one (x.Aa.map dS),AG.dd o x.Ab]
theorem AC.dd_eq (o:Bool) (x:AC):x.dd o=.st [.lf (.string x.A5),.sl o Ai (x.Am.map (A0.dd o)),A0.dd o x.B9,.lf (.bool x.BS),.sl o .one (x.Aa.map dS),AG.dd o x.Ab]:=rfl
theorem AC.sh_dd (o:Bool) (x:AC):(x.dd o).sh=CL:=by
 rw[AC.dd_eq];simp only[DD.sh,DD.shs,AG.sh_dd,A0.sh_dd]
theorem AC.vw_dd (o:Bool) (x:AC):(x.dd o).vw=x.dd false:=by
 simp only[AC.dd_eq,DD.vw,DD.vws,B6 (A0.vw_dd o),A0.vw_dd o,EU,AG.vw_dd o]
theorem AC.is_dd (o:Bool) (x:AC):(x.dd o).is o x.enc:=by
 rw[AC.dd_eq,AC.enc_eq]
 exact D6 (Ak (BQ _) (Ak (CD (A0.sh_dd o) (by decide) (fun y hy=>A0.is_dd o y)) (Ak (A0.is_dd o x.B9) (Ak (BQ _) (Ak (CD (s:=.one) (fun _=>rfl) (by decide) (fun _ _=>BQ _)) (Ak (AG.is_dd o x.Ab) (Bz)))))))
theorem AC.vws_dd (o:Bool) (l:List AC):DD.vws (l.map (AC.dd o))=l.map (AC.dd false):=B6 (AC.vw_dd o) l
theorem AC.shs_dd (o:Bool) (l:List AC):DD.shs (l.map (AC.dd o))=List.replicate l.length CL:=BN (AC.sh_dd o) l
def AU.dd (o:Bool) (x:AU):DD:=.st [.lf (.string x.A5),.sl o .one (x.Aq.map dS),.lf (.bool x.CP),.lf (.bool x.B4),.sl o CL (x.AW.map (AC.dd o))]
theorem AU.dd_eq (o:Bool) (x:AU):x.dd o=.st [.lf (.string x.A5),.sl o .one (x.Aq.map dS),.lf (.bool x.CP),.lf (.bool x.B4),.sl o CL (x.AW.map (AC.dd o))]:=rfl
theorem AU.sh_dd (o:Bool) (x:AU):(x.dd o).sh=FL:=by
 rw[AU.dd_eq];simp only[DD.sh,DD.shs]
theorem AU.vw_dd (o:Bool) (x:AU):(x.dd o).vw=x.dd false:=by
 simp only[AU.dd_eq,DD.vw,DD.vws,EU,B6 (AC.vw_dd o)]
theorem AU.is_dd (o:Bool) (x:AU):(x.dd o).is o x.enc:=by
 rw[AU.dd_eq,AU.enc_eq]
 exact D6 (Ak (BQ _) (Ak (CD (s:=.one) (fun _=>rfl) (by decide) (fun _ _=>BQ _)) (Ak (BQ _) (Ak (BQ _) (Ak (CD (AC.sh_dd o) (by decide) (fun y hy=>AC.is_dd o y)) (Bz))))))
theorem AU.vws_dd (o:Bool) (l:List AU):DD.vws (l.map (AU.dd o))=l.map (AU.dd false):=B6 (AU.vw_dd o) l
theorem AU.shs_dd (o:Bool) (l:List AU):DD.shs (l.map (AU.dd o))=List.replicate l.length FL:=BN (AU.sh_dd o) l
def A8.dd (o:Bool) (x:A8):DD:=.st [.lf (.string x.A5),.sl o .one (x.Ba.map dS),.sl o FL (x.Aj.map (AU.dd o)),.sl o FK (x.AE.map (AF.dd o)),.sl o FJ (x.AQ.map (AJ.dd o)),.sl o FI (x.Ad.map (AL.dd o))]
theorem A8.dd_eq (o:Bool) (x:A8):x.dd o=.st [.lf (.string x.A5),.sl o .one (x.Ba.map dS),.sl o FL (x.Aj.map (AU.dd o)),.sl o FK (x.AE.map (AF.dd o)),.sl o FJ (x.AQ.map (AJ.dd o)),.sl o FI (x.Ad.map (AL.dd o))]:=rfl
theorem A8.sh_dd (o:Bool) (x:A8):(x.dd o).sh=Dw:=by
 rw[A8.dd_eq];simp only[DD.sh,DD.shs]
theorem A8.vw_dd (o:Bool) (x:A8):(x.dd o).vw=x.dd false:=by
 simp only[A8.dd_eq,DD.vw,DD.vws,EU,B6 (AU.vw_dd o),B6 (AF.vw_dd o),B6 (AJ.vw_dd o),B6 (AL.vw_dd o)]
theorem A8.is_dd (o:Bool) (x:A8):(x.dd o).is o x.enc:=by
 rw[A8.dd_eq,A8.enc_eq]
 exact D6 (Ak (BQ _) (Ak (CD (s:=.one) (fun _=>rfl) (by decide) (fun _ _=>BQ _)) (Ak (CD (AU.sh_dd o) (by decide) (fun y hy=>AU.is_dd o y)) (Ak (CD (AF.sh_dd o) (by decide) (fun y hy=>AF.is_dd o y)) (Ak (CD (AJ.sh_dd o) (by decide) (fun y hy=>AJ.is_dd o y)) (Ak (CD (AL.sh_dd o) (by decide) (fun y hy=>AL.is_dd o y)) (Bz)))))))
theorem A8.vws_dd (o:Bool) (l:List A8):DD.vws (l.map (A8.dd o))=l.map (A8.dd false):=B6 (A8.vw_dd o) l
theorem A8.shs_dd (o:Bool) (l:List A8):DD.shs (l.map (A8.dd o))=List.replicate l.length Dw:=BN (A8.sh_dd o) l
def A1.dd (o:Bool) (x:A1):DD:=.st [.sl o Dw (x.A2.map (A8.dd o))]
theorem A1.dd_eq (o:Bool) (x:A1):x.dd o=.st [.sl o Dw (x.A2.map (A8.dd o))]:=rfl
theorem A1.sh_dd (o:Bool) (x:A1):(x.dd o).sh=P0:=by
 rw[A1.dd_eq];simp only[DD.sh,DD.shs]
theorem A1.vw_dd (o:Bool) (x:A1):(x.dd o).vw=x.dd false:=by
 simp only[A1.dd_eq,DD.vw,DD.vws,B6 (A8.vw_dd o)]
theorem A1.is_dd (o:Bool) (x:A1):(x.dd o).is o x.enc:=by
 rw[A1.dd_eq,A1.enc_eq]
 exact D6 (Ak (CD (A8.sh_dd o) (by decide) (fun y hy=>A8.is_dd o y)) (Bz))
theorem A1.vws_dd (o:Bool) (l:List A1):DD.vws (l.map (A1.dd o))=l.map (A1.dd false):=B6 (A1.vw_dd o) l
theorem A1.shs_dd (o:Bool) (l:List A1):DD.shs (l.map (A1.dd o))=List.replicate l.length P0:=BN (A1.sh_dd o) l
attribute [simp] ty2 ty3 ty4 ty5 ty9 my jP jQ jK ir jJ jI j7 jU jT mi j6 jS jR mh j5 jO j4 jN jM mg j3 jL jH mf me n8 n7 mT mU mO jC mN mM jX mY mX mw jW mW mV mu jF mS jV mR mQ mr jG mP mL mq mo n6 n5 mz n4 ml mj mm md mc ma mZ jE jY jD jB j2 jA iz j9 j8 iy ix iu iq ip AO.dd_eq AO.vws_dd AO.shs_dd A3.dd_eq A3.vws_dd A3.shs_dd AP.dd_eq AP.vws_dd AP.shs_dd A7.dd_eq A7.vws_dd A7.shs_dd A0.dd_eq A0.vws_dd A0.shs_dd Ac.dd_eq Ac.vws_dd Ac.shs_dd AG.dd_eq AG.vws_dd AG.shs_dd A6.dd_eq A6.vws_dd A6.shs_dd A9.dd_eq A9.vws_dd A9.shs_dd AD.dd_eq AD.vws_dd AD.shs_dd AA.dd_eq AA.vws_dd AA.shs_dd AF.dd_eq AF.vws_dd AF.shs_dd AY.dd_eq AY.vws_dd AY.shs_dd AJ.dd_eq AJ.vws_dd AJ.shs_dd AX.dd_eq AX.vws_dd AX.shs_dd AL.dd_eq AL.vws_dd AL.shs_dd AC.dd_eq AC.vws_dd AC.shs_dd AU.dd_eq AU.vws_dd AU.shs_dd A8.dd_eq A8.vws_dd A8.shs_dd A1.dd_eq A1.vws_dd A1.shs_dd
abbrev Au (x:A1):DD:=.st [.sl false Dw ((x.A2).map (A8.dd false))]
abbrev U9 (x:A8):DD:=.st [.lf (.string (x.A5)),.sl false .one ((x.Ba).map (dS)),.sl false FL ((x.Aj).map (AU.dd false)),.sl false FK ((x.AE).map (AF.dd false)),.sl false FJ ((x.AQ).map (AJ.dd false)),.sl false FI ((x.Ad).map (AL.dd false))]
abbrev KQ (x:AU):DD:=.st [.lf (.string (x.A5)),.sl false .one ((x.Aq).map (dS)),.lf (.bool (x.CP)),.lf (.bool (x.B4)),.sl false CL ((x.AW).map (AC.dd false))]
abbrev SL (x:AF):DD:=.st [.lf (.string (x.A5)),.sl false .one ((x.Aa).map (dS)),.sl false DR ((x.A4).map (AA.dd false))]
abbrev E6 (x:AJ):DD:=.st [.lf (.string (x.AK)),.sl false .one ((x.Aa).map (dS)),.st [.lf (.int .i64 (x.At.AH)),.lf (.string (x.At.A5)),.sl false Ai ((x.At.AB).map (A0.dd false))],.sl false BC ((x.Ah).map (A9.dd false)),.lf (.bool (x.Ca)),.lf (.bool (x.BT)),.st [.lf (.int .i64 (x.B4.AH)),.lf (.string (x.B4.A5)),.sl false Ai ((x.B4.AB).map (A0.dd false))],.sl false DH ((x.Ar).map (AY.dd false))]
abbrev N4 (x:AL):DD:=.st [.lf (.string (x.A5)),.sl false .one ((x.Aa).map (dS)),.sl false BC ((x.Ah).map (A9.dd false)),.sl false CZ ((x.Am).map (AX.dd false)),.st [.lf (.int .i64 (x.B9.AH)),.lf (.string (x.B9.A5)),.sl false Ai ((x.B9.AB).map (A0.dd false))],.st [.lf (.int .i64 (x.Ab.AH)),.lf (.string (x.Ab.AK)),.lf (.string (x.Ab.A5)),.lf (.int .i64 (x.Ab.fN)),.st [.lf (.int .i64 (x.Ab.AM.AH)),.lf (.string (x.Ab.AM.A5)),.sl false Ai ((x.Ab.AM.AB).map (A0.dd false))],.sl false Be ((x.Ab.AB).map (AG.dd false)),.sl false BL ((x.Ab.Af).map (Ac.dd false))]]
abbrev KR (x:AC):DD:=.st [.lf (.string (x.A5)),.sl false Ai ((x.Am).map (A0.dd false)),.st [.lf (.int .i64 (x.B9.AH)),.lf (.string (x.B9.A5)),.sl false Ai ((x.B9.AB).map (A0.dd false))],.lf (.bool (x.BS)),.sl false .one ((x.Aa).map (dS)),.st [.lf (.int .i64 (x.Ab.AH)),.lf (.string (x.Ab.AK)),.lf (.string (x.Ab.A5)),.lf (.int .i64 (x.Ab.fN)),.st [.lf (.int .i64 (x.Ab.AM.AH)),.lf (.string (x.Ab.AM.A5)),.sl false Ai ((x.Ab.AM.AB).map (A0.dd false))],.sl false Be ((x.Ab.AB).map (AG.dd false)),.sl false BL ((x.Ab.Af).map (Ac.dd false))]]
abbrev dP (x:Ac):DD:=.st [.lf (.string (x.AZ)),.sl false .one ((x.Aa).map (dS)),.st [.lf (.int .i64 (x.Ab.AH)),.lf (.string (x.Ab.AK)),.lf (.string (x.Ab.A5)),.lf (.int .i64 (x.Ab.fN)),.st [.lf (.int .i64 (x.Ab.AM.AH)),.lf (.string (x.Ab.AM.A5)),.sl false Ai ((x.Ab.AM.AB).map (A0.dd false))],.sl false Be ((x.Ab.AB).map (AG.dd false)),.sl false BL ((x.Ab.Af).map (Ac.dd false))]]
abbrev IM (x:AG):DD:=.st [.lf (.int .i64 (x.AH)),.lf (.string (x.AK)),.lf (.string (x.A5)),.lf (.int .i64 (x.fN)),.st [.lf (.int .i64 (x.AM.AH)),.lf (.string (x.AM.A5)),.sl false Ai ((x.AM.AB).map (A0.dd false))],.sl false Be ((x.AB).map (AG.dd false)),.sl false BL ((x.Af).map (Ac.dd false))]
abbrev Du (x:A9):DD:=.st [.lf (.string (x.AK)),.st [.lf (.int .i64 (x.AM.AH)),.lf (.string (x.AM.A5)),.sl false Ai ((x.AM.AB).map (A0.dd false))]]
abbrev N1 (x:A0):DD:=.st [.lf (.int .i64 (x.AH)),.lf (.string (x.A5)),.sl false Ai ((x.AB).map (A0.dd false))]
abbrev FU (x:A3):DD:=.st [.lf (.int .i64 (x.BA)),.lf (.int .i64 (x.fAt))]
abbrev dO (x:AD):DD:=.st [.st [.lf (.string (x.DT.AK)),.st [.lf (.int .i64 (x.DT.AM.AH)),.lf (.string (x.DT.AM.A5)),.sl false Ai ((x.DT.AM.AB).map (A0.dd false))]],.lf (.int .i64 (x.Eu)),.sl false .one ((x.DY).map (dI))]
abbrev uK (k:Int) (n:BA') (l:List A0):DD:=.st [.lf (.int .i64 (k)),.lf (.string (n)),.sl false Ai ((l).map (A0.dd false))]
def low (n:Int):Bool:=decide (97≤n) && decide (n≤122)
def dig (n:Int):Bool:=decide (48≤n) && decide (n≤57)
def Ap (x lo hi:Int):Bool:=decide (lo≤x) && decide (x≤hi)
def Cq (s:BA'):Bool:=s.toList==[105,110,116]||s.toList==[98,111,111,108]
theorem L6 (n:Int) (h:HP):CS cx.P 219 [.d (.lf (.int .u8 (n:Int)))] h (dB' (low n)) h:=by
 refine Ze func219 rfl 9 ?_
 refine Zw ?_
 refine W.seq ?_
 refine W.regJ0 (D:=_) rfl fun _ K hD hK=> ?_
 iterate 3 (refine Zo ?_;simp)
 refine WL.split 5 _ rfl (fun g5=> ?_) fun g5=> ?_<;>try simp at g5
 simp
 iterate 2 (refine ZG' ?_;simp)
 iterate 2 (refine Zo ?_;simp)
 refine WL.nil (hK _ ?_)
 refine W.ret (Zq ?_)
 simp[f219,low,g5]<;>omega
 simp
 iterate 2 (refine ZN' ?_;simp)
 iterate 2 (refine Zo ?_;simp)
 refine WL.nil (hK _ ?_)
 refine W.ret (Zq ?_)
 simp[f219,low,g5]<;>omega
theorem L7 (n:Int) (h:HP):CS cx.P 220 [.d (.lf (.int .u8 (n:Int)))] h (dB' (dig n)) h:=by
 refine Ze func220 rfl 9 ?_
 refine Zw ?_
 refine W.seq ?_
 refine W.regJ0 (D:=_) rfl fun _ K hD hK=> ?_
 iterate 3 (refine Zo ?_;simp)
 refine WL.split 5 _ rfl (fun g5=> ?_) fun g5=> ?_<;>try simp at g5
 simp
 iterate 2 (refine ZG' ?_;simp)
 iterate 2 (refine Zo ?_;simp)
 refine WL.nil (hK _ ?_)
 refine W.ret (Zq ?_)
 simp[f220,dig,g5]<;>omega
 simp
 iterate 2 (refine ZN' ?_;simp)
 iterate 2 (refine Zo ?_;simp)
 refine WL.nil (hK _ ?_)
 refine W.ret (Zq ?_)
 simp[f220,dig,g5]<;>omega
theorem Fh (x lo hi:Int) (h:HP):CS cx.P 27 [dI' x,dI' lo,dI' hi] h (dB' (Ap x lo hi)) h:=by
 refine Ze func27 rfl 15 ?_
 refine Zw ?_
 refine W.seq ?_
 refine W.regJ0 (D:=_) rfl fun _ K hD hK=> ?_
 iterate 4 (refine Zo ?_;simp)
 refine WL.split 10 _ rfl (fun g10=> ?_) fun g10=> ?_<;>try simp at g10
 simp
 iterate 3 (refine ZG' ?_;simp)
 iterate 2 (refine Zo ?_;simp)
 refine WL.nil (hK _ ?_)
 refine W.ret (Zq ?_)
 simp[f27,Ap,g10]<;>omega
 simp
 iterate 3 (refine ZN' ?_;simp)
 iterate 2 (refine Zo ?_;simp)
 refine WL.nil (hK _ ?_)
 refine W.ret (Zq ?_)
 simp[f27,Ap,g10]<;>omega
theorem EL (s:BA') (h:HP):CS cx.P 236 [dS' s] h (dB' (Cq s)) h:=by
 refine Ze func236 rfl 9 ?_
 refine Zw ?_
 refine W.seq ?_
 refine W.regJ0 (D:=_) rfl fun _ K hD hK=> ?_
 iterate 3 (refine Zo ?_;simp)
 refine WL.split 5 _ rfl (fun g5=> ?_) fun g5=> ?_<;>try simp at g5
 simp
 iterate 2 (refine ZN' ?_;simp)
 iterate 2 (refine Zo ?_;simp)
 refine WL.nil (hK _ ?_)
 refine W.ret (Zq ?_)
 simp[f236,Cq,g5]
 simp
 iterate 2 (refine ZG' ?_;simp)
 iterate 2 (refine Zo ?_;simp)
 refine WL.nil (hK _ ?_)
 refine W.ret (Zq ?_)
 simp[f236,Cq,g5]
theorem Gx (s:BA') (h:HP):CS cx.P 204 [dS' s] h (dB' (Cq s)) h:=by
 refine Ze func204 rfl 9 ?_
 refine Zw ?_
 refine W.seq ?_
 refine W.regJ0 (D:=_) rfl fun _ K hD hK=> ?_
 iterate 3 (refine Zo ?_;simp)
 refine WL.split 5 _ rfl (fun g5=> ?_) fun g5=> ?_<;>try simp at g5
 simp
 iterate 2 (refine ZN' ?_;simp)
 iterate 2 (refine Zo ?_;simp)
 refine WL.nil (hK _ ?_)
 refine W.ret (Zq ?_)
 simp[f204,Cq,g5]
 simp
 iterate 2 (refine ZG' ?_;simp)
 iterate 2 (refine Zo ?_;simp)
 refine WL.nil (hK _ ?_)
 refine W.ret (Zq ?_)
 simp[f204,Cq,g5]
theorem JY {l:List BA'} {s:BA'} {k:Nat} (h:∀j,j<k→l[j]? ≠some s) (hk:k<l.length) (hn:¬l[k]=s):∀j,j<k+1→l[j]? ≠some s:=fun j hj=>by
 rcases Nat.lt_or_ge j k with q|q
 ·exact h j q
 ·have:j=k:=by omega
  subst this
  rw[List.getElem?_eq_getElem hk];simpa using hn
theorem Kz {l:List BA'} {s:BA'} (h:∀j,j<l.length→l[j]? ≠some s):s∉l:=fun hs=>by
 obtain⟨j,hj⟩:=List.mem_iff_getElem?.1 hs
 exact h j (List.getElem?_eq_some_iff.1 hj).1 hj
theorem F8 (l:List BA') (s:BA') (hm:l.length≤4294967296) (h:HP):CS cx.P 61 [.d (.sl false .one (l.map dS)),dS' s] h (dB' (B7 l s)) h:=by
 refine Ze func61 rfl 18 ?_
 refine Zw ?_
 refine W.seq ?_
 refine Zw ?_
 refine W.block ?_
 refine W.loopI [0,1] [] (fun k0=>[(5,dI' k0)]) (fun _=>[]) l.length (fun k0=>∀j,j<k0→l[j]? ≠some s) rfl (by simp) (by simp) fun k0 hk0 hi0 T hT=> ?_
 simp at hT;subst hT
 refine W.seq ?_
 refine Zw ?_
 refine Zc rfl ?_ ?_<;>intro hb0<;>try simp at hb0
 have hx:=B2 hb0 (by omega)
 refine W.skip ?_
 refine Zb ?_
 refine Zw2 ?_
 refine Zc rfl ?_ ?_<;>intro hb1<;>try simp at hb1
 have hres:=LA (hb1 ▸ gm hb0:s∈l)
 refine Zw2 ?_
 refine W.ret (Zq ?_)
 simp[f61,hres]
 refine W.skip ?_
 apply Zs;intros
 iterate 3 (refine Zo ?_ (by simp[hb0,hx]<;>omega);simp[hb0,hx])
 exact Zx
 refine⟨hb0,JY hi0 hb0 hb1,Wz.to rfl rfl rfl ?_⟩
 simp
 have hkl:k0=l.length:=by omega
 subst hkl
 have hres:=Jm (Kz hi0)
 refine W.exit ?_
 refine Zw ?_
 refine W.ret (Zq ?_)
 simp[f61,hres]
def rsv:List BA':=[⟨#[105,110,116]⟩,⟨#[98,111,111,108]⟩,⟨#[97,115,115,111,99]⟩,⟨#[100,121,110]⟩,⟨#[105,102]⟩,⟨#[108,101,116]⟩,⟨#[99,97,115,101]⟩,⟨#[110,101,119]⟩,⟨#[109,101,116,104,111,100]⟩,⟨#[112,97,99,107]⟩,⟨#[116,114,117,101]⟩,⟨#[102,97,108,115,101]⟩]
def An (s:BA') (i:Nat):Bool:=low (bt s i)|| !(decide (i=0)) && dig (bt s i)
def BV (s:BA'):Bool:=Ka s.size (An s) && Ap s.size 1 8 && !B7 rsv s
theorem ZR {s:BA'} {k:Nat} (hk:k<s.size) (h:An s k=false):BV s=false:=by
 unfold BV;rw[GJ hk h];rfl
theorem IB (s:BA') (h:HP):CS cx.P 189 [dS' s] h (dB' (B7 rsv s)) h:=by
 refine Ze func189 rfl 6 ?_
 apply Zr;intros
 refine Zo ?_ (by simp[rsv]<;>omega);simp[rsv]
 exact Zx
 apply Zr;intros
 iterate 2 (refine Zo ?_ (by simp[rsv]<;>omega);simp[rsv])
 refine Zl [] rfl func61 (F8 rsv s (by decide) _) ?_ (by simp[rsv]);simp[rsv]
 refine Zo ?_ (by simp[rsv]<;>omega);simp[rsv]
 exact Zx
 refine W.ret (Zq ?_)
 simp[f189,rsv]
theorem Ft (s:BA') (hs:s.size≤134217728) (h:HP):CS cx.P 122 [dS' s] h (dB' (BV s)) h:=by
 refine Ze func122 rfl 47 ?_
 refine Zw ?_
 refine W.seq ?_
 refine W.seq ?_
 refine W.regJ0 (D:=_) rfl fun _ K hD hK=> ?_
 iterate 2 (refine Zo ?_;simp)
 refine Zl [] rfl func27 (Fh s.size 1 8 _) ?_;simp
 iterate 2 (refine Zo ?_;simp)
 refine WL.split 9 _ rfl (fun g9=> ?_) fun g9=> ?_<;>try simp at g9
 have hres:BV s=false:=by simp[BV,g9]
 simp
 iterate 2 (refine ZN' ?_;simp)
 refine Zo ?_;simp
 refine WL.nil (hK _ ?_)
 refine W.condT rfl trivial ?_
 refine Zw ?_
 refine W.ret (Zq ?_)
 simp[f122,hres]
 simp
 refine ZG' ?_;simp
 refine Zk hD rfl rfl [] rfl func189 (IB s _) ?_;simp
 refine Zo ?_;simp
 refine WL.nil (hK _ ?_)
 refine Zc rfl ?_ ?_<;>intro hb0<;>try simp at hb0
 have hres:BV s=false:=by simp[BV,hb0]
 refine Zw ?_
 refine W.ret (Zq ?_)
 simp[f122,hres]
 refine W.skip ?_
 refine W.seq ?_
 refine Zw ?_
 refine W.block ?_
 refine W.loopI [0] [] (fun k0=>[(3,dI' k0)]) (fun _=>[]) s.size (fun k0=>∀j,j<k0→An s j=true) rfl (by simp) (by simp) fun k0 hk0 hi0 T hT=> ?_
 simp at hT;subst hT
 refine W.seq ?_
 refine Zw ?_
 refine Zc rfl ?_ ?_<;>intro hb1<;>try simp at hb1
 have hx:=B2 hb1 (by omega)
 refine W.skip ?_
 refine Zb ?_
 refine W.seq ?_
 refine W.regJ (D:=_) [0,3] [] [(4,.d (.lf (.bool (low ((bt s k0:Nat):Int)))))] [] rfl (fun _ K hD hK=> ?_) fun T hT=> ?_
 iterate 5 (refine Zo ?_ (by simp[hb1,hx]<;>omega);simp[hb1,hx])
 refine WL.split 23 _ rfl (fun g23=> ?_) fun g23=> ?_<;>try simp at g23
 simp[hb1,hx]
 iterate 4 (refine ZG' ?_ (by simp[hb1,hx]<;>omega);simp[hb1,hx])
 iterate 2 (refine Zo ?_ (by simp[hb1,hx]<;>omega);simp[hb1,hx])
 refine WL.nil (hK _ (Wz.to rfl rfl rfl ?_))
 simp[low,g9,g23]<;>omega
 simp[hb1,hx]
 iterate 4 (refine ZN' ?_;simp[hb1,hx])
 iterate 2 (refine Zo ?_ (by simp[hb1,hx]<;>omega);simp[hb1,hx])
 refine WL.nil (hK _ (Wz.to rfl rfl rfl ?_))
 simp[low,g9,g23]<;>omega
 simp at hT;subst hT
 refine W.seq ?_
 refine W.regJ (D:=_) [0,3] [] [(46,.d (.lf (.bool (!An s k0))))] [] rfl (fun _ K hD hK=> ?_) fun T hT=> ?_
 iterate 3 (refine Zo ?_ (by simp[hb1,hx]<;>omega);simp[hb1,hx])
 refine WL.split 31 _ rfl (fun g31=> ?_) fun g31=> ?_<;>try simp at g31
 simp[hb1,hx]
 iterate 3 (refine ZG' ?_ (by simp[hb1,hx]<;>omega);simp[hb1,hx])
 refine WL.split 34 _ rfl (fun g34=> ?_) fun g34=> ?_<;>try simp at g34
 have e0:=g34
 subst e0
 simp[hb1,hx]
 iterate 4 (refine ZN' ?_;simp[hb1,hx])
 iterate 2 (refine ZG' ?_ (by simp[hb1,hx]<;>omega);simp[hb1,hx])
 iterate 4 (refine ZN' ?_;simp[hb1,hx])
 refine ZG' ?_ (by simp[hb1,hx]<;>omega);simp[hb1,hx]
 refine Zo ?_ (by simp[hb1,hx]<;>omega);simp[hb1,hx]
 refine WL.nil (hK _ (Wz.to rfl rfl rfl ?_))
 simp[An,dig,g9,g31,g34]<;>first|omega|grind
 simp[hb1,hx]
 iterate 6 (refine ZG' ?_ (by simp[hb1,hx]<;>omega);simp[hb1,hx])
 refine WL.split 40 _ rfl (fun g40=> ?_) fun g40=> ?_<;>try simp at g40
 simp[hb1,hx]
 iterate 4 (refine ZN' ?_;simp[hb1,hx])
 refine ZG' ?_ (by simp[hb1,hx]<;>omega);simp[hb1,hx]
 refine Zo ?_ (by simp[hb1,hx]<;>omega);simp[hb1,hx]
 refine WL.nil (hK _ (Wz.to rfl rfl rfl ?_))
 simp[An,dig,g9,g31,g34,g40]<;>first|omega|grind
 simp[hb1,hx]
 iterate 5 (refine ZG' ?_ (by simp[hb1,hx]<;>omega);simp[hb1,hx])
 refine Zo ?_ (by simp[hb1,hx]<;>omega);simp[hb1,hx]
 refine WL.nil (hK _ (Wz.to rfl rfl rfl ?_))
 simp[An,dig,g9,g31,g34,g40]<;>first|omega|grind
 simp[hb1,hx]
 iterate 14 (refine ZN' ?_;simp[hb1,hx])
 refine Zo ?_ (by simp[hb1,hx]<;>omega);simp[hb1,hx]
 refine WL.nil (hK _ (Wz.to rfl rfl rfl ?_))
 simp[An,dig,g9,g31]<;>first|omega|grind
 simp at hT;subst hT
 refine Zc rfl ?_ ?_<;>intro hb2<;>try simp at hb2
 have hres:=ZR hb1 (by simpa using hb2)
 refine Zw2 ?_
 refine W.ret (Zq ?_)
 simp[f122,hres]
 refine W.skip ?_
 apply Zs;intros
 iterate 3 (refine Zo ?_ (by simp[hb1,hx]<;>omega);simp[hb1,hx])
 exact Zx
 refine⟨hb1,FZ hi0 (by simpa using hb2),Wz.to rfl rfl rfl ?_⟩
 simp
 have hkl:k0=s.size:=by omega
 subst hkl
 have hres:BV s=true:=by simp[BV,I4 hi0,g9,hb0]
 refine W.exit ?_
 refine Zw ?_
 refine W.ret (Zq ?_)
 simp[f122,hres]
