/- Part 13. No condition. -/
import Derived.Test.YtdooklofebdknaaGreatM12
namespace Go.Proofs.YtdooklofebdknaaGreat
open Go.RowKit Tryz
set_option linter.unusedSimpArgs false
set_option linter.unusedVariables false
set_option linter.defProp false
abbrev Bn:Sh:=.st [.one,.one,.one]
abbrev Do:Sh:=.st [.one,.one,.one,.one,Bn,.one,.one]
abbrev Hy:Sh:=.st [.one,.one,Do]
abbrev Pv:Sh:=.st [.one,.one,Bn,.one,.one,Do]
abbrev Pz:Sh:=.st [.one,.one,.one,.one,.one]
abbrev Pu:Sh:=.st [.one,.one]
abbrev Py:Sh:=.st [.one,.one,.one]
abbrev Mw:Sh:=.st [.one,Bn]
abbrev Pt:Sh:=.st [.one,.one,Do]
abbrev Px:Sh:=.st [.one,.one,Bn,.one,.one,.one,Bn,.one]
abbrev Ps:Sh:=.st [.one,Bn]
abbrev Pw:Sh:=.st [.one,.one,.one,.one,Bn,Do]
abbrev Xu:Sh:=.st [.one,.one,.one,.one,.one,.one]
abbrev lM:Sh:=.st [.one]
abbrev E6:Sh:=.st [.one,.one,.one,.one]
abbrev Ag:Sh:=.st [.one,.one,.one]
abbrev Be:Sh:=.st [.one,.one,.one,.one,Ag,.one,.one]
abbrev BJ:Sh:=.st [.one,.one,Be]
abbrev CM:Sh:=.st [.one,.one,Ag,.one,.one,Be]
abbrev FJ:Sh:=.st [.one,.one,.one,.one,.one]
abbrev DQ:Sh:=.st [.one,.one]
abbrev FI:Sh:=.st [.one,.one,.one]
abbrev BA:Sh:=.st [.one,Ag]
abbrev DG:Sh:=.st [.one,.one,Be]
abbrev FH:Sh:=.st [.one,.one,Ag,.one,.one,.one,Ag,.one]
abbrev CX:Sh:=.st [.one,Ag]
abbrev FG:Sh:=.st [.one,.one,.one,.one,Ag,Be]
abbrev Dt:Sh:=.st [.one,.one,.one,.one,.one,.one]
abbrev OZ:Sh:=.st [.one]
abbrev lL:Sh:=.st [OZ,.one]
abbrev Bc:Sh:=.st [.one,.one]
abbrev Gh:Sh:=.st [.one,Bc]
abbrev iJ:Sh:=.st [.one,.one,.one,.one]
abbrev Bd:Sh:=.st [.one,.one,Bc,.one]
abbrev B9:Sh:=.st [.one,Ag]
abbrev Bf:Sh:=.st [BA,.one,.one]
abbrev iI:Sh:=.st [OZ,.one]
def tyF:Nat→Option TI
 |3=>some ⟨.one,.lf (.int .i64 0),[.int .i64 0],8,.int .i64⟩
 |4=>some ⟨.one,.lf (.bool false),[.bool false],1,.bool⟩
 |5=>some ⟨.one,.lf (.int .u8 0),[.int .u8 0],1,.int .u8⟩
 |9=>some ⟨.one,.lf (.string ⟨#[]⟩),[.string ⟨#[]⟩],16,.str⟩
 |43=>some ⟨.one,.sl true .one [],[.slice none 0 0],24,.sl 9 .one⟩
 |215=>some ⟨Bn,.st [.lf (.int .i64 0),.lf (.string ⟨#[]⟩),.sl true Bn []],[.int .i64 0,.string ⟨#[]⟩,.slice none 0 0],48,.st [(3,.one),(9,.one),(213,.one)]⟩
 |213=>some ⟨.one,.sl true Bn [],[.slice none 0 0],24,.sl 215 Bn⟩
 |222=>some ⟨.one,.sl true Do [],[.slice none 0 0],24,.sl 225 Do⟩
 |388=>some ⟨Hy,.st [.lf (.string ⟨#[]⟩),.sl true .one [],.st [.lf (.int .i64 0),.lf (.string ⟨#[]⟩),.lf (.string ⟨#[]⟩),.lf (.int .i64 0),.st [.lf (.int .i64 0),.lf (.string ⟨#[]⟩),.sl true Bn []],.sl true Do [],.sl true Hy []]],[.string ⟨#[]⟩,.slice none 0 0,.int .i64 0,.string ⟨#[]⟩,.string ⟨#[]⟩,.int .i64 0,.int .i64 0,.string ⟨#[]⟩,.slice none 0 0,.slice none 0 0,.slice none 0 0],184,.st [(9,.one),(43,.one),(225,Do)]⟩
 |223=>some ⟨.one,.sl true Hy [],[.slice none 0 0],24,.sl 388 Hy⟩
 |225=>some ⟨Do,.st [.lf (.int .i64 0),.lf (.string ⟨#[]⟩),.lf (.string ⟨#[]⟩),.lf (.int .i64 0),.st [.lf (.int .i64 0),.lf (.string ⟨#[]⟩),.sl true Bn []],.sl true Do [],.sl true Hy []],[.int .i64 0,.string ⟨#[]⟩,.string ⟨#[]⟩,.int .i64 0,.int .i64 0,.string ⟨#[]⟩,.slice none 0 0,.slice none 0 0,.slice none 0 0],144,.st [(3,.one),(9,.one),(9,.one),(3,.one),(215,Bn),(222,.one),(223,.one)]⟩
 |328=>some ⟨Pv,.st [.lf (.string ⟨#[]⟩),.sl true Bn [],.st [.lf (.int .i64 0),.lf (.string ⟨#[]⟩),.sl true Bn []],.lf (.bool false),.sl true .one [],.st [.lf (.int .i64 0),.lf (.string ⟨#[]⟩),.lf (.string ⟨#[]⟩),.lf (.int .i64 0),.st [.lf (.int .i64 0),.lf (.string ⟨#[]⟩),.sl true Bn []],.sl true Do [],.sl true Hy []]],[.string ⟨#[]⟩,.slice none 0 0,.int .i64 0,.string ⟨#[]⟩,.slice none 0 0,.bool false,.slice none 0 0,.int .i64 0,.string ⟨#[]⟩,.string ⟨#[]⟩,.int .i64 0,.int .i64 0,.string ⟨#[]⟩,.slice none 0 0,.slice none 0 0,.slice none 0 0],264,.st [(9,.one),(213,.one),(215,Bn),(4,.one),(43,.one),(225,Do)]⟩
 |205=>some ⟨.one,.sl true Pv [],[.slice none 0 0],24,.sl 328 Pv⟩
 |207=>some ⟨Pz,.st [.lf (.string ⟨#[]⟩),.sl true .one [],.lf (.bool false),.lf (.bool false),.sl true Pv []],[.string ⟨#[]⟩,.slice none 0 0,.bool false,.bool false,.slice none 0 0],72,.st [(9,.one),(43,.one),(4,.one),(4,.one),(205,.one)]⟩
 |86=>some ⟨.one,.sl true Pz [],[.slice none 0 0],24,.sl 207 Pz⟩
 |331=>some ⟨Pu,.st [.lf (.string ⟨#[]⟩),.sl true Bn []],[.string ⟨#[]⟩,.slice none 0 0],40,.st [(9,.one),(213,.one)]⟩
 |209=>some ⟨.one,.sl true Pu [],[.slice none 0 0],24,.sl 331 Pu⟩
 |211=>some ⟨Py,.st [.lf (.string ⟨#[]⟩),.sl true .one [],.sl true Pu []],[.string ⟨#[]⟩,.slice none 0 0,.slice none 0 0],64,.st [(9,.one),(43,.one),(209,.one)]⟩
 |87=>some ⟨.one,.sl true Py [],[.slice none 0 0],24,.sl 211 Py⟩
 |335=>some ⟨Mw,.st [.lf (.string ⟨#[]⟩),.st [.lf (.int .i64 0),.lf (.string ⟨#[]⟩),.sl true Bn []]],[.string ⟨#[]⟩,.int .i64 0,.string ⟨#[]⟩,.slice none 0 0],64,.st [(9,.one),(215,Bn)]⟩
 |216=>some ⟨.one,.sl true Mw [],[.slice none 0 0],24,.sl 335 Mw⟩
 |338=>some ⟨Pt,.st [.lf (.string ⟨#[]⟩),.sl true .one [],.st [.lf (.int .i64 0),.lf (.string ⟨#[]⟩),.lf (.string ⟨#[]⟩),.lf (.int .i64 0),.st [.lf (.int .i64 0),.lf (.string ⟨#[]⟩),.sl true Bn []],.sl true Do [],.sl true Hy []]],[.string ⟨#[]⟩,.slice none 0 0,.int .i64 0,.string ⟨#[]⟩,.string ⟨#[]⟩,.int .i64 0,.int .i64 0,.string ⟨#[]⟩,.slice none 0 0,.slice none 0 0,.slice none 0 0],184,.st [(9,.one),(43,.one),(225,Do)]⟩
 |217=>some ⟨.one,.sl true Pt [],[.slice none 0 0],24,.sl 338 Pt⟩
 |219=>some ⟨Px,.st [.lf (.string ⟨#[]⟩),.sl true .one [],.st [.lf (.int .i64 0),.lf (.string ⟨#[]⟩),.sl true Bn []],.sl true Mw [],.lf (.bool false),.lf (.bool false),.st [.lf (.int .i64 0),.lf (.string ⟨#[]⟩),.sl true Bn []],.sl true Pt []],[.string ⟨#[]⟩,.slice none 0 0,.int .i64 0,.string ⟨#[]⟩,.slice none 0 0,.slice none 0 0,.bool false,.bool false,.int .i64 0,.string ⟨#[]⟩,.slice none 0 0,.slice none 0 0],192,.st [(9,.one),(43,.one),(215,Bn),(216,.one),(4,.one),(4,.one),(215,Bn),(217,.one)]⟩
 |88=>some ⟨.one,.sl true Px [],[.slice none 0 0],24,.sl 219 Px⟩
 |341=>some ⟨Ps,.st [.lf (.string ⟨#[]⟩),.st [.lf (.int .i64 0),.lf (.string ⟨#[]⟩),.sl true Bn []]],[.string ⟨#[]⟩,.int .i64 0,.string ⟨#[]⟩,.slice none 0 0],64,.st [(9,.one),(215,Bn)]⟩
 |221=>some ⟨.one,.sl true Ps [],[.slice none 0 0],24,.sl 341 Ps⟩
 |227=>some ⟨Pw,.st [.lf (.string ⟨#[]⟩),.sl true .one [],.sl true Mw [],.sl true Ps [],.st [.lf (.int .i64 0),.lf (.string ⟨#[]⟩),.sl true Bn []],.st [.lf (.int .i64 0),.lf (.string ⟨#[]⟩),.lf (.string ⟨#[]⟩),.lf (.int .i64 0),.st [.lf (.int .i64 0),.lf (.string ⟨#[]⟩),.sl true Bn []],.sl true Do [],.sl true Hy []]],[.string ⟨#[]⟩,.slice none 0 0,.slice none 0 0,.slice none 0 0,.int .i64 0,.string ⟨#[]⟩,.slice none 0 0,.int .i64 0,.string ⟨#[]⟩,.string ⟨#[]⟩,.int .i64 0,.int .i64 0,.string ⟨#[]⟩,.slice none 0 0,.slice none 0 0,.slice none 0 0],280,.st [(9,.one),(43,.one),(216,.one),(221,.one),(215,Bn),(225,Do)]⟩
 |89=>some ⟨.one,.sl true Pw [],[.slice none 0 0],24,.sl 227 Pw⟩
 |91=>some ⟨Xu,.st [.lf (.string ⟨#[]⟩),.sl true .one [],.sl true Pz [],.sl true Py [],.sl true Px [],.sl true Pw []],[.string ⟨#[]⟩,.slice none 0 0,.slice none 0 0,.slice none 0 0,.slice none 0 0,.slice none 0 0],136,.st [(9,.one),(43,.one),(86,.one),(87,.one),(88,.one),(89,.one)]⟩
 |22=>some ⟨.one,.sl true Xu [],[.slice none 0 0],24,.sl 91 Xu⟩
 |24=>some ⟨lM,.st [.sl true Xu []],[.slice none 0 0],24,.st [(22,.one)]⟩
 |40=>some ⟨E6,.st [.lf (.int .i64 0),.lf (.int .i64 0),.lf (.string ⟨#[]⟩),.lf (.string ⟨#[]⟩)],[.int .i64 0,.int .i64 0,.string ⟨#[]⟩,.string ⟨#[]⟩],48,.st [(3,.one),(3,.one),(9,.one),(9,.one)]⟩
 |26=>some ⟨.one,.sl true E6 [],[.slice none 0 0],24,.sl 40 E6⟩
 |65=>some ⟨Ag,.st [.lf (.int .i64 0),.lf (.string ⟨#[]⟩),.sl true Ag []],[.int .i64 0,.string ⟨#[]⟩,.slice none 0 0],48,.st [(3,.one),(9,.one),(63,.one)]⟩
 |63=>some ⟨.one,.sl true Ag [],[.slice none 0 0],24,.sl 65 Ag⟩
 |72=>some ⟨.one,.sl true Be [],[.slice none 0 0],24,.sl 75 Be⟩
 |172=>some ⟨BJ,.st [.lf (.string ⟨#[]⟩),.sl true .one [],.st [.lf (.int .i64 0),.lf (.string ⟨#[]⟩),.lf (.string ⟨#[]⟩),.lf (.int .i64 0),.st [.lf (.int .i64 0),.lf (.string ⟨#[]⟩),.sl true Ag []],.sl true Be [],.sl true BJ []]],[.string ⟨#[]⟩,.slice none 0 0,.int .i64 0,.string ⟨#[]⟩,.string ⟨#[]⟩,.int .i64 0,.int .i64 0,.string ⟨#[]⟩,.slice none 0 0,.slice none 0 0,.slice none 0 0],184,.st [(9,.one),(43,.one),(75,Be)]⟩
 |73=>some ⟨.one,.sl true BJ [],[.slice none 0 0],24,.sl 172 BJ⟩
 |75=>some ⟨Be,.st [.lf (.int .i64 0),.lf (.string ⟨#[]⟩),.lf (.string ⟨#[]⟩),.lf (.int .i64 0),.st [.lf (.int .i64 0),.lf (.string ⟨#[]⟩),.sl true Ag []],.sl true Be [],.sl true BJ []],[.int .i64 0,.string ⟨#[]⟩,.string ⟨#[]⟩,.int .i64 0,.int .i64 0,.string ⟨#[]⟩,.slice none 0 0,.slice none 0 0,.slice none 0 0],144,.st [(3,.one),(9,.one),(9,.one),(3,.one),(65,Ag),(72,.one),(73,.one)]⟩
 |109=>some ⟨CM,.st [.lf (.string ⟨#[]⟩),.sl true Ag [],.st [.lf (.int .i64 0),.lf (.string ⟨#[]⟩),.sl true Ag []],.lf (.bool false),.sl true .one [],.st [.lf (.int .i64 0),.lf (.string ⟨#[]⟩),.lf (.string ⟨#[]⟩),.lf (.int .i64 0),.st [.lf (.int .i64 0),.lf (.string ⟨#[]⟩),.sl true Ag []],.sl true Be [],.sl true BJ []]],[.string ⟨#[]⟩,.slice none 0 0,.int .i64 0,.string ⟨#[]⟩,.slice none 0 0,.bool false,.slice none 0 0,.int .i64 0,.string ⟨#[]⟩,.string ⟨#[]⟩,.int .i64 0,.int .i64 0,.string ⟨#[]⟩,.slice none 0 0,.slice none 0 0,.slice none 0 0],264,.st [(9,.one),(63,.one),(65,Ag),(4,.one),(43,.one),(75,Be)]⟩
 |55=>some ⟨.one,.sl true CM [],[.slice none 0 0],24,.sl 109 CM⟩
 |57=>some ⟨FJ,.st [.lf (.string ⟨#[]⟩),.sl true .one [],.lf (.bool false),.lf (.bool false),.sl true CM []],[.string ⟨#[]⟩,.slice none 0 0,.bool false,.bool false,.slice none 0 0],72,.st [(9,.one),(43,.one),(4,.one),(4,.one),(55,.one)]⟩
 |44=>some ⟨.one,.sl true FJ [],[.slice none 0 0],24,.sl 57 FJ⟩
 |116=>some ⟨DQ,.st [.lf (.string ⟨#[]⟩),.sl true Ag []],[.string ⟨#[]⟩,.slice none 0 0],40,.st [(9,.one),(63,.one)]⟩
 |59=>some ⟨.one,.sl true DQ [],[.slice none 0 0],24,.sl 116 DQ⟩
 |61=>some ⟨FI,.st [.lf (.string ⟨#[]⟩),.sl true .one [],.sl true DQ []],[.string ⟨#[]⟩,.slice none 0 0,.slice none 0 0],64,.st [(9,.one),(43,.one),(59,.one)]⟩
 |45=>some ⟨.one,.sl true FI [],[.slice none 0 0],24,.sl 61 FI⟩
 |174=>some ⟨BA,.st [.lf (.string ⟨#[]⟩),.st [.lf (.int .i64 0),.lf (.string ⟨#[]⟩),.sl true Ag []]],[.string ⟨#[]⟩,.int .i64 0,.string ⟨#[]⟩,.slice none 0 0],64,.st [(9,.one),(65,Ag)]⟩
 |66=>some ⟨.one,.sl true BA [],[.slice none 0 0],24,.sl 174 BA⟩
 |120=>some ⟨DG,.st [.lf (.string ⟨#[]⟩),.sl true .one [],.st [.lf (.int .i64 0),.lf (.string ⟨#[]⟩),.lf (.string ⟨#[]⟩),.lf (.int .i64 0),.st [.lf (.int .i64 0),.lf (.string ⟨#[]⟩),.sl true Ag []],.sl true Be [],.sl true BJ []]],[.string ⟨#[]⟩,.slice none 0 0,.int .i64 0,.string ⟨#[]⟩,.string ⟨#[]⟩,.int .i64 0,.int .i64 0,.string ⟨#[]⟩,.slice none 0 0,.slice none 0 0,.slice none 0 0],184,.st [(9,.one),(43,.one),(75,Be)]⟩
 |67=>some ⟨.one,.sl true DG [],[.slice none 0 0],24,.sl 120 DG⟩
 |69=>some ⟨FH,.st [.lf (.string ⟨#[]⟩),.sl true .one [],.st [.lf (.int .i64 0),.lf (.string ⟨#[]⟩),.sl true Ag []],.sl true BA [],.lf (.bool false),.lf (.bool false),.st [.lf (.int .i64 0),.lf (.string ⟨#[]⟩),.sl true Ag []],.sl true DG []],[.string ⟨#[]⟩,.slice none 0 0,.int .i64 0,.string ⟨#[]⟩,.slice none 0 0,.slice none 0 0,.bool false,.bool false,.int .i64 0,.string ⟨#[]⟩,.slice none 0 0,.slice none 0 0],192,.st [(9,.one),(43,.one),(65,Ag),(66,.one),(4,.one),(4,.one),(65,Ag),(67,.one)]⟩
 |46=>some ⟨.one,.sl true FH [],[.slice none 0 0],24,.sl 69 FH⟩
 |153=>some ⟨CX,.st [.lf (.string ⟨#[]⟩),.st [.lf (.int .i64 0),.lf (.string ⟨#[]⟩),.sl true Ag []]],[.string ⟨#[]⟩,.int .i64 0,.string ⟨#[]⟩,.slice none 0 0],64,.st [(9,.one),(65,Ag)]⟩
 |71=>some ⟨.one,.sl true CX [],[.slice none 0 0],24,.sl 153 CX⟩
 |77=>some ⟨FG,.st [.lf (.string ⟨#[]⟩),.sl true .one [],.sl true BA [],.sl true CX [],.st [.lf (.int .i64 0),.lf (.string ⟨#[]⟩),.sl true Ag []],.st [.lf (.int .i64 0),.lf (.string ⟨#[]⟩),.lf (.string ⟨#[]⟩),.lf (.int .i64 0),.st [.lf (.int .i64 0),.lf (.string ⟨#[]⟩),.sl true Ag []],.sl true Be [],.sl true BJ []]],[.string ⟨#[]⟩,.slice none 0 0,.slice none 0 0,.slice none 0 0,.int .i64 0,.string ⟨#[]⟩,.slice none 0 0,.int .i64 0,.string ⟨#[]⟩,.string ⟨#[]⟩,.int .i64 0,.int .i64 0,.string ⟨#[]⟩,.slice none 0 0,.slice none 0 0,.slice none 0 0],280,.st [(9,.one),(43,.one),(66,.one),(71,.one),(65,Ag),(75,Be)]⟩
 |47=>some ⟨.one,.sl true FG [],[.slice none 0 0],24,.sl 77 FG⟩
 |49=>some ⟨Dt,.st [.lf (.string ⟨#[]⟩),.sl true .one [],.sl true FJ [],.sl true FI [],.sl true FH [],.sl true FG []],[.string ⟨#[]⟩,.slice none 0 0,.slice none 0 0,.slice none 0 0,.slice none 0 0,.slice none 0 0],136,.st [(9,.one),(43,.one),(44,.one),(45,.one),(46,.one),(47,.one)]⟩
 |28=>some ⟨.one,.sl true Dt [],[.slice none 0 0],24,.sl 49 Dt⟩
 |30=>some ⟨OZ,.st [.sl true Dt []],[.slice none 0 0],24,.st [(28,.one)]⟩
 |50=>some ⟨.one,.sl true .one [],[.slice none 0 0],24,.sl 3 .one⟩
 |52=>some ⟨lL,.st [.st [.sl true Dt []],.sl true .one []],[.slice none 0 0,.slice none 0 0],48,.st [(30,OZ),(50,.one)]⟩
 |131=>some ⟨Bc,.st [.lf (.int .i64 0),.lf (.int .i64 0)],[.int .i64 0,.int .i64 0],16,.st [(3,.one),(3,.one)]⟩
 |133=>some ⟨Gh,.st [.lf (.int .i64 0),.st [.lf (.int .i64 0),.lf (.int .i64 0)]],[.int .i64 0,.int .i64 0,.int .i64 0],24,.st [(3,.one),(131,Bc)]⟩
 |83=>some ⟨.one,.sl true Gh [],[.slice none 0 0],24,.sl 133 Gh⟩
 |129=>some ⟨.one,.sl true .one [],[.slice none 0 0],24,.sl 5 .one⟩
 |134=>some ⟨.one,.sl true Bc [],[.slice none 0 0],24,.sl 131 Bc⟩
 |166=>some ⟨.one,.sl true .one [],[.slice none 0 0],24,.sl 4 .one⟩
 |180=>some ⟨iJ,.st [.sl true .one [],.sl true .one [],.sl true .one [],.sl true .one []],[.slice none 0 0,.slice none 0 0,.slice none 0 0,.slice none 0 0],96,.ar 4 43 .one⟩
 |267=>some ⟨Bd,.st [.lf (.int .i64 0),.lf (.int .i64 0),.st [.lf (.int .i64 0),.lf (.int .i64 0)],.sl true Bd []],[.int .i64 0,.int .i64 0,.int .i64 0,.int .i64 0,.slice none 0 0],56,.st [(3,.one),(3,.one),(131,Bc),(200,.one)]⟩
 |200=>some ⟨.one,.sl true Bd [],[.slice none 0 0],24,.sl 267 Bd⟩
 |369=>some ⟨B9,.st [.lf (.string ⟨#[]⟩),.st [.lf (.int .i64 0),.lf (.string ⟨#[]⟩),.sl true Ag []]],[.string ⟨#[]⟩,.int .i64 0,.string ⟨#[]⟩,.slice none 0 0],64,.st [(9,.one),(65,Ag)]⟩
 |311=>some ⟨.one,.sl true B9 [],[.slice none 0 0],24,.sl 369 B9⟩
 |375=>some ⟨Bf,.st [.st [.lf (.string ⟨#[]⟩),.st [.lf (.int .i64 0),.lf (.string ⟨#[]⟩),.sl true Ag []]],.lf (.int .i64 0),.sl true .one []],[.string ⟨#[]⟩,.int .i64 0,.string ⟨#[]⟩,.slice none 0 0,.int .i64 0,.slice none 0 0],96,.st [(174,BA),(3,.one),(50,.one)]⟩
 |319=>some ⟨.one,.sl true Bf [],[.slice none 0 0],24,.sl 375 Bf⟩
 |344=>some ⟨.one,.sl true .one [],[.slice none 0 0],24,.sl 50 .one⟩
 |382=>some ⟨iI,.st [.st [.sl true Dt []],.sl true Bf []],[.slice none 0 0,.slice none 0 0],48,.st [(30,OZ),(319,.one)]⟩
 |422=>some ⟨.one,.sl true .one [],[.slice none 0 0],24,.sl 43 .one⟩
 |435=>some ⟨.one,.lf (.int .u32 0),[.int .u32 0],4,.int .u32⟩
 |_=>none
theorem c5:∀T ti,tyF T=some ti→MJ prog T ti:=by
 intro T ti h
 unfold tyF at h
 split at h<;>first|(cases h;done)|(cases h;exact MJ.of (by kernel_rfl) rfl (by kernel_rfl) rfl (by intro fl h;cases h<;>rfl))
noncomputable def cx:Cx:=⟨prog,tyF,c5⟩
def ty3:=@id (cx.ty 3=some _) rfl
def ty4:=@id (cx.ty 4=some _) rfl
def ty5:=@id (cx.ty 5=some _) rfl
def ty9:=@id (cx.ty 9=some _) rfl
def lA:=@id (cx.ty 43=some _) rfl
def gf:=@id (cx.ty 215=some _) rfl
def gh:=@id (cx.ty 213=some _) rfl
def ga:=@id (cx.ty 222=some _) rfl
def gJ:=@id (cx.ty 388=some _) rfl
def gZ:=@id (cx.ty 223=some _) rfl
def gY:=@id (cx.ty 225=some _) rfl
def gT:=@id (cx.ty 328=some _) rfl
def gn:=@id (cx.ty 205=some _) rfl
def gk:=@id (cx.ty 207=some _) rfl
def kY:=@id (cx.ty 86=some _) rfl
def gS:=@id (cx.ty 331=some _) rfl
def gj:=@id (cx.ty 209=some _) rfl
def gi:=@id (cx.ty 211=some _) rfl
def kX:=@id (cx.ty 87=some _) rfl
def gR:=@id (cx.ty 335=some _) rfl
def ge:=@id (cx.ty 216=some _) rfl
def gQ:=@id (cx.ty 338=some _) rfl
def gd:=@id (cx.ty 217=some _) rfl
def gc:=@id (cx.ty 219=some _) rfl
def kW:=@id (cx.ty 88=some _) rfl
def gP:=@id (cx.ty 341=some _) rfl
def gb:=@id (cx.ty 221=some _) rfl
def gX:=@id (cx.ty 227=some _) rfl
def kV:=@id (cx.ty 89=some _) rfl
def kU:=@id (cx.ty 91=some _) rfl
def lG:=@id (cx.ty 22=some _) rfl
def lF:=@id (cx.ty 24=some _) rfl
def lB:=@id (cx.ty 40=some _) rfl
def lE:=@id (cx.ty 26=some _) rfl
def ku:=@id (cx.ty 65=some _) rfl
def kv:=@id (cx.ty 63=some _) rfl
def kf:=@id (cx.ty 72=some _) rfl
def gr:=@id (cx.ty 172=some _) rfl
def ke:=@id (cx.ty 73=some _) rfl
def kc:=@id (cx.ty 75=some _) rfl
def i4:=@id (cx.ty 109=some _) rfl
def kz:=@id (cx.ty 55=some _) rfl
def ky:=@id (cx.ty 57=some _) rfl
def l9:=@id (cx.ty 44=some _) rfl
def i3:=@id (cx.ty 116=some _) rfl
def kx:=@id (cx.ty 59=some _) rfl
def kw:=@id (cx.ty 61=some _) rfl
def l8:=@id (cx.ty 45=some _) rfl
def gq:=@id (cx.ty 174=some _) rfl
def kq:=@id (cx.ty 66=some _) rfl
def i2:=@id (cx.ty 120=some _) rfl
def ko:=@id (cx.ty 67=some _) rfl
def km:=@id (cx.ty 69=some _) rfl
def l7:=@id (cx.ty 46=some _) rfl
def gu:=@id (cx.ty 153=some _) rfl
def kj:=@id (cx.ty 71=some _) rfl
def ka:=@id (cx.ty 77=some _) rfl
def l6:=@id (cx.ty 47=some _) rfl
def l5:=@id (cx.ty 49=some _) rfl
def lD:=@id (cx.ty 28=some _) rfl
def lC:=@id (cx.ty 30=some _) rfl
def l4:=@id (cx.ty 50=some _) rfl
def l0:=@id (cx.ty 52=some _) rfl
def hM:=@id (cx.ty 131=some _) rfl
def gw:=@id (cx.ty 133=some _) rfl
def kZ:=@id (cx.ty 83=some _) rfl
def hZ:=@id (cx.ty 129=some _) rfl
def gv:=@id (cx.ty 134=some _) rfl
def gt:=@id (cx.ty 166=some _) rfl
def gp:=@id (cx.ty 180=some _) rfl
def gW:=@id (cx.ty 267=some _) rfl
def go:=@id (cx.ty 200=some _) rfl
def gM:=@id (cx.ty 369=some _) rfl
def gV:=@id (cx.ty 311=some _) rfl
def gL:=@id (cx.ty 375=some _) rfl
def gU:=@id (cx.ty 319=some _) rfl
def gO:=@id (cx.ty 344=some _) rfl
def gK:=@id (cx.ty 382=some _) rfl
def gI:=@id (cx.ty 422=some _) rfl
def gH:=@id (cx.ty 435=some _) rfl
def AP.dd (_o:Bool) (x:AP):DD:=.st [.lf (.int .i64 x.H6),.lf (.int .i64 x.BI),.lf (.string x.AH),.lf (.string x.A6)]
theorem AP.dd_eq (o:Bool) (x:AP):x.dd o=.st [.lf (.int .i64 x.H6),.lf (.int .i64 x.BI),.lf (.string x.AH),.lf (.string x.A6)]:=rfl
theorem AP.sh_dd (o:Bool) (x:AP):(x.dd o).sh=E6:=by
 rw[AP.dd_eq];simp only[DD.sh,DD.shs]
theorem AP.vw_dd (o:Bool) (x:AP):(x.dd o).vw=x.dd false:=by
 simp only[AP.dd_eq,DD.vw,DD.vws]
theorem AP.is_dd (o:Bool) (x:AP):(x.dd o).is o x.enc:=by
 rw[AP.dd_eq,AP.enc_eq]
 exact D5 (Aj (BP _) (Aj (BP _) (Aj (BP _) (Aj (BP _) (Bz)))))
theorem AP.vws_dd (o:Bool) (l:List AP):DD.vws (l.map (AP.dd o))=l.map (AP.dd false):=B5 (AP.vw_dd o) l
theorem AP.shs_dd (o:Bool) (l:List AP):DD.shs (l.map (AP.dd o))=List.replicate l.length E6:=BM (AP.sh_dd o) l
def A3.dd (_o:Bool) (x:A3):DD:=.st [.lf (.int .i64 x.BI),.lf (.int .i64 x.fAt)]
theorem A3.dd_eq (o:Bool) (x:A3):x.dd o=.st [.lf (.int .i64 x.BI),.lf (.int .i64 x.fAt)]:=rfl
theorem A3.sh_dd (o:Bool) (x:A3):(x.dd o).sh=Bc:=by
 rw[A3.dd_eq];simp only[DD.sh,DD.shs]
theorem A3.vw_dd (o:Bool) (x:A3):(x.dd o).vw=x.dd false:=by
 simp only[A3.dd_eq,DD.vw,DD.vws]
theorem A3.is_dd (o:Bool) (x:A3):(x.dd o).is o x.enc:=by
 rw[A3.dd_eq,A3.enc_eq]
 exact D5 (Aj (BP _) (Aj (BP _) (Bz)))
theorem A3.vws_dd (o:Bool) (l:List A3):DD.vws (l.map (A3.dd o))=l.map (A3.dd false):=B5 (A3.vw_dd o) l
theorem A3.shs_dd (o:Bool) (l:List A3):DD.shs (l.map (A3.dd o))=List.replicate l.length Bc:=BM (A3.sh_dd o) l
def AR.dd (o:Bool) (x:AR):DD:=.st [.lf (.int .i64 x.H6),A3.dd o x.fAt]
theorem AR.dd_eq (o:Bool) (x:AR):x.dd o=.st [.lf (.int .i64 x.H6),A3.dd o x.fAt]:=rfl
theorem AR.sh_dd (o:Bool) (x:AR):(x.dd o).sh=Gh:=by
 rw[AR.dd_eq];simp only[DD.sh,DD.shs,A3.sh_dd]
theorem AR.vw_dd (o:Bool) (x:AR):(x.dd o).vw=x.dd false:=by
 simp only[AR.dd_eq,DD.vw,DD.vws,A3.vw_dd o]
theorem AR.is_dd (o:Bool) (x:AR):(x.dd o).is o x.enc:=by
 rw[AR.dd_eq,AR.enc_eq]
 exact D5 (Aj (BP _) (Aj (A3.is_dd o x.fAt) (Bz)))
theorem AR.vws_dd (o:Bool) (l:List AR):DD.vws (l.map (AR.dd o))=l.map (AR.dd false):=B5 (AR.vw_dd o) l
theorem AR.shs_dd (o:Bool) (l:List AR):DD.shs (l.map (AR.dd o))=List.replicate l.length Gh:=BM (AR.sh_dd o) l
mutual
def A7.dd (o:Bool):A7→DD
 |⟨AH,fN,fAt,AB⟩=> .st [.lf (.int .i64 AH),.lf (.int .i64 fN),A3.dd o fAt,.sl o Bd (A7.dds o AB)]
def A7.dds (o:Bool):List A7→List DD
 |[]=>[]
 |x::l=>x.dd o::A7.dds o l
end
theorem A7.dds_eq (o:Bool):∀l:List A7,A7.dds o l=l.map (A7.dd o)
 |[]=>rfl
 |x::l=>by simp only[A7.dds,A7.dds_eq o l,List.map_cons]
theorem A7.dd_eq (o:Bool) (x:A7):x.dd o=.st [.lf (.int .i64 x.AH),.lf (.int .i64 x.fN),A3.dd o x.fAt,.sl o Bd (x.AB.map (A7.dd o))]:=by
 cases x;simp only[A7.dd,A7.dds_eq]
theorem A7.sh_dd (o:Bool) (x:A7):(x.dd o).sh=Bd:=by
 rw[A7.dd_eq];simp only[DD.sh,DD.shs,A3.sh_dd]
mutual
theorem A7.vw_dd (o:Bool):∀x:A7,(x.dd o).vw=x.dd false
 |⟨AH,fN,fAt,AB⟩=>by simp only[A7.dd,DD.vw,DD.vws,A3.vw_dd o fAt,A7.vws_dds o AB]
theorem A7.vws_dds (o:Bool):∀l:List A7,DD.vws (A7.dds o l)=A7.dds false l
 |[]=>rfl
 |x::l=>by simp only[A7.dds,DD.vws,A7.vw_dd o x,A7.vws_dds o l]
end
mutual
theorem A7.is_dd (o:Bool) (x:A7):(x.dd o).is o x.enc:=by
 rw[A7.dd_eq,A7.enc_eq]
 exact D5 (Aj (BP _) (Aj (BP _) (Aj (A3.is_dd o x.fAt) (Aj (CD (A7.sh_dd o) (by decide) (fun y hy=>A7.is_dd o y)) (Bz)))))
termination_by SizeOf.sizeOf x
decreasing_by all_goals first|(have:=List.sizeOf_lt_of_mem hy;have:=x.lt_fArgs;omega)
end
theorem A7.vws_dd (o:Bool) (l:List A7):DD.vws (l.map (A7.dd o))=l.map (A7.dd false):=B5 (A7.vw_dd o) l
theorem A7.shs_dd (o:Bool) (l:List A7):DD.shs (l.map (A7.dd o))=List.replicate l.length Bd:=BM (A7.sh_dd o) l
mutual
def A0.dd (o:Bool):A0→DD
 |⟨AH,A6,AB⟩=> .st [.lf (.int .i64 AH),.lf (.string A6),.sl o Ag (A0.dds o AB)]
def A0.dds (o:Bool):List A0→List DD
 |[]=>[]
 |x::l=>x.dd o::A0.dds o l
end
theorem A0.dds_eq (o:Bool):∀l:List A0,A0.dds o l=l.map (A0.dd o)
 |[]=>rfl
 |x::l=>by simp only[A0.dds,A0.dds_eq o l,List.map_cons]
theorem A0.dd_eq (o:Bool) (x:A0):x.dd o=.st [.lf (.int .i64 x.AH),.lf (.string x.A6),.sl o Ag (x.AB.map (A0.dd o))]:=by
 cases x;simp only[A0.dd,A0.dds_eq]
theorem A0.sh_dd (o:Bool) (x:A0):(x.dd o).sh=Ag:=by
 rw[A0.dd_eq];simp only[DD.sh,DD.shs]
mutual
theorem A0.vw_dd (o:Bool):∀x:A0,(x.dd o).vw=x.dd false
 |⟨AH,A6,AB⟩=>by simp only[A0.dd,DD.vw,DD.vws,A0.vws_dds o AB]
theorem A0.vws_dds (o:Bool):∀l:List A0,DD.vws (A0.dds o l)=A0.dds false l
 |[]=>rfl
 |x::l=>by simp only[A0.dds,DD.vws,A0.vw_dd o x,A0.vws_dds o l]
end
mutual
theorem A0.is_dd (o:Bool) (x:A0):(x.dd o).is o x.enc:=by
 rw[A0.dd_eq,A0.enc_eq]
 exact D5 (Aj (BP _) (Aj (BP _) (Aj (CD (A0.sh_dd o) (by decide) (fun y hy=>A0.is_dd o y)) (Bz))))
termination_by SizeOf.sizeOf x
decreasing_by all_goals first|(have:=List.sizeOf_lt_of_mem hy;have:=x.lt_fArgs;omega)
end
theorem A0.vws_dd (o:Bool) (l:List A0):DD.vws (l.map (A0.dd o))=l.map (A0.dd false):=B5 (A0.vw_dd o) l
theorem A0.shs_dd (o:Bool) (l:List A0):DD.shs (l.map (A0.dd o))=List.replicate l.length Ag:=BM (A0.sh_dd o) l
mutual
def Ab.dd (o:Bool):Ab→DD
 |⟨AY,AZ,Aa⟩=> .st [.lf (.string AY),.sl o .one (AZ.map dS),AG.dd o Aa]
def Ab.dds (o:Bool):List Ab→List DD
 |[]=>[]
 |x::l=>x.dd o::Ab.dds o l
def AG.dd (o:Bool):AG→DD
 |⟨AH,AK,A6,fN,AM,AB,Ad⟩=> .st [.lf (.int .i64 AH),.lf (.string AK),.lf (.string A6),.lf (.int .i64 fN),A0.dd o AM,.sl o Be (AG.dds o AB),.sl o BJ (Ab.dds o Ad)]
def AG.dds (o:Bool):List AG→List DD
 |[]=>[]
 |x::l=>x.dd o::AG.dds o l
end
theorem Ab.dds_eq (o:Bool):∀l:List Ab,Ab.dds o l=l.map (Ab.dd o)
 |[]=>rfl
 |x::l=>by simp only[Ab.dds,Ab.dds_eq o l,List.map_cons]
theorem AG.dds_eq (o:Bool):∀l:List AG,AG.dds o l=l.map (AG.dd o)
 |[]=>rfl
 |x::l=>by simp only[AG.dds,AG.dds_eq o l,List.map_cons]
theorem Ab.dd_eq (o:Bool) (x:Ab):x.dd o=.st [.lf (.string x.AY),.sl o .one (x.AZ.map dS),AG.dd o x.Aa]:=by
 cases x;simp only[Ab.dd]
theorem AG.dd_eq (o:Bool) (x:AG):x.dd o=.st [.lf (.int .i64 x.AH),.lf (.string x.AK),.lf (.string x.A6),.lf (.int .i64 x.fN),A0.dd o x.AM,.sl o Be (x.AB.map (AG.dd o)),.sl o BJ (x.Ad.map (Ab.dd o))]:=by
 cases x;simp only[AG.dd,Ab.dds_eq,AG.dds_eq]
theorem AG.sh_dd (o:Bool) (x:AG):(x.dd o).sh=Be:=by
 rw[AG.dd_eq];simp only[DD.sh,DD.shs,A0.sh_dd]
theorem Ab.sh_dd (o:Bool) (x:Ab):(x.dd o).sh=BJ:=by
 rw[Ab.dd_eq];simp only[DD.sh,DD.shs,AG.sh_dd]
mutual
theorem Ab.vw_dd (o:Bool):∀x:Ab,(x.dd o).vw=x.dd false
 |⟨AY,AZ,Aa⟩=>by simp only[Ab.dd,DD.vw,DD.vws,ES,AG.vw_dd o Aa]
theorem Ab.vws_dds (o:Bool):∀l:List Ab,DD.vws (Ab.dds o l)=Ab.dds false l
 |[]=>rfl
 |x::l=>by simp only[Ab.dds,DD.vws,Ab.vw_dd o x,Ab.vws_dds o l]
theorem AG.vw_dd (o:Bool):∀x:AG,(x.dd o).vw=x.dd false
 |⟨AH,AK,A6,fN,AM,AB,Ad⟩=>by simp only[AG.dd,DD.vw,DD.vws,A0.vw_dd o AM,AG.vws_dds o AB,Ab.vws_dds o Ad]
theorem AG.vws_dds (o:Bool):∀l:List AG,DD.vws (AG.dds o l)=AG.dds false l
 |[]=>rfl
 |x::l=>by simp only[AG.dds,DD.vws,AG.vw_dd o x,AG.vws_dds o l]
end
mutual
theorem Ab.is_dd (o:Bool) (x:Ab):(x.dd o).is o x.enc:=by
 rw[Ab.dd_eq,Ab.enc_eq]
 exact D5 (Aj (BP _) (Aj (CD (s:=.one) (fun _=>rfl) (by decide) (fun _ _=>BP _)) (Aj (AG.is_dd o x.Aa) (Bz))))
termination_by SizeOf.sizeOf x
decreasing_by all_goals first|(have:=x.lt_fBody;omega)
theorem AG.is_dd (o:Bool) (x:AG):(x.dd o).is o x.enc:=by
 rw[AG.dd_eq,AG.enc_eq]
 exact D5 (Aj (BP _) (Aj (BP _) (Aj (BP _) (Aj (BP _) (Aj (A0.is_dd o x.AM) (Aj (CD (AG.sh_dd o) (by decide) (fun y hy=>AG.is_dd o y)) (Aj (CD (Ab.sh_dd o) (by decide) (fun y hy=>Ab.is_dd o y)) (Bz))))))))
termination_by SizeOf.sizeOf x
decreasing_by all_goals first|(have:=List.sizeOf_lt_of_mem hy;have:=x.lt_fArgs;omega)|(have:=List.sizeOf_lt_of_mem hy;have:=x.lt_fArms;omega)
end
theorem Ab.vws_dd (o:Bool) (l:List Ab):DD.vws (l.map (Ab.dd o))=l.map (Ab.dd false):=B5 (Ab.vw_dd o) l
theorem Ab.shs_dd (o:Bool) (l:List Ab):DD.shs (l.map (Ab.dd o))=List.replicate l.length BJ:=BM (Ab.sh_dd o) l
theorem AG.vws_dd (o:Bool) (l:List AG):DD.vws (l.map (AG.dd o))=l.map (AG.dd false):=B5 (AG.vw_dd o) l
theorem AG.shs_dd (o:Bool) (l:List AG):DD.shs (l.map (AG.dd o))=List.replicate l.length Be:=BM (AG.sh_dd o) l
def A5.dd (o:Bool) (x:A5):DD:=.st [.lf (.string x.Fj),A0.dd o x.AM]
theorem A5.dd_eq (o:Bool) (x:A5):x.dd o=.st [.lf (.string x.Fj),A0.dd o x.AM]:=rfl
theorem A5.sh_dd (o:Bool) (x:A5):(x.dd o).sh=B9:=by
 rw[A5.dd_eq];simp only[DD.sh,DD.shs,A0.sh_dd]
theorem A5.vw_dd (o:Bool) (x:A5):(x.dd o).vw=x.dd false:=by
 simp only[A5.dd_eq,DD.vw,DD.vws,A0.vw_dd o]
theorem A5.is_dd (o:Bool) (x:A5):(x.dd o).is o x.enc:=by
 rw[A5.dd_eq,A5.enc_eq]
 exact D5 (Aj (BP _) (Aj (A0.is_dd o x.AM) (Bz)))
theorem A5.vws_dd (o:Bool) (l:List A5):DD.vws (l.map (A5.dd o))=l.map (A5.dd false):=B5 (A5.vw_dd o) l
theorem A5.shs_dd (o:Bool) (l:List A5):DD.shs (l.map (A5.dd o))=List.replicate l.length B9:=BM (A5.sh_dd o) l
def A9.dd (o:Bool) (x:A9):DD:=.st [.lf (.string x.AK),A0.dd o x.AM]
theorem A9.dd_eq (o:Bool) (x:A9):x.dd o=.st [.lf (.string x.AK),A0.dd o x.AM]:=rfl
theorem A9.sh_dd (o:Bool) (x:A9):(x.dd o).sh=BA:=by
 rw[A9.dd_eq];simp only[DD.sh,DD.shs,A0.sh_dd]
theorem A9.vw_dd (o:Bool) (x:A9):(x.dd o).vw=x.dd false:=by
 simp only[A9.dd_eq,DD.vw,DD.vws,A0.vw_dd o]
theorem A9.is_dd (o:Bool) (x:A9):(x.dd o).is o x.enc:=by
 rw[A9.dd_eq,A9.enc_eq]
 exact D5 (Aj (BP _) (Aj (A0.is_dd o x.AM) (Bz)))
theorem A9.vws_dd (o:Bool) (l:List A9):DD.vws (l.map (A9.dd o))=l.map (A9.dd false):=B5 (A9.vw_dd o) l
theorem A9.shs_dd (o:Bool) (l:List A9):DD.shs (l.map (A9.dd o))=List.replicate l.length BA:=BM (A9.sh_dd o) l
def AD.dd (o:Bool) (x:AD):DD:=.st [A9.dd o x.DS,.lf (.int .i64 x.Es),.sl o .one (x.DX.map dI)]
theorem AD.dd_eq (o:Bool) (x:AD):x.dd o=.st [A9.dd o x.DS,.lf (.int .i64 x.Es),.sl o .one (x.DX.map dI)]:=rfl
theorem AD.sh_dd (o:Bool) (x:AD):(x.dd o).sh=Bf:=by
 rw[AD.dd_eq];simp only[DD.sh,DD.shs,A9.sh_dd]
theorem AD.vw_dd (o:Bool) (x:AD):(x.dd o).vw=x.dd false:=by
 simp only[AD.dd_eq,DD.vw,DD.vws,A9.vw_dd o,TM]
theorem AD.is_dd (o:Bool) (x:AD):(x.dd o).is o x.enc:=by
 rw[AD.dd_eq,AD.enc_eq]
 exact D5 (Aj (A9.is_dd o x.DS) (Aj (BP _) (Aj (CD (s:=.one) (fun _=>rfl) (by decide) (fun _ _=>BP _)) (Bz))))
theorem AD.vws_dd (o:Bool) (l:List AD):DD.vws (l.map (AD.dd o))=l.map (AD.dd false):=B5 (AD.vw_dd o) l
theorem AD.shs_dd (o:Bool) (l:List AD):DD.shs (l.map (AD.dd o))=List.replicate l.length Bf:=BM (AD.sh_dd o) l
def AA.dd (o:Bool) (x:AA):DD:=.st [.lf (.string x.A6),.sl o Ag (x.At.map (A0.dd o))]
theorem AA.dd_eq (o:Bool) (x:AA):x.dd o=.st [.lf (.string x.A6),.sl o Ag (x.At.map (A0.dd o))]:=rfl
theorem AA.sh_dd (o:Bool) (x:AA):(x.dd o).sh=DQ:=by
 rw[AA.dd_eq];simp only[DD.sh,DD.shs]
theorem AA.vw_dd (o:Bool) (x:AA):(x.dd o).vw=x.dd false:=by
 simp only[AA.dd_eq,DD.vw,DD.vws,B5 (A0.vw_dd o)]
theorem AA.is_dd (o:Bool) (x:AA):(x.dd o).is o x.enc:=by
 rw[AA.dd_eq,AA.enc_eq]
 exact D5 (Aj (BP _) (Aj (CD (A0.sh_dd o) (by decide) (fun y hy=>A0.is_dd o y)) (Bz)))
theorem AA.vws_dd (o:Bool) (l:List AA):DD.vws (l.map (AA.dd o))=l.map (AA.dd false):=B5 (AA.vw_dd o) l
theorem AA.shs_dd (o:Bool) (l:List AA):DD.shs (l.map (AA.dd o))=List.replicate l.length DQ:=BM (AA.sh_dd o) l
def AF.dd (o:Bool) (x:AF):DD:=.st [.lf (.string x.A6),.sl o .one (x.AZ.map dS),.sl o DQ (x.A4.map (AA.dd o))]
theorem AF.dd_eq (o:Bool) (x:AF):x.dd o=.st [.lf (.string x.A6),.sl o .one (x.AZ.map dS),.sl o DQ (x.A4.map (AA.dd o))]:=rfl
theorem AF.sh_dd (o:Bool) (x:AF):(x.dd o).sh=FI:=by
 rw[AF.dd_eq];simp only[DD.sh,DD.shs]
theorem AF.vw_dd (o:Bool) (x:AF):(x.dd o).vw=x.dd false:=by
 simp only[AF.dd_eq,DD.vw,DD.vws,ES,B5 (AA.vw_dd o)]
theorem AF.is_dd (o:Bool) (x:AF):(x.dd o).is o x.enc:=by
 rw[AF.dd_eq,AF.enc_eq]
 exact D5 (Aj (BP _) (Aj (CD (s:=.one) (fun _=>rfl) (by decide) (fun _ _=>BP _)) (Aj (CD (AA.sh_dd o) (by decide) (fun y hy=>AA.is_dd o y)) (Bz))))
theorem AF.vws_dd (o:Bool) (l:List AF):DD.vws (l.map (AF.dd o))=l.map (AF.dd false):=B5 (AF.vw_dd o) l
theorem AF.shs_dd (o:Bool) (l:List AF):DD.shs (l.map (AF.dd o))=List.replicate l.length FI:=BM (AF.sh_dd o) l
def AX.dd (o:Bool) (x:AX):DD:=.st [.lf (.string x.A6),.sl o .one (x.AZ.map dS),AG.dd o x.Aa]
theorem AX.dd_eq (o:Bool) (x:AX):x.dd o=.st [.lf (.string x.A6),.sl o .one (x.AZ.map dS),AG.dd o x.Aa]:=rfl
theorem AX.sh_dd (o:Bool) (x:AX):(x.dd o).sh=DG:=by
 rw[AX.dd_eq];simp only[DD.sh,DD.shs,AG.sh_dd]
theorem AX.vw_dd (o:Bool) (x:AX):(x.dd o).vw=x.dd false:=by
 simp only[AX.dd_eq,DD.vw,DD.vws,ES,AG.vw_dd o]
theorem AX.is_dd (o:Bool) (x:AX):(x.dd o).is o x.enc:=by
 rw[AX.dd_eq,AX.enc_eq]
 exact D5 (Aj (BP _) (Aj (CD (s:=.one) (fun _=>rfl) (by decide) (fun _ _=>BP _)) (Aj (AG.is_dd o x.Aa) (Bz))))
theorem AX.vws_dd (o:Bool) (l:List AX):DD.vws (l.map (AX.dd o))=l.map (AX.dd false):=B5 (AX.vw_dd o) l
theorem AX.shs_dd (o:Bool) (l:List AX):DD.shs (l.map (AX.dd o))=List.replicate l.length DG:=BM (AX.sh_dd o) l
def AJ.dd (o:Bool) (x:AJ):DD:=.st [.lf (.string x.AK),.sl o .one (x.AZ.map dS),A0.dd o x.Ar,.sl o BA (x.Af.map (A9.dd o)),.lf (.bool x.CY),.lf (.bool x.BS),A0.dd o x.B3,.sl o DG (x.Ap.map (AX.dd o))]
theorem AJ.dd_eq (o:Bool) (x:AJ):x.dd o=.st [.lf (.string x.AK),.sl o .one (x.AZ.map dS),A0.dd o x.Ar,.sl o BA (x.Af.map (A9.dd o)),.lf (.bool x.CY),.lf (.bool x.BS),A0.dd o x.B3,.sl o DG (x.Ap.map (AX.dd o))]:=rfl
theorem AJ.sh_dd (o:Bool) (x:AJ):(x.dd o).sh=FH:=by
 rw[AJ.dd_eq];simp only[DD.sh,DD.shs,A0.sh_dd]
theorem AJ.vw_dd (o:Bool) (x:AJ):(x.dd o).vw=x.dd false:=by
 simp only[AJ.dd_eq,DD.vw,DD.vws,ES,A0.vw_dd o,B5 (A9.vw_dd o),B5 (AX.vw_dd o)]
theorem AJ.is_dd (o:Bool) (x:AJ):(x.dd o).is o x.enc:=by
 rw[AJ.dd_eq,AJ.enc_eq]
 exact D5 (Aj (BP _) (Aj (CD (s:=.one) (fun _=>rfl) (by decide) (fun _ _=>BP _)) (Aj (A0.is_dd o x.Ar) (Aj (CD (A9.sh_dd o) (by decide) (fun y hy=>A9.is_dd o y)) (Aj (BP _) (Aj (BP _) (Aj (A0.is_dd o x.B3) (Aj (CD (AX.sh_dd o) (by decide) (fun y hy=>AX.is_dd o y)) (Bz)))))))))
theorem AJ.vws_dd (o:Bool) (l:List AJ):DD.vws (l.map (AJ.dd o))=l.map (AJ.dd false):=B5 (AJ.vw_dd o) l
theorem AJ.shs_dd (o:Bool) (l:List AJ):DD.shs (l.map (AJ.dd o))=List.replicate l.length FH:=BM (AJ.sh_dd o) l
def AW.dd (o:Bool) (x:AW):DD:=.st [.lf (.string x.A6),A0.dd o x.AM]
theorem AW.dd_eq (o:Bool) (x:AW):x.dd o=.st [.lf (.string x.A6),A0.dd o x.AM]:=rfl
theorem AW.sh_dd (o:Bool) (x:AW):(x.dd o).sh=CX:=by
 rw[AW.dd_eq];simp only[DD.sh,DD.shs,A0.sh_dd]
theorem AW.vw_dd (o:Bool) (x:AW):(x.dd o).vw=x.dd false:=by
 simp only[AW.dd_eq,DD.vw,DD.vws,A0.vw_dd o]
theorem AW.is_dd (o:Bool) (x:AW):(x.dd o).is o x.enc:=by
 rw[AW.dd_eq,AW.enc_eq]
 exact D5 (Aj (BP _) (Aj (A0.is_dd o x.AM) (Bz)))
theorem AW.vws_dd (o:Bool) (l:List AW):DD.vws (l.map (AW.dd o))=l.map (AW.dd false):=B5 (AW.vw_dd o) l
theorem AW.shs_dd (o:Bool) (l:List AW):DD.shs (l.map (AW.dd o))=List.replicate l.length CX:=BM (AW.sh_dd o) l
def AL.dd (o:Bool) (x:AL):DD:=.st [.lf (.string x.A6),.sl o .one (x.AZ.map dS),.sl o BA (x.Af.map (A9.dd o)),.sl o CX (x.Al.map (AW.dd o)),A0.dd o x.B8,AG.dd o x.Aa]
theorem AL.dd_eq (o:Bool) (x:AL):x.dd o=.st [.lf (.string x.A6),.sl o .one (x.AZ.map dS),.sl o BA (x.Af.map (A9.dd o)),.sl o CX (x.Al.map (AW.dd o)),A0.dd o x.B8,AG.dd o x.Aa]:=rfl
theorem AL.sh_dd (o:Bool) (x:AL):(x.dd o).sh=FG:=by
 rw[AL.dd_eq];simp only[DD.sh,DD.shs,AG.sh_dd,A0.sh_dd]
theorem AL.vw_dd (o:Bool) (x:AL):(x.dd o).vw=x.dd false:=by
 simp only[AL.dd_eq,DD.vw,DD.vws,ES,B5 (A9.vw_dd o),B5 (AW.vw_dd o),A0.vw_dd o,AG.vw_dd o]
theorem AL.is_dd (o:Bool) (x:AL):(x.dd o).is o x.enc:=by
 rw[AL.dd_eq,AL.enc_eq]
 exact D5 (Aj (BP _) (Aj (CD (s:=.one) (fun _=>rfl) (by decide) (fun _ _=>BP _)) (Aj (CD (A9.sh_dd o) (by decide) (fun y hy=>A9.is_dd o y)) (Aj (CD (AW.sh_dd o) (by decide) (fun y hy=>AW.is_dd o y)) (Aj (A0.is_dd o x.B8) (Aj (AG.is_dd o x.Aa) (Bz)))))))
theorem AL.vws_dd (o:Bool) (l:List AL):DD.vws (l.map (AL.dd o))=l.map (AL.dd false):=B5 (AL.vw_dd o) l
theorem AL.shs_dd (o:Bool) (l:List AL):DD.shs (l.map (AL.dd o))=List.replicate l.length FG:=BM (AL.sh_dd o) l
def AC.dd (o:Bool) (x:AC):DD:=.st [.lf (.string x.A6),.sl o Ag (x.Al.map (A0.dd o)),A0.dd o x.B8,.lf (.bool x.BR),.sl o .one (x.AZ.map dS),AG.dd o x.Aa]
theorem AC.dd_eq (o:Bool) (x:AC):x.dd o=.st [.lf (.string x.A6),.sl o Ag (x.Al.map (A0.dd o)),A0.dd o x.B8,.lf (.bool x.BR),.sl o .one (x.AZ.map dS),AG.dd o x.Aa]:=rfl
theorem AC.sh_dd (o:Bool) (x:AC):(x.dd o).sh=CM:=by
 rw[AC.dd_eq];simp only[DD.sh,DD.shs,AG.sh_dd,A0.sh_dd]
theorem AC.vw_dd (o:Bool) (x:AC):(x.dd o).vw=x.dd false:=by
 simp only[AC.dd_eq,DD.vw,DD.vws,B5 (A0.vw_dd o),A0.vw_dd o,ES,AG.vw_dd o]
theorem AC.is_dd (o:Bool) (x:AC):(x.dd o).is o x.enc:=by
 rw[AC.dd_eq,AC.enc_eq]
 exact D5 (Aj (BP _) (Aj (CD (A0.sh_dd o) (by decide) (fun y hy=>A0.is_dd o y)) (Aj (A0.is_dd o x.B8) (Aj (BP _) (Aj (CD (s:=.one) (fun _=>rfl) (by decide) (fun _ _=>BP _)) (Aj (AG.is_dd o x.Aa) (Bz)))))))
theorem AC.vws_dd (o:Bool) (l:List AC):DD.vws (l.map (AC.dd o))=l.map (AC.dd false):=B5 (AC.vw_dd o) l
theorem AC.shs_dd (o:Bool) (l:List AC):DD.shs (l.map (AC.dd o))=List.replicate l.length CM:=BM (AC.sh_dd o) l
def AS.dd (o:Bool) (x:AS):DD:=.st [.lf (.string x.A6),.sl o .one (x.Ao.map dS),.lf (.bool x.CP),.lf (.bool x.B3),.sl o CM (x.AU.map (AC.dd o))]
theorem AS.dd_eq (o:Bool) (x:AS):x.dd o=.st [.lf (.string x.A6),.sl o .one (x.Ao.map dS),.lf (.bool x.CP),.lf (.bool x.B3),.sl o CM (x.AU.map (AC.dd o))]:=rfl
theorem AS.sh_dd (o:Bool) (x:AS):(x.dd o).sh=FJ:=by
 rw[AS.dd_eq];simp only[DD.sh,DD.shs]
theorem AS.vw_dd (o:Bool) (x:AS):(x.dd o).vw=x.dd false:=by
 simp only[AS.dd_eq,DD.vw,DD.vws,ES,B5 (AC.vw_dd o)]
theorem AS.is_dd (o:Bool) (x:AS):(x.dd o).is o x.enc:=by
 rw[AS.dd_eq,AS.enc_eq]
 exact D5 (Aj (BP _) (Aj (CD (s:=.one) (fun _=>rfl) (by decide) (fun _ _=>BP _)) (Aj (BP _) (Aj (BP _) (Aj (CD (AC.sh_dd o) (by decide) (fun y hy=>AC.is_dd o y)) (Bz))))))
theorem AS.vws_dd (o:Bool) (l:List AS):DD.vws (l.map (AS.dd o))=l.map (AS.dd false):=B5 (AS.vw_dd o) l
theorem AS.shs_dd (o:Bool) (l:List AS):DD.shs (l.map (AS.dd o))=List.replicate l.length FJ:=BM (AS.sh_dd o) l
def A8.dd (o:Bool) (x:A8):DD:=.st [.lf (.string x.A6),.sl o .one (x.BZ.map dS),.sl o FJ (x.Ai.map (AS.dd o)),.sl o FI (x.AE.map (AF.dd o)),.sl o FH (x.AO.map (AJ.dd o)),.sl o FG (x.Ac.map (AL.dd o))]
theorem A8.dd_eq (o:Bool) (x:A8):x.dd o=.st [.lf (.string x.A6),.sl o .one (x.BZ.map dS),.sl o FJ (x.Ai.map (AS.dd o)),.sl o FI (x.AE.map (AF.dd o)),.sl o FH (x.AO.map (AJ.dd o)),.sl o FG (x.Ac.map (AL.dd o))]:=rfl
theorem A8.sh_dd (o:Bool) (x:A8):(x.dd o).sh=Dt:=by
 rw[A8.dd_eq];simp only[DD.sh,DD.shs]
theorem A8.vw_dd (o:Bool) (x:A8):(x.dd o).vw=x.dd false:=by
 simp only[A8.dd_eq,DD.vw,DD.vws,ES,B5 (AS.vw_dd o),B5 (AF.vw_dd o),B5 (AJ.vw_dd o),B5 (AL.vw_dd o)]
theorem A8.is_dd (o:Bool) (x:A8):(x.dd o).is o x.enc:=by
 rw[A8.dd_eq,A8.enc_eq]
 exact D5 (Aj (BP _) (Aj (CD (s:=.one) (fun _=>rfl) (by decide) (fun _ _=>BP _)) (Aj (CD (AS.sh_dd o) (by decide) (fun y hy=>AS.is_dd o y)) (Aj (CD (AF.sh_dd o) (by decide) (fun y hy=>AF.is_dd o y)) (Aj (CD (AJ.sh_dd o) (by decide) (fun y hy=>AJ.is_dd o y)) (Aj (CD (AL.sh_dd o) (by decide) (fun y hy=>AL.is_dd o y)) (Bz)))))))
theorem A8.vws_dd (o:Bool) (l:List A8):DD.vws (l.map (A8.dd o))=l.map (A8.dd false):=B5 (A8.vw_dd o) l
theorem A8.shs_dd (o:Bool) (l:List A8):DD.shs (l.map (A8.dd o))=List.replicate l.length Dt:=BM (A8.sh_dd o) l
def A1.dd (o:Bool) (x:A1):DD:=.st [.sl o Dt (x.A2.map (A8.dd o))]
theorem A1.dd_eq (o:Bool) (x:A1):x.dd o=.st [.sl o Dt (x.A2.map (A8.dd o))]:=rfl
theorem A1.sh_dd (o:Bool) (x:A1):(x.dd o).sh=OZ:=by
 rw[A1.dd_eq];simp only[DD.sh,DD.shs]
theorem A1.vw_dd (o:Bool) (x:A1):(x.dd o).vw=x.dd false:=by
 simp only[A1.dd_eq,DD.vw,DD.vws,B5 (A8.vw_dd o)]
theorem A1.is_dd (o:Bool) (x:A1):(x.dd o).is o x.enc:=by
 rw[A1.dd_eq,A1.enc_eq]
 exact D5 (Aj (CD (A8.sh_dd o) (by decide) (fun y hy=>A8.is_dd o y)) (Bz))
theorem A1.vws_dd (o:Bool) (l:List A1):DD.vws (l.map (A1.dd o))=l.map (A1.dd false):=B5 (A1.vw_dd o) l
theorem A1.shs_dd (o:Bool) (l:List A1):DD.shs (l.map (A1.dd o))=List.replicate l.length OZ:=BM (A1.sh_dd o) l
attribute [simp] ty3 ty4 ty5 ty9 lA gf gh ga gJ gZ gY gT gn gk kY gS gj gi kX gR ge gQ gd gc kW gP gb gX kV kU lG lF lB lE ku kv kf gr ke kc i4 kz ky l9 i3 kx kw l8 gq kq i2 ko km l7 gu kj ka l6 l5 lD lC l4 l0 hM gw kZ hZ gv gt gp gW go gM gV gL gU gO gK gI gH AP.dd_eq AP.vws_dd AP.shs_dd A3.dd_eq A3.vws_dd A3.shs_dd AR.dd_eq AR.vws_dd AR.shs_dd A7.dd_eq A7.vws_dd A7.shs_dd A0.dd_eq A0.vws_dd A0.shs_dd Ab.dd_eq Ab.vws_dd Ab.shs_dd AG.dd_eq AG.vws_dd AG.shs_dd A5.dd_eq A5.vws_dd A5.shs_dd A9.dd_eq A9.vws_dd A9.shs_dd AD.dd_eq AD.vws_dd AD.shs_dd AA.dd_eq AA.vws_dd AA.shs_dd AF.dd_eq AF.vws_dd AF.shs_dd AX.dd_eq AX.vws_dd AX.shs_dd AJ.dd_eq AJ.vws_dd AJ.shs_dd AW.dd_eq AW.vws_dd AW.shs_dd AL.dd_eq AL.vws_dd AL.shs_dd AC.dd_eq AC.vws_dd AC.shs_dd AS.dd_eq AS.vws_dd AS.shs_dd A8.dd_eq A8.vws_dd A8.shs_dd A1.dd_eq A1.vws_dd A1.shs_dd
abbrev As (x:A1):DD:=.st [.sl false Dt ((x.A2).map (A8.dd false))]
abbrev TY (x:A8):DD:=.st [.lf (.string (x.A6)),.sl false .one ((x.BZ).map (dS)),.sl false FJ ((x.Ai).map (AS.dd false)),.sl false FI ((x.AE).map (AF.dd false)),.sl false FH ((x.AO).map (AJ.dd false)),.sl false FG ((x.Ac).map (AL.dd false))]
abbrev K5 (x:AS):DD:=.st [.lf (.string (x.A6)),.sl false .one ((x.Ao).map (dS)),.lf (.bool (x.CP)),.lf (.bool (x.B3)),.sl false CM ((x.AU).map (AC.dd false))]
abbrev Rl (x:AF):DD:=.st [.lf (.string (x.A6)),.sl false .one ((x.AZ).map (dS)),.sl false DQ ((x.A4).map (AA.dd false))]
abbrev E4 (x:AJ):DD:=.st [.lf (.string (x.AK)),.sl false .one ((x.AZ).map (dS)),.st [.lf (.int .i64 (x.Ar.AH)),.lf (.string (x.Ar.A6)),.sl false Ag ((x.Ar.AB).map (A0.dd false))],.sl false BA ((x.Af).map (A9.dd false)),.lf (.bool (x.CY)),.lf (.bool (x.BS)),.st [.lf (.int .i64 (x.B3.AH)),.lf (.string (x.B3.A6)),.sl false Ag ((x.B3.AB).map (A0.dd false))],.sl false DG ((x.Ap).map (AX.dd false))]
abbrev Mg (x:AL):DD:=.st [.lf (.string (x.A6)),.sl false .one ((x.AZ).map (dS)),.sl false BA ((x.Af).map (A9.dd false)),.sl false CX ((x.Al).map (AW.dd false)),.st [.lf (.int .i64 (x.B8.AH)),.lf (.string (x.B8.A6)),.sl false Ag ((x.B8.AB).map (A0.dd false))],.st [.lf (.int .i64 (x.Aa.AH)),.lf (.string (x.Aa.AK)),.lf (.string (x.Aa.A6)),.lf (.int .i64 (x.Aa.fN)),.st [.lf (.int .i64 (x.Aa.AM.AH)),.lf (.string (x.Aa.AM.A6)),.sl false Ag ((x.Aa.AM.AB).map (A0.dd false))],.sl false Be ((x.Aa.AB).map (AG.dd false)),.sl false BJ ((x.Aa.Ad).map (Ab.dd false))]]
abbrev K6 (x:AC):DD:=.st [.lf (.string (x.A6)),.sl false Ag ((x.Al).map (A0.dd false)),.st [.lf (.int .i64 (x.B8.AH)),.lf (.string (x.B8.A6)),.sl false Ag ((x.B8.AB).map (A0.dd false))],.lf (.bool (x.BR)),.sl false .one ((x.AZ).map (dS)),.st [.lf (.int .i64 (x.Aa.AH)),.lf (.string (x.Aa.AK)),.lf (.string (x.Aa.A6)),.lf (.int .i64 (x.Aa.fN)),.st [.lf (.int .i64 (x.Aa.AM.AH)),.lf (.string (x.Aa.AM.A6)),.sl false Ag ((x.Aa.AM.AB).map (A0.dd false))],.sl false Be ((x.Aa.AB).map (AG.dd false)),.sl false BJ ((x.Aa.Ad).map (Ab.dd false))]]
abbrev bz (x:Ab):DD:=.st [.lf (.string (x.AY)),.sl false .one ((x.AZ).map (dS)),.st [.lf (.int .i64 (x.Aa.AH)),.lf (.string (x.Aa.AK)),.lf (.string (x.Aa.A6)),.lf (.int .i64 (x.Aa.fN)),.st [.lf (.int .i64 (x.Aa.AM.AH)),.lf (.string (x.Aa.AM.A6)),.sl false Ag ((x.Aa.AM.AB).map (A0.dd false))],.sl false Be ((x.Aa.AB).map (AG.dd false)),.sl false BJ ((x.Aa.Ad).map (Ab.dd false))]]
abbrev IA (x:AG):DD:=.st [.lf (.int .i64 (x.AH)),.lf (.string (x.AK)),.lf (.string (x.A6)),.lf (.int .i64 (x.fN)),.st [.lf (.int .i64 (x.AM.AH)),.lf (.string (x.AM.A6)),.sl false Ag ((x.AM.AB).map (A0.dd false))],.sl false Be ((x.AB).map (AG.dd false)),.sl false BJ ((x.Ad).map (Ab.dd false))]
abbrev Dr (x:A9):DD:=.st [.lf (.string (x.AK)),.st [.lf (.int .i64 (x.AM.AH)),.lf (.string (x.AM.A6)),.sl false Ag ((x.AM.AB).map (A0.dd false))]]
abbrev Md (x:A0):DD:=.st [.lf (.int .i64 (x.AH)),.lf (.string (x.A6)),.sl false Ag ((x.AB).map (A0.dd false))]
abbrev FR (x:A3):DD:=.st [.lf (.int .i64 (x.BI)),.lf (.int .i64 (x.fAt))]
abbrev bu (x:AD):DD:=.st [.st [.lf (.string (x.DS.AK)),.st [.lf (.int .i64 (x.DS.AM.AH)),.lf (.string (x.DS.AM.A6)),.sl false Ag ((x.DS.AM.AB).map (A0.dd false))]],.lf (.int .i64 (x.Es)),.sl false .one ((x.DX).map (dI))]
abbrev uK (k:Int) (n:ByteArray) (l:List A0):DD:=.st [.lf (.int .i64 (k)),.lf (.string (n)),.sl false Ag ((l).map (A0.dd false))]
