/- Parts of the proof. -/
import Derived.Test.YtlikpcpllahalaaGreatG9
set_option linter.unusedSimpArgs false
set_option linter.unusedVariables false
namespace Go.Proofs.YtlikpcpllahalaaGreat.V
open Go.RowKit
abbrev au (f:FuncId):Prop:=bn Tryz.prog f
theorem av {f:FuncId} {fn:Func} (h:Tryz.prog.funcs[f]? =some fn) (h1:(fn.name== "runtime.NumGoroutine")=false:=by kernel_rfl) (h2:fn.body.isNone=false:=by kernel_rfl):au f:=Pv h h1 h2
@[go_sem] theorem tv3:tv Tryz.prog 3=some ⟨1,false,.int .i64 0,8,.other⟩:=by kernel_rfl
@[go_sem] theorem tv4:tv Tryz.prog 4=some ⟨1,false,.bool false,1,.other⟩:=by kernel_rfl
@[go_sem] theorem tv22:tv Tryz.prog 22=some ⟨1,false,.slice none 0 0,24,.slice 246⟩:=by kernel_rfl
@[go_sem] theorem tv24:tv Tryz.prog 24=some ⟨1,true,.agg #[.slice none 0 0],24,.struct [(0,22)]⟩:=by kernel_rfl
@[go_sem] theorem tv25:tv Tryz.prog 25=some ⟨1,false,.slice none 0 0,24,.slice 108⟩:=by kernel_rfl
@[go_sem] theorem tv27:tv Tryz.prog 27=some ⟨2,true,.agg #[.slice none 0 0,.slice none 0 0],48,.struct [(0,24),(1,25)]⟩:=by kernel_rfl
@[go_sem] theorem tv28:tv Tryz.prog 28=some ⟨1,false,.slice none 0 0,24,.slice 133⟩:=by kernel_rfl
@[go_sem] theorem tv29:tv Tryz.prog 29=some ⟨1,false,.slice none 0 0,24,.slice 95⟩:=by kernel_rfl
@[go_sem] theorem tv30:tv Tryz.prog 30=some ⟨1,false,.slice none 0 0,24,.slice 55⟩:=by kernel_rfl
@[go_sem] theorem tv32:tv Tryz.prog 32=some ⟨5,true,.agg #[.slice none 0 0,.slice none 0 0,.slice none 0 0,.slice none 0 0,.int .i64 0],104,.struct [(0,24),(1,28),(2,29),(3,30),(4,3)]⟩:=by kernel_rfl
@[go_sem] theorem tv35:tv Tryz.prog 35=some ⟨1,false,.nilFunc,8,.other⟩:=by kernel_rfl
@[go_sem] theorem tv36:tv Tryz.prog 36=some ⟨1,false,.slice none 0 0,24,.slice 49⟩:=by kernel_rfl
@[go_sem] theorem tv37:tv Tryz.prog 37=some ⟨1,false,.int .i64 0,8,.other⟩:=by kernel_rfl
@[go_sem] theorem tv40:tv Tryz.prog 40=some ⟨1,false,.slice none 0 0,24,.slice 47⟩:=by kernel_rfl
@[go_sem] theorem tv44:tv Tryz.prog 44=some ⟨5,true,.agg #[.int .i64 0,.int .i64 0,.int .i64 0,.int .i64 0,.int .i64 0],40,.struct [(0,3),(1,3),(2,3),(3,3),(4,3)]⟩:=by kernel_rfl
@[go_sem] theorem tv45:tv Tryz.prog 45=some ⟨1,false,.slice none 0 0,24,.slice 3⟩:=by kernel_rfl
@[go_sem] theorem tv47:tv Tryz.prog 47=some ⟨8,true,.agg #[.int .i64 0,.int .i64 0,.int .i64 0,.int .i64 0,.int .i64 0,.int .i64 0,.slice none 0 0,.slice none 0 0],96,.struct [(0,3),(1,44),(6,29),(7,45)]⟩:=by kernel_rfl
@[go_sem] theorem tv49:tv Tryz.prog 49=some ⟨6,true,.agg #[.int .i64 0,.int .i64 0,.int .i64 0,.int .i64 0,.int .i64 0,.bool false],48,.struct [(0,3),(1,3),(2,3),(3,3),(4,3),(5,4)]⟩:=by kernel_rfl
@[go_sem] theorem tv53:tv Tryz.prog 53=some ⟨2,true,.agg #[.int .i64 0,.int .i64 0],16,.struct [(0,3),(1,3)]⟩:=by kernel_rfl
@[go_sem] theorem tv55:tv Tryz.prog 55=some ⟨9,true,.agg #[.int .i64 0,.int .i64 0,.int .i64 0,.int .i64 0,.int .i64 0,.int .i64 0,.int .i64 0,.int .i64 0,.int .i64 0],72,.struct [(0,3),(1,3),(2,53),(4,3),(5,3),(6,3),(7,3),(8,3)]⟩:=by kernel_rfl
@[go_sem] theorem tv56:tv Tryz.prog 56=some ⟨1,false,.slice none 0 0,24,.slice 66⟩:=by kernel_rfl
@[go_sem] theorem tv59:tv Tryz.prog 59=some ⟨1,false,.slice none 0 0,24,.slice 67⟩:=by kernel_rfl
@[go_sem] theorem tv62:tv Tryz.prog 62=some ⟨1,false,.nilFunc,8,.other⟩:=by kernel_rfl
@[go_sem] theorem tv63:tv Tryz.prog 63=some ⟨1,false,.slice none 0 0,24,.slice 45⟩:=by kernel_rfl
@[go_sem] theorem tv66:tv Tryz.prog 66=some ⟨5,true,.agg #[.int .i64 0,.int .i64 0,.int .i64 0,.int .i64 0,.int .i64 0],40,.struct [(0,3),(1,3),(2,3),(3,3),(4,3)]⟩:=by kernel_rfl
@[go_sem] theorem tv67:tv Tryz.prog 67=some ⟨1,false,.slice none 0 0,24,.slice 69⟩:=by kernel_rfl
@[go_sem] theorem tv69:tv Tryz.prog 69=some ⟨2,true,.agg #[.int .i64 0,.int .i64 0],16,.struct [(0,3),(1,3)]⟩:=by kernel_rfl
@[go_sem] theorem tv86:tv Tryz.prog 86=some ⟨1,false,.slice none 0 0,24,.slice 89⟩:=by kernel_rfl
@[go_sem] theorem tv89:tv Tryz.prog 89=some ⟨3,true,.agg #[.int .i64 0,.int .i64 0,.int .i64 0],24,.array 3 3⟩:=by kernel_rfl
@[go_sem] theorem tv92:tv Tryz.prog 92=some ⟨6,true,.agg #[.int .i64 0,.int .i64 0,.int .i64 0,.int .i64 0,.int .i64 0,.int .i64 0],48,.struct [(0,3),(1,3),(2,3),(3,3),(4,3),(5,3)]⟩:=by kernel_rfl
@[go_sem] theorem tv93:tv Tryz.prog 93=some ⟨1,false,.slice none 0 0,24,.slice 97⟩:=by kernel_rfl
@[go_sem] theorem tv95:tv Tryz.prog 95=some ⟨7,true,.agg #[.int .i64 0,.int .i64 0,.int .i64 0,.int .i64 0,.int .i64 0,.int .i64 0,.slice none 0 0],72,.struct [(0,92),(6,93)]⟩:=by kernel_rfl
@[go_sem] theorem tv97:tv Tryz.prog 97=some ⟨3,true,.agg #[.int .i64 0,.int .i64 0,.int .i64 0],24,.struct [(0,3),(1,3),(2,3)]⟩:=by kernel_rfl
@[go_sem] theorem tv101:tv Tryz.prog 101=some ⟨4,true,.agg #[.int .i64 0,.int .i64 0,.int .i64 0,.int .i64 0],32,.struct [(0,3),(1,3),(2,3),(3,3)]⟩:=by kernel_rfl
@[go_sem] theorem tv102:tv Tryz.prog 102=some ⟨1,false,.slice none 0 0,24,.slice 44⟩:=by kernel_rfl
@[go_sem] theorem tv104:tv Tryz.prog 104=some ⟨7,true,.agg #[.int .i64 0,.int .i64 0,.int .i64 0,.int .i64 0,.int .i64 0,.int .i64 0,.slice none 0 0],72,.struct [(0,53),(2,101),(6,102)]⟩:=by kernel_rfl
@[go_sem] theorem tv106:tv Tryz.prog 106=some ⟨9,true,.agg #[.int .i64 0,.int .i64 0,.int .i64 0,.int .i64 0,.int .i64 0,.int .i64 0,.int .i64 0,.slice none 0 0,.int .i64 0],88,.struct [(0,3),(1,3),(2,3),(3,101),(7,102),(8,3)]⟩:=by kernel_rfl
@[go_sem] theorem tv108:tv Tryz.prog 108=some ⟨39,true,.agg #[.int .i64 0,.int .i64 0,.int .i64 0,.int .i64 0,.int .i64 0,.int .i64 0,.int .i64 0,.int .i64 0,.int .i64 0,.int .i64 0,.int .i64 0,.slice none 0 0,.int .i64 0,.int .i64 0,.int .i64 0,.int .i64 0,.int .i64 0,.int .i64 0,.int .i64 0,.slice none 0 0,.int .i64 0,.int .i64 0,.int .i64 0,.int .i64 0,.int .i64 0,.int .i64 0,.int .i64 0,.int .i64 0,.int .i64 0,.int .i64 0,.int .i64 0,.int .i64 0,.int .i64 0,.int .i64 0,.int .i64 0,.int .i64 0,.int .i64 0,.int .i64 0,.int .i64 0],344,.struct [(0,3),(1,3),(2,3),(3,3),(4,3),(5,104),(12,106),(21,92),(27,97),(30,55)]⟩:=by kernel_rfl
@[go_sem] theorem tv119:tv Tryz.prog 119=some ⟨2,true,.agg #[.int .i64 0,.slice none 0 0],32,.struct [(0,3),(1,63)]⟩:=by kernel_rfl
@[go_sem] theorem tv124:tv Tryz.prog 124=some ⟨1,false,.slice none 0 0,24,.slice 128⟩:=by kernel_rfl
@[go_sem] theorem tv128:tv Tryz.prog 128=some ⟨7,true,.agg #[.int .i64 0,.int .i64 0,.int .i64 0,.int .i64 0,.int .i64 0,.int .i64 0,.slice none 0 0],72,.struct [(0,3),(1,44),(6,45)]⟩:=by kernel_rfl
@[go_sem] theorem tv129:tv Tryz.prog 129=some ⟨1,false,.slice none 0 0,24,.slice 106⟩:=by kernel_rfl
@[go_sem] theorem tv131:tv Tryz.prog 131=some ⟨10,true,.agg #[.int .i64 0,.int .i64 0,.int .i64 0,.int .i64 0,.int .i64 0,.int .i64 0,.int .i64 0,.int .i64 0,.slice none 0 0,.slice none 0 0],112,.struct [(0,3),(1,3),(2,104),(9,129)]⟩:=by kernel_rfl
@[go_sem] theorem tv133:tv Tryz.prog 133=some ⟨11,true,.agg #[.int .i64 0,.int .i64 0,.int .i64 0,.int .i64 0,.int .i64 0,.int .i64 0,.int .i64 0,.int .i64 0,.slice none 0 0,.slice none 0 0,.int .i64 0],120,.struct [(0,131),(10,3)]⟩:=by kernel_rfl
@[go_sem] theorem tv139:tv Tryz.prog 139=some ⟨1,false,.nilFunc,8,.other⟩:=by kernel_rfl
@[go_sem] theorem tv140:tv Tryz.prog 140=some ⟨5,true,.agg #[.int .i64 0,.int .i64 0,.int .i64 0,.int .i64 0,.int .i64 0],40,.struct [(0,3),(1,3),(2,3),(3,3),(4,3)]⟩:=by kernel_rfl
@[go_sem] theorem tv141:tv Tryz.prog 141=some ⟨1,false,.slice none 0 0,24,.slice 139⟩:=by kernel_rfl
@[go_sem] theorem tv170:tv Tryz.prog 170=some ⟨1,false,.slice none 0 0,24,.slice 172⟩:=by kernel_rfl
@[go_sem] theorem tv172:tv Tryz.prog 172=some ⟨4,true,.agg #[.int .i64 0,.int .i64 0,.int .i64 0,.int .i64 0],32,.struct [(0,3),(1,97)]⟩:=by kernel_rfl
@[go_sem] theorem tv193:tv Tryz.prog 193=some ⟨1,true,.agg #[.int .i64 0],8,.struct [(0,37)]⟩:=by kernel_rfl
@[go_sem] theorem tv196:tv Tryz.prog 196=some ⟨1,false,.slice none 0 0,24,.slice 200⟩:=by kernel_rfl
@[go_sem] theorem tv200:tv Tryz.prog 200=some ⟨9,true,.agg #[.int .i64 0,.int .i64 0,.bool false,.int .i64 0,.int .i64 0,.int .i64 0,.int .i64 0,.slice none 0 0,.int .i64 0],88,.struct [(0,53),(2,4),(3,101),(7,102),(8,3)]⟩:=by kernel_rfl
@[go_sem] theorem CZ:tv Tryz.prog 214=some ⟨1,false,.slice none 0 0,24,.slice 216⟩:=by kernel_rfl
@[go_sem] theorem PM:tv Tryz.prog 216=some ⟨3,true,.agg #[.int .i64 0,.int .i64 0,.int .i64 0],24,.struct [(0,3),(1,3),(2,3)]⟩:=by kernel_rfl
@[go_sem] theorem tv231:tv Tryz.prog 231=some ⟨1,false,.nilIface,16,.other⟩:=by kernel_rfl
@[go_sem] theorem tv243:tv Tryz.prog 243=some ⟨4,true,.agg #[.int .i64 0,.int .i64 0,.int .i64 0,.int .i64 0],32,.array 4 3⟩:=by kernel_rfl
@[go_sem] theorem tv244:tv Tryz.prog 244=some ⟨1,false,.slice none 0 0,24,.slice 357⟩:=by kernel_rfl
@[go_sem] theorem tv246:tv Tryz.prog 246=some ⟨9,true,.agg #[.int .i64 0,.int .i64 0,.int .i64 0,.int .i64 0,.int .i64 0,.slice none 0 0,.slice none 0 0,.slice none 0 0,.int .i64 0],120,.struct [(0,3),(1,243),(5,244),(6,45),(7,45),(8,3)]⟩:=by kernel_rfl
@[go_sem] theorem tv250:tv Tryz.prog 250=some ⟨6,true,.agg #[.int .i64 0,.int .i64 0,.int .i64 0,.int .i64 0,.int .i64 0,.bool false],48,.struct [(0,3),(1,3),(2,3),(3,3),(4,3),(5,4)]⟩:=by kernel_rfl
@[go_sem] theorem tv259:tv Tryz.prog 259=some ⟨2,true,.agg #[.int .i64 0,.int .i64 0],16,.struct [(0,3),(1,3)]⟩:=by kernel_rfl
@[go_sem] theorem tv284:tv Tryz.prog 284=some ⟨39,true,.agg #[.int .i64 0,.int .i64 0,.int .i64 0,.int .i64 0,.int .i64 0,.int .i64 0,.int .i64 0,.int .i64 0,.int .i64 0,.int .i64 0,.int .i64 0,.slice none 0 0,.int .i64 0,.int .i64 0,.int .i64 0,.int .i64 0,.int .i64 0,.int .i64 0,.int .i64 0,.slice none 0 0,.int .i64 0,.int .i64 0,.int .i64 0,.int .i64 0,.int .i64 0,.int .i64 0,.int .i64 0,.int .i64 0,.int .i64 0,.int .i64 0,.int .i64 0,.int .i64 0,.int .i64 0,.int .i64 0,.int .i64 0,.int .i64 0,.int .i64 0,.int .i64 0,.int .i64 0],344,.struct [(0,3),(1,3),(2,3),(3,3),(4,3),(5,104),(12,106),(21,92),(27,97),(30,55)]⟩:=by kernel_rfl
@[go_sem] theorem tv285:tv Tryz.prog 285=some ⟨39,true,.agg #[.int .i64 0,.int .i64 0,.int .i64 0,.int .i64 0,.int .i64 0,.int .i64 0,.int .i64 0,.int .i64 0,.int .i64 0,.int .i64 0,.int .i64 0,.slice none 0 0,.int .i64 0,.int .i64 0,.int .i64 0,.int .i64 0,.int .i64 0,.int .i64 0,.int .i64 0,.slice none 0 0,.int .i64 0,.int .i64 0,.int .i64 0,.int .i64 0,.int .i64 0,.int .i64 0,.int .i64 0,.int .i64 0,.int .i64 0,.int .i64 0,.int .i64 0,.int .i64 0,.int .i64 0,.int .i64 0,.int .i64 0,.int .i64 0,.int .i64 0,.int .i64 0,.int .i64 0],344,.struct [(0,3),(1,3),(2,3),(3,3),(4,3),(5,104),(12,106),(21,92),(27,97),(30,55)]⟩:=by kernel_rfl
@[go_sem] theorem tv286:tv Tryz.prog 286=some ⟨39,true,.agg #[.int .i64 0,.int .i64 0,.int .i64 0,.int .i64 0,.int .i64 0,.int .i64 0,.int .i64 0,.int .i64 0,.int .i64 0,.int .i64 0,.int .i64 0,.slice none 0 0,.int .i64 0,.int .i64 0,.int .i64 0,.int .i64 0,.int .i64 0,.int .i64 0,.int .i64 0,.slice none 0 0,.int .i64 0,.int .i64 0,.int .i64 0,.int .i64 0,.int .i64 0,.int .i64 0,.int .i64 0,.int .i64 0,.int .i64 0,.int .i64 0,.int .i64 0,.int .i64 0,.int .i64 0,.int .i64 0,.int .i64 0,.int .i64 0,.int .i64 0,.int .i64 0,.int .i64 0],344,.struct [(0,3),(1,3),(2,3),(3,3),(4,3),(5,104),(12,106),(21,92),(27,97),(30,55)]⟩:=by kernel_rfl
@[go_sem] theorem tv287:tv Tryz.prog 287=some ⟨39,true,.agg #[.int .i64 0,.int .i64 0,.int .i64 0,.int .i64 0,.int .i64 0,.int .i64 0,.int .i64 0,.int .i64 0,.int .i64 0,.int .i64 0,.int .i64 0,.slice none 0 0,.int .i64 0,.int .i64 0,.int .i64 0,.int .i64 0,.int .i64 0,.int .i64 0,.int .i64 0,.slice none 0 0,.int .i64 0,.int .i64 0,.int .i64 0,.int .i64 0,.int .i64 0,.int .i64 0,.int .i64 0,.int .i64 0,.int .i64 0,.int .i64 0,.int .i64 0,.int .i64 0,.int .i64 0,.int .i64 0,.int .i64 0,.int .i64 0,.int .i64 0,.int .i64 0,.int .i64 0],344,.struct [(0,3),(1,3),(2,3),(3,3),(4,3),(5,104),(12,106),(21,92),(27,97),(30,55)]⟩:=by kernel_rfl
@[go_sem] theorem tv288:tv Tryz.prog 288=some ⟨39,true,.agg #[.int .i64 0,.int .i64 0,.int .i64 0,.int .i64 0,.int .i64 0,.int .i64 0,.int .i64 0,.int .i64 0,.int .i64 0,.int .i64 0,.int .i64 0,.slice none 0 0,.int .i64 0,.int .i64 0,.int .i64 0,.int .i64 0,.int .i64 0,.int .i64 0,.int .i64 0,.slice none 0 0,.int .i64 0,.int .i64 0,.int .i64 0,.int .i64 0,.int .i64 0,.int .i64 0,.int .i64 0,.int .i64 0,.int .i64 0,.int .i64 0,.int .i64 0,.int .i64 0,.int .i64 0,.int .i64 0,.int .i64 0,.int .i64 0,.int .i64 0,.int .i64 0,.int .i64 0],344,.struct [(0,3),(1,3),(2,3),(3,3),(4,3),(5,104),(12,106),(21,92),(27,97),(30,55)]⟩:=by kernel_rfl
@[go_sem] theorem tv289:tv Tryz.prog 289=some ⟨39,true,.agg #[.int .i64 0,.int .i64 0,.int .i64 0,.int .i64 0,.int .i64 0,.int .i64 0,.int .i64 0,.int .i64 0,.int .i64 0,.int .i64 0,.int .i64 0,.slice none 0 0,.int .i64 0,.int .i64 0,.int .i64 0,.int .i64 0,.int .i64 0,.int .i64 0,.int .i64 0,.slice none 0 0,.int .i64 0,.int .i64 0,.int .i64 0,.int .i64 0,.int .i64 0,.int .i64 0,.int .i64 0,.int .i64 0,.int .i64 0,.int .i64 0,.int .i64 0,.int .i64 0,.int .i64 0,.int .i64 0,.int .i64 0,.int .i64 0,.int .i64 0,.int .i64 0,.int .i64 0],344,.struct [(0,3),(1,3),(2,3),(3,3),(4,3),(5,104),(12,106),(21,92),(27,97),(30,55)]⟩:=by kernel_rfl
@[go_sem] theorem tv290:tv Tryz.prog 290=some ⟨39,true,.agg #[.int .i64 0,.int .i64 0,.int .i64 0,.int .i64 0,.int .i64 0,.int .i64 0,.int .i64 0,.int .i64 0,.int .i64 0,.int .i64 0,.int .i64 0,.slice none 0 0,.int .i64 0,.int .i64 0,.int .i64 0,.int .i64 0,.int .i64 0,.int .i64 0,.int .i64 0,.slice none 0 0,.int .i64 0,.int .i64 0,.int .i64 0,.int .i64 0,.int .i64 0,.int .i64 0,.int .i64 0,.int .i64 0,.int .i64 0,.int .i64 0,.int .i64 0,.int .i64 0,.int .i64 0,.int .i64 0,.int .i64 0,.int .i64 0,.int .i64 0,.int .i64 0,.int .i64 0],344,.struct [(0,3),(1,3),(2,3),(3,3),(4,3),(5,104),(12,106),(21,92),(27,97),(30,55)]⟩:=by kernel_rfl
@[go_sem] theorem tv291:tv Tryz.prog 291=some ⟨8,true,.agg #[.nilIface,.nilIface,.nilIface,.nilIface,.nilIface,.nilIface,.nilIface,.nilIface],128,.array 8 231⟩:=by kernel_rfl
@[go_sem] theorem tv299:tv Tryz.prog 299=some ⟨1,false,.nilFunc,8,.other⟩:=by kernel_rfl
@[go_sem] theorem tv302:tv Tryz.prog 302=some ⟨6,true,.agg #[.nilFunc,.nilFunc,.nilFunc,.nilFunc,.nilFunc,.nilFunc],48,.array 6 299⟩:=by kernel_rfl
@[go_sem] theorem tv309:tv Tryz.prog 309=some ⟨1,false,.nilFunc,8,.other⟩:=by kernel_rfl
@[go_sem] theorem tv311:tv Tryz.prog 311=some ⟨1,true,.agg #[.nilFunc],8,.struct [(0,309)]⟩:=by kernel_rfl
@[go_sem] theorem tv315:tv Tryz.prog 315=some ⟨1,false,.slice none 0 0,24,.slice 129⟩:=by kernel_rfl
@[go_sem] theorem tv320:tv Tryz.prog 320=some ⟨2,true,.agg #[.slice none 0 0,.slice none 0 0],48,.struct [(0,45),(1,45)]⟩:=by kernel_rfl
@[go_sem] theorem tv324:tv Tryz.prog 324=some ⟨1,false,.nilFunc,8,.other⟩:=by kernel_rfl
@[go_sem] theorem tv337:tv Tryz.prog 337=some ⟨1,false,.nilIface,16,.other⟩:=by kernel_rfl
@[go_sem] theorem tv341:tv Tryz.prog 341=some ⟨0,true,.agg #[],0,.struct []⟩:=by kernel_rfl
@[go_sem] theorem tv342:tv Tryz.prog 342=some ⟨0,true,.agg #[],0,.struct []⟩:=by kernel_rfl
@[go_sem] theorem tv343:tv Tryz.prog 343=some ⟨0,true,.agg #[],0,.struct []⟩:=by kernel_rfl
@[go_sem] theorem tv344:tv Tryz.prog 344=some ⟨0,true,.agg #[],0,.struct []⟩:=by kernel_rfl
@[go_sem] theorem tv345:tv Tryz.prog 345=some ⟨0,true,.agg #[],0,.struct []⟩:=by kernel_rfl
@[go_sem] theorem tv347:tv Tryz.prog 347=some ⟨0,true,.agg #[],0,.struct []⟩:=by kernel_rfl
@[go_sem] theorem tv355:tv Tryz.prog 355=some ⟨1,false,.int .u64 0,8,.other⟩:=by kernel_rfl
@[go_sem] theorem tv357:tv Tryz.prog 357=some ⟨2,true,.agg #[.int .i64 0,.int .i64 0],16,.struct [(0,3),(1,3)]⟩:=by kernel_rfl
@[go_sem] theorem tv359:tv Tryz.prog 359=some ⟨1,false,.int .u64 0,8,.other⟩:=by kernel_rfl
@[go_sem] theorem tv378:tv Tryz.prog 378=some ⟨5,true,.agg #[.int .i64 0,.int .i64 0,.int .i64 0,.int .i64 0,.int .i64 0],40,.array 5 3⟩:=by kernel_rfl
@[go_sem] theorem tv379:tv Tryz.prog 379=some ⟨0,true,.agg #[],0,.struct []⟩:=by kernel_rfl
@[go_sem] theorem tv380:tv Tryz.prog 380=some ⟨8,true,.agg #[.nilIface,.nilIface,.nilIface,.nilIface,.nilIface,.nilIface,.nilIface,.nilIface],128,.array 8 337⟩:=by kernel_rfl
@[go_sem] theorem tv381:tv Tryz.prog 381=some ⟨1,false,.nilFunc,8,.other⟩:=by kernel_rfl
@[go_sem] theorem tv384:tv Tryz.prog 384=some ⟨1,false,.nilIface,16,.other⟩:=by kernel_rfl
@[go_sem] theorem tv391:tv Tryz.prog 391=some ⟨1,false,.slice none 0 0,24,.slice 35⟩:=by kernel_rfl
@[go_sem] theorem tv416:tv Tryz.prog 416=some ⟨1,false,.nilFunc,8,.other⟩:=by kernel_rfl
@[go_sem] theorem cl10:au 10:=av Tryz.func10
@[go_sem] theorem cl11:au 11:=av Tryz.func11
@[go_sem] theorem cl12:au 12:=av Tryz.func12
@[go_sem] theorem cl13:au 13:=av Tryz.func13
@[go_sem] theorem cl14:au 14:=av Tryz.func14
@[go_sem] theorem PN:au 16:=av Tryz.func16
@[go_sem] theorem cl24:au 24:=av Tryz.func24
@[go_sem] theorem cl25:au 25:=av Tryz.func25
@[go_sem] theorem cl27:au 27:=av Tryz.func27
@[go_sem] theorem cl28:au 28:=av Tryz.func28
@[go_sem] theorem Hy:au 33:=av Tryz.func33
@[go_sem] theorem PO:au 34:=av Tryz.func34
@[go_sem] theorem Hz:au 35:=av Tryz.func35
@[go_sem] theorem cl36:au 36:=av Tryz.func36
@[go_sem] theorem cl37:au 37:=av Tryz.func37
@[go_sem] theorem cl38:au 38:=av Tryz.func38
@[go_sem] theorem HV:au 39:=av Tryz.func39
@[go_sem] theorem PP:au 40:=av Tryz.func40
@[go_sem] theorem cl41:au 41:=av Tryz.func41
@[go_sem] theorem cl42:au 42:=av Tryz.func42
@[go_sem] theorem HY:au 43:=av Tryz.func43
@[go_sem] theorem cl45:au 45:=av Tryz.func45
@[go_sem] theorem cl46:au 46:=av Tryz.func46
@[go_sem] theorem cl47:au 47:=av Tryz.func47
@[go_sem] theorem PQ:au 48:=av Tryz.func48
@[go_sem] theorem cl50:au 50:=av Tryz.func50
@[go_sem] theorem cl52:au 52:=av Tryz.func52
@[go_sem] theorem cl54:au 54:=av Tryz.func54
@[go_sem] theorem cl55:au 55:=av Tryz.func55
@[go_sem] theorem cl61:au 61:=av Tryz.func61
@[go_sem] theorem cl62:au 62:=av Tryz.func62
@[go_sem] theorem xq:au 63:=av Tryz.func63
@[go_sem] theorem HZ:au 64:=av Tryz.func64
@[go_sem] theorem C8:au 67:=av Tryz.func67
@[go_sem] theorem cl68:au 68:=av Tryz.func68
@[go_sem] theorem cl73:au 73:=av Tryz.func73
@[go_sem] theorem cl74:au 74:=av Tryz.func74
@[go_sem] theorem cl75:au 75:=av Tryz.func75
@[go_sem] theorem cl76:au 76:=av Tryz.func76
@[go_sem] theorem H5:au 77:=av Tryz.func77
@[go_sem] theorem PR:au 78:=av Tryz.func78
@[go_sem] theorem cl79:au 79:=av Tryz.func79
@[go_sem] theorem pR:au 80:=av Tryz.func80
@[go_sem] theorem rC:au 81:=av Tryz.func81
@[go_sem] theorem cl82:au 82:=av Tryz.func82
@[go_sem] theorem cl83:au 83:=av Tryz.func83
@[go_sem] theorem cl84:au 84:=av Tryz.func84
@[go_sem] theorem cl85:au 85:=av Tryz.func85
@[go_sem] theorem cl86:au 86:=av Tryz.func86
@[go_sem] theorem cl87:au 87:=av Tryz.func87
@[go_sem] theorem PT:au 88:=av Tryz.func88
@[go_sem] theorem cl89:au 89:=av Tryz.func89
@[go_sem] theorem PU:au 90:=av Tryz.func90
@[go_sem] theorem cl91:au 91:=av Tryz.func91
@[go_sem] theorem cl92:au 92:=av Tryz.func92
@[go_sem] theorem PV:au 93:=av Tryz.func93
@[go_sem] theorem cl94:au 94:=av Tryz.func94
@[go_sem] theorem PW:au 95:=av Tryz.func95
@[go_sem] theorem cl96:au 96:=av Tryz.func96
@[go_sem] theorem cl97:au 97:=av Tryz.func97
@[go_sem] theorem C9:au 98:=av Tryz.func98
@[go_sem] theorem cl99:au 99:=av Tryz.func99
@[go_sem] theorem cl102:au 102:=av Tryz.func102
@[go_sem] theorem cl104:au 104:=av Tryz.func104
@[go_sem] theorem cl105:au 105:=av Tryz.func105
@[go_sem] theorem cl106:au 106:=av Tryz.func106
@[go_sem] theorem cl107:au 107:=av Tryz.func107
@[go_sem] theorem cl108:au 108:=av Tryz.func108
@[go_sem] theorem cl113:au 113:=av Tryz.func113
@[go_sem] theorem cl114:au 114:=av Tryz.func114
@[go_sem] theorem PX:au 115:=av Tryz.func115
@[go_sem] theorem cl116:au 116:=av Tryz.func116
@[go_sem] theorem H6:au 117:=av Tryz.func117
@[go_sem] theorem cl122:au 122:=av Tryz.func122
@[go_sem] theorem cl123:au 123:=av Tryz.func123
@[go_sem] theorem cl124:au 124:=av Tryz.func124
@[go_sem] theorem cl125:au 125:=av Tryz.func125
@[go_sem] theorem cl126:au 126:=av Tryz.func126
@[go_sem] theorem PY:au 127:=av Tryz.func127
@[go_sem] theorem cl128:au 128:=av Tryz.func128
@[go_sem] theorem cl129:au 129:=av Tryz.func129
@[go_sem] theorem cl130:au 130:=av Tryz.func130
@[go_sem] theorem PZ:au 131:=av Tryz.func131
@[go_sem] theorem cl132:au 132:=av Tryz.func132
@[go_sem] theorem bE:au 133:=av Tryz.func133
@[go_sem] theorem H7:au 134:=av Tryz.func134
@[go_sem] theorem H8:au 135:=av Tryz.func135
@[go_sem] theorem P5:au 136:=av Tryz.func136
@[go_sem] theorem cl137:au 137:=av Tryz.func137
@[go_sem] theorem cl138:au 138:=av Tryz.func138
@[go_sem] theorem cl142:au 142:=av Tryz.func142
@[go_sem] theorem cl143:au 143:=av Tryz.func143
@[go_sem] theorem cl144:au 144:=av Tryz.func144
@[go_sem] theorem cl145:au 145:=av Tryz.func145
@[go_sem] theorem cl146:au 146:=av Tryz.func146
@[go_sem] theorem cl147:au 147:=av Tryz.func147
@[go_sem] theorem cl148:au 148:=av Tryz.func148
@[go_sem] theorem cl149:au 149:=av Tryz.func149
@[go_sem] theorem cl150:au 150:=av Tryz.func150
@[go_sem] theorem cl152:au 152:=av Tryz.func152
@[go_sem] theorem cl153:au 153:=av Tryz.func153
@[go_sem] theorem cl154:au 154:=av Tryz.func154
@[go_sem] theorem cl155:au 155:=av Tryz.func155
@[go_sem] theorem cl156:au 156:=av Tryz.func156
@[go_sem] theorem cl157:au 157:=av Tryz.func157
@[go_sem] theorem P6:au 158:=av Tryz.func158
@[go_sem] theorem cl161:au 161:=av Tryz.func161
@[go_sem] theorem cl162:au 162:=av Tryz.func162
@[go_sem] theorem cl163:au 163:=av Tryz.func163
@[go_sem] theorem cl164:au 164:=av Tryz.func164
@[go_sem] theorem cl165:au 165:=av Tryz.func165
@[go_sem] theorem cl166:au 166:=av Tryz.func166
@[go_sem] theorem zk:au 167:=av Tryz.func167
@[go_sem] theorem cl168:au 168:=av Tryz.func168
@[go_sem] theorem cl169:au 169:=av Tryz.func169
@[go_sem] theorem cl170:au 170:=av Tryz.func170
@[go_sem] theorem cl171:au 171:=av Tryz.func171
@[go_sem] theorem cl174:au 174:=av Tryz.func174
@[go_sem] theorem cl175:au 175:=av Tryz.func175
@[go_sem] theorem ui:au 176:=av Tryz.func176
@[go_sem] theorem cl177:au 177:=av Tryz.func177
@[go_sem] theorem H9:au 178:=av Tryz.func178
@[go_sem] theorem Dh:au 179:=av Tryz.func179
@[go_sem] theorem cl180:au 180:=av Tryz.func180
@[go_sem] theorem cl181:au 181:=av Tryz.func181
@[go_sem] theorem cl182:au 182:=av Tryz.func182
@[go_sem] theorem cl183:au 183:=av Tryz.func183
@[go_sem] theorem cl184:au 184:=av Tryz.func184
@[go_sem] theorem cl185:au 185:=av Tryz.func185
@[go_sem] theorem cl186:au 186:=av Tryz.func186
@[go_sem] theorem cl187:au 187:=av Tryz.func187
@[go_sem] theorem cl188:au 188:=av Tryz.func188
@[go_sem] theorem P7:au 189:=av Tryz.func189
@[go_sem] theorem cl190:au 190:=av Tryz.func190
@[go_sem] theorem cl191:au 191:=av Tryz.func191
@[go_sem] theorem cl193:au 193:=av Tryz.func193
@[go_sem] theorem cl194:au 194:=av Tryz.func194
@[go_sem] theorem Ia:au 195:=av Tryz.func195
@[go_sem] theorem cl196:au 196:=av Tryz.func196
@[go_sem] theorem cl197:au 197:=av Tryz.func197
@[go_sem] theorem P8:au 198:=av Tryz.func198
@[go_sem] theorem cl199:au 199:=av Tryz.func199
@[go_sem] theorem cl200:au 200:=av Tryz.func200
@[go_sem] theorem cl201:au 201:=av Tryz.func201
@[go_sem] theorem cl204:au 204:=av Tryz.func204
@[go_sem] theorem cl205:au 205:=av Tryz.func205
@[go_sem] theorem cl206:au 206:=av Tryz.func206
@[go_sem] theorem cl207:au 207:=av Tryz.func207
@[go_sem] theorem cl208:au 208:=av Tryz.func208
@[go_sem] theorem cl209:au 209:=av Tryz.func209
@[go_sem] theorem cl210:au 210:=av Tryz.func210
@[go_sem] theorem cl211:au 211:=av Tryz.func211
@[go_sem] theorem Ib:au 215:=av Tryz.func215
@[go_sem] theorem Ic:au 217:=av Tryz.func217
@[go_sem] theorem P9:au 218:=av Tryz.func218
@[go_sem] theorem cl219:au 219:=av Tryz.func219
@[go_sem] theorem cl220:au 220:=av Tryz.func220
@[go_sem] theorem cl221:au 221:=av Tryz.func221
@[go_sem] theorem cl222:au 222:=av Tryz.func222
@[go_sem] theorem cl223:au 223:=av Tryz.func223
@[go_sem] theorem cl224:au 224:=av Tryz.func224
@[go_sem] theorem cl226:au 226:=av Tryz.func226
@[go_sem] theorem cl227:au 227:=av Tryz.func227
@[go_sem] theorem cl228:au 228:=av Tryz.func228
@[go_sem] theorem cl229:au 229:=av Tryz.func229
@[go_sem] theorem cl231:au 231:=av Tryz.func231
@[go_sem] theorem cl232:au 232:=av Tryz.func232
@[go_sem] theorem cl233:au 233:=av Tryz.func233
@[go_sem] theorem cl234:au 234:=av Tryz.func234
@[go_sem] theorem cl235:au 235:=av Tryz.func235
@[go_sem] theorem cl236:au 236:=av Tryz.func236
@[go_sem] theorem cl237:au 237:=av Tryz.func237
@[go_sem] theorem cl238:au 238:=av Tryz.func238
@[go_sem] theorem cl240:au 240:=av Tryz.func240
@[go_sem] theorem cl241:au 241:=av Tryz.func241
@[go_sem] theorem cl242:au 242:=av Tryz.func242
@[go_sem] theorem cl243:au 243:=av Tryz.func243
@[go_sem] theorem cl244:au 244:=av Tryz.func244
@[go_sem] theorem cl245:au 245:=av Tryz.func245
@[go_sem] theorem Qa:au 246:=av Tryz.func246
@[go_sem] theorem cl248:au 248:=av Tryz.func248
@[go_sem] theorem cl249:au 249:=av Tryz.func249
@[go_sem] theorem cl250:au 250:=av Tryz.func250
@[go_sem] theorem Di:au 251:=av Tryz.func251
@[go_sem] theorem cl252:au 252:=av Tryz.func252
@[go_sem] theorem cl253:au 253:=av Tryz.func253
@[go_sem] theorem cl254:au 254:=av Tryz.func254
@[go_sem] theorem cl272:au 272:=av Tryz.func272
@[go_sem] theorem cl273:au 273:=av Tryz.func273
@[go_sem] theorem Ie:au 274:=av Tryz.func274
@[go_sem] theorem cl276:au 276:=av Tryz.func276
@[go_sem] theorem cl277:au 277:=av Tryz.func277
@[go_sem] theorem cl278:au 278:=av Tryz.func278
@[go_sem] theorem Qb:au 279:=av Tryz.func279
@[go_sem] theorem Dj:au 280:=av Tryz.func280
@[go_sem] theorem Ig:au 281:=av Tryz.func281
@[go_sem] theorem Qc:au 282:=av Tryz.func282
@[go_sem] theorem cl283:au 283:=av Tryz.func283
@[go_sem] theorem cl288:au 288:=av Tryz.func288
@[go_sem] theorem Qd:au 289:=av Tryz.func289
@[go_sem] theorem cl290:au 290:=av Tryz.func290
@[go_sem] theorem cl291:au 291:=av Tryz.func291
@[go_sem] theorem cl292:au 292:=av Tryz.func292
@[go_sem] theorem cl293:au 293:=av Tryz.func293
@[go_sem] theorem cl294:au 294:=av Tryz.func294
@[go_sem] theorem cl295:au 295:=av Tryz.func295
@[go_sem] theorem Qe:au 296:=av Tryz.func296
@[go_sem] theorem Qf:au 297:=av Tryz.func297
@[go_sem] theorem Ih:au 298:=av Tryz.func298
@[go_sem] theorem Qg:au 299:=av Tryz.func299
@[go_sem] theorem cl300:au 300:=av Tryz.func300
@[go_sem] theorem cl305:au 305:=av Tryz.func305
@[go_sem] theorem cl306:au 306:=av Tryz.func306
@[go_sem] theorem cl307:au 307:=av Tryz.func307
@[go_sem] theorem Qh:au 308:=av Tryz.func308
@[go_sem] theorem Qi:au 309:=av Tryz.func309
@[go_sem] theorem cl310:au 310:=av Tryz.func310
@[go_sem] theorem cl311:au 311:=av Tryz.func311
@[go_sem] theorem Qj:au 312:=av Tryz.func312
@[go_sem] theorem cl313:au 313:=av Tryz.func313
@[go_sem] theorem Ii:au 314:=av Tryz.func314
@[go_sem] theorem Qk:au 315:=av Tryz.func315
@[go_sem] theorem cl316:au 316:=av Tryz.func316
@[go_sem] theorem cl317:au 317:=av Tryz.func317
@[go_sem] theorem cl322:au 322:=av Tryz.func322
@[go_sem] theorem cl323:au 323:=av Tryz.func323
@[go_sem] theorem cl324:au 324:=av Tryz.func324
@[go_sem] theorem cl325:au 325:=av Tryz.func325
@[go_sem] theorem cl326:au 326:=av Tryz.func326
@[go_sem] theorem cl327:au 327:=av Tryz.func327
@[go_sem] theorem cl328:au 328:=av Tryz.func328
@[go_sem] theorem cl329:au 329:=av Tryz.func329
theorem mixed:Tryz.prog.follows .mixedOrders=true:=aA
end Go.Proofs.YtlikpcpllahalaaGreat.V
