/- The functions that LapseSound reaches answer as the table says. PRINTED by our claimlib4.py. -/
import Derived.Test.YtbpoekdljkkkpaaGreatChecked
import Derived.Test.YtbpoekdljkkkpaaGreatLapseSoundG8
import Derived.KernelRfl
set_option maxRecDepth 100000
set_option linter.unusedVariables false
namespace Go.Proofs.YtbpoekdljkkkpaaGreat.T
open Go.AM
theorem mixed:Tryz.prog.follows .mixedOrders=true:=by kernel_rfl
theorem aw:Zy Tryz.prog 4:=zh5 (F:=aO) mixed (zb5 _ _) Tryz.func4 (by kernel_rfl:Ws Tryz.prog 1839 Tryz.f4=some (zG (aO 4))) (n:=100000) (by kernel_rfl)
noncomputable section
noncomputable def zE (f:Nat):Option aT:=bif Nat.beq f 4 then some zds else aO f
theorem okK:W5 Tryz.prog zE:=zhy (t:=aO) (zb5 _ _) aw
theorem zmK:LB zE:=⟨by kernel_rfl⟩
theorem zmJ:Lz zE:=⟨by kernel_rfl,zmK⟩
theorem zmI:Ly zE:=⟨by kernel_rfl,zmJ⟩
theorem Tz:Gl zE:=⟨by kernel_rfl⟩
theorem Ty:Gk zE:=⟨by kernel_rfl⟩
theorem FW:pT zE:=⟨by kernel_rfl,Ty⟩
theorem Js:BW zE:=⟨by kernel_rfl,FW⟩
theorem BA:kD zE:=⟨by kernel_rfl,Js⟩
theorem Tx:Gj zE:=⟨by kernel_rfl,Tz,BA⟩
theorem Jr:BV zE:=⟨by kernel_rfl⟩
theorem FV:pS zE:=⟨by kernel_rfl,Jr⟩
theorem Tw:Gi zE:=⟨by kernel_rfl,FV⟩
theorem Ta:Gc zE:=⟨by kernel_rfl,zmI,Tx,Tw⟩
theorem fE:eu zE:=⟨by kernel_rfl⟩
theorem FU:pR zE:=⟨by kernel_rfl,fE⟩
theorem zpT:T4 zE:=⟨by kernel_rfl⟩
theorem zmL:LD zE:=⟨by kernel_rfl⟩
theorem zmH:Lx zE:=⟨by kernel_rfl,zpT,zmL⟩
theorem Jq:BU zE:=⟨by kernel_rfl,zmH⟩
theorem zmQ:LJ zE:=⟨by kernel_rfl⟩
theorem zmP:LI zE:=⟨by kernel_rfl,zmQ⟩
theorem zmO:PY zE:=⟨by kernel_rfl⟩
theorem Ov:E9 zE:=⟨by kernel_rfl,zmP,zmO⟩
theorem Tv:Gh zE:=⟨by kernel_rfl⟩
theorem Tu:LH zE:=⟨by kernel_rfl⟩
theorem Tt:Gg zE:=⟨by kernel_rfl,Tu⟩
theorem Ts:pQ zE:=⟨by kernel_rfl,Ov,Tv,Tt⟩
theorem Tr:pP zE:=⟨by kernel_rfl,Ts⟩
theorem zmq:Ll zE:=⟨by kernel_rfl⟩
theorem zmF:Lv zE:=⟨by kernel_rfl⟩
theorem Jk:E8 zE:=⟨by kernel_rfl⟩
theorem zmE:PX zE:=⟨by kernel_rfl⟩
theorem zmD:Lu zE:=⟨by kernel_rfl,zmE⟩
theorem zmC:Lt zE:=⟨by kernel_rfl⟩
theorem Ou:Ho zE:=⟨by kernel_rfl,zmD,zmC⟩
theorem Ot:Hl zE:=⟨by kernel_rfl,Ou,Jk⟩
theorem zmB:Ls zE:=⟨by kernel_rfl,Ou,Jk⟩
theorem Oq:Hj zE:=⟨by kernel_rfl,zmF,Jk,Ot,zmB⟩
theorem Oo:EZ zE:=⟨by kernel_rfl,Oq⟩
theorem zmk:Li zE:=⟨by kernel_rfl⟩
theorem zpU:T5 zE:=⟨by kernel_rfl,zmk⟩
theorem zmp:EW zE:=⟨by kernel_rfl,zpU⟩
theorem zmo:Bb zE:=⟨by kernel_rfl,zmq,Oo,zmp⟩
theorem Tq:Gf zE:=⟨by kernel_rfl⟩
theorem Tp:Ge zE:=⟨by kernel_rfl,FW,Tq⟩
theorem To:BT zE:=⟨by kernel_rfl⟩
theorem Tn:BS zE:=⟨by kernel_rfl⟩
theorem FT:kC zE:=⟨by kernel_rfl,FW,To,Tn⟩
theorem Jp:pO zE:=⟨by kernel_rfl,FT⟩
theorem Bz:iA zE:=⟨by kernel_rfl,Tr,zmo,Tp,Jp,FT⟩
theorem Jo:BQ zE:=⟨by kernel_rfl,Bz⟩
theorem Jn:kB zE:=⟨by kernel_rfl,FU,Jq,BA,Jo⟩
theorem eS:dM zE:=⟨by kernel_rfl⟩
theorem fD:eg zE:=⟨by kernel_rfl⟩
theorem Jm:pE zE:=⟨by kernel_rfl⟩
theorem SY:F8 zE:=⟨by kernel_rfl⟩
theorem SX:F7 zE:=⟨by kernel_rfl,SY⟩
theorem SW:pz zE:=⟨by kernel_rfl,SX⟩
theorem zmd:KV zE:=⟨by kernel_rfl⟩
theorem zmh:KZ zE:=⟨by kernel_rfl⟩
theorem zmg:KY zE:=⟨by kernel_rfl,zmh⟩
theorem Jj:EU zE:=⟨by kernel_rfl,zmg⟩
theorem zmc:KU zE:=⟨by kernel_rfl⟩
theorem zmb:Ba zE:=⟨by kernel_rfl,zmd,Jj,zmc⟩
theorem SS:F6 zE:=⟨by kernel_rfl⟩
theorem oW:ef zE:=⟨by kernel_rfl,Jm,SW,zmb,SS⟩
theorem Jl:kA zE:=⟨by kernel_rfl,eS,fD,FV,oW⟩
theorem zl4:KO zE:=⟨by kernel_rfl⟩
theorem SH:iw zE:=⟨by kernel_rfl,zl4⟩
theorem zpY:T9 zE:=⟨by kernel_rfl⟩
theorem SU:LA zE:=⟨by kernel_rfl,zpY⟩
theorem zmG:Lw zE:=⟨by kernel_rfl⟩
theorem zmA:Lr zE:=⟨by kernel_rfl,Ot⟩
theorem Om:EY zE:=⟨by kernel_rfl,Oo,zmA⟩
theorem zmz:Hi zE:=⟨by kernel_rfl,SU,Om⟩
theorem zmy:Hh zE:=⟨by kernel_rfl,zmG,zmz⟩
theorem zmn:EV zE:=⟨by kernel_rfl,zmy⟩
theorem Tl:pN zE:=⟨by kernel_rfl,FU,SU,Jn,Jq,BA,Jo,Bz,zmn⟩
theorem Oj:G9 zE:=⟨by kernel_rfl⟩
theorem zmf:KX zE:=⟨by kernel_rfl⟩
theorem Oi:G7 zE:=⟨by kernel_rfl,Jj,zmf⟩
theorem zme:KW zE:=⟨by kernel_rfl,Oj,Oi⟩
theorem SR:BM zE:=⟨by kernel_rfl,Oj,eS,fD,Jl,oW,zme⟩
theorem Tk:pM zE:=⟨by kernel_rfl,FU,BA⟩
theorem SQ:BL zE:=⟨by kernel_rfl,eS,FV⟩
theorem Th:pK zE:=⟨by kernel_rfl,fE,Bz⟩
theorem SP:BK zE:=⟨by kernel_rfl,eS,fD,oW⟩
theorem SG:kz zE:=⟨by kernel_rfl⟩
theorem Tj:pL zE:=⟨by kernel_rfl,fE,Js,Jp⟩
theorem SO:BJ zE:=⟨by kernel_rfl,eS,Jr,fD,oW⟩
theorem Te:pJ zE:=⟨by kernel_rfl,FT⟩
theorem SN:BI zE:=⟨by kernel_rfl,Jm⟩
theorem zmj:Lh zE:=⟨by kernel_rfl⟩
theorem zmi:G8 zE:=⟨by kernel_rfl,zmj⟩
theorem zmx:Lq zE:=⟨by kernel_rfl⟩
theorem Ol:Hg zE:=⟨by kernel_rfl,zmx⟩
theorem zmw:Lp zE:=⟨by kernel_rfl,Ol⟩
theorem zmv:Lo zE:=⟨by kernel_rfl,Ol,Oq⟩
theorem zpX:T8 zE:=⟨by kernel_rfl,SU⟩
theorem zmu:Hf zE:=⟨by kernel_rfl,zmw,zmv,zpX,Om⟩
theorem zmt:Lm zE:=⟨by kernel_rfl,Ov⟩
theorem zpW:T7 zE:=⟨by kernel_rfl⟩
theorem zms:EX zE:=⟨by kernel_rfl,zmt,zpW⟩
theorem zmr:Bc zE:=⟨by kernel_rfl,zmu,zms⟩
theorem zma:KT zE:=⟨by kernel_rfl⟩
theorem zl9:KS zE:=⟨by kernel_rfl⟩
theorem zl8:KR zE:=⟨by kernel_rfl,zma,Jj,zl9,Oi⟩
theorem zl7:KQ zE:=⟨by kernel_rfl⟩
theorem zl6:KP zE:=⟨by kernel_rfl,zl7⟩
theorem zl5:A9 zE:=⟨by kernel_rfl,zl8,zl6⟩
theorem Tb:pH zE:=⟨by kernel_rfl,fE,Bz⟩
theorem SM:BH zE:=⟨by kernel_rfl,eS,fD,oW⟩
theorem Tc:pI zE:=⟨by kernel_rfl,fE⟩
theorem SL:pq zE:=⟨by kernel_rfl,eS,fD⟩
theorem zmm:Lk zE:=⟨by kernel_rfl⟩
theorem zl3:PW zE:=⟨by kernel_rfl⟩
theorem zpV:T6 zE:=⟨by kernel_rfl⟩
theorem zml:Lj zE:=⟨by kernel_rfl,zmk,zpV⟩
theorem Ok:He zE:=⟨by kernel_rfl⟩
theorem zmN:LG zE:=⟨by kernel_rfl⟩
theorem zl2:KN zE:=⟨by kernel_rfl,Ok,zmN⟩
theorem zl1:PV zE:=⟨by kernel_rfl⟩
theorem zl0:KM zE:=⟨by kernel_rfl,zl1⟩
theorem zmM:LF zE:=⟨by kernel_rfl⟩
theorem zlZ:A8 zE:=⟨by kernel_rfl,zmm,zl3,zml,zl2,zl0,Ok,zmM⟩
theorem zlY:KL zE:=⟨by kernel_rfl⟩
theorem TA:pU zE:=⟨by kernel_rfl,zlY⟩
theorem SF:BG zE:=⟨by kernel_rfl,Jn,Jl,SH,Tl,SR,Tk,SQ,Th,SP,SG,Tj,SO,Te,SN,zmi,zmr,zl5,Tb,SM,Tc,SL,zlZ,TA⟩
theorem Td:Gd zE:=⟨by kernel_rfl⟩
theorem Tg:BO zE:=⟨by kernel_rfl,fE⟩
theorem Tf:BN zE:=⟨by kernel_rfl,fE⟩
theorem Ti:BP zE:=⟨by kernel_rfl,fE⟩
theorem S9:pG zE:=⟨by kernel_rfl,Td,Tg,Tf,Ti⟩
theorem SK:pg zE:=⟨by kernel_rfl⟩
theorem S8:Gb zE:=⟨by kernel_rfl⟩
theorem S7:Ga zE:=⟨by kernel_rfl⟩
theorem S6:F9 zE:=⟨by kernel_rfl⟩
theorem SZ:pF zE:=⟨by kernel_rfl,S8,S7,S6⟩
theorem SJ:iz zE:=⟨by kernel_rfl,eS,fD⟩
theorem SI:iy zE:=⟨by kernel_rfl,eS,fD⟩
theorem mZ {L:Lg}(l0:List (Int×Int×Int))(x0:AV)(s0:NG L x0 (Qg l0) l0.length 3):zd zE 3 [x0] L fun v _=>v=.b true :=
 WU (F:=zE) (by kernel_rfl) (by kernel_rfl) Ta SF S9 SK SZ SJ SI l0 x0 s0
end
end Go.Proofs.YtbpoekdljkkkpaaGreat.T
