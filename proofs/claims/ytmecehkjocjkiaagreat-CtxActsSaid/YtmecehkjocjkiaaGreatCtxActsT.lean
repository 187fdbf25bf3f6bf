/- The functions that CtxActs reaches answer as the table says. PRINTED by our claimlib4.py. -/
import Derived.Test.YtmecehkjocjkiaaGreatChecked
import Derived.Test.YtmecehkjocjkiaaGreatCtxActsG8
import Derived.KernelRfl
set_option maxRecDepth 100000
set_option linter.unusedVariables false
namespace Go.Proofs.YtmecehkjocjkiaaGreat.T
open Go.AM
theorem mixed:Tryz.prog.follows .mixedOrders=true:=by kernel_rfl
theorem aw:Zp Tryz.prog 4:=zhJ (F:=tbl) mixed (zbM _ _) Tryz.func4 (by kernel_rfl:Wi Tryz.prog 41724327718767 Tryz.f4=some (zD (tbl 4))) (n:=100000) (by kernel_rfl)
noncomputable section
noncomputable def zC (f:Nat):Option AFn:=bif Nat.beq f 4 then some zc9 else tbl f
theorem okK:WP Tryz.prog zC:=zhd (t:=tbl) (zbM _ _) aw
theorem h_f19:H_f19 zC:=⟨by kernel_rfl⟩
theorem h_f20:H_f20 zC:=⟨by kernel_rfl,h_f19⟩
theorem h_f21:H_f21 zC:=⟨by kernel_rfl,h_f20⟩
theorem h_f117:H_f117 zC:=⟨by kernel_rfl⟩
theorem h_f118:H_f118 zC:=⟨by kernel_rfl⟩
theorem h_f119:H_f119 zC:=⟨by kernel_rfl,h_f118⟩
theorem h_f120:H_f120 zC:=⟨by kernel_rfl,h_f119⟩
theorem h_f121:H_f121 zC:=⟨by kernel_rfl,h_f120⟩
theorem h_f122:H_f122 zC:=⟨by kernel_rfl,h_f117,h_f121⟩
theorem h_f123:H_f123 zC:=⟨by kernel_rfl⟩
theorem h_f124:H_f124 zC:=⟨by kernel_rfl,h_f123⟩
theorem h_f125:H_f125 zC:=⟨by kernel_rfl,h_f124⟩
theorem h_f126:H_f126 zC:=⟨by kernel_rfl,h_f21,h_f122,h_f125⟩
theorem h_f127:H_f127 zC:=⟨by kernel_rfl⟩
theorem h_f128:H_f128 zC:=⟨by kernel_rfl,h_f127⟩
theorem h_f9:H_f9 zC:=⟨by kernel_rfl⟩
theorem h_f18:H_f18 zC:=⟨by kernel_rfl⟩
theorem h_f22:H_f22 zC:=⟨by kernel_rfl,h_f9,h_f18⟩
theorem h_f129:H_f129 zC:=⟨by kernel_rfl,h_f22⟩
theorem h_f11:H_f11 zC:=⟨by kernel_rfl⟩
theorem h_f12:H_f12 zC:=⟨by kernel_rfl,h_f11⟩
theorem h_f13:H_f13 zC:=⟨by kernel_rfl⟩
theorem h_f14:H_f14 zC:=⟨by kernel_rfl,h_f12,h_f13⟩
theorem h_f130:H_f130 zC:=⟨by kernel_rfl⟩
theorem h_f131:H_f131 zC:=⟨by kernel_rfl⟩
theorem h_f132:H_f132 zC:=⟨by kernel_rfl,h_f131⟩
theorem h_f133:H_f133 zC:=⟨by kernel_rfl,h_f14,h_f130,h_f132⟩
theorem h_f134:H_f134 zC:=⟨by kernel_rfl,h_f133⟩
theorem h_f49:H_f49 zC:=⟨by kernel_rfl⟩
theorem h_f25:H_f25 zC:=⟨by kernel_rfl⟩
theorem h_f26:H_f26 zC:=⟨by kernel_rfl⟩
theorem h_f27:H_f27 zC:=⟨by kernel_rfl⟩
theorem h_f28:H_f28 zC:=⟨by kernel_rfl,h_f27⟩
theorem h_f29:H_f29 zC:=⟨by kernel_rfl⟩
theorem h_f30:H_f30 zC:=⟨by kernel_rfl,h_f28,h_f29⟩
theorem h_f31:H_f31 zC:=⟨by kernel_rfl,h_f30,h_f26⟩
theorem h_f32:H_f32 zC:=⟨by kernel_rfl,h_f30,h_f26⟩
theorem h_f33:H_f33 zC:=⟨by kernel_rfl,h_f25,h_f26,h_f31,h_f32⟩
theorem h_f34:H_f34 zC:=⟨by kernel_rfl,h_f33⟩
theorem h_f6:H_f6 zC:=⟨by kernel_rfl⟩
theorem h_f8:H_f8 zC:=⟨by kernel_rfl,h_f6⟩
theorem h_f50:H_f50 zC:=⟨by kernel_rfl,h_f8⟩
theorem h_f51:H_f51 zC:=⟨by kernel_rfl,h_f49,h_f34,h_f50⟩
theorem h_f135:H_f135 zC:=⟨by kernel_rfl⟩
theorem h_f136:H_f136 zC:=⟨by kernel_rfl,h_f119,h_f135⟩
theorem h_f137:H_f137 zC:=⟨by kernel_rfl⟩
theorem h_f138:H_f138 zC:=⟨by kernel_rfl⟩
theorem h_f139:H_f139 zC:=⟨by kernel_rfl,h_f119,h_f137,h_f138⟩
theorem h_f140:H_f140 zC:=⟨by kernel_rfl,h_f139⟩
theorem h_f141:H_f141 zC:=⟨by kernel_rfl,h_f134,h_f51,h_f136,h_f140,h_f139⟩
theorem h_f142:H_f142 zC:=⟨by kernel_rfl,h_f141⟩
theorem h_f143:H_f143 zC:=⟨by kernel_rfl,h_f128,h_f129,h_f121,h_f142⟩
theorem h_f194:H_f194 zC:=⟨by kernel_rfl⟩
theorem h_f195:H_f195 zC:=⟨by kernel_rfl⟩
theorem h_f196:H_f196 zC:=⟨by kernel_rfl⟩
theorem h_f197:H_f197 zC:=⟨by kernel_rfl⟩
theorem h_f198:H_f198 zC:=⟨by kernel_rfl,h_f197⟩
theorem h_f199:H_f199 zC:=⟨by kernel_rfl,h_f198⟩
theorem h_f78:H_f78 zC:=⟨by kernel_rfl⟩
theorem h_f66:H_f66 zC:=⟨by kernel_rfl⟩
theorem h_f67:H_f67 zC:=⟨by kernel_rfl,h_f66⟩
theorem h_f68:H_f68 zC:=⟨by kernel_rfl,h_f67⟩
theorem h_f79:H_f79 zC:=⟨by kernel_rfl⟩
theorem h_f80:H_f80 zC:=⟨by kernel_rfl,h_f78,h_f68,h_f79⟩
theorem h_f200:H_f200 zC:=⟨by kernel_rfl⟩
theorem h_f201:H_f201 zC:=⟨by kernel_rfl,h_f196,h_f199,h_f80,h_f200⟩
theorem h_f202:H_f202 zC:=⟨by kernel_rfl,h_f194,h_f195,h_f124,h_f201⟩
theorem h_f88:H_f88 zC:=⟨by kernel_rfl⟩
theorem h_f203:H_f203 zC:=⟨by kernel_rfl,h_f88⟩
theorem h_f1:H_f1 zC:=⟨by kernel_rfl⟩
theorem h_f2:H_f2 zC:=⟨by kernel_rfl,h_f1⟩
theorem h_f24:H_f24 zC:=⟨by kernel_rfl⟩
theorem h_f35:H_f35 zC:=⟨by kernel_rfl,h_f31⟩
theorem h_f36:H_f36 zC:=⟨by kernel_rfl,h_f34,h_f35⟩
theorem h_f37:H_f37 zC:=⟨by kernel_rfl,h_f2,h_f36⟩
theorem h_f38:H_f38 zC:=⟨by kernel_rfl,h_f24,h_f37⟩
theorem h_f55:H_f55 zC:=⟨by kernel_rfl,h_f38⟩
theorem h_f144:H_f144 zC:=⟨by kernel_rfl,h_f128,h_f2,h_f143,h_f129,h_f121,h_f142,h_f141,h_f55⟩
theorem h_f63:H_f63 zC:=⟨by kernel_rfl⟩
theorem h_f69:H_f69 zC:=⟨by kernel_rfl⟩
theorem h_f70:H_f70 zC:=⟨by kernel_rfl,h_f68,h_f69⟩
theorem h_f77:H_f77 zC:=⟨by kernel_rfl,h_f63,h_f70⟩
theorem h_f204:H_f204 zC:=⟨by kernel_rfl,h_f63,h_f194,h_f195,h_f202,h_f201,h_f77⟩
theorem h_f145:H_f145 zC:=⟨by kernel_rfl,h_f128,h_f121⟩
theorem h_f205:H_f205 zC:=⟨by kernel_rfl,h_f194,h_f124⟩
theorem h_f148:H_f148 zC:=⟨by kernel_rfl,h_f127,h_f141⟩
theorem h_f206:H_f206 zC:=⟨by kernel_rfl,h_f194,h_f195,h_f201⟩
theorem h_f207:H_f207 zC:=⟨by kernel_rfl⟩
theorem h_f146:H_f146 zC:=⟨by kernel_rfl,h_f127,h_f120,h_f140⟩
theorem h_f208:H_f208 zC:=⟨by kernel_rfl,h_f194,h_f123,h_f195,h_f201⟩
theorem h_f151:H_f151 zC:=⟨by kernel_rfl,h_f139⟩
theorem h_f209:H_f209 zC:=⟨by kernel_rfl,h_f196⟩
theorem h_f64:H_f64 zC:=⟨by kernel_rfl⟩
theorem h_f65:H_f65 zC:=⟨by kernel_rfl,h_f64⟩
theorem h_f41:H_f41 zC:=⟨by kernel_rfl⟩
theorem h_f42:H_f42 zC:=⟨by kernel_rfl,h_f41⟩
theorem h_f43:H_f43 zC:=⟨by kernel_rfl,h_f42⟩
theorem h_f44:H_f44 zC:=⟨by kernel_rfl,h_f42,h_f33⟩
theorem h_f3:H_f3 zC:=⟨by kernel_rfl,h_f2⟩
theorem h_f45:H_f45 zC:=⟨by kernel_rfl,h_f43,h_f44,h_f3,h_f36⟩
theorem h_f46:H_f46 zC:=⟨by kernel_rfl,h_f14⟩
theorem h_f4:H_f4 zC:=⟨by kernel_rfl⟩
theorem h_f47:H_f47 zC:=⟨by kernel_rfl,h_f46,h_f4⟩
theorem h_f48:H_f48 zC:=⟨by kernel_rfl,h_f45,h_f47⟩
theorem h_f82:H_f82 zC:=⟨by kernel_rfl⟩
theorem h_f83:H_f83 zC:=⟨by kernel_rfl⟩
theorem h_f84:H_f84 zC:=⟨by kernel_rfl,h_f82,h_f68,h_f83,h_f70⟩
theorem h_f85:H_f85 zC:=⟨by kernel_rfl⟩
theorem h_f86:H_f86 zC:=⟨by kernel_rfl,h_f85⟩
theorem h_f87:H_f87 zC:=⟨by kernel_rfl,h_f84,h_f86⟩
theorem h_f160:H_f160 zC:=⟨by kernel_rfl,h_f127,h_f141⟩
theorem h_f210:H_f210 zC:=⟨by kernel_rfl,h_f194,h_f195,h_f201⟩
theorem h_f157:H_f157 zC:=⟨by kernel_rfl,h_f127⟩
theorem h_f211:H_f211 zC:=⟨by kernel_rfl,h_f194,h_f195⟩
theorem h_f56:H_f56 zC:=⟨by kernel_rfl⟩
theorem h_f94:H_f94 zC:=⟨by kernel_rfl⟩
theorem h_f7:H_f7 zC:=⟨by kernel_rfl⟩
theorem h_f57:H_f57 zC:=⟨by kernel_rfl,h_f6,h_f7⟩
theorem h_f58:H_f58 zC:=⟨by kernel_rfl⟩
theorem h_f15:H_f15 zC:=⟨by kernel_rfl⟩
theorem h_f95:H_f95 zC:=⟨by kernel_rfl,h_f58,h_f15⟩
theorem h_f96:H_f96 zC:=⟨by kernel_rfl⟩
theorem h_f97:H_f97 zC:=⟨by kernel_rfl,h_f96⟩
theorem h_f16:H_f16 zC:=⟨by kernel_rfl⟩
theorem h_f98:H_f98 zC:=⟨by kernel_rfl,h_f56,h_f94,h_f57,h_f95,h_f97,h_f58,h_f16⟩
theorem h_f99:H_f99 zC:=⟨by kernel_rfl⟩
theorem h_f100:H_f100 zC:=⟨by kernel_rfl,h_f99⟩
theorem h_f212:H_f212 zC:=⟨by kernel_rfl,h_f143,h_f202,h_f203,h_f144,h_f204,h_f145,h_f205,h_f148,h_f206,h_f207,h_f146,h_f208,h_f151,h_f209,h_f65,h_f48,h_f87,h_f160,h_f210,h_f157,h_f211,h_f98,h_f100⟩
theorem h_f213:H_f213 zC:=⟨by kernel_rfl⟩
theorem h_f149:H_f149 zC:=⟨by kernel_rfl,h_f127⟩
theorem h_f150:H_f150 zC:=⟨by kernel_rfl,h_f127⟩
theorem h_f214:H_f214 zC:=⟨by kernel_rfl,h_f194,h_f195⟩
theorem h_f147:H_f147 zC:=⟨by kernel_rfl,h_f127⟩
theorem h_f215:H_f215 zC:=⟨by kernel_rfl,h_f194,h_f195⟩
theorem h_f158:H_f158 zC:=⟨by kernel_rfl⟩
theorem h_f155:H_f155 zC:=⟨by kernel_rfl⟩
theorem h_f216:H_f216 zC:=⟨by kernel_rfl,h_f213,h_f149,h_f150,h_f214,h_f147,h_f215,h_f157,h_f211,h_f158,h_f155⟩
theorem ctxActs_call {L:Lg}(l0:List (Int×Int×Int))(x0:AV)(s0:zaC L x0 (tcl l0) l0.length 3):zd zC 3 [x0] L fun v _=>v=.b true :=
 zbj (F:=zC) (by kernel_rfl) (by kernel_rfl) h_f126 h_f212 h_f216 l0 x0 s0
end
end Go.Proofs.YtmecehkjocjkiaaGreat.T
