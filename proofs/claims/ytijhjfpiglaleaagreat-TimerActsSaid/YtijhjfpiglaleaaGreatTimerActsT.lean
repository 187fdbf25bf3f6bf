/- The code of the functions that TimerActs reaches, and that it is compiled from the seat's program. PRINTED by our claimlib.py over our printam.lean. -/
import Derived.Test.YtijhjfpiglaleaaGreatChecked
import Derived.Test.YtijhjfpiglaleaaGreatTimerActsG8
import Derived.KernelRfl
set_option maxRecDepth 100000
set_option linter.unusedVariables false
namespace Go.Proofs.YtijhjfpiglaleaaGreat.T
open Go.AM
def Nn (k : Nat) : Nat := bif Nat.beq k 1 then 103 else bif Nat.beq k 2 then 85 else bif Nat.beq k 3 then 80 else bif Nat.beq k 4 then 68 else bif Nat.beq k 5 then 66 else bif Nat.beq k 6 then 76 else bif Nat.beq k 7 then 77 else bif Nat.beq k 8 then 84 else bif Nat.beq k 9 then 107 else bif Nat.beq k 11 then 105 else bif Nat.beq k 12 then 92 else bif Nat.beq k 13 then 93 else bif Nat.beq k 14 then 67 else bif Nat.beq k 15 then 95 else bif Nat.beq k 16 then 73 else bif Nat.beq k 17 then 54 else bif Nat.beq k 18 then 108 else bif Nat.beq k 19 then 55 else bif Nat.beq k 20 then 17 else bif Nat.beq k 21 then 5 else bif Nat.beq k 22 then 97 else bif Nat.beq k 23 then 78 else bif Nat.beq k 24 then 49 else bif Nat.beq k 25 then 99 else bif Nat.beq k 26 then 100 else bif Nat.beq k 27 then 112 else bif Nat.beq k 28 then 111 else bif Nat.beq k 29 then 110 else bif Nat.beq k 30 then 109 else bif Nat.beq k 31 then 101 else bif Nat.beq k 32 then 102 else bif Nat.beq k 33 then 83 else bif Nat.beq k 34 then 46 else bif Nat.beq k 35 then 98 else bif Nat.beq k 36 then 81 else bif Nat.beq k 37 then 50 else bif Nat.beq k 38 then 48 else bif Nat.beq k 39 then 42 else bif Nat.beq k 40 then 8 else bif Nat.beq k 41 then 106 else bif Nat.beq k 42 then 96 else bif Nat.beq k 43 then 75 else bif Nat.beq k 44 then 79 else bif Nat.beq k 45 then 43 else bif Nat.beq k 46 then 82 else bif Nat.beq k 47 then 44 else bif Nat.beq k 48 then 9 else bif Nat.beq k 49 then 45 else bif Nat.beq k 50 then 47 else bif Nat.beq k 51 then 10 else bif Nat.beq k 52 then 11 else bif Nat.beq k 53 then 12 else bif Nat.beq k 54 then 13 else bif Nat.beq k 55 then 14 else bif Nat.beq k 56 then 51 else bif Nat.beq k 57 then 52 else bif Nat.beq k 58 then 53 else bif Nat.beq k 59 then 15 else bif Nat.beq k 60 then 16 else bif Nat.beq k 61 then 4 else bif Nat.beq k 62 then 86 else bif Nat.beq k 63 then 59 else bif Nat.beq k 64 then 69 else bif Nat.beq k 65 then 31 else bif Nat.beq k 66 then 104 else bif Nat.beq k 67 then 88 else bif Nat.beq k 68 then 61 else bif Nat.beq k 69 then 87 else bif Nat.beq k 70 then 58 else bif Nat.beq k 71 then 63 else bif Nat.beq k 72 then 57 else bif Nat.beq k 73 then 56 else bif Nat.beq k 74 then 18 else bif Nat.beq k 75 then 19 else bif Nat.beq k 76 then 20 else bif Nat.beq k 77 then 21 else bif Nat.beq k 78 then 60 else bif Nat.beq k 79 then 62 else bif Nat.beq k 80 then 22 else bif Nat.beq k 81 then 23 else bif Nat.beq k 82 then 89 else bif Nat.beq k 83 then 90 else bif Nat.beq k 84 then 64 else bif Nat.beq k 85 then 91 else bif Nat.beq k 86 then 65 else bif Nat.beq k 87 then 24 else bif Nat.beq k 88 then 30 else bif Nat.beq k 89 then 25 else bif Nat.beq k 90 then 26 else bif Nat.beq k 91 then 27 else bif Nat.beq k 92 then 28 else bif Nat.beq k 93 then 29 else bif Nat.beq k 94 then 70 else bif Nat.beq k 95 then 72 else bif Nat.beq k 96 then 94 else bif Nat.beq k 97 then 71 else bif Nat.beq k 98 then 32 else bif Nat.beq k 99 then 74 else bif Nat.beq k 100 then 33 else bif Nat.beq k 101 then 6 else bif Nat.beq k 102 then 34 else bif Nat.beq k 103 then 35 else bif Nat.beq k 104 then 36 else bif Nat.beq k 105 then 37 else bif Nat.beq k 106 then 38 else bif Nat.beq k 107 then 39 else bif Nat.beq k 108 then 40 else bif Nat.beq k 109 then 41 else bif Nat.beq k 110 then 7 else bif Nat.beq k 111 then 3 else 0
def b3 : Nat := 29
theorem c3 : compFn Tryz.prog b3 Tryz.f3 = some (c_f111 Nn) := by kernel_rfl
def b4 : Nat := 654049279
def a4 : AFn := ⟨(.seq (.reg [⟨.l 0,none,.mv,[.c (.b false)]⟩])
 (.seq (.reg [oQ (30,(.call 5),[]),⟨.l 1,none,.mv,[.t 30]⟩])
 (.seq (.seq (.reg [oQ (31,.mv,[.l 1]),oQ (32,(.eq false .ptr),[.t 31,.c (.p none)])])
 (.cond (.t 32) (.seq (.reg [⟨.l 0,none,.mv,[.c (.b false)]⟩])
 .ret) .skip))
 (.seq (.reg [oQ (34,.mv,[.l 1]),oQ (35,(.call 8),[.t 34,.c (.i .i64 5),.c (.i .i64 3)]),oQ (33,.mv,[.t 35]),oQ (36,(.ext 0),[.t 33]),oQ (37,(.ext 1),[.t 33]),oQ (38,(.ext 2),[.t 33]),⟨.l 2,none,.mv,[.t 36]⟩,⟨.l 3,none,.mv,[.t 37]⟩,⟨.l 4,none,.mv,[.t 38]⟩])
 (.seq (.reg [oQ (40,.mv,[.l 1]),oQ (41,(.call 9),[.t 40,.c (.i .i64 9)]),oQ (39,.mv,[.t 41]),oQ (42,(.ext 0),[.t 39]),oQ (43,(.ext 1),[.t 39]),⟨.l 5,none,(.alloc [(.i .i64 0),(.i .i64 0),(.i .i64 0),(.i .i64 0),(.i .i64 0),(.sl none 0 0 0),(.b false)]),[]⟩,⟨.no,none,(.st 7),[.l 5,.t 42]⟩,⟨.l 6,none,.mv,[.t 43]⟩])
 (.seq (.reg [oQ (45,.mv,[.l 1]),oQ (46,.mv,[.l 2]),oQ (47,(.call 10),[.t 45,.t 46]),oQ (44,.mv,[.t 47]),oQ (48,(.ext 0),[.t 44]),oQ (49,(.ext 1),[.t 44]),⟨.l 7,none,.mv,[.t 48]⟩,⟨.l 8,none,.mv,[.t 49]⟩])
 (.seq (.reg [oQ (51,.mv,[.l 1]),oQ (52,(.call 11),[.t 51,.c (.i .i64 9),.c (.i .i64 0)]),oQ (50,.mv,[.t 52]),oQ (53,(.ext 0),[.t 50]),oQ (54,(.ext 1),[.t 50]),oQ (55,(.ext 2),[.t 50]),⟨.l 9,none,.mv,[.t 53]⟩,⟨.l 10,none,.mv,[.t 54]⟩,⟨.l 11,none,.mv,[.t 55]⟩])
 (.seq (.reg [oQ (57,.mv,[.l 1]),oQ (58,(.call 12),[.t 57,.c (.i .i64 9),.c (.i .i64 1),.c (.i .i64 2)]),oQ (56,.mv,[.t 58]),oQ (59,(.ext 0),[.t 56]),oQ (60,(.ext 1),[.t 56]),⟨.l 12,none,.mv,[.t 59]⟩,⟨.l 13,none,.mv,[.t 60]⟩])
 (.seq (.reg [oQ (62,.mv,[.l 1]),oQ (63,.mv,[.l 12]),oQ (64,(.call 13),[.t 62,.t 63,.c (.i .i64 9),.c (.i .i64 10)]),oQ (61,.mv,[.t 64]),oQ (65,(.ext 0),[.t 61]),oQ (66,(.ext 1),[.t 61]),⟨.l 14,none,.mv,[.t 65]⟩,⟨.l 15,none,.mv,[.t 66]⟩])
 (.seq (.reg [oQ (68,.mv,[.l 1]),oQ (69,(.call 14),[.t 68,.c (.i .i64 12),.c (.i .i64 4)]),oQ (67,.mv,[.t 69]),oQ (70,(.ext 0),[.t 67]),oQ (71,(.ext 1),[.t 67]),⟨.l 16,none,.mv,[.t 70]⟩,⟨.l 17,none,.mv,[.t 71]⟩])
 (.seq (.reg [oQ (73,.mv,[.l 1]),oQ (74,.mv,[.l 16]),oQ (75,(.call 13),[.t 73,.t 74,.c (.i .i64 9),.c (.i .i64 1)]),oQ (72,.mv,[.t 75]),oQ (76,(.ext 0),[.t 72]),oQ (77,(.ext 1),[.t 72]),oQ (18,.mv,[.t 76]),⟨.l 19,none,.mv,[.t 77]⟩])
 (.seq (.reg [oQ (79,.mv,[.l 1]),oQ (80,(.call 9),[.t 79,.c (.i .i64 20)]),oQ (78,.mv,[.t 80]),oQ (81,(.ext 0),[.t 78]),oQ (82,(.ext 1),[.t 78]),⟨.l 20,none,(.alloc [(.i .i64 0),(.i .i64 0),(.i .i64 0),(.i .i64 0),(.i .i64 0),(.sl none 0 0 0),(.b false)]),[]⟩,⟨.no,none,(.st 7),[.l 20,.t 81]⟩,⟨.l 21,none,.mv,[.t 82]⟩])
 (.seq (.reg [oQ (84,.mv,[.l 1]),oQ (85,(.call 9),[.t 84,.c (.i .i64 20)]),oQ (83,.mv,[.t 85]),oQ (86,(.ext 0),[.t 83]),oQ (87,(.ext 1),[.t 83]),⟨.l 22,none,(.alloc [(.i .i64 0),(.i .i64 0),(.i .i64 0),(.i .i64 0),(.i .i64 0),(.sl none 0 0 0),(.b false)]),[]⟩,⟨.no,none,(.st 7),[.l 22,.t 86]⟩,⟨.l 23,none,.mv,[.t 87]⟩])
 (.seq (.reg [oQ (89,.mv,[.l 1]),oQ (90,(.call 10),[.t 89,.c (.i .i64 99)]),oQ (88,.mv,[.t 90]),oQ (91,(.ext 0),[.t 88]),oQ (92,(.ext 1),[.t 88]),oQ (24,.mv,[.t 91]),⟨.l 25,none,.mv,[.t 92]⟩])
 (.seq (.reg [⟨.l 26,none,.mv,[.c (.p none)]⟩])
 (.seq (.reg [oQ (94,.mv,[.l 26]),oQ (95,(.call 8),[.t 94,.c (.i .i64 1),.c (.i .i64 1)]),oQ (93,.mv,[.t 95]),oQ (96,(.ext 0),[.t 93]),oQ (97,(.ext 1),[.t 93]),oQ (98,(.ext 2),[.t 93]),oQ (27,.mv,[.t 96]),oQ (28,.mv,[.t 97]),⟨.l 29,none,.mv,[.t 98]⟩])
 (.seq (.reg [oQ (99,.mv,[.l 4]),oQ (100,(.bin .eql),[.t 99,.c (.i .i64 0)]),oQ (101,.mv,[.t 100]),⟨.t 102,(some (.t 101,true)),.mv,[.l 2]⟩,⟨.t 103,(some (.t 101,true)),(.bin .eql),[.t 102,.c (.i .i64 0)]⟩,oQ (104,.pick,[.t 101,.t 103,.c (.b false)]),oQ (105,.mv,[.t 104]),⟨.t 106,(some (.t 105,true)),.mv,[.l 3]⟩,⟨.t 107,(some (.t 105,true)),(.eq true .ptr),[.t 106,.c (.p none)]⟩,oQ (108,.pick,[.t 105,.t 107,.c (.b false)]),oQ (109,.mv,[.t 108]),⟨.t 110,(some (.t 109,true)),.mv,[.l 6]⟩,oQ (111,.pick,[.t 109,.t 110,.c (.b false)]),oQ (112,.mv,[.t 111]),⟨.t 113,(some (.t 112,true)),(.fad 1),[.l 5]⟩,⟨.t 114,(some (.t 112,true)),(.ld none),[.t 113]⟩,⟨.t 115,(some (.t 112,true)),(.bin .eql),[.t 114,.c (.i .i64 1)]⟩,oQ (116,.pick,[.t 112,.t 115,.c (.b false)]),oQ (117,.mv,[.t 116]),⟨.t 118,(some (.t 117,true)),(.fad 2),[.l 5]⟩,⟨.t 119,(some (.t 117,true)),(.ld none),[.t 118]⟩,⟨.t 120,(some (.t 117,true)),(.bin .eql),[.t 119,.c (.i .i64 8)]⟩,oQ (121,.pick,[.t 117,.t 120,.c (.b false)]),oQ (122,.mv,[.t 121]),⟨.t 123,(some (.t 122,true)),(.fad 3),[.l 5]⟩,⟨.t 124,(some (.t 122,true)),(.ld none),[.t 123]⟩,⟨.t 125,(some (.t 122,true)),(.bin .eql),[.t 124,.c (.i .i64 9)]⟩,oQ (126,.pick,[.t 122,.t 125,.c (.b false)]),oQ (127,.mv,[.t 126]),⟨.t 128,(some (.t 127,true)),(.fad 6),[.l 5]⟩,⟨.t 129,(some (.t 127,true)),(.ld none),[.t 128]⟩,oQ (130,.pick,[.t 127,.t 129,.c (.b false)]),oQ (131,.mv,[.t 130]),⟨.t 132,(some (.t 131,true)),.mv,[.l 7]⟩,oQ (133,.pick,[.t 131,.t 132,.c (.b false)]),oQ (134,.mv,[.t 133]),⟨.t 135,(some (.t 134,true)),.mv,[.l 8]⟩,⟨.t 136,(some (.t 134,true)),(.bin .eql),[.t 135,.c (.i .i64 0)]⟩,oQ (137,.pick,[.t 134,.t 136,.c (.b false)]),oQ (138,.mv,[.t 137]),⟨.t 139,(some (.t 138,true)),.mv,[.l 3]⟩,⟨.t 140,(some (.t 138,true)),(.call 15),[.t 139,.c (.b false)]⟩,⟨.t 141,(some (.t 138,true)),(.un .not),[.t 140]⟩,oQ (142,.pick,[.t 138,.t 141,.c (.b false)]),oQ (143,.mv,[.t 142]),⟨.t 144,(some (.t 143,true)),.mv,[.l 11]⟩,⟨.t 145,(some (.t 143,true)),(.bin .eql),[.t 144,.c (.i .i64 1)]⟩,oQ (146,.pick,[.t 143,.t 145,.c (.b false)]),oQ (147,.mv,[.t 146]),⟨.t 148,(some (.t 147,true)),.mv,[.l 9]⟩,⟨.t 149,(some (.t 147,true)),(.bin .eql),[.t 148,.c (.i .i64 0)]⟩,oQ (150,.pick,[.t 147,.t 149,.c (.b false)]),oQ (151,.mv,[.t 150]),⟨.t 152,(some (.t 151,true)),.mv,[.l 10]⟩,⟨.t 153,(some (.t 151,true)),(.eq false .ptr),[.t 152,.c (.p none)]⟩,oQ (154,.pick,[.t 151,.t 153,.c (.b false)]),oQ (155,.mv,[.t 154]),⟨.t 156,(some (.t 155,true)),.mv,[.l 13]⟩,⟨.t 157,(some (.t 155,true)),(.bin .eql),[.t 156,.c (.i .i64 0)]⟩,oQ (158,.pick,[.t 155,.t 157,.c (.b false)]),oQ (159,.mv,[.t 158]),⟨.t 160,(some (.t 159,true)),.mv,[.l 12]⟩,⟨.t 161,(some (.t 159,true)),(.bin .eql),[.t 160,.c (.i .i64 1)]⟩,oQ (162,.pick,[.t 159,.t 161,.c (.b false)]),oQ (163,.mv,[.t 162]),⟨.t 164,(some (.t 163,true)),.mv,[.l 14]⟩,oQ (165,.pick,[.t 163,.t 164,.c (.b false)]),oQ (166,.mv,[.t 165]),⟨.t 167,(some (.t 166,true)),.mv,[.l 15]⟩,⟨.t 168,(some (.t 166,true)),(.bin .eql),[.t 167,.c (.i .i64 0)]⟩,oQ (169,.pick,[.t 166,.t 168,.c (.b false)]),oQ (170,.mv,[.t 169]),⟨.t 171,(some (.t 170,true)),.mv,[.l 17]⟩,⟨.t 172,(some (.t 170,true)),(.bin .eql),[.t 171,.c (.i .i64 0)]⟩,oQ (173,.pick,[.t 170,.t 172,.c (.b false)]),oQ (174,.mv,[.t 173]),⟨.t 175,(some (.t 174,true)),.mv,[.l 16]⟩,⟨.t 176,(some (.t 174,true)),(.bin .eql),[.t 175,.c (.i .i64 2)]⟩,oQ (177,.pick,[.t 174,.t 176,.c (.b false)]),oQ (178,.mv,[.t 177]),⟨.t 179,(some (.t 178,true)),.mv,[.l 19]⟩,⟨.t 180,(some (.t 178,true)),(.bin .eql),[.t 179,.c (.i .i64 7)]⟩,oQ (181,.pick,[.t 178,.t 180,.c (.b false)]),oQ (182,.mv,[.t 181]),⟨.t 183,(some (.t 182,true)),.mv,[.l 21]⟩,oQ (184,.pick,[.t 182,.t 183,.c (.b false)]),oQ (185,.mv,[.t 184]),⟨.t 186,(some (.t 185,true)),(.fad 1),[.l 20]⟩,⟨.t 187,(some (.t 185,true)),(.ld none),[.t 186]⟩,⟨.t 188,(some (.t 185,true)),(.bin .eql),[.t 187,.c (.i .i64 4)]⟩,oQ (189,.pick,[.t 185,.t 188,.c (.b false)]),oQ (190,.mv,[.t 189]),⟨.t 191,(some (.t 190,true)),(.fad 4),[.l 20]⟩,⟨.t 192,(some (.t 190,true)),(.ld none),[.t 191]⟩,⟨.t 193,(some (.t 190,true)),(.bin .eql),[.t 192,.c (.i .i64 4)]⟩,oQ (194,.pick,[.t 190,.t 193,.c (.b false)]),oQ (195,.mv,[.t 194]),⟨.t 196,(some (.t 195,true)),.mv,[.l 23]⟩,oQ (197,.pick,[.t 195,.t 196,.c (.b false)]),oQ (198,.mv,[.t 197]),⟨.t 199,(some (.t 198,true)),(.fad 1),[.l 22]⟩,⟨.t 200,(some (.t 198,true)),(.ld none),[.t 199]⟩,⟨.t 201,(some (.t 198,true)),(.bin .eql),[.t 200,.c (.i .i64 3)]⟩,oQ (202,.pick,[.t 198,.t 201,.c (.b false)]),oQ (203,.mv,[.t 202]),⟨.t 204,(some (.t 203,true)),(.fad 4),[.l 22]⟩,⟨.t 205,(some (.t 203,true)),(.ld none),[.t 204]⟩,⟨.t 206,(some (.t 203,true)),(.bin .eql),[.t 205,.c (.i .i64 2)]⟩,oQ (207,.pick,[.t 203,.t 206,.c (.b false)]),oQ (208,.mv,[.t 207]),⟨.t 209,(some (.t 208,true)),(.fad 2),[.l 22]⟩,⟨.t 210,(some (.t 208,true)),(.ld none),[.t 209]⟩,⟨.t 211,(some (.t 208,true)),(.bin .eql),[.t 210,.c (.i .i64 19)]⟩,oQ (212,.pick,[.t 208,.t 211,.c (.b false)]),oQ (213,.mv,[.t 212]),⟨.t 214,(some (.t 213,true)),.mv,[.l 25]⟩,⟨.t 215,(some (.t 213,true)),(.bin .eql),[.t 214,.c (.i .i64 4)]⟩,oQ (216,.pick,[.t 213,.t 215,.c (.b false)]),oQ (217,.mv,[.t 216]),⟨.t 218,(some (.t 217,true)),.mv,[.l 1]⟩,⟨.t 219,(some (.t 217,true)),.mv,[.l 12]⟩,⟨.t 220,(some (.t 217,true)),(.call 16),[.t 218,.t 219]⟩,⟨.t 221,(some (.t 217,true)),(.bin .eql),[.t 220,.c (.i .i64 2)]⟩,oQ (222,.pick,[.t 217,.t 221,.c (.b false)]),oQ (223,.mv,[.t 222]),⟨.t 224,(some (.t 223,true)),.mv,[.l 29]⟩,⟨.t 225,(some (.t 223,true)),(.bin .eql),[.t 224,.c (.i .i64 3)]⟩,oQ (226,.pick,[.t 223,.t 225,.c (.b false)]),⟨.l 0,none,.mv,[.t 226]⟩])
 .ret))))))))))))))))),[.tmp (.l 0)]⟩
theorem c4 : compFn Tryz.prog b4 Tryz.f4 = some a4 := by kernel_rfl
def b5 : Nat := 1
theorem c5 : compFn Tryz.prog b5 Tryz.f5 = some (c_f21 Nn) := by kernel_rfl
def b6 : Nat := 6755399441055739
theorem c6 : compFn Tryz.prog b6 Tryz.f6 = some (c_f101 Nn) := by kernel_rfl
def b7 : Nat := 1011
theorem c7 : compFn Tryz.prog b7 Tryz.f7 = some (c_f110 Nn) := by kernel_rfl
def b8 : Nat := 455
theorem c8 : compFn Tryz.prog b8 Tryz.f8 = some (c_f40 Nn) := by kernel_rfl
def b9 : Nat := 1011
theorem c9 : compFn Tryz.prog b9 Tryz.f9 = some (c_f48 Nn) := by kernel_rfl
def b10 : Nat := 115
theorem c10 : compFn Tryz.prog b10 Tryz.f10 = some (c_f51 Nn) := by kernel_rfl
def b11 : Nat := 455
theorem c11 : compFn Tryz.prog b11 Tryz.f11 = some (c_f52 Nn) := by kernel_rfl
def b12 : Nat := 783
theorem c12 : compFn Tryz.prog b12 Tryz.f12 = some (c_f53 Nn) := by kernel_rfl
def b13 : Nat := 1807
theorem c13 : compFn Tryz.prog b13 Tryz.f13 = some (c_f54 Nn) := by kernel_rfl
def b14 : Nat := 199
theorem c14 : compFn Tryz.prog b14 Tryz.f14 = some (c_f55 Nn) := by kernel_rfl
def b15 : Nat := 19
theorem c15 : compFn Tryz.prog b15 Tryz.f15 = some (c_f59 Nn) := by kernel_rfl
def b16 : Nat := 19
theorem c16 : compFn Tryz.prog b16 Tryz.f16 = some (c_f60 Nn) := by kernel_rfl
def b17 : Nat := 1
theorem c17 : compFn Tryz.prog b17 Tryz.f17 = some (c_f20 Nn) := by kernel_rfl
def b18 : Nat := 455
theorem c18 : compFn Tryz.prog b18 Tryz.f18 = some (c_f74 Nn) := by kernel_rfl
def b19 : Nat := 455
theorem c19 : compFn Tryz.prog b19 Tryz.f19 = some (c_f75 Nn) := by kernel_rfl
def b20 : Nat := 783
theorem c20 : compFn Tryz.prog b20 Tryz.f20 = some (c_f76 Nn) := by kernel_rfl
def b21 : Nat := 455
theorem c21 : compFn Tryz.prog b21 Tryz.f21 = some (c_f77 Nn) := by kernel_rfl
def b22 : Nat := 243
theorem c22 : compFn Tryz.prog b22 Tryz.f22 = some (c_f80 Nn) := by kernel_rfl
def b23 : Nat := 1807
theorem c23 : compFn Tryz.prog b23 Tryz.f23 = some (c_f81 Nn) := by kernel_rfl
def b24 : Nat := 1011
theorem c24 : compFn Tryz.prog b24 Tryz.f24 = some (c_f87 Nn) := by kernel_rfl
def b25 : Nat := 31
theorem c25 : compFn Tryz.prog b25 Tryz.f25 = some (c_f89 Nn) := by kernel_rfl
def b26 : Nat := 19
theorem c26 : compFn Tryz.prog b26 Tryz.f26 = some (c_f90 Nn) := by kernel_rfl
def b27 : Nat := 509
theorem c27 : compFn Tryz.prog b27 Tryz.f27 = some (c_f91 Nn) := by kernel_rfl
def b28 : Nat := 19
theorem c28 : compFn Tryz.prog b28 Tryz.f28 = some (c_f92 Nn) := by kernel_rfl
def b29 : Nat := 509
theorem c29 : compFn Tryz.prog b29 Tryz.f29 = some (c_f93 Nn) := by kernel_rfl
def b30 : Nat := 51
theorem c30 : compFn Tryz.prog b30 Tryz.f30 = some (c_f88 Nn) := by kernel_rfl
def b31 : Nat := 115
theorem c31 : compFn Tryz.prog b31 Tryz.f31 = some (c_f65 Nn) := by kernel_rfl
def b32 : Nat := 215
theorem c32 : compFn Tryz.prog b32 Tryz.f32 = some (c_f98 Nn) := by kernel_rfl
def b33 : Nat := 87
theorem c33 : compFn Tryz.prog b33 Tryz.f33 = some (c_f100 Nn) := by kernel_rfl
def b34 : Nat := 13
theorem c34 : compFn Tryz.prog b34 Tryz.f34 = some (c_f102 Nn) := by kernel_rfl
def b35 : Nat := 5
theorem c35 : compFn Tryz.prog b35 Tryz.f35 = some (c_f103 Nn) := by kernel_rfl
def b36 : Nat := 19
theorem c36 : compFn Tryz.prog b36 Tryz.f36 = some (c_f104 Nn) := by kernel_rfl
def b37 : Nat := 19
theorem c37 : compFn Tryz.prog b37 Tryz.f37 = some (c_f105 Nn) := by kernel_rfl
def b38 : Nat := 19
theorem c38 : compFn Tryz.prog b38 Tryz.f38 = some (c_f106 Nn) := by kernel_rfl
def b39 : Nat := 19
theorem c39 : compFn Tryz.prog b39 Tryz.f39 = some (c_f107 Nn) := by kernel_rfl
def b40 : Nat := 5
theorem c40 : compFn Tryz.prog b40 Tryz.f40 = some (c_f108 Nn) := by kernel_rfl
def b41 : Nat := 5
theorem c41 : compFn Tryz.prog b41 Tryz.f41 = some (c_f109 Nn) := by kernel_rfl
def b42 : Nat := 16143
theorem c42 : compFn Tryz.prog b42 Tryz.f42 = some (c_f39 Nn) := by kernel_rfl
def b43 : Nat := 7667
theorem c43 : compFn Tryz.prog b43 Tryz.f43 = some (c_f45 Nn) := by kernel_rfl
def b44 : Nat := 51
theorem c44 : compFn Tryz.prog b44 Tryz.f44 = some (c_f47 Nn) := by kernel_rfl
def b45 : Nat := 19
theorem c45 : compFn Tryz.prog b45 Tryz.f45 = some (c_f49 Nn) := by kernel_rfl
def b46 : Nat := 83
theorem c46 : compFn Tryz.prog b46 Tryz.f46 = some (c_f34 Nn) := by kernel_rfl
def b47 : Nat := 5
theorem c47 : compFn Tryz.prog b47 Tryz.f47 = some (c_f50 Nn) := by kernel_rfl
def b48 : Nat := 815
theorem c48 : compFn Tryz.prog b48 Tryz.f48 = some (c_f38 Nn) := by kernel_rfl
def b49 : Nat := 5
theorem c49 : compFn Tryz.prog b49 Tryz.f49 = some (c_f24 Nn) := by kernel_rfl
def b50 : Nat := 271
theorem c50 : compFn Tryz.prog b50 Tryz.f50 = some (c_f37 Nn) := by kernel_rfl
def b51 : Nat := 5
theorem c51 : compFn Tryz.prog b51 Tryz.f51 = some (c_f56 Nn) := by kernel_rfl
def b52 : Nat := 19
theorem c52 : compFn Tryz.prog b52 Tryz.f52 = some (c_f57 Nn) := by kernel_rfl
def b53 : Nat := 19
theorem c53 : compFn Tryz.prog b53 Tryz.f53 = some (c_f58 Nn) := by kernel_rfl
def b54 : Nat := 5
theorem c54 : compFn Tryz.prog b54 Tryz.f54 = some (c_f17 Nn) := by kernel_rfl
def b55 : Nat := 1
theorem c55 : compFn Tryz.prog b55 Tryz.f55 = some (c_f19 Nn) := by kernel_rfl
def b56 : Nat := 7951
theorem c56 : compFn Tryz.prog b56 Tryz.f56 = some (c_f73 Nn) := by kernel_rfl
def b57 : Nat := 15391
theorem c57 : compFn Tryz.prog b57 Tryz.f57 = some (c_f72 Nn) := by kernel_rfl
def b58 : Nat := 271
theorem c58 : compFn Tryz.prog b58 Tryz.f58 = some (c_f70 Nn) := by kernel_rfl
def b59 : Nat := 5
theorem c59 : compFn Tryz.prog b59 Tryz.f59 = some (c_f63 Nn) := by kernel_rfl
def b60 : Nat := 19
theorem c60 : compFn Tryz.prog b60 Tryz.f60 = some (c_f78 Nn) := by kernel_rfl
def b61 : Nat := 211
theorem c61 : compFn Tryz.prog b61 Tryz.f61 = some (c_f68 Nn) := by kernel_rfl
def b62 : Nat := 5
theorem c62 : compFn Tryz.prog b62 Tryz.f62 = some (c_f79 Nn) := by kernel_rfl
def b63 : Nat := 271
theorem c63 : compFn Tryz.prog b63 Tryz.f63 = some (c_f71 Nn) := by kernel_rfl
def b64 : Nat := 1011
theorem c64 : compFn Tryz.prog b64 Tryz.f64 = some (c_f84 Nn) := by kernel_rfl
def b65 : Nat := 243
theorem c65 : compFn Tryz.prog b65 Tryz.f65 = some (c_f86 Nn) := by kernel_rfl
def b66 : Nat := 29
theorem c66 : compFn Tryz.prog b66 Tryz.f66 = some (c_f5 Nn) := by kernel_rfl
def b67 : Nat := 13
theorem c67 : compFn Tryz.prog b67 Tryz.f67 = some (c_f14 Nn) := by kernel_rfl
def b68 : Nat := 19
theorem c68 : compFn Tryz.prog b68 Tryz.f68 = some (c_f4 Nn) := by kernel_rfl
def b69 : Nat := 5
theorem c69 : compFn Tryz.prog b69 Tryz.f69 = some (c_f64 Nn) := by kernel_rfl
def b70 : Nat := 15
theorem c70 : compFn Tryz.prog b70 Tryz.f70 = some (c_f94 Nn) := by kernel_rfl
def b71 : Nat := 19
theorem c71 : compFn Tryz.prog b71 Tryz.f71 = some (c_f97 Nn) := by kernel_rfl
def b72 : Nat := 19
theorem c72 : compFn Tryz.prog b72 Tryz.f72 = some (c_f95 Nn) := by kernel_rfl
def b73 : Nat := 59
theorem c73 : compFn Tryz.prog b73 Tryz.f73 = some (c_f16 Nn) := by kernel_rfl
def b74 : Nat := 51
theorem c74 : compFn Tryz.prog b74 Tryz.f74 = some (c_f99 Nn) := by kernel_rfl
def b75 : Nat := 61
theorem c75 : compFn Tryz.prog b75 Tryz.f75 = some (c_f43 Nn) := by kernel_rfl
def b76 : Nat := 5
theorem c76 : compFn Tryz.prog b76 Tryz.f76 = some (c_f6 Nn) := by kernel_rfl
def b77 : Nat := 5
theorem c77 : compFn Tryz.prog b77 Tryz.f77 = some (c_f7 Nn) := by kernel_rfl
def b78 : Nat := 3
theorem c78 : compFn Tryz.prog b78 Tryz.f78 = some (c_f23 Nn) := by kernel_rfl
def b79 : Nat := 61
theorem c79 : compFn Tryz.prog b79 Tryz.f79 = some (c_f44 Nn) := by kernel_rfl
def b80 : Nat := 199
theorem c80 : compFn Tryz.prog b80 Tryz.f80 = some (c_f3 Nn) := by kernel_rfl
def b81 : Nat := 271
theorem c81 : compFn Tryz.prog b81 Tryz.f81 = some (c_f36 Nn) := by kernel_rfl
def b82 : Nat := 115
theorem c82 : compFn Tryz.prog b82 Tryz.f82 = some (c_f46 Nn) := by kernel_rfl
def b83 : Nat := 2035
theorem c83 : compFn Tryz.prog b83 Tryz.f83 = some (c_f33 Nn) := by kernel_rfl
def b84 : Nat := 13
theorem c84 : compFn Tryz.prog b84 Tryz.f84 = some (c_f8 Nn) := by kernel_rfl
def b85 : Nat := 19
theorem c85 : compFn Tryz.prog b85 Tryz.f85 = some (c_f2 Nn) := by kernel_rfl
def b86 : Nat := 1
theorem c86 : compFn Tryz.prog b86 Tryz.f86 = some (c_f62 Nn) := by kernel_rfl
def b87 : Nat := 71
theorem c87 : compFn Tryz.prog b87 Tryz.f87 = some (c_f69 Nn) := by kernel_rfl
def b88 : Nat := 243
theorem c88 : compFn Tryz.prog b88 Tryz.f88 = some (c_f67 Nn) := by kernel_rfl
def b89 : Nat := 51
theorem c89 : compFn Tryz.prog b89 Tryz.f89 = some (c_f82 Nn) := by kernel_rfl
def b90 : Nat := 455
theorem c90 : compFn Tryz.prog b90 Tryz.f90 = some (c_f83 Nn) := by kernel_rfl
def b91 : Nat := 115
theorem c91 : compFn Tryz.prog b91 Tryz.f91 = some (c_f85 Nn) := by kernel_rfl
def b92 : Nat := 115
theorem c92 : compFn Tryz.prog b92 Tryz.f92 = some (c_f12 Nn) := by kernel_rfl
def b93 : Nat := 5
theorem c93 : compFn Tryz.prog b93 Tryz.f93 = some (c_f13 Nn) := by kernel_rfl
def b94 : Nat := 435
theorem c94 : compFn Tryz.prog b94 Tryz.f94 = some (c_f96 Nn) := by kernel_rfl
def b95 : Nat := 13
theorem c95 : compFn Tryz.prog b95 Tryz.f95 = some (c_f15 Nn) := by kernel_rfl
def b96 : Nat := 13
theorem c96 : compFn Tryz.prog b96 Tryz.f96 = some (c_f42 Nn) := by kernel_rfl
def b97 : Nat := 61
theorem c97 : compFn Tryz.prog b97 Tryz.f97 = some (c_f22 Nn) := by kernel_rfl
def b98 : Nat := 327
theorem c98 : compFn Tryz.prog b98 Tryz.f98 = some (c_f35 Nn) := by kernel_rfl
def b99 : Nat := 243
theorem c99 : compFn Tryz.prog b99 Tryz.f99 = some (c_f25 Nn) := by kernel_rfl
def b100 : Nat := 39
theorem c100 : compFn Tryz.prog b100 Tryz.f100 = some (c_f26 Nn) := by kernel_rfl
def b101 : Nat := 19
theorem c101 : compFn Tryz.prog b101 Tryz.f101 = some (c_f31 Nn) := by kernel_rfl
def b102 : Nat := 243
theorem c102 : compFn Tryz.prog b102 Tryz.f102 = some (c_f32 Nn) := by kernel_rfl
def b103 : Nat := 5
theorem c103 : compFn Tryz.prog b103 Tryz.f103 = some (c_f1 Nn) := by kernel_rfl
def b104 : Nat := 51
theorem c104 : compFn Tryz.prog b104 Tryz.f104 = some (c_f66 Nn) := by kernel_rfl
def b105 : Nat := 3
theorem c105 : compFn Tryz.prog b105 Tryz.f105 = some (c_f11 Nn) := by kernel_rfl
def b106 : Nat := 5
theorem c106 : compFn Tryz.prog b106 Tryz.f106 = some (c_f41 Nn) := by kernel_rfl
def b107 : Nat := 13
theorem c107 : compFn Tryz.prog b107 Tryz.f107 = some (c_f9 Nn) := by kernel_rfl
def b108 : Nat := 1
theorem c108 : compFn Tryz.prog b108 Tryz.f108 = some (c_f18 Nn) := by kernel_rfl
def b109 : Nat := 31
theorem c109 : compFn Tryz.prog b109 Tryz.f109 = some (c_f30 Nn) := by kernel_rfl
def b110 : Nat := 493
theorem c110 : compFn Tryz.prog b110 Tryz.f110 = some (c_f29 Nn) := by kernel_rfl
def b111 : Nat := 115
theorem c111 : compFn Tryz.prog b111 Tryz.f111 = some (c_f28 Nn) := by kernel_rfl
def b112 : Nat := 5
theorem c112 : compFn Tryz.prog b112 Tryz.f112 = some (c_f27 Nn) := by kernel_rfl
noncomputable def tbl : Nat → Option AFn
  | 3 => some (c_f111 Nn)
  | 4 => some a4
  | 5 => some (c_f21 Nn)
  | 6 => some (c_f101 Nn)
  | 7 => some (c_f110 Nn)
  | 8 => some (c_f40 Nn)
  | 9 => some (c_f48 Nn)
  | 10 => some (c_f51 Nn)
  | 11 => some (c_f52 Nn)
  | 12 => some (c_f53 Nn)
  | 13 => some (c_f54 Nn)
  | 14 => some (c_f55 Nn)
  | 15 => some (c_f59 Nn)
  | 16 => some (c_f60 Nn)
  | 17 => some (c_f20 Nn)
  | 18 => some (c_f74 Nn)
  | 19 => some (c_f75 Nn)
  | 20 => some (c_f76 Nn)
  | 21 => some (c_f77 Nn)
  | 22 => some (c_f80 Nn)
  | 23 => some (c_f81 Nn)
  | 24 => some (c_f87 Nn)
  | 25 => some (c_f89 Nn)
  | 26 => some (c_f90 Nn)
  | 27 => some (c_f91 Nn)
  | 28 => some (c_f92 Nn)
  | 29 => some (c_f93 Nn)
  | 30 => some (c_f88 Nn)
  | 31 => some (c_f65 Nn)
  | 32 => some (c_f98 Nn)
  | 33 => some (c_f100 Nn)
  | 34 => some (c_f102 Nn)
  | 35 => some (c_f103 Nn)
  | 36 => some (c_f104 Nn)
  | 37 => some (c_f105 Nn)
  | 38 => some (c_f106 Nn)
  | 39 => some (c_f107 Nn)
  | 40 => some (c_f108 Nn)
  | 41 => some (c_f109 Nn)
  | 42 => some (c_f39 Nn)
  | 43 => some (c_f45 Nn)
  | 44 => some (c_f47 Nn)
  | 45 => some (c_f49 Nn)
  | 46 => some (c_f34 Nn)
  | 47 => some (c_f50 Nn)
  | 48 => some (c_f38 Nn)
  | 49 => some (c_f24 Nn)
  | 50 => some (c_f37 Nn)
  | 51 => some (c_f56 Nn)
  | 52 => some (c_f57 Nn)
  | 53 => some (c_f58 Nn)
  | 54 => some (c_f17 Nn)
  | 55 => some (c_f19 Nn)
  | 56 => some (c_f73 Nn)
  | 57 => some (c_f72 Nn)
  | 58 => some (c_f70 Nn)
  | 59 => some (c_f63 Nn)
  | 60 => some (c_f78 Nn)
  | 61 => some (c_f68 Nn)
  | 62 => some (c_f79 Nn)
  | 63 => some (c_f71 Nn)
  | 64 => some (c_f84 Nn)
  | 65 => some (c_f86 Nn)
  | 66 => some (c_f5 Nn)
  | 67 => some (c_f14 Nn)
  | 68 => some (c_f4 Nn)
  | 69 => some (c_f64 Nn)
  | 70 => some (c_f94 Nn)
  | 71 => some (c_f97 Nn)
  | 72 => some (c_f95 Nn)
  | 73 => some (c_f16 Nn)
  | 74 => some (c_f99 Nn)
  | 75 => some (c_f43 Nn)
  | 76 => some (c_f6 Nn)
  | 77 => some (c_f7 Nn)
  | 78 => some (c_f23 Nn)
  | 79 => some (c_f44 Nn)
  | 80 => some (c_f3 Nn)
  | 81 => some (c_f36 Nn)
  | 82 => some (c_f46 Nn)
  | 83 => some (c_f33 Nn)
  | 84 => some (c_f8 Nn)
  | 85 => some (c_f2 Nn)
  | 86 => some (c_f62 Nn)
  | 87 => some (c_f69 Nn)
  | 88 => some (c_f67 Nn)
  | 89 => some (c_f82 Nn)
  | 90 => some (c_f83 Nn)
  | 91 => some (c_f85 Nn)
  | 92 => some (c_f12 Nn)
  | 93 => some (c_f13 Nn)
  | 94 => some (c_f96 Nn)
  | 95 => some (c_f15 Nn)
  | 96 => some (c_f42 Nn)
  | 97 => some (c_f22 Nn)
  | 98 => some (c_f35 Nn)
  | 99 => some (c_f25 Nn)
  | 100 => some (c_f26 Nn)
  | 101 => some (c_f31 Nn)
  | 102 => some (c_f32 Nn)
  | 103 => some (c_f1 Nn)
  | 104 => some (c_f66 Nn)
  | 105 => some (c_f11 Nn)
  | 106 => some (c_f41 Nn)
  | 107 => some (c_f9 Nn)
  | 108 => some (c_f18 Nn)
  | 109 => some (c_f30 Nn)
  | 110 => some (c_f29 Nn)
  | 111 => some (c_f28 Nn)
  | 112 => some (c_f27 Nn)
  | _ => none
theorem ok : TblOk Tryz.prog tbl := by
  intro f fn h
  unfold tbl at h
  split at h
  · cases h; exact .inl ⟨b3,_,Tryz.func3,c3⟩
  · cases h; exact .inl ⟨b4,_,Tryz.func4,c4⟩
  · cases h; exact .inl ⟨b5,_,Tryz.func5,c5⟩
  · cases h; exact .inl ⟨b6,_,Tryz.func6,c6⟩
  · cases h; exact .inl ⟨b7,_,Tryz.func7,c7⟩
  · cases h; exact .inl ⟨b8,_,Tryz.func8,c8⟩
  · cases h; exact .inl ⟨b9,_,Tryz.func9,c9⟩
  · cases h; exact .inl ⟨b10,_,Tryz.func10,c10⟩
  · cases h; exact .inl ⟨b11,_,Tryz.func11,c11⟩
  · cases h; exact .inl ⟨b12,_,Tryz.func12,c12⟩
  · cases h; exact .inl ⟨b13,_,Tryz.func13,c13⟩
  · cases h; exact .inl ⟨b14,_,Tryz.func14,c14⟩
  · cases h; exact .inl ⟨b15,_,Tryz.func15,c15⟩
  · cases h; exact .inl ⟨b16,_,Tryz.func16,c16⟩
  · cases h; exact .inl ⟨b17,_,Tryz.func17,c17⟩
  · cases h; exact .inl ⟨b18,_,Tryz.func18,c18⟩
  · cases h; exact .inl ⟨b19,_,Tryz.func19,c19⟩
  · cases h; exact .inl ⟨b20,_,Tryz.func20,c20⟩
  · cases h; exact .inl ⟨b21,_,Tryz.func21,c21⟩
  · cases h; exact .inl ⟨b22,_,Tryz.func22,c22⟩
  · cases h; exact .inl ⟨b23,_,Tryz.func23,c23⟩
  · cases h; exact .inl ⟨b24,_,Tryz.func24,c24⟩
  · cases h; exact .inl ⟨b25,_,Tryz.func25,c25⟩
  · cases h; exact .inl ⟨b26,_,Tryz.func26,c26⟩
  · cases h; exact .inl ⟨b27,_,Tryz.func27,c27⟩
  · cases h; exact .inl ⟨b28,_,Tryz.func28,c28⟩
  · cases h; exact .inl ⟨b29,_,Tryz.func29,c29⟩
  · cases h; exact .inl ⟨b30,_,Tryz.func30,c30⟩
  · cases h; exact .inl ⟨b31,_,Tryz.func31,c31⟩
  · cases h; exact .inl ⟨b32,_,Tryz.func32,c32⟩
  · cases h; exact .inl ⟨b33,_,Tryz.func33,c33⟩
  · cases h; exact .inl ⟨b34,_,Tryz.func34,c34⟩
  · cases h; exact .inl ⟨b35,_,Tryz.func35,c35⟩
  · cases h; exact .inl ⟨b36,_,Tryz.func36,c36⟩
  · cases h; exact .inl ⟨b37,_,Tryz.func37,c37⟩
  · cases h; exact .inl ⟨b38,_,Tryz.func38,c38⟩
  · cases h; exact .inl ⟨b39,_,Tryz.func39,c39⟩
  · cases h; exact .inl ⟨b40,_,Tryz.func40,c40⟩
  · cases h; exact .inl ⟨b41,_,Tryz.func41,c41⟩
  · cases h; exact .inl ⟨b42,_,Tryz.func42,c42⟩
  · cases h; exact .inl ⟨b43,_,Tryz.func43,c43⟩
  · cases h; exact .inl ⟨b44,_,Tryz.func44,c44⟩
  · cases h; exact .inl ⟨b45,_,Tryz.func45,c45⟩
  · cases h; exact .inl ⟨b46,_,Tryz.func46,c46⟩
  · cases h; exact .inl ⟨b47,_,Tryz.func47,c47⟩
  · cases h; exact .inl ⟨b48,_,Tryz.func48,c48⟩
  · cases h; exact .inl ⟨b49,_,Tryz.func49,c49⟩
  · cases h; exact .inl ⟨b50,_,Tryz.func50,c50⟩
  · cases h; exact .inl ⟨b51,_,Tryz.func51,c51⟩
  · cases h; exact .inl ⟨b52,_,Tryz.func52,c52⟩
  · cases h; exact .inl ⟨b53,_,Tryz.func53,c53⟩
  · cases h; exact .inl ⟨b54,_,Tryz.func54,c54⟩
  · cases h; exact .inl ⟨b55,_,Tryz.func55,c55⟩
  · cases h; exact .inl ⟨b56,_,Tryz.func56,c56⟩
  · cases h; exact .inl ⟨b57,_,Tryz.func57,c57⟩
  · cases h; exact .inl ⟨b58,_,Tryz.func58,c58⟩
  · cases h; exact .inl ⟨b59,_,Tryz.func59,c59⟩
  · cases h; exact .inl ⟨b60,_,Tryz.func60,c60⟩
  · cases h; exact .inl ⟨b61,_,Tryz.func61,c61⟩
  · cases h; exact .inl ⟨b62,_,Tryz.func62,c62⟩
  · cases h; exact .inl ⟨b63,_,Tryz.func63,c63⟩
  · cases h; exact .inl ⟨b64,_,Tryz.func64,c64⟩
  · cases h; exact .inl ⟨b65,_,Tryz.func65,c65⟩
  · cases h; exact .inl ⟨b66,_,Tryz.func66,c66⟩
  · cases h; exact .inl ⟨b67,_,Tryz.func67,c67⟩
  · cases h; exact .inl ⟨b68,_,Tryz.func68,c68⟩
  · cases h; exact .inl ⟨b69,_,Tryz.func69,c69⟩
  · cases h; exact .inl ⟨b70,_,Tryz.func70,c70⟩
  · cases h; exact .inl ⟨b71,_,Tryz.func71,c71⟩
  · cases h; exact .inl ⟨b72,_,Tryz.func72,c72⟩
  · cases h; exact .inl ⟨b73,_,Tryz.func73,c73⟩
  · cases h; exact .inl ⟨b74,_,Tryz.func74,c74⟩
  · cases h; exact .inl ⟨b75,_,Tryz.func75,c75⟩
  · cases h; exact .inl ⟨b76,_,Tryz.func76,c76⟩
  · cases h; exact .inl ⟨b77,_,Tryz.func77,c77⟩
  · cases h; exact .inl ⟨b78,_,Tryz.func78,c78⟩
  · cases h; exact .inl ⟨b79,_,Tryz.func79,c79⟩
  · cases h; exact .inl ⟨b80,_,Tryz.func80,c80⟩
  · cases h; exact .inl ⟨b81,_,Tryz.func81,c81⟩
  · cases h; exact .inl ⟨b82,_,Tryz.func82,c82⟩
  · cases h; exact .inl ⟨b83,_,Tryz.func83,c83⟩
  · cases h; exact .inl ⟨b84,_,Tryz.func84,c84⟩
  · cases h; exact .inl ⟨b85,_,Tryz.func85,c85⟩
  · cases h; exact .inl ⟨b86,_,Tryz.func86,c86⟩
  · cases h; exact .inl ⟨b87,_,Tryz.func87,c87⟩
  · cases h; exact .inl ⟨b88,_,Tryz.func88,c88⟩
  · cases h; exact .inl ⟨b89,_,Tryz.func89,c89⟩
  · cases h; exact .inl ⟨b90,_,Tryz.func90,c90⟩
  · cases h; exact .inl ⟨b91,_,Tryz.func91,c91⟩
  · cases h; exact .inl ⟨b92,_,Tryz.func92,c92⟩
  · cases h; exact .inl ⟨b93,_,Tryz.func93,c93⟩
  · cases h; exact .inl ⟨b94,_,Tryz.func94,c94⟩
  · cases h; exact .inl ⟨b95,_,Tryz.func95,c95⟩
  · cases h; exact .inl ⟨b96,_,Tryz.func96,c96⟩
  · cases h; exact .inl ⟨b97,_,Tryz.func97,c97⟩
  · cases h; exact .inl ⟨b98,_,Tryz.func98,c98⟩
  · cases h; exact .inl ⟨b99,_,Tryz.func99,c99⟩
  · cases h; exact .inl ⟨b100,_,Tryz.func100,c100⟩
  · cases h; exact .inl ⟨b101,_,Tryz.func101,c101⟩
  · cases h; exact .inl ⟨b102,_,Tryz.func102,c102⟩
  · cases h; exact .inl ⟨b103,_,Tryz.func103,c103⟩
  · cases h; exact .inl ⟨b104,_,Tryz.func104,c104⟩
  · cases h; exact .inl ⟨b105,_,Tryz.func105,c105⟩
  · cases h; exact .inl ⟨b106,_,Tryz.func106,c106⟩
  · cases h; exact .inl ⟨b107,_,Tryz.func107,c107⟩
  · cases h; exact .inl ⟨b108,_,Tryz.func108,c108⟩
  · cases h; exact .inl ⟨b109,_,Tryz.func109,c109⟩
  · cases h; exact .inl ⟨b110,_,Tryz.func110,c110⟩
  · cases h; exact .inl ⟨b111,_,Tryz.func111,c111⟩
  · cases h; exact .inl ⟨b112,_,Tryz.func112,c112⟩
  · cases h
theorem mixed : Tryz.prog.follows .mixedOrders = true := by kernel_rfl
theorem awake4 : KnownTrue Tryz.prog 4 := known mixed ok Tryz.func4 c4 (n := 100000) (by kernel_rfl)
noncomputable def tblK (f : Nat) : Option AFn := bif Nat.beq f 4 then some kTrue else tbl f
theorem okK : TblOk Tryz.prog tblK := by
  intro f fn h
  unfold tblK at h
  cases h4 : Nat.beq f 4
  case true =>
    rw [h4] at h
    cases h
    exact .inr ⟨rfl,by rw [beq_nat,decide_eq_true_eq] at h4; subst h4; exact awake4⟩
  rw [h4] at h
  exact ok f fn h
theorem h_f19 : H_f19 Nn tblK := ⟨by kernel_rfl⟩
theorem h_f20 : H_f20 Nn tblK := ⟨by kernel_rfl,h_f19⟩
theorem h_f21 : H_f21 Nn tblK := ⟨by kernel_rfl,h_f20⟩
theorem h_f9 : H_f9 Nn tblK := ⟨by kernel_rfl⟩
theorem h_f18 : H_f18 Nn tblK := ⟨by kernel_rfl⟩
theorem h_f22 : H_f22 Nn tblK := ⟨by kernel_rfl,h_f9,h_f18⟩
theorem h_f23 : H_f23 Nn tblK := ⟨by kernel_rfl,h_f22⟩
theorem h_f24 : H_f24 Nn tblK := ⟨by kernel_rfl⟩
theorem h_f1 : H_f1 Nn tblK := ⟨by kernel_rfl⟩
theorem h_f2 : H_f2 Nn tblK := ⟨by kernel_rfl,h_f1⟩
theorem h_f25 : H_f25 Nn tblK := ⟨by kernel_rfl⟩
theorem h_f26 : H_f26 Nn tblK := ⟨by kernel_rfl⟩
theorem h_f27 : H_f27 Nn tblK := ⟨by kernel_rfl⟩
theorem h_f28 : H_f28 Nn tblK := ⟨by kernel_rfl,h_f27⟩
theorem h_f29 : H_f29 Nn tblK := ⟨by kernel_rfl⟩
theorem h_f30 : H_f30 Nn tblK := ⟨by kernel_rfl,h_f28,h_f29⟩
theorem h_f31 : H_f31 Nn tblK := ⟨by kernel_rfl,h_f30,h_f26⟩
theorem h_f32 : H_f32 Nn tblK := ⟨by kernel_rfl,h_f30,h_f26⟩
theorem h_f33 : H_f33 Nn tblK := ⟨by kernel_rfl,h_f25,h_f26,h_f31,h_f32⟩
theorem h_f34 : H_f34 Nn tblK := ⟨by kernel_rfl,h_f33⟩
theorem h_f35 : H_f35 Nn tblK := ⟨by kernel_rfl,h_f31⟩
theorem h_f36 : H_f36 Nn tblK := ⟨by kernel_rfl,h_f34,h_f35⟩
theorem h_f37 : H_f37 Nn tblK := ⟨by kernel_rfl,h_f2,h_f36⟩
theorem h_f38 : H_f38 Nn tblK := ⟨by kernel_rfl,h_f24,h_f37⟩
theorem h_f39 : H_f39 Nn tblK := ⟨by kernel_rfl,h_f23,h_f38⟩
theorem h_f40 : H_f40 Nn tblK := ⟨by kernel_rfl,h_f39⟩
theorem h_f62 : H_f62 Nn tblK := ⟨by kernel_rfl⟩
theorem h_f63 : H_f63 Nn tblK := ⟨by kernel_rfl⟩
theorem h_f64 : H_f64 Nn tblK := ⟨by kernel_rfl⟩
theorem h_f65 : H_f65 Nn tblK := ⟨by kernel_rfl,h_f64⟩
theorem h_f66 : H_f66 Nn tblK := ⟨by kernel_rfl⟩
theorem h_f67 : H_f67 Nn tblK := ⟨by kernel_rfl,h_f66⟩
theorem h_f68 : H_f68 Nn tblK := ⟨by kernel_rfl,h_f67⟩
theorem h_f69 : H_f69 Nn tblK := ⟨by kernel_rfl⟩
theorem h_f70 : H_f70 Nn tblK := ⟨by kernel_rfl,h_f68,h_f69⟩
theorem h_f71 : H_f71 Nn tblK := ⟨by kernel_rfl,h_f63,h_f65,h_f70⟩
theorem h_f72 : H_f72 Nn tblK := ⟨by kernel_rfl,h_f62,h_f71⟩
theorem h_f73 : H_f73 Nn tblK := ⟨by kernel_rfl,h_f72⟩
theorem h_f74 : H_f74 Nn tblK := ⟨by kernel_rfl,h_f73⟩
theorem h_f52 : H_f52 Nn tblK := ⟨by kernel_rfl,h_f39⟩
theorem h_f75 : H_f75 Nn tblK := ⟨by kernel_rfl,h_f73⟩
theorem h_f53 : H_f53 Nn tblK := ⟨by kernel_rfl,h_f38⟩
theorem h_f76 : H_f76 Nn tblK := ⟨by kernel_rfl,h_f72⟩
theorem h_f55 : H_f55 Nn tblK := ⟨by kernel_rfl,h_f38⟩
theorem h_f77 : H_f77 Nn tblK := ⟨by kernel_rfl,h_f63,h_f70⟩
theorem h_f49 : H_f49 Nn tblK := ⟨by kernel_rfl⟩
theorem h_f6 : H_f6 Nn tblK := ⟨by kernel_rfl⟩
theorem h_f8 : H_f8 Nn tblK := ⟨by kernel_rfl,h_f6⟩
theorem h_f50 : H_f50 Nn tblK := ⟨by kernel_rfl,h_f8⟩
theorem h_f51 : H_f51 Nn tblK := ⟨by kernel_rfl,h_f49,h_f34,h_f50⟩
theorem h_f78 : H_f78 Nn tblK := ⟨by kernel_rfl⟩
theorem h_f79 : H_f79 Nn tblK := ⟨by kernel_rfl⟩
theorem h_f80 : H_f80 Nn tblK := ⟨by kernel_rfl,h_f78,h_f68,h_f79⟩
theorem h_f54 : H_f54 Nn tblK := ⟨by kernel_rfl,h_f49,h_f24,h_f51,h_f37⟩
theorem h_f81 : H_f81 Nn tblK := ⟨by kernel_rfl,h_f78,h_f80,h_f71⟩
theorem h_f41 : H_f41 Nn tblK := ⟨by kernel_rfl⟩
theorem h_f42 : H_f42 Nn tblK := ⟨by kernel_rfl,h_f41⟩
theorem h_f43 : H_f43 Nn tblK := ⟨by kernel_rfl,h_f42⟩
theorem h_f44 : H_f44 Nn tblK := ⟨by kernel_rfl,h_f42,h_f33⟩
theorem h_f3 : H_f3 Nn tblK := ⟨by kernel_rfl,h_f2⟩
theorem h_f45 : H_f45 Nn tblK := ⟨by kernel_rfl,h_f43,h_f44,h_f3,h_f36⟩
theorem h_f11 : H_f11 Nn tblK := ⟨by kernel_rfl⟩
theorem h_f12 : H_f12 Nn tblK := ⟨by kernel_rfl,h_f11⟩
theorem h_f13 : H_f13 Nn tblK := ⟨by kernel_rfl⟩
theorem h_f14 : H_f14 Nn tblK := ⟨by kernel_rfl,h_f12,h_f13⟩
theorem h_f46 : H_f46 Nn tblK := ⟨by kernel_rfl,h_f14⟩
theorem h_f4 : H_f4 Nn tblK := ⟨by kernel_rfl⟩
theorem h_f47 : H_f47 Nn tblK := ⟨by kernel_rfl,h_f46,h_f4⟩
theorem h_f48 : H_f48 Nn tblK := ⟨by kernel_rfl,h_f45,h_f47⟩
theorem h_f82 : H_f82 Nn tblK := ⟨by kernel_rfl⟩
theorem h_f83 : H_f83 Nn tblK := ⟨by kernel_rfl⟩
theorem h_f84 : H_f84 Nn tblK := ⟨by kernel_rfl,h_f82,h_f68,h_f83,h_f70⟩
theorem h_f85 : H_f85 Nn tblK := ⟨by kernel_rfl⟩
theorem h_f86 : H_f86 Nn tblK := ⟨by kernel_rfl,h_f85⟩
theorem h_f87 : H_f87 Nn tblK := ⟨by kernel_rfl,h_f84,h_f86⟩
theorem h_f88 : H_f88 Nn tblK := ⟨by kernel_rfl⟩
theorem h_f89 : H_f89 Nn tblK := ⟨by kernel_rfl,h_f88⟩
theorem h_f90 : H_f90 Nn tblK := ⟨by kernel_rfl,h_f49⟩
theorem h_f5 : H_f5 Nn tblK := ⟨by kernel_rfl⟩
theorem h_f91 : H_f91 Nn tblK := ⟨by kernel_rfl,h_f5,h_f14,h_f4⟩
theorem h_f92 : H_f92 Nn tblK := ⟨by kernel_rfl,h_f78⟩
theorem h_f93 : H_f93 Nn tblK := ⟨by kernel_rfl⟩
theorem h_f56 : H_f56 Nn tblK := ⟨by kernel_rfl⟩
theorem h_f94 : H_f94 Nn tblK := ⟨by kernel_rfl⟩
theorem h_f7 : H_f7 Nn tblK := ⟨by kernel_rfl⟩
theorem h_f57 : H_f57 Nn tblK := ⟨by kernel_rfl,h_f6,h_f7⟩
theorem h_f58 : H_f58 Nn tblK := ⟨by kernel_rfl⟩
theorem h_f15 : H_f15 Nn tblK := ⟨by kernel_rfl⟩
theorem h_f95 : H_f95 Nn tblK := ⟨by kernel_rfl,h_f58,h_f15⟩
theorem h_f96 : H_f96 Nn tblK := ⟨by kernel_rfl⟩
theorem h_f97 : H_f97 Nn tblK := ⟨by kernel_rfl,h_f96⟩
theorem h_f16 : H_f16 Nn tblK := ⟨by kernel_rfl⟩
theorem h_f98 : H_f98 Nn tblK := ⟨by kernel_rfl,h_f56,h_f94,h_f57,h_f95,h_f97,h_f58,h_f16⟩
theorem h_f99 : H_f99 Nn tblK := ⟨by kernel_rfl⟩
theorem h_f100 : H_f100 Nn tblK := ⟨by kernel_rfl,h_f99⟩
theorem h_f101 : H_f101 Nn tblK := ⟨by kernel_rfl,h_f40,h_f74,h_f52,h_f75,h_f53,h_f76,h_f55,h_f77,h_f51,h_f80,h_f54,h_f81,h_f48,h_f87,h_f89,h_f90,h_f91,h_f92,h_f93,h_f88,h_f65,h_f98,h_f100⟩
theorem h_f102 : H_f102 Nn tblK := ⟨by kernel_rfl,h_f43⟩
theorem h_f103 : H_f103 Nn tblK := ⟨by kernel_rfl⟩
theorem h_f104 : H_f104 Nn tblK := ⟨by kernel_rfl,h_f49⟩
theorem h_f105 : H_f105 Nn tblK := ⟨by kernel_rfl,h_f78⟩
theorem h_f60 : H_f60 Nn tblK := ⟨by kernel_rfl,h_f49⟩
theorem h_f106 : H_f106 Nn tblK := ⟨by kernel_rfl,h_f78⟩
theorem h_f17 : H_f17 Nn tblK := ⟨by kernel_rfl⟩
theorem h_f59 : H_f59 Nn tblK := ⟨by kernel_rfl,h_f56,h_f57,h_f58,h_f17⟩
theorem h_f107 : H_f107 Nn tblK := ⟨by kernel_rfl⟩
theorem h_f108 : H_f108 Nn tblK := ⟨by kernel_rfl,h_f6⟩
theorem h_f109 : H_f109 Nn tblK := ⟨by kernel_rfl,h_f7⟩
theorem h_f110 : H_f110 Nn tblK := ⟨by kernel_rfl,h_f102,h_f90,h_f92,h_f103,h_f104,h_f105,h_f60,h_f106,h_f59,h_f107,h_f108,h_f109⟩
theorem timerActs_call {L : Lg} (l0 : List (Int × Int × Int)) (x0 : AV) (s0 : ArgSl L x0 (tcl l0) l0.length 3) : CallL tblK 3 [x0] L fun v _ => v = .b true :=
  timerActs_law (N := Nn) (F := tblK) (by kernel_rfl) (by kernel_rfl) h_f21 h_f101 h_f110 l0 x0 s0
end Go.Proofs.YtijhjfpiglaleaaGreat.T
