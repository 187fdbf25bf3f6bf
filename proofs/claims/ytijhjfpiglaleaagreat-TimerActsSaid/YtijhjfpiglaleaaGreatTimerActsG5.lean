/- The texts GenB, LgE, LibRing, LibWait, LibChan, LibMap, LibHeapA of a proof of TimerActs, merged. -/
import Derived.Test.YtijhjfpiglaleaaGreatTimerActsG4
set_option linter.unusedVariables false
set_option maxRecDepth 100000
namespace Go.AM
def q_f101_3 (N : TN) : ACode := (.seq (.reg [⟨.l 4,none,.mv,[.c (.b true)]⟩]) .ret)
noncomputable def D_f101_3 (F:TF)(N:TN)(Q:TQ) (L : Lg) : Prop :=
 fin1 (some (.b true)) Q L
theorem e_f101_3 (F:TF)(N:TN)(Q:TQ) (l t : Env) (L : Lg) : wp F (q_f101_3 N) l t L (fin [.tmp (.l 4)] Q) nE (fin [.tmp (.l 4)] Q) = D_f101_3 F N Q L := by kernel_rfl
def w_f101_2 (F:TF)(N:TN)(Q:TQ) : Kn := (fun (l t : Env) (L : Lg) => D_f101_3 F N Q L)
def y_f101_5 (F:TF)(N:TN)(Q:TQ) : Nat → Kn := (fun (j : Nat) (l t : Env) (L : Lg) => bif Nat.beq j 0 then (w_f101_2 F N Q) l t L else nE j l t L)
def q_f101_9 (N : TN) : ACode := (.seq (.reg [oQ (71,.mv,[.l 0]),oQ (72,.nilchk,[.t 71]),oQ (73,.fad 1,[.t 72]),oQ (74,.ld none,[.t 73]),oQ (75,.mv,[.l 0]),oQ (76,.nilchk,[.t 75]),oQ (77,.fad 2,[.t 76]),oQ (78,.ld none,[.t 77]),oQ (79,.fad 2,[.l 3]),oQ (80,.ld none,[.t 79]),oQ (81,.call (N k_f74),[.t 74,.t 78,.t 80]),oQ (70,.mv,[.t 81]),oQ (82,.ext 0,[.t 70]),oQ (83,.ext 1,[.t 70]),oQ (84,.ext 2,[.t 70]),⟨.l 8,none,.mv,[.t 82]⟩,⟨.l 9,none,.mv,[.t 83]⟩,⟨.l 10,none,.mv,[.t 84]⟩]) (.seq (.reg [oQ (85,.mv,[.l 5]),oQ (86,.mv,[.l 8]),oQ (87,.bin .eql,[.t 85,.t 86]),oQ (88,.mv,[.t 87]),gQ (89,88,true,.mv,[.l 6]),gQ (90,88,true,.eq false .ptr,[.t 89,.c (.p none)]),gQ (91,88,true,.mv,[.l 9]),gQ (92,88,true,.eq false .ptr,[.t 91,.c (.p none)]),gQ (93,88,true,.eq false .bool,[.t 90,.t 92]),oQ (94,.pick,[.t 88,.t 93,.c (.b false)]),oQ (95,.mv,[.t 94]),gQ (96,95,true,.mv,[.l 7]),gQ (97,95,true,.mv,[.l 10]),gQ (98,95,true,.bin .eql,[.t 96,.t 97]),oQ (99,.pick,[.t 95,.t 98,.c (.b false)]),⟨.l 4,none,.mv,[.t 99]⟩]) .ret))
noncomputable def D_f101_9 (F:TF)(N:TN)(Q:TQ) (x0 x3 x5 x6 x7:AV) (L : Lg) : Prop :=
 wpOp F .nilchk [x0] L fun v1 L1=>
 wpOp F (.fad 1) [v1] L1 fun v2 L2=>
 wpOp F (.ld none) [v2] L2 fun v3 L3=>
 wpOp F .nilchk [x0] L3 fun v4 L4=>
 wpOp F (.fad 2) [v4] L4 fun v5 L5=>
 wpOp F (.ld none) [v5] L5 fun v6 L6=>
 wpOp F (.fad 2) [x3] L6 fun v7 L7=>
 wpOp F (.ld none) [v7] L7 fun v8 L8=>
 CallL F (N k_f74) [v3,v6,v8] L8 fun v9 L9=>
 wpOp F (.ext 0) [v9] L9 fun v10 L10=>
 wpOp F (.ext 1) [v9] L10 fun v11 L11=>
 wpOp F (.ext 2) [v9] L11 fun v12 L12=>
 wpOp F (.bin .eql) [x5,v10] L12 fun v13 L13=>
 gdOp F v13 true .mv [x6] L13 fun v14 L14=>
 gdOp F v13 true (.eq false .ptr) [v14,(.p none)] L14 fun v15 L15=>
 gdOp F v13 true .mv [v11] L15 fun v16 L16=>
 gdOp F v13 true (.eq false .ptr) [v16,(.p none)] L16 fun v17 L17=>
 gdOp F v13 true (.eq false .bool) [v15,v17] L17 fun v18 L18=>
 wpOp F .pick [v13,v18,(.b false)] L18 fun v19 L19=>
 gdOp F v19 true .mv [x7] L19 fun v20 L20=>
 gdOp F v19 true .mv [v12] L20 fun v21 L21=>
 gdOp F v19 true (.bin .eql) [v20,v21] L21 fun v22 L22=>
 wpOp F .pick [v19,v22,(.b false)] L22 fun v23 L23=>
 fin1 (some v23) Q L23
theorem e_f101_9 (F:TF)(N:TN)(Q:TQ) (l t : Env) (L : Lg) : wp F (q_f101_9 N) l t L (w_f101_2 F N Q) (y_f101_5 F N Q) (fin [.tmp (.l 4)] Q) = D_f101_9 F N Q (l 0) (l 3) (l 5) (l 6) (l 7) L := by kernel_rfl
def q_f101_8a (N : TN) : ACode := (.reg [oQ (56,.mv,[.l 0]),oQ (57,.nilchk,[.t 56]),oQ (58,.fad 0,[.t 57]),oQ (59,.ld none,[.t 58]),oQ (60,.mv,[.l 0]),oQ (61,.nilchk,[.t 60]),oQ (62,.fad 2,[.t 61]),oQ (63,.ld none,[.t 62]),oQ (64,.fad 2,[.l 3]),oQ (65,.ld none,[.t 64]),oQ (66,.call (N k_f40),[.t 59,.t 63,.t 65]),oQ (55,.mv,[.t 66]),oQ (67,.ext 0,[.t 55]),oQ (68,.ext 1,[.t 55]),oQ (69,.ext 2,[.t 55]),⟨.l 5,none,.mv,[.t 67]⟩,⟨.l 6,none,.mv,[.t 68]⟩,⟨.l 7,none,.mv,[.t 69]⟩])
def q_f101_8 (N : TN) : ACode := (.seq (q_f101_8a N) (q_f101_9 N))
noncomputable def D_f101_8 (F:TF)(N:TN)(Q:TQ) (x0 x3:AV) (L : Lg) : Prop :=
 wpOp F .nilchk [x0] L fun v1 L1=>
 wpOp F (.fad 0) [v1] L1 fun v2 L2=>
 wpOp F (.ld none) [v2] L2 fun v3 L3=>
 wpOp F .nilchk [x0] L3 fun v4 L4=>
 wpOp F (.fad 2) [v4] L4 fun v5 L5=>
 wpOp F (.ld none) [v5] L5 fun v6 L6=>
 wpOp F (.fad 2) [x3] L6 fun v7 L7=>
 wpOp F (.ld none) [v7] L7 fun v8 L8=>
 CallL F (N k_f40) [v3,v6,v8] L8 fun v9 L9=>
 wpOp F (.ext 0) [v9] L9 fun v10 L10=>
 wpOp F (.ext 1) [v9] L10 fun v11 L11=>
 wpOp F (.ext 2) [v9] L11 fun v12 L12=>
 D_f101_9 F N Q x0 x3 v10 v11 v12 L12
theorem e_f101_8 (F:TF)(N:TN)(Q:TQ) (l t : Env) (L : Lg) : wp F (q_f101_8 N) l t L (w_f101_2 F N Q) (y_f101_5 F N Q) (fin [.tmp (.l 4)] Q) = D_f101_8 F N Q (l 0) (l 3) L := wpS (e_f101_9 F N Q) (by kernel_rfl)
def q_f101_13 (N : TN) : ACode := (.seq (.reg [oQ (118,.mv,[.l 0]),oQ (119,.nilchk,[.t 118]),oQ (120,.fad 1,[.t 119]),oQ (121,.ld none,[.t 120]),oQ (122,.mv,[.l 0]),oQ (123,.nilchk,[.t 122]),oQ (124,.fad 2,[.t 123]),oQ (125,.ld none,[.t 124]),oQ (126,.fad 2,[.l 3]),oQ (127,.ld none,[.t 126]),oQ (128,.call (N k_f75),[.t 121,.t 125,.t 127]),oQ (117,.mv,[.t 128]),oQ (129,.ext 0,[.t 117]),oQ (130,.ext 1,[.t 117]),oQ (131,.ext 2,[.t 117]),⟨.l 14,none,.mv,[.t 129]⟩,⟨.l 15,none,.mv,[.t 130]⟩,⟨.l 16,none,.mv,[.t 131]⟩]) (.seq (.reg [oQ (132,.mv,[.l 11]),oQ (133,.mv,[.l 14]),oQ (134,.bin .eql,[.t 132,.t 133]),oQ (135,.mv,[.t 134]),gQ (136,135,true,.mv,[.l 12]),gQ (137,135,true,.eq false .ptr,[.t 136,.c (.p none)]),gQ (138,135,true,.mv,[.l 15]),gQ (139,135,true,.eq false .ptr,[.t 138,.c (.p none)]),gQ (140,135,true,.eq false .bool,[.t 137,.t 139]),oQ (141,.pick,[.t 135,.t 140,.c (.b false)]),oQ (142,.mv,[.t 141]),gQ (143,142,true,.mv,[.l 13]),gQ (144,142,true,.mv,[.l 16]),gQ (145,142,true,.bin .eql,[.t 143,.t 144]),oQ (146,.pick,[.t 142,.t 145,.c (.b false)]),⟨.l 4,none,.mv,[.t 146]⟩]) .ret))
noncomputable def D_f101_13 (F:TF)(N:TN)(Q:TQ) (x0 x3 x11 x12 x13:AV) (L : Lg) : Prop :=
 wpOp F .nilchk [x0] L fun v1 L1=>
 wpOp F (.fad 1) [v1] L1 fun v2 L2=>
 wpOp F (.ld none) [v2] L2 fun v3 L3=>
 wpOp F .nilchk [x0] L3 fun v4 L4=>
 wpOp F (.fad 2) [v4] L4 fun v5 L5=>
 wpOp F (.ld none) [v5] L5 fun v6 L6=>
 wpOp F (.fad 2) [x3] L6 fun v7 L7=>
 wpOp F (.ld none) [v7] L7 fun v8 L8=>
 CallL F (N k_f75) [v3,v6,v8] L8 fun v9 L9=>
 wpOp F (.ext 0) [v9] L9 fun v10 L10=>
 wpOp F (.ext 1) [v9] L10 fun v11 L11=>
 wpOp F (.ext 2) [v9] L11 fun v12 L12=>
 wpOp F (.bin .eql) [x11,v10] L12 fun v13 L13=>
 gdOp F v13 true .mv [x12] L13 fun v14 L14=>
 gdOp F v13 true (.eq false .ptr) [v14,(.p none)] L14 fun v15 L15=>
 gdOp F v13 true .mv [v11] L15 fun v16 L16=>
 gdOp F v13 true (.eq false .ptr) [v16,(.p none)] L16 fun v17 L17=>
 gdOp F v13 true (.eq false .bool) [v15,v17] L17 fun v18 L18=>
 wpOp F .pick [v13,v18,(.b false)] L18 fun v19 L19=>
 gdOp F v19 true .mv [x13] L19 fun v20 L20=>
 gdOp F v19 true .mv [v12] L20 fun v21 L21=>
 gdOp F v19 true (.bin .eql) [v20,v21] L21 fun v22 L22=>
 wpOp F .pick [v19,v22,(.b false)] L22 fun v23 L23=>
 fin1 (some v23) Q L23
theorem e_f101_13 (F:TF)(N:TN)(Q:TQ) (l t : Env) (L : Lg) : wp F (q_f101_13 N) l t L (w_f101_2 F N Q) (y_f101_5 F N Q) (fin [.tmp (.l 4)] Q) = D_f101_13 F N Q (l 0) (l 3) (l 11) (l 12) (l 13) L := by kernel_rfl
def q_f101_12a (N : TN) : ACode := (.reg [oQ (103,.mv,[.l 0]),oQ (104,.nilchk,[.t 103]),oQ (105,.fad 0,[.t 104]),oQ (106,.ld none,[.t 105]),oQ (107,.mv,[.l 0]),oQ (108,.nilchk,[.t 107]),oQ (109,.fad 2,[.t 108]),oQ (110,.ld none,[.t 109]),oQ (111,.fad 2,[.l 3]),oQ (112,.ld none,[.t 111]),oQ (113,.call (N k_f52),[.t 106,.t 110,.t 112]),oQ (102,.mv,[.t 113]),oQ (114,.ext 0,[.t 102]),oQ (115,.ext 1,[.t 102]),oQ (116,.ext 2,[.t 102]),⟨.l 11,none,.mv,[.t 114]⟩,⟨.l 12,none,.mv,[.t 115]⟩,⟨.l 13,none,.mv,[.t 116]⟩])
def q_f101_12 (N : TN) : ACode := (.seq (q_f101_12a N) (q_f101_13 N))
noncomputable def D_f101_12 (F:TF)(N:TN)(Q:TQ) (x0 x3:AV) (L : Lg) : Prop :=
 wpOp F .nilchk [x0] L fun v1 L1=>
 wpOp F (.fad 0) [v1] L1 fun v2 L2=>
 wpOp F (.ld none) [v2] L2 fun v3 L3=>
 wpOp F .nilchk [x0] L3 fun v4 L4=>
 wpOp F (.fad 2) [v4] L4 fun v5 L5=>
 wpOp F (.ld none) [v5] L5 fun v6 L6=>
 wpOp F (.fad 2) [x3] L6 fun v7 L7=>
 wpOp F (.ld none) [v7] L7 fun v8 L8=>
 CallL F (N k_f52) [v3,v6,v8] L8 fun v9 L9=>
 wpOp F (.ext 0) [v9] L9 fun v10 L10=>
 wpOp F (.ext 1) [v9] L10 fun v11 L11=>
 wpOp F (.ext 2) [v9] L11 fun v12 L12=>
 D_f101_13 F N Q x0 x3 v10 v11 v12 L12
theorem e_f101_12 (F:TF)(N:TN)(Q:TQ) (l t : Env) (L : Lg) : wp F (q_f101_12 N) l t L (w_f101_2 F N Q) (y_f101_5 F N Q) (fin [.tmp (.l 4)] Q) = D_f101_12 F N Q (l 0) (l 3) L := wpS (e_f101_13 F N Q) (by kernel_rfl)
def q_f101_17 (N : TN) : ACode := (.seq (.reg [oQ (166,.mv,[.l 0]),oQ (167,.nilchk,[.t 166]),oQ (168,.fad 1,[.t 167]),oQ (169,.ld none,[.t 168]),oQ (170,.mv,[.l 0]),oQ (171,.nilchk,[.t 170]),oQ (172,.fad 2,[.t 171]),oQ (173,.ld none,[.t 172]),oQ (174,.fad 2,[.l 3]),oQ (175,.ld none,[.t 174]),oQ (176,.fad 1,[.l 3]),oQ (177,.ld none,[.t 176]),oQ (178,.call (N k_f76),[.t 169,.t 173,.t 175,.t 177]),oQ (165,.mv,[.t 178]),oQ (179,.ext 0,[.t 165]),oQ (180,.ext 1,[.t 165]),⟨.l 19,none,.mv,[.t 179]⟩,⟨.l 20,none,.mv,[.t 180]⟩]) (.seq (.reg [oQ (181,.mv,[.l 17]),oQ (182,.mv,[.l 19]),oQ (183,.bin .eql,[.t 181,.t 182]),oQ (184,.mv,[.t 183]),gQ (185,184,true,.mv,[.l 18]),gQ (186,184,true,.mv,[.l 20]),gQ (187,184,true,.bin .eql,[.t 185,.t 186]),oQ (188,.pick,[.t 184,.t 187,.c (.b false)]),⟨.l 4,none,.mv,[.t 188]⟩]) .ret))
noncomputable def D_f101_17 (F:TF)(N:TN)(Q:TQ) (x0 x3 x17 x18:AV) (L : Lg) : Prop :=
 wpOp F .nilchk [x0] L fun v1 L1=>
 wpOp F (.fad 1) [v1] L1 fun v2 L2=>
 wpOp F (.ld none) [v2] L2 fun v3 L3=>
 wpOp F .nilchk [x0] L3 fun v4 L4=>
 wpOp F (.fad 2) [v4] L4 fun v5 L5=>
 wpOp F (.ld none) [v5] L5 fun v6 L6=>
 wpOp F (.fad 2) [x3] L6 fun v7 L7=>
 wpOp F (.ld none) [v7] L7 fun v8 L8=>
 wpOp F (.fad 1) [x3] L8 fun v9 L9=>
 wpOp F (.ld none) [v9] L9 fun v10 L10=>
 CallL F (N k_f76) [v3,v6,v8,v10] L10 fun v11 L11=>
 wpOp F (.ext 0) [v11] L11 fun v12 L12=>
 wpOp F (.ext 1) [v11] L12 fun v13 L13=>
 wpOp F (.bin .eql) [x17,v12] L13 fun v14 L14=>
 gdOp F v14 true .mv [x18] L14 fun v15 L15=>
 gdOp F v14 true .mv [v13] L15 fun v16 L16=>
 gdOp F v14 true (.bin .eql) [v15,v16] L16 fun v17 L17=>
 wpOp F .pick [v14,v17,(.b false)] L17 fun v18 L18=>
 fin1 (some v18) Q L18
theorem e_f101_17 (F:TF)(N:TN)(Q:TQ) (l t : Env) (L : Lg) : wp F (q_f101_17 N) l t L (w_f101_2 F N Q) (y_f101_5 F N Q) (fin [.tmp (.l 4)] Q) = D_f101_17 F N Q (l 0) (l 3) (l 17) (l 18) L := by kernel_rfl
def q_f101_16a (N : TN) : ACode := (.reg [oQ (150,.mv,[.l 0]),oQ (151,.nilchk,[.t 150]),oQ (152,.fad 0,[.t 151]),oQ (153,.ld none,[.t 152]),oQ (154,.mv,[.l 0]),oQ (155,.nilchk,[.t 154]),oQ (156,.fad 2,[.t 155]),oQ (157,.ld none,[.t 156]),oQ (158,.fad 2,[.l 3]),oQ (159,.ld none,[.t 158]),oQ (160,.fad 1,[.l 3]),oQ (161,.ld none,[.t 160]),oQ (162,.call (N k_f53),[.t 153,.t 157,.t 159,.t 161]),oQ (149,.mv,[.t 162]),oQ (163,.ext 0,[.t 149]),oQ (164,.ext 1,[.t 149]),⟨.l 17,none,.mv,[.t 163]⟩,⟨.l 18,none,.mv,[.t 164]⟩])
def q_f101_16 (N : TN) : ACode := (.seq (q_f101_16a N) (q_f101_17 N))
noncomputable def D_f101_16 (F:TF)(N:TN)(Q:TQ) (x0 x3:AV) (L : Lg) : Prop :=
 wpOp F .nilchk [x0] L fun v1 L1=>
 wpOp F (.fad 0) [v1] L1 fun v2 L2=>
 wpOp F (.ld none) [v2] L2 fun v3 L3=>
 wpOp F .nilchk [x0] L3 fun v4 L4=>
 wpOp F (.fad 2) [v4] L4 fun v5 L5=>
 wpOp F (.ld none) [v5] L5 fun v6 L6=>
 wpOp F (.fad 2) [x3] L6 fun v7 L7=>
 wpOp F (.ld none) [v7] L7 fun v8 L8=>
 wpOp F (.fad 1) [x3] L8 fun v9 L9=>
 wpOp F (.ld none) [v9] L9 fun v10 L10=>
 CallL F (N k_f53) [v3,v6,v8,v10] L10 fun v11 L11=>
 wpOp F (.ext 0) [v11] L11 fun v12 L12=>
 wpOp F (.ext 1) [v11] L12 fun v13 L13=>
 D_f101_17 F N Q x0 x3 v12 v13 L13
theorem e_f101_16 (F:TF)(N:TN)(Q:TQ) (l t : Env) (L : Lg) : wp F (q_f101_16 N) l t L (w_f101_2 F N Q) (y_f101_5 F N Q) (fin [.tmp (.l 4)] Q) = D_f101_16 F N Q (l 0) (l 3) L := wpS (e_f101_17 F N Q) (by kernel_rfl)
def q_f101_20 (N : TN) : ACode := (.seq (.reg [oQ (192,.mv,[.l 0]),oQ (193,.nilchk,[.t 192]),oQ (194,.fad 0,[.t 193]),oQ (195,.ld none,[.t 194]),oQ (196,.fad 2,[.l 3]),oQ (197,.ld none,[.t 196]),oQ (198,.fad 1,[.l 3]),oQ (199,.ld none,[.t 198]),oQ (200,.call (N k_f55),[.t 195,.t 197,.t 199]),oQ (191,.mv,[.t 200]),oQ (201,.ext 0,[.t 191]),oQ (202,.ext 1,[.t 191]),⟨.l 21,none,.mv,[.t 201]⟩,⟨.l 22,none,.mv,[.t 202]⟩]) (.seq (.reg [oQ (204,.mv,[.l 0]),oQ (205,.nilchk,[.t 204]),oQ (206,.fad 1,[.t 205]),oQ (207,.ld none,[.t 206]),oQ (208,.fad 2,[.l 3]),oQ (209,.ld none,[.t 208]),oQ (210,.fad 1,[.l 3]),oQ (211,.ld none,[.t 210]),oQ (212,.call (N k_f77),[.t 207,.t 209,.t 211]),oQ (203,.mv,[.t 212]),oQ (213,.ext 0,[.t 203]),oQ (214,.ext 1,[.t 203]),⟨.l 23,none,.mv,[.t 213]⟩,⟨.l 24,none,.mv,[.t 214]⟩]) (.seq (.reg [oQ (215,.mv,[.l 21]),oQ (216,.mv,[.l 23]),oQ (217,.bin .eql,[.t 215,.t 216]),oQ (218,.mv,[.t 217]),gQ (219,218,true,.mv,[.l 22]),gQ (220,218,true,.mv,[.l 24]),gQ (221,218,true,.bin .eql,[.t 219,.t 220]),oQ (222,.pick,[.t 218,.t 221,.c (.b false)]),⟨.l 4,none,.mv,[.t 222]⟩]) .ret)))
noncomputable def D_f101_20 (F:TF)(N:TN)(Q:TQ) (x0 x3:AV) (L : Lg) : Prop :=
 wpOp F .nilchk [x0] L fun v1 L1=>
 wpOp F (.fad 0) [v1] L1 fun v2 L2=>
 wpOp F (.ld none) [v2] L2 fun v3 L3=>
 wpOp F (.fad 2) [x3] L3 fun v4 L4=>
 wpOp F (.ld none) [v4] L4 fun v5 L5=>
 wpOp F (.fad 1) [x3] L5 fun v6 L6=>
 wpOp F (.ld none) [v6] L6 fun v7 L7=>
 CallL F (N k_f55) [v3,v5,v7] L7 fun v8 L8=>
 wpOp F (.ext 0) [v8] L8 fun v9 L9=>
 wpOp F (.ext 1) [v8] L9 fun v10 L10=>
 wpOp F .nilchk [x0] L10 fun v11 L11=>
 wpOp F (.fad 1) [v11] L11 fun v12 L12=>
 wpOp F (.ld none) [v12] L12 fun v13 L13=>
 wpOp F (.fad 2) [x3] L13 fun v14 L14=>
 wpOp F (.ld none) [v14] L14 fun v15 L15=>
 wpOp F (.fad 1) [x3] L15 fun v16 L16=>
 wpOp F (.ld none) [v16] L16 fun v17 L17=>
 CallL F (N k_f77) [v13,v15,v17] L17 fun v18 L18=>
 wpOp F (.ext 0) [v18] L18 fun v19 L19=>
 wpOp F (.ext 1) [v18] L19 fun v20 L20=>
 wpOp F (.bin .eql) [v9,v19] L20 fun v21 L21=>
 gdOp F v21 true .mv [v10] L21 fun v22 L22=>
 gdOp F v21 true .mv [v20] L22 fun v23 L23=>
 gdOp F v21 true (.bin .eql) [v22,v23] L23 fun v24 L24=>
 wpOp F .pick [v21,v24,(.b false)] L24 fun v25 L25=>
 fin1 (some v25) Q L25
theorem e_f101_20 (F:TF)(N:TN)(Q:TQ) (l t : Env) (L : Lg) : wp F (q_f101_20 N) l t L (w_f101_2 F N Q) (y_f101_5 F N Q) (fin [.tmp (.l 4)] Q) = D_f101_20 F N Q (l 0) (l 3) L := by kernel_rfl
def q_f101_23 (N : TN) : ACode := (.seq (.reg [oQ (226,.mv,[.l 0]),oQ (227,.nilchk,[.t 226]),oQ (228,.fad 0,[.t 227]),oQ (229,.ld none,[.t 228]),oQ (230,.fad 1,[.l 3]),oQ (231,.ld none,[.t 230]),oQ (232,.call (N k_f51),[.t 229,.t 231]),oQ (225,.mv,[.t 232]),oQ (233,.ext 0,[.t 225]),oQ (234,.ext 1,[.t 225]),⟨.l 25,none,.mv,[.t 233]⟩,⟨.l 26,none,.mv,[.t 234]⟩]) (.seq (.reg [oQ (236,.mv,[.l 0]),oQ (237,.nilchk,[.t 236]),oQ (238,.fad 1,[.t 237]),oQ (239,.ld none,[.t 238]),oQ (240,.fad 1,[.l 3]),oQ (241,.ld none,[.t 240]),oQ (242,.call (N k_f80),[.t 239,.t 241]),oQ (235,.mv,[.t 242]),oQ (243,.ext 0,[.t 235]),oQ (244,.ext 1,[.t 235]),⟨.l 27,none,.mv,[.t 243]⟩,⟨.l 28,none,.mv,[.t 244]⟩]) (.seq (.reg [oQ (245,.mv,[.l 25]),oQ (246,.mv,[.l 27]),oQ (247,.eq false .bool,[.t 245,.t 246]),oQ (248,.mv,[.t 247]),gQ (249,248,true,.mv,[.l 26]),gQ (250,248,true,.mv,[.l 28]),gQ (251,248,true,.bin .eql,[.t 249,.t 250]),oQ (252,.pick,[.t 248,.t 251,.c (.b false)]),⟨.l 4,none,.mv,[.t 252]⟩]) .ret)))
noncomputable def D_f101_23 (F:TF)(N:TN)(Q:TQ) (x0 x3:AV) (L : Lg) : Prop :=
 wpOp F .nilchk [x0] L fun v1 L1=>
 wpOp F (.fad 0) [v1] L1 fun v2 L2=>
 wpOp F (.ld none) [v2] L2 fun v3 L3=>
 wpOp F (.fad 1) [x3] L3 fun v4 L4=>
 wpOp F (.ld none) [v4] L4 fun v5 L5=>
 CallL F (N k_f51) [v3,v5] L5 fun v6 L6=>
 wpOp F (.ext 0) [v6] L6 fun v7 L7=>
 wpOp F (.ext 1) [v6] L7 fun v8 L8=>
 wpOp F .nilchk [x0] L8 fun v9 L9=>
 wpOp F (.fad 1) [v9] L9 fun v10 L10=>
 wpOp F (.ld none) [v10] L10 fun v11 L11=>
 wpOp F (.fad 1) [x3] L11 fun v12 L12=>
 wpOp F (.ld none) [v12] L12 fun v13 L13=>
 CallL F (N k_f80) [v11,v13] L13 fun v14 L14=>
 wpOp F (.ext 0) [v14] L14 fun v15 L15=>
 wpOp F (.ext 1) [v14] L15 fun v16 L16=>
 wpOp F (.eq false .bool) [v7,v15] L16 fun v17 L17=>
 gdOp F v17 true .mv [v8] L17 fun v18 L18=>
 gdOp F v17 true .mv [v16] L18 fun v19 L19=>
 gdOp F v17 true (.bin .eql) [v18,v19] L19 fun v20 L20=>
 wpOp F .pick [v17,v20,(.b false)] L20 fun v21 L21=>
 fin1 (some v21) Q L21
theorem e_f101_23 (F:TF)(N:TN)(Q:TQ) (l t : Env) (L : Lg) : wp F (q_f101_23 N) l t L (w_f101_2 F N Q) (y_f101_5 F N Q) (fin [.tmp (.l 4)] Q) = D_f101_23 F N Q (l 0) (l 3) L := by kernel_rfl
def q_f101_27 (N : TN) : ACode := (.seq (.reg [oQ (272,.mv,[.l 0]),oQ (273,.nilchk,[.t 272]),oQ (274,.fad 1,[.t 273]),oQ (275,.ld none,[.t 274]),oQ (276,.fad 1,[.l 3]),oQ (277,.ld none,[.t 276]),oQ (278,.mv,[.l 0]),oQ (279,.nilchk,[.t 278]),oQ (280,.fad 2,[.t 279]),oQ (281,.ld none,[.t 280]),oQ (282,.fad 2,[.l 3]),oQ (283,.ld none,[.t 282]),oQ (284,.call (N k_f81),[.t 275,.t 277,.t 281,.t 283]),oQ (271,.mv,[.t 284]),oQ (285,.ext 0,[.t 271]),oQ (286,.ext 1,[.t 271]),⟨.l 31,none,.mv,[.t 285]⟩,⟨.l 32,none,.mv,[.t 286]⟩]) (.seq (.reg [oQ (287,.mv,[.l 29]),oQ (288,.mv,[.l 31]),oQ (289,.eq false .bool,[.t 287,.t 288]),oQ (290,.mv,[.t 289]),gQ (291,290,true,.mv,[.l 30]),gQ (292,290,true,.mv,[.l 32]),gQ (293,290,true,.bin .eql,[.t 291,.t 292]),oQ (294,.pick,[.t 290,.t 293,.c (.b false)]),⟨.l 4,none,.mv,[.t 294]⟩]) .ret))
noncomputable def D_f101_27 (F:TF)(N:TN)(Q:TQ) (x0 x3 x29 x30:AV) (L : Lg) : Prop :=
 wpOp F .nilchk [x0] L fun v1 L1=>
 wpOp F (.fad 1) [v1] L1 fun v2 L2=>
 wpOp F (.ld none) [v2] L2 fun v3 L3=>
 wpOp F (.fad 1) [x3] L3 fun v4 L4=>
 wpOp F (.ld none) [v4] L4 fun v5 L5=>
 wpOp F .nilchk [x0] L5 fun v6 L6=>
 wpOp F (.fad 2) [v6] L6 fun v7 L7=>
 wpOp F (.ld none) [v7] L7 fun v8 L8=>
 wpOp F (.fad 2) [x3] L8 fun v9 L9=>
 wpOp F (.ld none) [v9] L9 fun v10 L10=>
 CallL F (N k_f81) [v3,v5,v8,v10] L10 fun v11 L11=>
 wpOp F (.ext 0) [v11] L11 fun v12 L12=>
 wpOp F (.ext 1) [v11] L12 fun v13 L13=>
 wpOp F (.eq false .bool) [x29,v12] L13 fun v14 L14=>
 gdOp F v14 true .mv [x30] L14 fun v15 L15=>
 gdOp F v14 true .mv [v13] L15 fun v16 L16=>
 gdOp F v14 true (.bin .eql) [v15,v16] L16 fun v17 L17=>
 wpOp F .pick [v14,v17,(.b false)] L17 fun v18 L18=>
 fin1 (some v18) Q L18
theorem e_f101_27 (F:TF)(N:TN)(Q:TQ) (l t : Env) (L : Lg) : wp F (q_f101_27 N) l t L (w_f101_2 F N Q) (y_f101_5 F N Q) (fin [.tmp (.l 4)] Q) = D_f101_27 F N Q (l 0) (l 3) (l 29) (l 30) L := by kernel_rfl
def q_f101_26a (N : TN) : ACode := (.reg [oQ (256,.mv,[.l 0]),oQ (257,.nilchk,[.t 256]),oQ (258,.fad 0,[.t 257]),oQ (259,.ld none,[.t 258]),oQ (260,.fad 1,[.l 3]),oQ (261,.ld none,[.t 260]),oQ (262,.mv,[.l 0]),oQ (263,.nilchk,[.t 262]),oQ (264,.fad 2,[.t 263]),oQ (265,.ld none,[.t 264]),oQ (266,.fad 2,[.l 3]),oQ (267,.ld none,[.t 266]),oQ (268,.call (N k_f54),[.t 259,.t 261,.t 265,.t 267]),oQ (255,.mv,[.t 268]),oQ (269,.ext 0,[.t 255]),oQ (270,.ext 1,[.t 255]),⟨.l 29,none,.mv,[.t 269]⟩,⟨.l 30,none,.mv,[.t 270]⟩])
def q_f101_26 (N : TN) : ACode := (.seq (q_f101_26a N) (q_f101_27 N))
noncomputable def D_f101_26 (F:TF)(N:TN)(Q:TQ) (x0 x3:AV) (L : Lg) : Prop :=
 wpOp F .nilchk [x0] L fun v1 L1=>
 wpOp F (.fad 0) [v1] L1 fun v2 L2=>
 wpOp F (.ld none) [v2] L2 fun v3 L3=>
 wpOp F (.fad 1) [x3] L3 fun v4 L4=>
 wpOp F (.ld none) [v4] L4 fun v5 L5=>
 wpOp F .nilchk [x0] L5 fun v6 L6=>
 wpOp F (.fad 2) [v6] L6 fun v7 L7=>
 wpOp F (.ld none) [v7] L7 fun v8 L8=>
 wpOp F (.fad 2) [x3] L8 fun v9 L9=>
 wpOp F (.ld none) [v9] L9 fun v10 L10=>
 CallL F (N k_f54) [v3,v5,v8,v10] L10 fun v11 L11=>
 wpOp F (.ext 0) [v11] L11 fun v12 L12=>
 wpOp F (.ext 1) [v11] L12 fun v13 L13=>
 D_f101_27 F N Q x0 x3 v12 v13 L13
theorem e_f101_26 (F:TF)(N:TN)(Q:TQ) (l t : Env) (L : Lg) : wp F (q_f101_26 N) l t L (w_f101_2 F N Q) (y_f101_5 F N Q) (fin [.tmp (.l 4)] Q) = D_f101_26 F N Q (l 0) (l 3) L := wpS (e_f101_27 F N Q) (by kernel_rfl)
def q_f101_31 (N : TN) : ACode := (.seq (.reg [⟨.l 4,none,.mv,[.c (.b false)]⟩]) .ret)
noncomputable def D_f101_31 (F:TF)(N:TN)(Q:TQ) (L : Lg) : Prop :=
 fin1 (some (.b false)) Q L
theorem e_f101_31 (F:TF)(N:TN)(Q:TQ) (l t : Env) (L : Lg) : wp F (q_f101_31 N) l t L (w_f101_2 F N Q) (y_f101_5 F N Q) (fin [.tmp (.l 4)] Q) = D_f101_31 F N Q L := by kernel_rfl
def w_f101_30 (F:TF)(N:TN)(Q:TQ) : Kn := (fun (l t : Env) (L : Lg) => D_f101_31 F N Q L)
def y_f101_33 (F:TF)(N:TN)(Q:TQ) : Nat → Kn := (fun (j : Nat) (l t : Env) (L : Lg) => bif Nat.beq j 1 then (w_f101_30 F N Q) l t L else (y_f101_5 F N Q) j l t L)
def q_f101_37 (N : TN) : ACode := (.reg [oQ (307,.mv,[.l 33]),oQ (308,.bin .add,[.t 307,.c (.i .i64 1)]),⟨.l 33,none,.mv,[.t 308]⟩])
noncomputable def D_f101_37 (F:TF)(N:TN)(Q:TQ) (k1 : TK) (l : Env) (L : Lg) : Prop :=
 wpOp F (.bin .add) [(l 33),(.i .i64 1)] L fun v1 L1=>
 k1 (Env.put l 33 v1) L1
theorem e_f101_37 (F:TF)(N:TN)(Q:TQ) (k1 : TK) (l t : Env) (L : Lg) : wp F (q_f101_37 N) l t L (fun (l _ : Env) (L : Lg) => k1 l L) (y_f101_33 F N Q) (fin [.tmp (.l 4)] Q) = D_f101_37 F N Q k1 l L := by kernel_rfl
def w_f101_36 (F:TF)(N:TN)(Q:TQ) (k1 : TK) : Kn := (fun (l t : Env) (L : Lg) => D_f101_37 F N Q k1 l L)
def y_f101_38 (F:TF)(N:TN)(Q:TQ) (k1 : TK) : Nat → Kn := (fun (j : Nat) (l t : Env) (L : Lg) => bif Nat.beq j 2 then (w_f101_36 F N Q k1) l t L else (y_f101_33 F N Q) j l t L)
def q_f101_40 (N : TN) : ACode := (.seq (.reg [oQ (322,.mv,[.l 0]),oQ (323,.nilchk,[.t 322]),oQ (324,.fad 1,[.t 323]),oQ (325,.ld none,[.t 324]),oQ (326,.mv,[.l 0]),oQ (327,.nilchk,[.t 326]),oQ (328,.fad 2,[.t 327]),oQ (329,.ld none,[.t 328]),oQ (330,.call (N k_f87),[.t 325,.t 329]),oQ (321,.mv,[.t 330]),oQ (331,.ext 0,[.t 321]),oQ (332,.ext 1,[.t 321]),⟨.l 36,none,.alloc [.i .i64 0,.i .i64 0,.i .i64 0,.i .i64 0,.i .i64 0,.sl none 0 0 0,.b false],[]⟩,⟨.no,none,.st 7,[.l 36,.t 331]⟩,⟨.l 37,none,.mv,[.t 332]⟩]) (.seq (.seq (.reg [oQ (333,.mv,[.l 35]),oQ (334,.mv,[.l 37]),oQ (335,.eq true .bool,[.t 333,.t 334]),oQ (336,.mv,[.t 335]),gQ (337,336,false,.ld (some 7),[.l 34]),gQ (338,336,false,.ld (some 7),[.l 36]),gQ (339,336,false,.call (N k_f89),[.t 337,.t 338]),gQ (340,336,false,.un .not,[.t 339]),oQ (341,.pick,[.t 336,.c (.b true),.t 340])]) (.cond (.t 341) (.seq (.reg [⟨.l 4,none,.mv,[.c (.b false)]⟩]) .ret) .skip)) (.seq (.reg [oQ (342,.mv,[.l 35]),oQ (343,.un .not,[.t 342])]) (.cond (.t 343) (.seq (.reg [⟨.l 4,none,.mv,[.c (.b true)]⟩]) .ret) .skip))))
noncomputable def D_f101_40 (F:TF)(N:TN)(Q:TQ) (k1 : TK) (l : Env) (L : Lg) : Prop :=
 wpOp F .nilchk [(l 0)] L fun v1 L1=>
 wpOp F (.fad 1) [v1] L1 fun v2 L2=>
 wpOp F (.ld none) [v2] L2 fun v3 L3=>
 wpOp F .nilchk [(l 0)] L3 fun v4 L4=>
 wpOp F (.fad 2) [v4] L4 fun v5 L5=>
 wpOp F (.ld none) [v5] L5 fun v6 L6=>
 CallL F (N k_f87) [v3,v6] L6 fun v7 L7=>
 wpOp F (.ext 0) [v7] L7 fun v8 L8=>
 wpOp F (.ext 1) [v7] L8 fun v9 L9=>
 wpOp F (.alloc [.i .i64 0,.i .i64 0,.i .i64 0,.i .i64 0,.i .i64 0,.sl none 0 0 0,.b false]) [] L9 fun v10 L10=>
 wpOp F (.st 7) [v10,v8] L10 fun _ L11=>
 wpOp F (.eq true .bool) [(l 35),v9] L11 fun v12 L12=>
 gdOp F v12 false (.ld (some 7)) [(l 34)] L12 fun v13 L13=>
 gdOp F v12 false (.ld (some 7)) [v10] L13 fun v14 L14=>
 gdOp F v12 false (.call (N k_f89)) [v13,v14] L14 fun v15 L15=>
 gdOp F v12 false (.un .not) [v15] L15 fun v16 L16=>
 wpOp F .pick [v12,(.b true),v16] L16 fun v17 L17=>
 condW v17
 (fin1 (some (.b false)) Q L17)
 (wpOp F (.un .not) [(l 35)] L17 fun v18 L18=>
 condW v18
 (fin1 (some (.b true)) Q L18)
 (D_f101_37 F N Q k1 (Env.put (Env.put l 36 v10) 37 v9) L18))
theorem e_f101_40 (F:TF)(N:TN)(Q:TQ) (k1 : TK) (l t : Env) (L : Lg) : wp F (q_f101_40 N) l t L (w_f101_36 F N Q k1) (y_f101_38 F N Q k1) (fin [.tmp (.l 4)] Q) = D_f101_40 F N Q k1 l L := by kernel_rfl
def q_f101_39a (N : TN) : ACode := (.reg [oQ (310,.mv,[.l 0]),oQ (311,.nilchk,[.t 310]),oQ (312,.fad 0,[.t 311]),oQ (313,.ld none,[.t 312]),oQ (314,.mv,[.l 0]),oQ (315,.nilchk,[.t 314]),oQ (316,.fad 2,[.t 315]),oQ (317,.ld none,[.t 316]),oQ (318,.call (N k_f48),[.t 313,.t 317]),oQ (309,.mv,[.t 318]),oQ (319,.ext 0,[.t 309]),oQ (320,.ext 1,[.t 309]),⟨.l 34,none,.alloc [.i .i64 0,.i .i64 0,.i .i64 0,.i .i64 0,.i .i64 0,.sl none 0 0 0,.b false],[]⟩,⟨.no,none,.st 7,[.l 34,.t 319]⟩,⟨.l 35,none,.mv,[.t 320]⟩])
def q_f101_39 (N : TN) : ACode := (.seq (q_f101_39a N) (q_f101_40 N))
noncomputable def D_f101_39 (F:TF)(N:TN)(Q:TQ) (k1 : TK) (l : Env) (L : Lg) : Prop :=
 wpOp F .nilchk [(l 0)] L fun v1 L1=>
 wpOp F (.fad 0) [v1] L1 fun v2 L2=>
 wpOp F (.ld none) [v2] L2 fun v3 L3=>
 wpOp F .nilchk [(l 0)] L3 fun v4 L4=>
 wpOp F (.fad 2) [v4] L4 fun v5 L5=>
 wpOp F (.ld none) [v5] L5 fun v6 L6=>
 CallL F (N k_f48) [v3,v6] L6 fun v7 L7=>
 wpOp F (.ext 0) [v7] L7 fun v8 L8=>
 wpOp F (.ext 1) [v7] L8 fun v9 L9=>
 wpOp F (.alloc [.i .i64 0,.i .i64 0,.i .i64 0,.i .i64 0,.i .i64 0,.sl none 0 0 0,.b false]) [] L9 fun v10 L10=>
 wpOp F (.st 7) [v10,v8] L10 fun _ L11=>
 D_f101_40 F N Q k1 (Env.put (Env.put l 34 v10) 35 v9) L11
theorem e_f101_39 (F:TF)(N:TN)(Q:TQ) (k1 : TK) (l t : Env) (L : Lg) : wp F (q_f101_39 N) l t L (w_f101_36 F N Q k1) (y_f101_38 F N Q k1) (fin [.tmp (.l 4)] Q) = D_f101_39 F N Q k1 l L := wpS (e_f101_40 F N Q k1) (by kernel_rfl)
def q_f101_38 (N : TN) : ACode := (.block 2 (q_f101_39 N))
theorem e_f101_38 (F:TF)(N:TN)(Q:TQ) (k1 : TK) (l t : Env) (L : Lg) : wp F (q_f101_38 N) l t L (w_f101_36 F N Q k1) (y_f101_33 F N Q) (fin [.tmp (.l 4)] Q) = D_f101_39 F N Q k1 l L := wpB (e_f101_39 F N Q k1 l t L)
def q_f101_36 (N : TN) : ACode := (.seq (q_f101_38 N) (q_f101_37 N))
theorem e_f101_36 (F:TF)(N:TN)(Q:TQ) (k1 : TK) (l t : Env) (L : Lg) : wp F (q_f101_36 N) l t L (fun (l _ : Env) (L : Lg) => k1 l L) (y_f101_33 F N Q) (fin [.tmp (.l 4)] Q) = D_f101_39 F N Q k1 l L := wpS (e_f101_37 F N Q k1) (e_f101_38 F N Q k1 l t L)
def q_f101_35a (N : TN) : ACode := (.seq (.reg [oQ (297,.mv,[.l 33]),oQ (298,.mv,[.l 0]),oQ (299,.nilchk,[.t 298]),oQ (300,.fad 1,[.t 299]),oQ (301,.ld none,[.t 300]),oQ (302,.nilchk,[.t 301]),oQ (303,.fad 3,[.t 302]),oQ (304,.ld none,[.t 303]),oQ (305,.lenSl,[.t 304]),oQ (306,.bin .leq,[.t 297,.t 305])]) (.cond (.t 306) .skip (.exit 1)))
def q_f101_35 (N : TN) : ACode := (.seq (q_f101_35a N) (q_f101_36 N))
noncomputable def D_f101_35 (F:TF)(N:TN)(Q:TQ) (k1 : TK) (l : Env) (L : Lg) : Prop :=
 wpOp F .nilchk [(l 0)] L fun v1 L1=>
 wpOp F (.fad 1) [v1] L1 fun v2 L2=>
 wpOp F (.ld none) [v2] L2 fun v3 L3=>
 wpOp F .nilchk [v3] L3 fun v4 L4=>
 wpOp F (.fad 3) [v4] L4 fun v5 L5=>
 wpOp F (.ld none) [v5] L5 fun v6 L6=>
 wpOp F .lenSl [v6] L6 fun v7 L7=>
 wpOp F (.bin .leq) [(l 33),v7] L7 fun v8 L8=>
 condW v8
 (D_f101_39 F N Q k1 l L8)
 (D_f101_31 F N Q L8)
theorem e_f101_35 (F:TF)(N:TN)(Q:TQ) (k1 : TK) (l t : Env) (L : Lg) : wp F (q_f101_35 N) l t L (fun (l _ : Env) (L : Lg) => k1 l L) (y_f101_33 F N Q) (fin [.tmp (.l 4)] Q) = D_f101_35 F N Q k1 l L := wpS (e_f101_36 F N Q k1) (by kernel_rfl)
def q_f101_34 (N : TN) : ACode := (.loop (q_f101_35 N))
noncomputable def D_f101_34 (F:TF)(N:TN)(Q:TQ) (l : Env) (L : Lg) : Prop :=
 loopW (fun l t L k1 => D_f101_35 F N Q k1 l L) l L
theorem e_f101_34 (F:TF)(N:TN)(Q:TQ) (l t : Env) (L : Lg) : wp F (q_f101_34 N) l t L (w_f101_30 F N Q) (y_f101_33 F N Q) (fin [.tmp (.l 4)] Q) = D_f101_34 F N Q l L := wpL (fun l t L k1 => e_f101_35 F N Q k1 l t L) (by kernel_rfl)
def q_f101_33 (N : TN) : ACode := (.block 1 (q_f101_34 N))
theorem e_f101_33 (F:TF)(N:TN)(Q:TQ) (l t : Env) (L : Lg) : wp F (q_f101_33 N) l t L (w_f101_30 F N Q) (y_f101_5 F N Q) (fin [.tmp (.l 4)] Q) = D_f101_34 F N Q l L := wpB (e_f101_34 F N Q l t L)
def q_f101_32a (N : TN) : ACode := (.reg [⟨.l 33,none,.mv,[.c (.i .i64 0)]⟩])
def q_f101_32 (N : TN) : ACode := (.seq (q_f101_32a N) (q_f101_33 N))
noncomputable def D_f101_32 (F:TF)(N:TN)(Q:TQ) (l : Env) (L : Lg) : Prop :=
 D_f101_34 F N Q (Env.put l 33 (.i .i64 0)) L
theorem e_f101_32 (F:TF)(N:TN)(Q:TQ) (l t : Env) (L : Lg) : wp F (q_f101_32 N) l t L (w_f101_30 F N Q) (y_f101_5 F N Q) (fin [.tmp (.l 4)] Q) = D_f101_32 F N Q l L := wpS (e_f101_33 F N Q) (by kernel_rfl)
def q_f101_30 (N : TN) : ACode := (.seq (q_f101_32 N) (q_f101_31 N))
theorem e_f101_30 (F:TF)(N:TN)(Q:TQ) (l t : Env) (L : Lg) : wp F (q_f101_30 N) l t L (w_f101_2 F N Q) (y_f101_5 F N Q) (fin [.tmp (.l 4)] Q) = D_f101_32 F N Q l L := wpS (e_f101_31 F N Q) (e_f101_32 F N Q l t L)
def q_f101_44 (N : TN) : ACode := (.seq (.reg [oQ (360,.mv,[.l 0]),oQ (361,.nilchk,[.t 360]),oQ (362,.fad 1,[.t 361]),oQ (363,.ld none,[.t 362]),oQ (364,.fad 1,[.l 3]),oQ (365,.ld none,[.t 364]),oQ (366,.call (N k_f92),[.t 363,.t 365]),oQ (367,.call (N k_f93),[.t 366]),oQ (359,.mv,[.t 367]),oQ (368,.ext 0,[.t 359]),oQ (369,.ext 1,[.t 359]),oQ (370,.ext 2,[.t 359]),oQ (371,.ext 3,[.t 359]),⟨.l 42,none,.mv,[.t 368]⟩,⟨.l 43,none,.mv,[.t 369]⟩,⟨.l 44,none,.mv,[.t 370]⟩,⟨.l 45,none,.mv,[.t 371]⟩]) (.seq (.reg [oQ (372,.mv,[.l 38]),oQ (373,.mv,[.l 42]),oQ (374,.bin .eql,[.t 372,.t 373]),oQ (375,.mv,[.t 374]),gQ (376,375,true,.mv,[.l 39]),gQ (377,375,true,.mv,[.l 43]),gQ (378,375,true,.eq false .bool,[.t 376,.t 377]),oQ (379,.pick,[.t 375,.t 378,.c (.b false)]),oQ (380,.mv,[.t 379]),gQ (381,380,true,.mv,[.l 40]),gQ (382,380,true,.mv,[.l 44]),gQ (383,380,true,.eq false .bool,[.t 381,.t 382]),oQ (384,.pick,[.t 380,.t 383,.c (.b false)]),oQ (385,.mv,[.t 384]),gQ (386,385,true,.mv,[.l 41]),gQ (387,385,true,.mv,[.l 45]),gQ (388,385,true,.call (N k_f88),[.t 386,.t 387]),oQ (389,.pick,[.t 385,.t 388,.c (.b false)]),⟨.l 4,none,.mv,[.t 389]⟩]) .ret))
noncomputable def D_f101_44 (F:TF)(N:TN)(Q:TQ) (x0 x3 x38 x39 x40 x41:AV) (L : Lg) : Prop :=
 wpOp F .nilchk [x0] L fun v1 L1=>
 wpOp F (.fad 1) [v1] L1 fun v2 L2=>
 wpOp F (.ld none) [v2] L2 fun v3 L3=>
 wpOp F (.fad 1) [x3] L3 fun v4 L4=>
 wpOp F (.ld none) [v4] L4 fun v5 L5=>
 CallL F (N k_f92) [v3,v5] L5 fun v6 L6=>
 CallL F (N k_f93) [v6] L6 fun v7 L7=>
 wpOp F (.ext 0) [v7] L7 fun v8 L8=>
 wpOp F (.ext 1) [v7] L8 fun v9 L9=>
 wpOp F (.ext 2) [v7] L9 fun v10 L10=>
 wpOp F (.ext 3) [v7] L10 fun v11 L11=>
 wpOp F (.bin .eql) [x38,v8] L11 fun v12 L12=>
 gdOp F v12 true .mv [x39] L12 fun v13 L13=>
 gdOp F v12 true .mv [v9] L13 fun v14 L14=>
 gdOp F v12 true (.eq false .bool) [v13,v14] L14 fun v15 L15=>
 wpOp F .pick [v12,v15,(.b false)] L15 fun v16 L16=>
 gdOp F v16 true .mv [x40] L16 fun v17 L17=>
 gdOp F v16 true .mv [v10] L17 fun v18 L18=>
 gdOp F v16 true (.eq false .bool) [v17,v18] L18 fun v19 L19=>
 wpOp F .pick [v16,v19,(.b false)] L19 fun v20 L20=>
 gdOp F v20 true .mv [x41] L20 fun v21 L21=>
 gdOp F v20 true .mv [v11] L21 fun v22 L22=>
 gdOp F v20 true (.call (N k_f88)) [v21,v22] L22 fun v23 L23=>
 wpOp F .pick [v20,v23,(.b false)] L23 fun v24 L24=>
 fin1 (some v24) Q L24
theorem e_f101_44 (F:TF)(N:TN)(Q:TQ) (l t : Env) (L : Lg) : wp F (q_f101_44 N) l t L (w_f101_2 F N Q) (y_f101_5 F N Q) (fin [.tmp (.l 4)] Q) = D_f101_44 F N Q (l 0) (l 3) (l 38) (l 39) (l 40) (l 41) L := by kernel_rfl
def q_f101_43a (N : TN) : ACode := (.reg [oQ (347,.mv,[.l 0]),oQ (348,.nilchk,[.t 347]),oQ (349,.fad 0,[.t 348]),oQ (350,.ld none,[.t 349]),oQ (351,.fad 1,[.l 3]),oQ (352,.ld none,[.t 351]),oQ (353,.call (N k_f90),[.t 350,.t 352]),oQ (354,.call (N k_f91),[.t 353]),oQ (346,.mv,[.t 354]),oQ (355,.ext 0,[.t 346]),oQ (356,.ext 1,[.t 346]),oQ (357,.ext 2,[.t 346]),oQ (358,.ext 3,[.t 346]),⟨.l 38,none,.mv,[.t 355]⟩,⟨.l 39,none,.mv,[.t 356]⟩,⟨.l 40,none,.mv,[.t 357]⟩,⟨.l 41,none,.mv,[.t 358]⟩])
def q_f101_43 (N : TN) : ACode := (.seq (q_f101_43a N) (q_f101_44 N))
noncomputable def D_f101_43 (F:TF)(N:TN)(Q:TQ) (x0 x3:AV) (L : Lg) : Prop :=
 wpOp F .nilchk [x0] L fun v1 L1=>
 wpOp F (.fad 0) [v1] L1 fun v2 L2=>
 wpOp F (.ld none) [v2] L2 fun v3 L3=>
 wpOp F (.fad 1) [x3] L3 fun v4 L4=>
 wpOp F (.ld none) [v4] L4 fun v5 L5=>
 CallL F (N k_f90) [v3,v5] L5 fun v6 L6=>
 CallL F (N k_f91) [v6] L6 fun v7 L7=>
 wpOp F (.ext 0) [v7] L7 fun v8 L8=>
 wpOp F (.ext 1) [v7] L8 fun v9 L9=>
 wpOp F (.ext 2) [v7] L9 fun v10 L10=>
 wpOp F (.ext 3) [v7] L10 fun v11 L11=>
 D_f101_44 F N Q x0 x3 v8 v9 v10 v11 L11
theorem e_f101_43 (F:TF)(N:TN)(Q:TQ) (l t : Env) (L : Lg) : wp F (q_f101_43 N) l t L (w_f101_2 F N Q) (y_f101_5 F N Q) (fin [.tmp (.l 4)] Q) = D_f101_43 F N Q (l 0) (l 3) L := wpS (e_f101_44 F N Q) (by kernel_rfl)
def q_f101_47 (N : TN) : ACode := (.reg [oQ (392,.mv,[.l 0]),oQ (393,.mv,[.l 0]),oQ (394,.nilchk,[.t 393]),oQ (395,.fad 2,[.t 394]),oQ (396,.ld none,[.t 395]),oQ (397,.fad 2,[.l 3]),oQ (398,.ld none,[.t 397]),oQ (399,.max,[.t 398,.c (.i .i64 0)]),oQ (400,.call (N k_f65),[.t 396,.t 399]),oQ (401,.nilchk,[.t 392]),oQ (402,.fad 2,[.t 401]),⟨.no,none,.st 1,[.t 402,.t 400]⟩])
noncomputable def D_f101_47 (F:TF)(N:TN)(Q:TQ) (x0 x3:AV) (L : Lg) : Prop :=
 wpOp F .nilchk [x0] L fun v1 L1=>
 wpOp F (.fad 2) [v1] L1 fun v2 L2=>
 wpOp F (.ld none) [v2] L2 fun v3 L3=>
 wpOp F (.fad 2) [x3] L3 fun v4 L4=>
 wpOp F (.ld none) [v4] L4 fun v5 L5=>
 wpOp F .max [v5,(.i .i64 0)] L5 fun v6 L6=>
 CallL F (N k_f65) [v3,v6] L6 fun v7 L7=>
 wpOp F .nilchk [x0] L7 fun v8 L8=>
 wpOp F (.fad 2) [v8] L8 fun v9 L9=>
 wpOp F (.st 1) [v9,v7] L9 fun _ L10=>
 D_f101_3 F N Q L10
theorem e_f101_47 (F:TF)(N:TN)(Q:TQ) (l t : Env) (L : Lg) : wp F (q_f101_47 N) l t L (w_f101_2 F N Q) (y_f101_5 F N Q) (fin [.tmp (.l 4)] Q) = D_f101_47 F N Q (l 0) (l 3) L := by kernel_rfl
def q_f101_50 (N : TN) : ACode := (.seq (.reg [oQ (405,.fad 2,[.l 3]),oQ (406,.ld none,[.t 405]),oQ (407,.build [.i .i64 0,.i .i64 0,.i .i64 0] [(0,1)],[.t 406]),⟨.l 46,none,.alloc [.i .i64 0,.i .i64 0,.i .i64 0],[]⟩,⟨.no,none,.st 3,[.l 46,.t 407]⟩]) (.seq (.regD [oQ (408,.mv,[.l 0]),oQ (409,.nilchk,[.t 408]),oQ (410,.fad 0,[.t 409]),oQ (411,.ld none,[.t 410]),oQ (412,.fad 1,[.l 3]),oQ (413,.ld none,[.t 412]),oQ (414,.call (N k_f90),[.t 411,.t 413]),oQ (415,.ld (some 3),[.l 46]),oQ (416,.call (N k_f98),[.t 414,.t 415,.c (.b false)]),oQ (417,.mv,[.l 0]),oQ (418,.nilchk,[.t 417]),oQ (419,.fad 1,[.t 418]),oQ (420,.ld none,[.t 419]),oQ (421,.fad 1,[.l 3]),oQ (422,.ld none,[.t 421]),oQ (423,.call (N k_f92),[.t 420,.t 422]),oQ (424,.ld (some 3),[.l 46]),oQ (425,.call (N k_f100),[.t 423,.t 424,.c (.b false)]),oQ (426,.bin .eql,[.t 416,.t 425]),⟨.l 4,none,.mv,[.t 426]⟩] [(7,0),(12,0),(12,7),(14,0),(14,7),(16,0),(16,7),(16,9)]) .ret))
noncomputable def D_f101_50 (F:TF)(N:TN)(Q:TQ) (x0 x3:AV) (L : Lg) : Prop :=
 wpOp F (.fad 2) [x3] L fun v1 L1=>
 wpOp F (.ld none) [v1] L1 fun v2 L2=>
 wpOp F (.build [.i .i64 0,.i .i64 0,.i .i64 0] [(0,1)]) [v2] L2 fun v3 L3=>
 wpOp F (.alloc [.i .i64 0,.i .i64 0,.i .i64 0]) [] L3 fun v4 L4=>
 wpOp F (.st 3) [v4,v3] L4 fun _ L5=>
 wpOp F .nilchk [x0] L5 fun v6 L6=>
 wpOp F (.fad 0) [v6] L6 fun v7 L7=>
 wpOp F (.ld none) [v7] L7 fun v8 L8=>
 wpOp F (.fad 1) [x3] L8 fun v9 L9=>
 wpOp F (.ld none) [v9] L9 fun v10 L10=>
 CallL F (N k_f90) [v8,v10] L10 fun v11 L11=>
 wpOp F (.ld (some 3)) [v4] L11 fun v12 L12=>
 CallL F (N k_f98) [v11,v12,(.b false)] L12 fun v13 L13=>
 wpOp F .nilchk [x0] L13 fun v14 L14=>
 wpOp F (.fad 1) [v14] L14 fun v15 L15=>
 wpOp F (.ld none) [v15] L15 fun v16 L16=>
 wpOp F (.fad 1) [x3] L16 fun v17 L17=>
 wpOp F (.ld none) [v17] L17 fun v18 L18=>
 CallL F (N k_f92) [v16,v18] L18 fun v19 L19=>
 wpOp F (.ld (some 3)) [v4] L19 fun v20 L20=>
 CallL F (N k_f100) [v19,v20,(.b false)] L20 fun v21 L21=>
 wpOp F (.bin .eql) [v13,v21] L21 fun v22 L22=>
 (againV (.ld (some 3)) [v4] L11 L5 ∧ againV (.ld none) [v15] L15 L5 ∧ againV (.ld none) [v15] L15 L11 ∧ againV (.ld none) [v17] L17 L5 ∧ againV (.ld none) [v17] L17 L11 ∧ againV (.ld (some 3)) [v4] L19 L5 ∧ againV (.ld (some 3)) [v4] L19 L11 ∧ againV (.ld (some 3)) [v4] L19 L13 ∧ True) ∧ (fin1 (some v22) Q L22)
theorem e_f101_50 (F:TF)(N:TN)(Q:TQ) (l t : Env) (L : Lg) : wp F (q_f101_50 N) l t L (w_f101_2 F N Q) (y_f101_5 F N Q) (fin [.tmp (.l 4)] Q) = D_f101_50 F N Q (l 0) (l 3) L := by kernel_rfl
def q_f101_51 (N : TN) : ACode := (.seq (.reg [oQ (428,.bin .eql,[.l 52,.c (.i .i64 11)]),oQ (427,.mv,[.t 428])]) (.cond (.t 427) (.seq (.reg [oQ (430,.mv,[.l 0]),oQ (431,.nilchk,[.t 430]),oQ (432,.fad 0,[.t 431]),oQ (433,.ld none,[.t 432]),oQ (434,.fad 2,[.l 3]),oQ (435,.ld none,[.t 434]),oQ (436,.call (N k_f48),[.t 433,.t 435]),oQ (429,.mv,[.t 436]),oQ (437,.ext 0,[.t 429]),oQ (438,.ext 1,[.t 429]),⟨.l 47,none,.alloc [.i .i64 0,.i .i64 0,.i .i64 0,.i .i64 0,.i .i64 0,.sl none 0 0 0,.b false],[]⟩,⟨.no,none,.st 7,[.l 47,.t 437]⟩,⟨.l 48,none,.mv,[.t 438]⟩]) (.seq (.reg [oQ (440,.mv,[.l 0]),oQ (441,.nilchk,[.t 440]),oQ (442,.fad 1,[.t 441]),oQ (443,.ld none,[.t 442]),oQ (444,.fad 2,[.l 3]),oQ (445,.ld none,[.t 444]),oQ (446,.call (N k_f87),[.t 443,.t 445]),oQ (439,.mv,[.t 446]),oQ (447,.ext 0,[.t 439]),oQ (448,.ext 1,[.t 439]),⟨.l 49,none,.alloc [.i .i64 0,.i .i64 0,.i .i64 0,.i .i64 0,.i .i64 0,.sl none 0 0 0,.b false],[]⟩,⟨.no,none,.st 7,[.l 49,.t 447]⟩,⟨.l 50,none,.mv,[.t 448]⟩]) (.seq (.reg [oQ (449,.mv,[.l 48]),oQ (450,.mv,[.l 50]),oQ (451,.eq false .bool,[.t 449,.t 450]),oQ (452,.mv,[.t 451]),gQ (453,452,true,.ld (some 7),[.l 47]),gQ (454,452,true,.ld (some 7),[.l 49]),gQ (455,452,true,.call (N k_f89),[.t 453,.t 454]),oQ (456,.pick,[.t 452,.t 455,.c (.b false)]),⟨.l 4,none,.mv,[.t 456]⟩]) .ret))) .skip))
noncomputable def D_f101_51 (F:TF)(N:TN)(Q:TQ) (x0 x3 x52:AV) (L : Lg) : Prop :=
 wpOp F (.bin .eql) [x52,(.i .i64 11)] L fun v1 L1=>
 condW v1
 (wpOp F .nilchk [x0] L1 fun v2 L2=>
 wpOp F (.fad 0) [v2] L2 fun v3 L3=>
 wpOp F (.ld none) [v3] L3 fun v4 L4=>
 wpOp F (.fad 2) [x3] L4 fun v5 L5=>
 wpOp F (.ld none) [v5] L5 fun v6 L6=>
 CallL F (N k_f48) [v4,v6] L6 fun v7 L7=>
 wpOp F (.ext 0) [v7] L7 fun v8 L8=>
 wpOp F (.ext 1) [v7] L8 fun v9 L9=>
 wpOp F (.alloc [.i .i64 0,.i .i64 0,.i .i64 0,.i .i64 0,.i .i64 0,.sl none 0 0 0,.b false]) [] L9 fun v10 L10=>
 wpOp F (.st 7) [v10,v8] L10 fun _ L11=>
 wpOp F .nilchk [x0] L11 fun v12 L12=>
 wpOp F (.fad 1) [v12] L12 fun v13 L13=>
 wpOp F (.ld none) [v13] L13 fun v14 L14=>
 wpOp F (.fad 2) [x3] L14 fun v15 L15=>
 wpOp F (.ld none) [v15] L15 fun v16 L16=>
 CallL F (N k_f87) [v14,v16] L16 fun v17 L17=>
 wpOp F (.ext 0) [v17] L17 fun v18 L18=>
 wpOp F (.ext 1) [v17] L18 fun v19 L19=>
 wpOp F (.alloc [.i .i64 0,.i .i64 0,.i .i64 0,.i .i64 0,.i .i64 0,.sl none 0 0 0,.b false]) [] L19 fun v20 L20=>
 wpOp F (.st 7) [v20,v18] L20 fun _ L21=>
 wpOp F (.eq false .bool) [v9,v19] L21 fun v22 L22=>
 gdOp F v22 true (.ld (some 7)) [v10] L22 fun v23 L23=>
 gdOp F v22 true (.ld (some 7)) [v20] L23 fun v24 L24=>
 gdOp F v22 true (.call (N k_f89)) [v23,v24] L24 fun v25 L25=>
 wpOp F .pick [v22,v25,(.b false)] L25 fun v26 L26=>
 fin1 (some v26) Q L26)
 (D_f101_3 F N Q L1)
theorem e_f101_51 (F:TF)(N:TN)(Q:TQ) (l t : Env) (L : Lg) : wp F (q_f101_51 N) l t L (w_f101_2 F N Q) (y_f101_5 F N Q) (fin [.tmp (.l 4)] Q) = D_f101_51 F N Q (l 0) (l 3) (l 52) L := by kernel_rfl
def q_f101_49 (N : TN) : ACode := (.cond (.t 403) (q_f101_50 N) (q_f101_51 N))
noncomputable def D_f101_49 (F:TF)(N:TN)(Q:TQ) (x0 x3 x52:AV) (t403 : AV) (L : Lg) : Prop :=
 condW t403
 (D_f101_50 F N Q x0 x3 L)
 (D_f101_51 F N Q x0 x3 x52 L)
theorem e_f101_49 (F:TF)(N:TN)(Q:TQ) (l t : Env) (L : Lg) : wp F (q_f101_49 N) l t L (w_f101_2 F N Q) (y_f101_5 F N Q) (fin [.tmp (.l 4)] Q) = D_f101_49 F N Q (l 0) (l 3) (l 52) (t 403) L := wpC (e_f101_50 F N Q l t L) (e_f101_51 F N Q l t L) (by kernel_rfl)
def q_f101_48a (N : TN) : ACode := (.reg [oQ (404,.bin .eql,[.l 52,.c (.i .i64 10)]),oQ (403,.mv,[.t 404])])
def q_f101_48 (N : TN) : ACode := (.seq (q_f101_48a N) (q_f101_49 N))
noncomputable def D_f101_48 (F:TF)(N:TN)(Q:TQ) (x0 x3 x52:AV) (L : Lg) : Prop :=
 wpOp F (.bin .eql) [x52,(.i .i64 10)] L fun v1 L1=>
 D_f101_49 F N Q x0 x3 x52 v1 L1
theorem e_f101_48 (F:TF)(N:TN)(Q:TQ) (l t : Env) (L : Lg) : wp F (q_f101_48 N) l t L (w_f101_2 F N Q) (y_f101_5 F N Q) (fin [.tmp (.l 4)] Q) = D_f101_48 F N Q (l 0) (l 3) (l 52) L := wpS (e_f101_49 F N Q) (by kernel_rfl)
def q_f101_46 (N : TN) : ACode := (.cond (.t 390) (q_f101_47 N) (q_f101_48 N))
noncomputable def D_f101_46 (F:TF)(N:TN)(Q:TQ) (x0 x3 x52:AV) (t390 : AV) (L : Lg) : Prop :=
 condW t390
 (D_f101_47 F N Q x0 x3 L)
 (D_f101_48 F N Q x0 x3 x52 L)
theorem e_f101_46 (F:TF)(N:TN)(Q:TQ) (l t : Env) (L : Lg) : wp F (q_f101_46 N) l t L (w_f101_2 F N Q) (y_f101_5 F N Q) (fin [.tmp (.l 4)] Q) = D_f101_46 F N Q (l 0) (l 3) (l 52) (t 390) L := wpC (e_f101_47 F N Q l t L) (e_f101_48 F N Q l t L) (by kernel_rfl)
def q_f101_45a (N : TN) : ACode := (.reg [oQ (391,.bin .eql,[.l 52,.c (.i .i64 9)]),oQ (390,.mv,[.t 391])])
def q_f101_45 (N : TN) : ACode := (.seq (q_f101_45a N) (q_f101_46 N))
noncomputable def D_f101_45 (F:TF)(N:TN)(Q:TQ) (x0 x3 x52:AV) (L : Lg) : Prop :=
 wpOp F (.bin .eql) [x52,(.i .i64 9)] L fun v1 L1=>
 D_f101_46 F N Q x0 x3 x52 v1 L1
theorem e_f101_45 (F:TF)(N:TN)(Q:TQ) (l t : Env) (L : Lg) : wp F (q_f101_45 N) l t L (w_f101_2 F N Q) (y_f101_5 F N Q) (fin [.tmp (.l 4)] Q) = D_f101_45 F N Q (l 0) (l 3) (l 52) L := wpS (e_f101_46 F N Q) (by kernel_rfl)
def q_f101_42 (N : TN) : ACode := (.cond (.t 344) (q_f101_43 N) (q_f101_45 N))
noncomputable def D_f101_42 (F:TF)(N:TN)(Q:TQ) (x0 x3 x52:AV) (t344 : AV) (L : Lg) : Prop :=
 condW t344
 (D_f101_43 F N Q x0 x3 L)
 (D_f101_45 F N Q x0 x3 x52 L)
theorem e_f101_42 (F:TF)(N:TN)(Q:TQ) (l t : Env) (L : Lg) : wp F (q_f101_42 N) l t L (w_f101_2 F N Q) (y_f101_5 F N Q) (fin [.tmp (.l 4)] Q) = D_f101_42 F N Q (l 0) (l 3) (l 52) (t 344) L := wpC (e_f101_43 F N Q l t L) (e_f101_45 F N Q l t L) (by kernel_rfl)
def q_f101_41a (N : TN) : ACode := (.reg [oQ (345,.bin .eql,[.l 52,.c (.i .i64 8)]),oQ (344,.mv,[.t 345])])
def q_f101_41 (N : TN) : ACode := (.seq (q_f101_41a N) (q_f101_42 N))
noncomputable def D_f101_41 (F:TF)(N:TN)(Q:TQ) (x0 x3 x52:AV) (L : Lg) : Prop :=
 wpOp F (.bin .eql) [x52,(.i .i64 8)] L fun v1 L1=>
 D_f101_42 F N Q x0 x3 x52 v1 L1
theorem e_f101_41 (F:TF)(N:TN)(Q:TQ) (l t : Env) (L : Lg) : wp F (q_f101_41 N) l t L (w_f101_2 F N Q) (y_f101_5 F N Q) (fin [.tmp (.l 4)] Q) = D_f101_41 F N Q (l 0) (l 3) (l 52) L := wpS (e_f101_42 F N Q) (by kernel_rfl)
def q_f101_29 (N : TN) : ACode := (.cond (.t 295) (q_f101_30 N) (q_f101_41 N))
noncomputable def D_f101_29 (F:TF)(N:TN)(Q:TQ) (l : Env) (t295 : AV) (L : Lg) : Prop :=
 condW t295
 (D_f101_32 F N Q l L)
 (D_f101_41 F N Q (l 0) (l 3) (l 52) L)
theorem e_f101_29 (F:TF)(N:TN)(Q:TQ) (l t : Env) (L : Lg) : wp F (q_f101_29 N) l t L (w_f101_2 F N Q) (y_f101_5 F N Q) (fin [.tmp (.l 4)] Q) = D_f101_29 F N Q l (t 295) L := wpC (e_f101_30 F N Q l t L) (e_f101_41 F N Q l t L) (by kernel_rfl)
def q_f101_28a (N : TN) : ACode := (.reg [oQ (296,.bin .eql,[.l 52,.c (.i .i64 7)]),oQ (295,.mv,[.t 296])])
def q_f101_28 (N : TN) : ACode := (.seq (q_f101_28a N) (q_f101_29 N))
noncomputable def D_f101_28 (F:TF)(N:TN)(Q:TQ) (l : Env) (L : Lg) : Prop :=
 wpOp F (.bin .eql) [(l 52),(.i .i64 7)] L fun v1 L1=>
 D_f101_29 F N Q l v1 L1
theorem e_f101_28 (F:TF)(N:TN)(Q:TQ) (l t : Env) (L : Lg) : wp F (q_f101_28 N) l t L (w_f101_2 F N Q) (y_f101_5 F N Q) (fin [.tmp (.l 4)] Q) = D_f101_28 F N Q l L := wpS (e_f101_29 F N Q) (by kernel_rfl)
def q_f101_25 (N : TN) : ACode := (.cond (.t 253) (q_f101_26 N) (q_f101_28 N))
noncomputable def D_f101_25 (F:TF)(N:TN)(Q:TQ) (l : Env) (t253 : AV) (L : Lg) : Prop :=
 condW t253
 (D_f101_26 F N Q (l 0) (l 3) L)
 (D_f101_28 F N Q l L)
theorem e_f101_25 (F:TF)(N:TN)(Q:TQ) (l t : Env) (L : Lg) : wp F (q_f101_25 N) l t L (w_f101_2 F N Q) (y_f101_5 F N Q) (fin [.tmp (.l 4)] Q) = D_f101_25 F N Q l (t 253) L := wpC (e_f101_26 F N Q l t L) (e_f101_28 F N Q l t L) (by kernel_rfl)
def q_f101_24a (N : TN) : ACode := (.reg [oQ (254,.bin .eql,[.l 52,.c (.i .i64 6)]),oQ (253,.mv,[.t 254])])
def q_f101_24 (N : TN) : ACode := (.seq (q_f101_24a N) (q_f101_25 N))
noncomputable def D_f101_24 (F:TF)(N:TN)(Q:TQ) (l : Env) (L : Lg) : Prop :=
 wpOp F (.bin .eql) [(l 52),(.i .i64 6)] L fun v1 L1=>
 D_f101_25 F N Q l v1 L1
theorem e_f101_24 (F:TF)(N:TN)(Q:TQ) (l t : Env) (L : Lg) : wp F (q_f101_24 N) l t L (w_f101_2 F N Q) (y_f101_5 F N Q) (fin [.tmp (.l 4)] Q) = D_f101_24 F N Q l L := wpS (e_f101_25 F N Q) (by kernel_rfl)
def q_f101_22 (N : TN) : ACode := (.cond (.t 223) (q_f101_23 N) (q_f101_24 N))
noncomputable def D_f101_22 (F:TF)(N:TN)(Q:TQ) (l : Env) (t223 : AV) (L : Lg) : Prop :=
 condW t223
 (D_f101_23 F N Q (l 0) (l 3) L)
 (D_f101_24 F N Q l L)
theorem e_f101_22 (F:TF)(N:TN)(Q:TQ) (l t : Env) (L : Lg) : wp F (q_f101_22 N) l t L (w_f101_2 F N Q) (y_f101_5 F N Q) (fin [.tmp (.l 4)] Q) = D_f101_22 F N Q l (t 223) L := wpC (e_f101_23 F N Q l t L) (e_f101_24 F N Q l t L) (by kernel_rfl)
def q_f101_21a (N : TN) : ACode := (.reg [oQ (224,.bin .eql,[.l 52,.c (.i .i64 5)]),oQ (223,.mv,[.t 224])])
def q_f101_21 (N : TN) : ACode := (.seq (q_f101_21a N) (q_f101_22 N))
noncomputable def D_f101_21 (F:TF)(N:TN)(Q:TQ) (l : Env) (L : Lg) : Prop :=
 wpOp F (.bin .eql) [(l 52),(.i .i64 5)] L fun v1 L1=>
 D_f101_22 F N Q l v1 L1
theorem e_f101_21 (F:TF)(N:TN)(Q:TQ) (l t : Env) (L : Lg) : wp F (q_f101_21 N) l t L (w_f101_2 F N Q) (y_f101_5 F N Q) (fin [.tmp (.l 4)] Q) = D_f101_21 F N Q l L := wpS (e_f101_22 F N Q) (by kernel_rfl)
def q_f101_19 (N : TN) : ACode := (.cond (.t 189) (q_f101_20 N) (q_f101_21 N))
noncomputable def D_f101_19 (F:TF)(N:TN)(Q:TQ) (l : Env) (t189 : AV) (L : Lg) : Prop :=
 condW t189
 (D_f101_20 F N Q (l 0) (l 3) L)
 (D_f101_21 F N Q l L)
theorem e_f101_19 (F:TF)(N:TN)(Q:TQ) (l t : Env) (L : Lg) : wp F (q_f101_19 N) l t L (w_f101_2 F N Q) (y_f101_5 F N Q) (fin [.tmp (.l 4)] Q) = D_f101_19 F N Q l (t 189) L := wpC (e_f101_20 F N Q l t L) (e_f101_21 F N Q l t L) (by kernel_rfl)
def q_f101_18a (N : TN) : ACode := (.reg [oQ (190,.bin .eql,[.l 52,.c (.i .i64 4)]),oQ (189,.mv,[.t 190])])
def q_f101_18 (N : TN) : ACode := (.seq (q_f101_18a N) (q_f101_19 N))
noncomputable def D_f101_18 (F:TF)(N:TN)(Q:TQ) (l : Env) (L : Lg) : Prop :=
 wpOp F (.bin .eql) [(l 52),(.i .i64 4)] L fun v1 L1=>
 D_f101_19 F N Q l v1 L1
theorem e_f101_18 (F:TF)(N:TN)(Q:TQ) (l t : Env) (L : Lg) : wp F (q_f101_18 N) l t L (w_f101_2 F N Q) (y_f101_5 F N Q) (fin [.tmp (.l 4)] Q) = D_f101_18 F N Q l L := wpS (e_f101_19 F N Q) (by kernel_rfl)
def q_f101_15 (N : TN) : ACode := (.cond (.t 147) (q_f101_16 N) (q_f101_18 N))
noncomputable def D_f101_15 (F:TF)(N:TN)(Q:TQ) (l : Env) (t147 : AV) (L : Lg) : Prop :=
 condW t147
 (D_f101_16 F N Q (l 0) (l 3) L)
 (D_f101_18 F N Q l L)
theorem e_f101_15 (F:TF)(N:TN)(Q:TQ) (l t : Env) (L : Lg) : wp F (q_f101_15 N) l t L (w_f101_2 F N Q) (y_f101_5 F N Q) (fin [.tmp (.l 4)] Q) = D_f101_15 F N Q l (t 147) L := wpC (e_f101_16 F N Q l t L) (e_f101_18 F N Q l t L) (by kernel_rfl)
def q_f101_14a (N : TN) : ACode := (.reg [oQ (148,.bin .eql,[.l 52,.c (.i .i64 3)]),oQ (147,.mv,[.t 148])])
def q_f101_14 (N : TN) : ACode := (.seq (q_f101_14a N) (q_f101_15 N))
noncomputable def D_f101_14 (F:TF)(N:TN)(Q:TQ) (l : Env) (L : Lg) : Prop :=
 wpOp F (.bin .eql) [(l 52),(.i .i64 3)] L fun v1 L1=>
 D_f101_15 F N Q l v1 L1
theorem e_f101_14 (F:TF)(N:TN)(Q:TQ) (l t : Env) (L : Lg) : wp F (q_f101_14 N) l t L (w_f101_2 F N Q) (y_f101_5 F N Q) (fin [.tmp (.l 4)] Q) = D_f101_14 F N Q l L := wpS (e_f101_15 F N Q) (by kernel_rfl)
def q_f101_11 (N : TN) : ACode := (.cond (.t 100) (q_f101_12 N) (q_f101_14 N))
noncomputable def D_f101_11 (F:TF)(N:TN)(Q:TQ) (l : Env) (t100 : AV) (L : Lg) : Prop :=
 condW t100
 (D_f101_12 F N Q (l 0) (l 3) L)
 (D_f101_14 F N Q l L)
theorem e_f101_11 (F:TF)(N:TN)(Q:TQ) (l t : Env) (L : Lg) : wp F (q_f101_11 N) l t L (w_f101_2 F N Q) (y_f101_5 F N Q) (fin [.tmp (.l 4)] Q) = D_f101_11 F N Q l (t 100) L := wpC (e_f101_12 F N Q l t L) (e_f101_14 F N Q l t L) (by kernel_rfl)
def q_f101_10a (N : TN) : ACode := (.reg [oQ (101,.bin .eql,[.l 52,.c (.i .i64 2)]),oQ (100,.mv,[.t 101])])
def q_f101_10 (N : TN) : ACode := (.seq (q_f101_10a N) (q_f101_11 N))
noncomputable def D_f101_10 (F:TF)(N:TN)(Q:TQ) (l : Env) (L : Lg) : Prop :=
 wpOp F (.bin .eql) [(l 52),(.i .i64 2)] L fun v1 L1=>
 D_f101_11 F N Q l v1 L1
theorem e_f101_10 (F:TF)(N:TN)(Q:TQ) (l t : Env) (L : Lg) : wp F (q_f101_10 N) l t L (w_f101_2 F N Q) (y_f101_5 F N Q) (fin [.tmp (.l 4)] Q) = D_f101_10 F N Q l L := wpS (e_f101_11 F N Q) (by kernel_rfl)
def q_f101_7 (N : TN) : ACode := (.cond (.t 53) (q_f101_8 N) (q_f101_10 N))
noncomputable def D_f101_7 (F:TF)(N:TN)(Q:TQ) (l : Env) (t53 : AV) (L : Lg) : Prop :=
 condW t53
 (D_f101_8 F N Q (l 0) (l 3) L)
 (D_f101_10 F N Q l L)
theorem e_f101_7 (F:TF)(N:TN)(Q:TQ) (l t : Env) (L : Lg) : wp F (q_f101_7 N) l t L (w_f101_2 F N Q) (y_f101_5 F N Q) (fin [.tmp (.l 4)] Q) = D_f101_7 F N Q l (t 53) L := wpC (e_f101_8 F N Q l t L) (e_f101_10 F N Q l t L) (by kernel_rfl)
def q_f101_6a (N : TN) : ACode := (.reg [oQ (54,.bin .eql,[.l 52,.c (.i .i64 1)]),oQ (53,.mv,[.t 54])])
def q_f101_6 (N : TN) : ACode := (.seq (q_f101_6a N) (q_f101_7 N))
noncomputable def D_f101_6 (F:TF)(N:TN)(Q:TQ) (l : Env) (L : Lg) : Prop :=
 wpOp F (.bin .eql) [(l 52),(.i .i64 1)] L fun v1 L1=>
 D_f101_7 F N Q l v1 L1
theorem e_f101_6 (F:TF)(N:TN)(Q:TQ) (l t : Env) (L : Lg) : wp F (q_f101_6 N) l t L (w_f101_2 F N Q) (y_f101_5 F N Q) (fin [.tmp (.l 4)] Q) = D_f101_6 F N Q l L := wpS (e_f101_7 F N Q) (by kernel_rfl)
def q_f101_5 (N : TN) : ACode := (.block 0 (q_f101_6 N))
theorem e_f101_5 (F:TF)(N:TN)(Q:TQ) (l t : Env) (L : Lg) : wp F (q_f101_5 N) l t L (w_f101_2 F N Q) nE (fin [.tmp (.l 4)] Q) = D_f101_6 F N Q l L := wpB (e_f101_6 F N Q l t L)
def q_f101_4a (N : TN) : ACode := (.reg [oQ (51,.fad 0,[.l 3]),⟨.l 52,none,.ld none,[.t 51]⟩])
def q_f101_4 (N : TN) : ACode := (.seq (q_f101_4a N) (q_f101_5 N))
noncomputable def D_f101_4 (F:TF)(N:TN)(Q:TQ) (l : Env) (L : Lg) : Prop :=
 wpOp F (.fad 0) [(l 3)] L fun v1 L1=>
 wpOp F (.ld none) [v1] L1 fun v2 L2=>
 D_f101_6 F N Q (Env.put l 52 v2) L2
theorem e_f101_4 (F:TF)(N:TN)(Q:TQ) (l t : Env) (L : Lg) : wp F (q_f101_4 N) l t L (w_f101_2 F N Q) nE (fin [.tmp (.l 4)] Q) = D_f101_4 F N Q l L := wpS (e_f101_5 F N Q) (by kernel_rfl)
def q_f101_2 (N : TN) : ACode := (.seq (q_f101_4 N) (q_f101_3 N))
theorem e_f101_2 (F:TF)(N:TN)(Q:TQ) (l t : Env) (L : Lg) : wp F (q_f101_2 N) l t L (fin [.tmp (.l 4)] Q) nE (fin [.tmp (.l 4)] Q) = D_f101_4 F N Q l L := wpS (e_f101_3 F N Q) (e_f101_4 F N Q l t L)
def q_f101_1a (N : TN) : ACode := (.reg [⟨.l 3,none,.box,[.l 1]⟩,⟨.l 4,none,.mv,[.c (.b false)]⟩])
def q_f101_1 (N : TN) : ACode := (.seq (q_f101_1a N) (q_f101_2 N))
noncomputable def D_f101_1 (F:TF)(N:TN)(Q:TQ) (l : Env) (L : Lg) : Prop :=
 wpOp F .box [(l 1)] L fun v1 L1=>
 D_f101_4 F N Q (Env.put (Env.put l 3 v1) 4 (.b false)) L1
theorem e_f101_1 (F:TF)(N:TN)(Q:TQ) (l t : Env) (L : Lg) : wp F (q_f101_1 N) l t L (fin [.tmp (.l 4)] Q) nE (fin [.tmp (.l 4)] Q) = D_f101_1 F N Q l L := wpS (e_f101_2 F N Q) (by kernel_rfl)
def c_f101 (N : TN) : AFn := ⟨q_f101_1 N,[.tmp (.l 4)]⟩
structure H_f101 (N : TN) (F : TF) : Prop where
  code : F (N k_f101) = some (c_f101 N)
  f40 : H_f40 N F
  f74 : H_f74 N F
  f52 : H_f52 N F
  f75 : H_f75 N F
  f53 : H_f53 N F
  f76 : H_f76 N F
  f55 : H_f55 N F
  f77 : H_f77 N F
  f51 : H_f51 N F
  f80 : H_f80 N F
  f54 : H_f54 N F
  f81 : H_f81 N F
  f48 : H_f48 N F
  f87 : H_f87 N F
  f89 : H_f89 N F
  f90 : H_f90 N F
  f91 : H_f91 N F
  f92 : H_f92 N F
  f93 : H_f93 N F
  f88 : H_f88 N F
  f65 : H_f65 N F
  f98 : H_f98 N F
  f100 : H_f100 N F
theorem r_f101 {F : TF} {N : TN} (h : F (N k_f101) = some (c_f101 N)) {Q : TQ} {a0 a1 : AV} {L : Lg} (e : D_f101_1 F N Q (initE [a0,a1] 0) L) : CallL F (N k_f101) [a0,a1] L Q :=
  CallL.of_wp h (Eq.mpr (Eq.trans (e_f101_1 F N Q (initE [a0,a1] 0) Env.nil L) (by kernel_rfl : _ = D_f101_1 F N Q (initE [a0,a1] 0) L)) e)
def q_f102_1 (N : TN) : ACode := (.seq (.reg [⟨.l 2,none,.mv,[.c (.i .i64 0)]⟩,⟨.l 3,none,.mv,[.c (.b false)]⟩]) (.seq (.seq (.reg [oQ (4,.mv,[.l 0]),oQ (5,.eq false .ptr,[.t 4,.c (.p none)])]) (.cond (.t 5) (.seq (.reg [⟨.l 2,none,.mv,[.c (.i .i64 0)]⟩,⟨.l 3,none,.mv,[.c (.b false)]⟩]) .ret) .skip)) (.seq (.reg [oQ (6,.mv,[.l 0]),oQ (7,.nilchk,[.t 6]),oQ (8,.fad 1,[.t 7]),oQ (9,.ld none,[.t 8]),oQ (10,.call (N k_f43),[.t 9]),oQ (11,.ext 0,[.t 10]),oQ (12,.ext 1,[.t 10]),⟨.l 2,none,.mv,[.t 11]⟩,⟨.l 3,none,.mv,[.t 12]⟩]) .ret)))
noncomputable def D_f102_1 (F:TF)(N:TN)(Q:TQ) (x0 : AV) (L : Lg) : Prop :=
 wpOp F (.eq false .ptr) [x0,(.p none)] L fun v1 L1=>
 condW v1
 (fin1 (some (.tup [(.i .i64 0),(.b false)])) Q L1)
 (wpOp F .nilchk [x0] L1 fun v2 L2=>
 wpOp F (.fad 1) [v2] L2 fun v3 L3=>
 wpOp F (.ld none) [v3] L3 fun v4 L4=>
 CallL F (N k_f43) [v4] L4 fun v5 L5=>
 wpOp F (.ext 0) [v5] L5 fun v6 L6=>
 wpOp F (.ext 1) [v5] L6 fun v7 L7=>
 fin1 (some (.tup [v6,v7])) Q L7)
theorem e_f102_1 (F:TF)(N:TN)(Q:TQ) (l t : Env) (L : Lg) : wp F (q_f102_1 N) l t L (fin [.tmp (.l 2),.tmp (.l 3)] Q) nE (fin [.tmp (.l 2),.tmp (.l 3)] Q) = D_f102_1 F N Q (l 0) L := by kernel_rfl
def c_f102 (N : TN) : AFn := ⟨q_f102_1 N,[.tmp (.l 2),.tmp (.l 3)]⟩
structure H_f102 (N : TN) (F : TF) : Prop where
  code : F (N k_f102) = some (c_f102 N)
  f43 : H_f43 N F
theorem r_f102 {F : TF} {N : TN} (h : F (N k_f102) = some (c_f102 N)) {Q : TQ} {a0 : AV} {L : Lg} (e : D_f102_1 F N Q a0 L) : CallL F (N k_f102) [a0] L Q :=
  CallL.of_wp h (Eq.mpr (Eq.trans (e_f102_1 F N Q (initE [a0] 0) Env.nil L) (by kernel_rfl : _ = D_f102_1 F N Q a0 L)) e)
def q_f103_1 (N : TN) : ACode := (.seq (.reg [⟨.l 2,none,.mv,[.c (.i .i64 0)]⟩]) (.seq (.seq (.reg [oQ (3,.mv,[.l 0]),oQ (4,.eq false .ptr,[.t 3,.c (.p none)])]) (.cond (.t 4) (.seq (.reg [⟨.l 2,none,.mv,[.c (.i .i64 0)]⟩]) .ret) .skip)) (.seq (.reg [oQ (5,.mv,[.l 0]),oQ (6,.nilchk,[.t 5]),oQ (7,.fad 0,[.t 6]),oQ (8,.ld none,[.t 7]),oQ (9,.lenSl,[.t 8]),⟨.l 2,none,.mv,[.t 9]⟩]) .ret)))
noncomputable def D_f103_1 (F:TF)(N:TN)(Q:TQ) (x0 : AV) (L : Lg) : Prop :=
 wpOp F (.eq false .ptr) [x0,(.p none)] L fun v1 L1=>
 condW v1
 (fin1 (some (.i .i64 0)) Q L1)
 (wpOp F .nilchk [x0] L1 fun v2 L2=>
 wpOp F (.fad 0) [v2] L2 fun v3 L3=>
 wpOp F (.ld none) [v3] L3 fun v4 L4=>
 wpOp F .lenSl [v4] L4 fun v5 L5=>
 fin1 (some v5) Q L5)
theorem e_f103_1 (F:TF)(N:TN)(Q:TQ) (l t : Env) (L : Lg) : wp F (q_f103_1 N) l t L (fin [.tmp (.l 2)] Q) nE (fin [.tmp (.l 2)] Q) = D_f103_1 F N Q (l 0) L := by kernel_rfl
def c_f103 (N : TN) : AFn := ⟨q_f103_1 N,[.tmp (.l 2)]⟩
structure H_f103 (N : TN) (F : TF) : Prop where
  code : F (N k_f103) = some (c_f103 N)
theorem r_f103 {F : TF} {N : TN} (h : F (N k_f103) = some (c_f103 N)) {Q : TQ} {a0 : AV} {L : Lg} (e : D_f103_1 F N Q a0 L) : CallL F (N k_f103) [a0] L Q :=
  CallL.of_wp h (Eq.mpr (Eq.trans (e_f103_1 F N Q (initE [a0] 0) Env.nil L) (by kernel_rfl : _ = D_f103_1 F N Q a0 L)) e)
def q_f104_1 (N : TN) : ACode := (.seq (.reg [⟨.l 4,none,.mv,[.c (.i .i64 0)]⟩]) (.seq (.seq (.reg [oQ (5,.mv,[.l 0]),oQ (6,.mv,[.l 1]),oQ (7,.call (N k_f49),[.t 5,.t 6]),oQ (8,.un .not,[.t 7])]) (.cond (.t 8) (.seq (.reg [⟨.l 4,none,.mv,[.c (.i .i64 0)]⟩]) .ret) .skip)) (.seq (.reg [oQ (9,.mv,[.l 0]),oQ (10,.nilchk,[.t 9]),oQ (11,.fad 0,[.t 10]),oQ (12,.ld none,[.t 11]),oQ (13,.mv,[.l 1]),oQ (14,.iad 4,[.t 12,.t 13]),oQ (15,.fad 0,[.t 14]),oQ (16,.ld none,[.t 15]),⟨.l 4,none,.mv,[.t 16]⟩]) .ret)))
noncomputable def D_f104_1 (F:TF)(N:TN)(Q:TQ) (x0 x1:AV) (L : Lg) : Prop :=
 CallL F (N k_f49) [x0,x1] L fun v1 L1=>
 wpOp F (.un .not) [v1] L1 fun v2 L2=>
 condW v2
 (fin1 (some (.i .i64 0)) Q L2)
 (wpOp F .nilchk [x0] L2 fun v3 L3=>
 wpOp F (.fad 0) [v3] L3 fun v4 L4=>
 wpOp F (.ld none) [v4] L4 fun v5 L5=>
 wpOp F (.iad 4) [v5,x1] L5 fun v6 L6=>
 wpOp F (.fad 0) [v6] L6 fun v7 L7=>
 wpOp F (.ld none) [v7] L7 fun v8 L8=>
 fin1 (some v8) Q L8)
theorem e_f104_1 (F:TF)(N:TN)(Q:TQ) (l t : Env) (L : Lg) : wp F (q_f104_1 N) l t L (fin [.tmp (.l 4)] Q) nE (fin [.tmp (.l 4)] Q) = D_f104_1 F N Q (l 0) (l 1) L := by kernel_rfl
def c_f104 (N : TN) : AFn := ⟨q_f104_1 N,[.tmp (.l 4)]⟩
structure H_f104 (N : TN) (F : TF) : Prop where
  code : F (N k_f104) = some (c_f104 N)
  f49 : H_f49 N F
theorem r_f104 {F : TF} {N : TN} (h : F (N k_f104) = some (c_f104 N)) {Q : TQ} {a0 a1 : AV} {L : Lg} (e : D_f104_1 F N Q a0 a1 L) : CallL F (N k_f104) [a0,a1] L Q :=
  CallL.of_wp h (Eq.mpr (Eq.trans (e_f104_1 F N Q (initE [a0,a1] 0) Env.nil L) (by kernel_rfl : _ = D_f104_1 F N Q a0 a1 L)) e)
def q_f105_1 (N : TN) : ACode := (.seq (.reg [⟨.l 4,none,.mv,[.c (.i .i64 0)]⟩]) (.seq (.seq (.reg [oQ (5,.mv,[.l 0]),oQ (6,.mv,[.l 1]),oQ (7,.call (N k_f78),[.t 5,.t 6]),oQ (8,.un .not,[.t 7])]) (.cond (.t 8) (.seq (.reg [⟨.l 4,none,.mv,[.c (.i .i64 0)]⟩]) .ret) .skip)) (.seq (.reg [oQ (9,.mv,[.l 0]),oQ (10,.nilchk,[.t 9]),oQ (11,.fad 3,[.t 10]),oQ (12,.ld none,[.t 11]),oQ (13,.mv,[.l 1]),oQ (14,.iad 4,[.t 12,.t 13]),oQ (15,.fad 0,[.t 14]),oQ (16,.ld none,[.t 15]),⟨.l 4,none,.mv,[.t 16]⟩]) .ret)))
noncomputable def D_f105_1 (F:TF)(N:TN)(Q:TQ) (x0 x1:AV) (L : Lg) : Prop :=
 CallL F (N k_f78) [x0,x1] L fun v1 L1=>
 wpOp F (.un .not) [v1] L1 fun v2 L2=>
 condW v2
 (fin1 (some (.i .i64 0)) Q L2)
 (wpOp F .nilchk [x0] L2 fun v3 L3=>
 wpOp F (.fad 3) [v3] L3 fun v4 L4=>
 wpOp F (.ld none) [v4] L4 fun v5 L5=>
 wpOp F (.iad 4) [v5,x1] L5 fun v6 L6=>
 wpOp F (.fad 0) [v6] L6 fun v7 L7=>
 wpOp F (.ld none) [v7] L7 fun v8 L8=>
 fin1 (some v8) Q L8)
theorem e_f105_1 (F:TF)(N:TN)(Q:TQ) (l t : Env) (L : Lg) : wp F (q_f105_1 N) l t L (fin [.tmp (.l 4)] Q) nE (fin [.tmp (.l 4)] Q) = D_f105_1 F N Q (l 0) (l 1) L := by kernel_rfl
def c_f105 (N : TN) : AFn := ⟨q_f105_1 N,[.tmp (.l 4)]⟩
structure H_f105 (N : TN) (F : TF) : Prop where
  code : F (N k_f105) = some (c_f105 N)
  f78 : H_f78 N F
theorem r_f105 {F : TF} {N : TN} (h : F (N k_f105) = some (c_f105 N)) {Q : TQ} {a0 a1 : AV} {L : Lg} (e : D_f105_1 F N Q a0 a1 L) : CallL F (N k_f105) [a0,a1] L Q :=
  CallL.of_wp h (Eq.mpr (Eq.trans (e_f105_1 F N Q (initE [a0,a1] 0) Env.nil L) (by kernel_rfl : _ = D_f105_1 F N Q a0 a1 L)) e)
def q_f106_1 (N : TN) : ACode := (.seq (.reg [⟨.l 4,none,.mv,[.c (.i .i64 0)]⟩]) (.seq (.seq (.reg [oQ (5,.mv,[.l 0]),oQ (6,.mv,[.l 1]),oQ (7,.call (N k_f78),[.t 5,.t 6]),oQ (8,.un .not,[.t 7])]) (.cond (.t 8) (.seq (.reg [⟨.l 4,none,.mv,[.c (.i .i64 0)]⟩]) .ret) .skip)) (.seq (.reg [oQ (9,.mv,[.l 0]),oQ (10,.nilchk,[.t 9]),oQ (11,.fad 3,[.t 10]),oQ (12,.ld none,[.t 11]),oQ (13,.mv,[.l 1]),oQ (14,.iad 4,[.t 12,.t 13]),oQ (15,.fad 3,[.t 14]),oQ (16,.ld none,[.t 15]),⟨.l 4,none,.mv,[.t 16]⟩]) .ret)))
noncomputable def D_f106_1 (F:TF)(N:TN)(Q:TQ) (x0 x1:AV) (L : Lg) : Prop :=
 CallL F (N k_f78) [x0,x1] L fun v1 L1=>
 wpOp F (.un .not) [v1] L1 fun v2 L2=>
 condW v2
 (fin1 (some (.i .i64 0)) Q L2)
 (wpOp F .nilchk [x0] L2 fun v3 L3=>
 wpOp F (.fad 3) [v3] L3 fun v4 L4=>
 wpOp F (.ld none) [v4] L4 fun v5 L5=>
 wpOp F (.iad 4) [v5,x1] L5 fun v6 L6=>
 wpOp F (.fad 3) [v6] L6 fun v7 L7=>
 wpOp F (.ld none) [v7] L7 fun v8 L8=>
 fin1 (some v8) Q L8)
theorem e_f106_1 (F:TF)(N:TN)(Q:TQ) (l t : Env) (L : Lg) : wp F (q_f106_1 N) l t L (fin [.tmp (.l 4)] Q) nE (fin [.tmp (.l 4)] Q) = D_f106_1 F N Q (l 0) (l 1) L := by kernel_rfl
def c_f106 (N : TN) : AFn := ⟨q_f106_1 N,[.tmp (.l 4)]⟩
structure H_f106 (N : TN) (F : TF) : Prop where
  code : F (N k_f106) = some (c_f106 N)
  f78 : H_f78 N F
theorem r_f106 {F : TF} {N : TN} (h : F (N k_f106) = some (c_f106 N)) {Q : TQ} {a0 a1 : AV} {L : Lg} (e : D_f106_1 F N Q a0 a1 L) : CallL F (N k_f106) [a0,a1] L Q :=
  CallL.of_wp h (Eq.mpr (Eq.trans (e_f106_1 F N Q (initE [a0,a1] 0) Env.nil L) (by kernel_rfl : _ = D_f106_1 F N Q a0 a1 L)) e)
def q_f107_3 (N : TN) : ACode := (.seq (.reg [oQ (49,.mv,[.l 0]),oQ (50,.nilchk,[.t 49]),oQ (51,.fad 3,[.t 50]),oQ (52,.ld none,[.t 51]),oQ (53,.mv,[.t 52]),gQ (54,53,false,.mv,[.l 0]),gQ (55,53,false,.nilchk,[.t 54]),gQ (56,53,false,.fad 5,[.t 55]),gQ (57,53,false,.ld none,[.t 56]),gQ (58,53,false,.lenSl,[.t 57]),gQ (59,53,false,.bin .gtr,[.t 58,.c (.i .i64 0)]),oQ (60,.pick,[.t 53,.c (.b true),.t 59]),oQ (61,.mv,[.t 60]),gQ (62,61,false,.mv,[.l 0]),gQ (63,61,false,.nilchk,[.t 62]),gQ (64,61,false,.fad 4,[.t 63]),gQ (65,61,false,.ld none,[.t 64]),gQ (66,61,false,.lenSl,[.t 65]),gQ (67,61,false,.bin .gtr,[.t 66,.c (.i .i64 0)]),oQ (68,.pick,[.t 61,.c (.b true),.t 67]),⟨.l 4,none,.mv,[.t 68]⟩]) .ret)
noncomputable def D_f107_3 (F:TF)(N:TN)(Q:TQ) (x0 : AV) (L : Lg) : Prop :=
 wpOp F .nilchk [x0] L fun v1 L1=>
 wpOp F (.fad 3) [v1] L1 fun v2 L2=>
 wpOp F (.ld none) [v2] L2 fun v3 L3=>
 gdOp F v3 false .mv [x0] L3 fun v4 L4=>
 gdOp F v3 false .nilchk [v4] L4 fun v5 L5=>
 gdOp F v3 false (.fad 5) [v5] L5 fun v6 L6=>
 gdOp F v3 false (.ld none) [v6] L6 fun v7 L7=>
 gdOp F v3 false .lenSl [v7] L7 fun v8 L8=>
 gdOp F v3 false (.bin .gtr) [v8,(.i .i64 0)] L8 fun v9 L9=>
 wpOp F .pick [v3,(.b true),v9] L9 fun v10 L10=>
 gdOp F v10 false .mv [x0] L10 fun v11 L11=>
 gdOp F v10 false .nilchk [v11] L11 fun v12 L12=>
 gdOp F v10 false (.fad 4) [v12] L12 fun v13 L13=>
 gdOp F v10 false (.ld none) [v13] L13 fun v14 L14=>
 gdOp F v10 false .lenSl [v14] L14 fun v15 L15=>
 gdOp F v10 false (.bin .gtr) [v15,(.i .i64 0)] L15 fun v16 L16=>
 wpOp F .pick [v10,(.b true),v16] L16 fun v17 L17=>
 fin1 (some v17) Q L17
theorem e_f107_3 (F:TF)(N:TN)(Q:TQ) (l t : Env) (L : Lg) : wp F (q_f107_3 N) l t L (fin [.tmp (.l 4)] Q) nE (fin [.tmp (.l 4)] Q) = D_f107_3 F N Q (l 0) L := by kernel_rfl
def w_f107_2 (F:TF)(N:TN)(Q:TQ) : Kn := (fun (l t : Env) (L : Lg) => D_f107_3 F N Q (l 0) L)
def y_f107_4 (F:TF)(N:TN)(Q:TQ) : Nat → Kn := (fun (j : Nat) (l t : Env) (L : Lg) => bif Nat.beq j 0 then (w_f107_2 F N Q) l t L else nE j l t L)
def q_f107_6 (N : TN) : ACode := (.cond (.t 5) (.seq (.reg [⟨.l 4,none,.mv,[.c (.b false)]⟩]) .ret) (.seq (.reg [oQ (24,.mv,[.l 1]),oQ (23,.mv,[.t 24])]) (.cond (.t 23) (.seq (.reg [oQ (25,.mv,[.l 0]),oQ (26,.nilchk,[.t 25]),oQ (27,.fad 3,[.t 26]),oQ (28,.ld none,[.t 27]),oQ (29,.mv,[.t 28]),gQ (30,29,false,.mv,[.l 0]),gQ (31,29,false,.nilchk,[.t 30]),gQ (32,29,false,.fad 6,[.t 31]),gQ (33,29,false,.ld none,[.t 32]),gQ (34,29,false,.lenSl,[.t 33]),gQ (35,29,false,.bin .gtr,[.t 34,.c (.i .i64 0)]),oQ (36,.pick,[.t 29,.c (.b true),.t 35]),oQ (37,.mv,[.t 36]),gQ (38,37,false,.mv,[.l 0]),gQ (39,37,false,.nilchk,[.t 38]),gQ (40,37,false,.fad 4,[.t 39]),gQ (41,37,false,.ld none,[.t 40]),gQ (42,37,false,.lenSl,[.t 41]),gQ (43,37,false,.mv,[.l 0]),gQ (44,37,false,.nilchk,[.t 43]),gQ (45,37,false,.fad 0,[.t 44]),gQ (46,37,false,.ld none,[.t 45]),gQ (47,37,false,.bin .lss,[.t 42,.t 46]),oQ (48,.pick,[.t 37,.c (.b true),.t 47]),⟨.l 4,none,.mv,[.t 48]⟩]) .ret) .skip)))
noncomputable def D_f107_6 (F:TF)(N:TN)(Q:TQ) (x0 x1:AV) (t5 : AV) (L : Lg) : Prop :=
 condW t5
 (fin1 (some (.b false)) Q L)
 (condW x1
 (wpOp F .nilchk [x0] L fun v1 L1=>
 wpOp F (.fad 3) [v1] L1 fun v2 L2=>
 wpOp F (.ld none) [v2] L2 fun v3 L3=>
 gdOp F v3 false .mv [x0] L3 fun v4 L4=>
 gdOp F v3 false .nilchk [v4] L4 fun v5 L5=>
 gdOp F v3 false (.fad 6) [v5] L5 fun v6 L6=>
 gdOp F v3 false (.ld none) [v6] L6 fun v7 L7=>
 gdOp F v3 false .lenSl [v7] L7 fun v8 L8=>
 gdOp F v3 false (.bin .gtr) [v8,(.i .i64 0)] L8 fun v9 L9=>
 wpOp F .pick [v3,(.b true),v9] L9 fun v10 L10=>
 gdOp F v10 false .mv [x0] L10 fun v11 L11=>
 gdOp F v10 false .nilchk [v11] L11 fun v12 L12=>
 gdOp F v10 false (.fad 4) [v12] L12 fun v13 L13=>
 gdOp F v10 false (.ld none) [v13] L13 fun v14 L14=>
 gdOp F v10 false .lenSl [v14] L14 fun v15 L15=>
 gdOp F v10 false .mv [x0] L15 fun v16 L16=>
 gdOp F v10 false .nilchk [v16] L16 fun v17 L17=>
 gdOp F v10 false (.fad 0) [v17] L17 fun v18 L18=>
 gdOp F v10 false (.ld none) [v18] L18 fun v19 L19=>
 gdOp F v10 false (.bin .lss) [v15,v19] L19 fun v20 L20=>
 wpOp F .pick [v10,(.b true),v20] L20 fun v21 L21=>
 fin1 (some v21) Q L21)
 (D_f107_3 F N Q x0 L))
theorem e_f107_6 (F:TF)(N:TN)(Q:TQ) (l t : Env) (L : Lg) : wp F (q_f107_6 N) l t L (w_f107_2 F N Q) (y_f107_4 F N Q) (fin [.tmp (.l 4)] Q) = D_f107_6 F N Q (l 0) (l 1) (t 5) L := by kernel_rfl
def q_f107_5a (N : TN) : ACode := (.reg [oQ (6,.mv,[.l 0]),oQ (7,.eq false .ptr,[.t 6,.c (.p none)]),oQ (8,.mv,[.t 7]),gQ (9,8,false,.mv,[.l 1]),gQ (10,8,false,.mv,[.t 9]),gQ (11,10,true,.mv,[.l 0]),gQ (12,10,true,.nilchk,[.t 11]),gQ (13,10,true,.fad 1,[.t 12]),gQ (14,10,true,.ld none,[.t 13]),gQ (15,10,true,.mv,[.t 14]),gQ (16,15,false,.mv,[.l 0]),gQ (17,15,false,.nilchk,[.t 16]),gQ (18,15,false,.fad 2,[.t 17]),gQ (19,15,false,.ld none,[.t 18]),gQ (20,10,true,.pick,[.t 15,.c (.b true),.t 19]),gQ (21,8,false,.pick,[.t 10,.t 20,.c (.b false)]),oQ (22,.pick,[.t 8,.c (.b true),.t 21]),oQ (5,.mv,[.t 22])])
def q_f107_5 (N : TN) : ACode := (.seq (q_f107_5a N) (q_f107_6 N))
noncomputable def D_f107_5 (F:TF)(N:TN)(Q:TQ) (x0 x1:AV) (L : Lg) : Prop :=
 wpOp F (.eq false .ptr) [x0,(.p none)] L fun v1 L1=>
 gdOp F v1 false .mv [x1] L1 fun v2 L2=>
 gdOp F v1 false .mv [v2] L2 fun v3 L3=>
 gdOp F v3 true .mv [x0] L3 fun v4 L4=>
 gdOp F v3 true .nilchk [v4] L4 fun v5 L5=>
 gdOp F v3 true (.fad 1) [v5] L5 fun v6 L6=>
 gdOp F v3 true (.ld none) [v6] L6 fun v7 L7=>
 gdOp F v3 true .mv [v7] L7 fun v8 L8=>
 gdOp F v8 false .mv [x0] L8 fun v9 L9=>
 gdOp F v8 false .nilchk [v9] L9 fun v10 L10=>
 gdOp F v8 false (.fad 2) [v10] L10 fun v11 L11=>
 gdOp F v8 false (.ld none) [v11] L11 fun v12 L12=>
 gdOp F v3 true .pick [v8,(.b true),v12] L12 fun v13 L13=>
 gdOp F v1 false .pick [v3,v13,(.b false)] L13 fun v14 L14=>
 wpOp F .pick [v1,(.b true),v14] L14 fun v15 L15=>
 D_f107_6 F N Q x0 x1 v15 L15
theorem e_f107_5 (F:TF)(N:TN)(Q:TQ) (l t : Env) (L : Lg) : wp F (q_f107_5 N) l t L (w_f107_2 F N Q) (y_f107_4 F N Q) (fin [.tmp (.l 4)] Q) = D_f107_5 F N Q (l 0) (l 1) L := wpS (e_f107_6 F N Q) (by kernel_rfl)
def q_f107_4 (N : TN) : ACode := (.block 0 (q_f107_5 N))
theorem e_f107_4 (F:TF)(N:TN)(Q:TQ) (l t : Env) (L : Lg) : wp F (q_f107_4 N) l t L (w_f107_2 F N Q) nE (fin [.tmp (.l 4)] Q) = D_f107_5 F N Q (l 0) (l 1) L := wpB (e_f107_5 F N Q l t L)
def q_f107_2 (N : TN) : ACode := (.seq (q_f107_4 N) (q_f107_3 N))
theorem e_f107_2 (F:TF)(N:TN)(Q:TQ) (l t : Env) (L : Lg) : wp F (q_f107_2 N) l t L (fin [.tmp (.l 4)] Q) nE (fin [.tmp (.l 4)] Q) = D_f107_5 F N Q (l 0) (l 1) L := wpS (e_f107_3 F N Q) (e_f107_4 F N Q l t L)
def q_f107_1a (N : TN) : ACode := (.reg [⟨.l 4,none,.mv,[.c (.b false)]⟩])
def q_f107_1 (N : TN) : ACode := (.seq (q_f107_1a N) (q_f107_2 N))
noncomputable def D_f107_1 (F:TF)(N:TN)(Q:TQ) (x0 x1:AV) (L : Lg) : Prop :=
 D_f107_5 F N Q x0 x1 L
theorem e_f107_1 (F:TF)(N:TN)(Q:TQ) (l t : Env) (L : Lg) : wp F (q_f107_1 N) l t L (fin [.tmp (.l 4)] Q) nE (fin [.tmp (.l 4)] Q) = D_f107_1 F N Q (l 0) (l 1) L := wpS (e_f107_2 F N Q) (by kernel_rfl)
def c_f107 (N : TN) : AFn := ⟨q_f107_1 N,[.tmp (.l 4)]⟩
structure H_f107 (N : TN) (F : TF) : Prop where
  code : F (N k_f107) = some (c_f107 N)
theorem r_f107 {F : TF} {N : TN} (h : F (N k_f107) = some (c_f107 N)) {Q : TQ} {a0 a1 : AV} {L : Lg} (e : D_f107_1 F N Q a0 a1 L) : CallL F (N k_f107) [a0,a1] L Q :=
  CallL.of_wp h (Eq.mpr (Eq.trans (e_f107_1 F N Q (initE [a0,a1] 0) Env.nil L) (by kernel_rfl : _ = D_f107_1 F N Q a0 a1 L)) e)
def q_f108_1 (N : TN) : ACode := (.seq (.reg [⟨.l 2,none,.mv,[.c (.i .i64 0)]⟩]) (.seq (.seq (.reg [oQ (3,.mv,[.l 0]),oQ (4,.eq false .ptr,[.t 3,.c (.p none)]),oQ (5,.mv,[.t 4]),gQ (6,5,false,.mv,[.l 0]),gQ (7,5,false,.nilchk,[.t 6]),gQ (8,5,false,.fad 3,[.t 7]),gQ (9,5,false,.ld none,[.t 8]),oQ (10,.pick,[.t 5,.c (.b true),.t 9])]) (.cond (.t 10) (.seq (.reg [⟨.l 2,none,.mv,[.c (.i .i64 0)]⟩]) .ret) .skip)) (.seq (.reg [oQ (11,.mv,[.l 0]),oQ (12,.nilchk,[.t 11]),oQ (13,.fad 0,[.t 12]),oQ (14,.ld none,[.t 13]),oQ (15,.call (N k_f6),[.t 14]),⟨.l 2,none,.mv,[.t 15]⟩]) .ret)))
noncomputable def D_f108_1 (F:TF)(N:TN)(Q:TQ) (x0 : AV) (L : Lg) : Prop :=
 wpOp F (.eq false .ptr) [x0,(.p none)] L fun v1 L1=>
 gdOp F v1 false .mv [x0] L1 fun v2 L2=>
 gdOp F v1 false .nilchk [v2] L2 fun v3 L3=>
 gdOp F v1 false (.fad 3) [v3] L3 fun v4 L4=>
 gdOp F v1 false (.ld none) [v4] L4 fun v5 L5=>
 wpOp F .pick [v1,(.b true),v5] L5 fun v6 L6=>
 condW v6
 (fin1 (some (.i .i64 0)) Q L6)
 (wpOp F .nilchk [x0] L6 fun v7 L7=>
 wpOp F (.fad 0) [v7] L7 fun v8 L8=>
 wpOp F (.ld none) [v8] L8 fun v9 L9=>
 CallL F (N k_f6) [v9] L9 fun v10 L10=>
 fin1 (some v10) Q L10)
theorem e_f108_1 (F:TF)(N:TN)(Q:TQ) (l t : Env) (L : Lg) : wp F (q_f108_1 N) l t L (fin [.tmp (.l 2)] Q) nE (fin [.tmp (.l 2)] Q) = D_f108_1 F N Q (l 0) L := by kernel_rfl
def c_f108 (N : TN) : AFn := ⟨q_f108_1 N,[.tmp (.l 2)]⟩
structure H_f108 (N : TN) (F : TF) : Prop where
  code : F (N k_f108) = some (c_f108 N)
  f6 : H_f6 N F
theorem r_f108 {F : TF} {N : TN} (h : F (N k_f108) = some (c_f108 N)) {Q : TQ} {a0 : AV} {L : Lg} (e : D_f108_1 F N Q a0 L) : CallL F (N k_f108) [a0] L Q :=
  CallL.of_wp h (Eq.mpr (Eq.trans (e_f108_1 F N Q (initE [a0] 0) Env.nil L) (by kernel_rfl : _ = D_f108_1 F N Q a0 L)) e)
def q_f109_1 (N : TN) : ACode := (.seq (.reg [⟨.l 2,none,.mv,[.c (.i .i64 0)]⟩]) (.seq (.seq (.reg [oQ (3,.mv,[.l 0]),oQ (4,.eq false .ptr,[.t 3,.c (.p none)]),oQ (5,.mv,[.t 4]),gQ (6,5,false,.mv,[.l 0]),gQ (7,5,false,.nilchk,[.t 6]),gQ (8,5,false,.fad 3,[.t 7]),gQ (9,5,false,.ld none,[.t 8]),oQ (10,.pick,[.t 5,.c (.b true),.t 9])]) (.cond (.t 10) (.seq (.reg [⟨.l 2,none,.mv,[.c (.i .i64 0)]⟩]) .ret) .skip)) (.seq (.reg [oQ (11,.mv,[.l 0]),oQ (12,.nilchk,[.t 11]),oQ (13,.fad 0,[.t 12]),oQ (14,.ld none,[.t 13]),oQ (15,.call (N k_f7),[.t 14]),⟨.l 2,none,.mv,[.t 15]⟩]) .ret)))
noncomputable def D_f109_1 (F:TF)(N:TN)(Q:TQ) (x0 : AV) (L : Lg) : Prop :=
 wpOp F (.eq false .ptr) [x0,(.p none)] L fun v1 L1=>
 gdOp F v1 false .mv [x0] L1 fun v2 L2=>
 gdOp F v1 false .nilchk [v2] L2 fun v3 L3=>
 gdOp F v1 false (.fad 3) [v3] L3 fun v4 L4=>
 gdOp F v1 false (.ld none) [v4] L4 fun v5 L5=>
 wpOp F .pick [v1,(.b true),v5] L5 fun v6 L6=>
 condW v6
 (fin1 (some (.i .i64 0)) Q L6)
 (wpOp F .nilchk [x0] L6 fun v7 L7=>
 wpOp F (.fad 0) [v7] L7 fun v8 L8=>
 wpOp F (.ld none) [v8] L8 fun v9 L9=>
 CallL F (N k_f7) [v9] L9 fun v10 L10=>
 fin1 (some v10) Q L10)
theorem e_f109_1 (F:TF)(N:TN)(Q:TQ) (l t : Env) (L : Lg) : wp F (q_f109_1 N) l t L (fin [.tmp (.l 2)] Q) nE (fin [.tmp (.l 2)] Q) = D_f109_1 F N Q (l 0) L := by kernel_rfl
def c_f109 (N : TN) : AFn := ⟨q_f109_1 N,[.tmp (.l 2)]⟩
structure H_f109 (N : TN) (F : TF) : Prop where
  code : F (N k_f109) = some (c_f109 N)
  f7 : H_f7 N F
theorem r_f109 {F : TF} {N : TN} (h : F (N k_f109) = some (c_f109 N)) {Q : TQ} {a0 : AV} {L : Lg} (e : D_f109_1 F N Q a0 L) : CallL F (N k_f109) [a0] L Q :=
  CallL.of_wp h (Eq.mpr (Eq.trans (e_f109_1 F N Q (initE [a0] 0) Env.nil L) (by kernel_rfl : _ = D_f109_1 F N Q a0 L)) e)
def q_f110_6 (N : TN) : ACode := .ret
noncomputable def D_f110_6 (F:TF)(N:TN)(Q:TQ) (x4 : AV) (L : Lg) : Prop :=
 fin1 (some x4) Q L
theorem e_f110_6 (F:TF)(N:TN)(Q:TQ) (l t : Env) (L : Lg) : wp F (q_f110_6 N) l t L (fin [.tmp (.l 4)] Q) nE (fin [.tmp (.l 4)] Q) = D_f110_6 F N Q (l 4) L := by kernel_rfl
def q_f110_5a (N : TN) : ACode := (.regD [oQ (39,.mv,[.l 0]),oQ (40,.nilchk,[.t 39]),oQ (41,.fad 0,[.t 40]),oQ (42,.ld none,[.t 41]),oQ (43,.call (N k_f103),[.t 42]),oQ (44,.mv,[.l 0]),oQ (45,.nilchk,[.t 44]),oQ (46,.fad 1,[.t 45]),oQ (47,.ld none,[.t 46]),oQ (48,.nilchk,[.t 47]),oQ (49,.fad 3,[.t 48]),oQ (50,.ld none,[.t 49]),oQ (51,.lenSl,[.t 50]),oQ (52,.bin .eql,[.t 43,.t 51]),oQ (53,.mv,[.t 52]),gQ (54,53,true,.mv,[.l 0]),gQ (55,53,true,.nilchk,[.t 54]),gQ (56,53,true,.fad 0,[.t 55]),gQ (57,53,true,.ld none,[.t 56]),gQ (58,53,true,.mv,[.l 1]),gQ (59,53,true,.call (N k_f104),[.t 57,.t 58]),gQ (60,53,true,.mv,[.l 0]),gQ (61,53,true,.nilchk,[.t 60]),gQ (62,53,true,.fad 1,[.t 61]),gQ (63,53,true,.ld none,[.t 62]),gQ (64,53,true,.mv,[.l 1]),gQ (65,53,true,.call (N k_f105),[.t 63,.t 64]),gQ (66,53,true,.bin .eql,[.t 59,.t 65]),oQ (67,.pick,[.t 53,.t 66,.c (.b false)]),oQ (68,.mv,[.t 67]),gQ (69,68,true,.mv,[.l 0]),gQ (70,68,true,.nilchk,[.t 69]),gQ (71,68,true,.fad 0,[.t 70]),gQ (72,68,true,.ld none,[.t 71]),gQ (73,68,true,.mv,[.l 1]),gQ (74,68,true,.call (N k_f60),[.t 72,.t 73]),gQ (75,68,true,.mv,[.l 0]),gQ (76,68,true,.nilchk,[.t 75]),gQ (77,68,true,.fad 1,[.t 76]),gQ (78,68,true,.ld none,[.t 77]),gQ (79,68,true,.mv,[.l 1]),gQ (80,68,true,.call (N k_f106),[.t 78,.t 79]),gQ (81,68,true,.bin .eql,[.t 74,.t 80]),oQ (82,.pick,[.t 68,.t 81,.c (.b false)]),oQ (83,.mv,[.t 82]),gQ (84,83,true,.mv,[.l 6]),gQ (85,83,true,.mv,[.l 7]),gQ (86,83,true,.lenSl,[.t 85]),gQ (87,83,true,.bin .gtr,[.t 86,.c (.i .i64 0)]),gQ (88,83,true,.eq false .bool,[.t 84,.t 87]),oQ (89,.pick,[.t 83,.t 88,.c (.b false)]),oQ (90,.mv,[.t 89]),gQ (91,90,true,.mv,[.l 6]),gQ (92,90,true,.un .not,[.t 91]),gQ (93,90,true,.mv,[.t 92]),gQ (94,93,false,.mv,[.l 5]),gQ (95,93,false,.mv,[.l 7]),gQ (96,93,false,.iad 3,[.t 95,.c (.i .i64 0)]),gQ (97,93,false,.fad 1,[.t 96]),gQ (98,93,false,.ld none,[.t 97]),gQ (99,93,false,.bin .eql,[.t 94,.t 98]),gQ (100,90,true,.pick,[.t 93,.c (.b true),.t 99]),oQ (101,.pick,[.t 90,.t 100,.c (.b false)]),oQ (102,.mv,[.t 101]),gQ (103,102,true,.mv,[.l 8]),gQ (104,102,true,.eq false .ptr,[.t 103,.c (.p none)]),gQ (105,102,true,.mv,[.l 9]),gQ (106,102,true,.eq false .ptr,[.t 105,.c (.p none)]),gQ (107,102,true,.eq false .bool,[.t 104,.t 106]),oQ (108,.pick,[.t 102,.t 107,.c (.b false)]),oQ (109,.mv,[.t 108]),gQ (110,109,true,.mv,[.l 8]),gQ (111,109,true,.call (N k_f59),[.t 110,.c (.b false)]),gQ (112,109,true,.mv,[.l 9]),gQ (113,109,true,.call (N k_f107),[.t 112,.c (.b false)]),gQ (114,109,true,.eq false .bool,[.t 111,.t 113]),oQ (115,.pick,[.t 109,.t 114,.c (.b false)]),oQ (116,.mv,[.t 115]),gQ (117,116,true,.mv,[.l 8]),gQ (118,116,true,.call (N k_f108),[.t 117]),gQ (119,116,true,.bin .eql,[.t 118,.c (.i .i64 0)]),oQ (120,.pick,[.t 116,.t 119,.c (.b false)]),oQ (121,.mv,[.t 120]),gQ (122,121,true,.mv,[.l 8]),gQ (123,121,true,.call (N k_f109),[.t 122]),gQ (124,121,true,.bin .eql,[.t 123,.c (.i .i64 0)]),oQ (125,.pick,[.t 121,.t 124,.c (.b false)]),⟨.l 4,none,.mv,[.t 125]⟩] [(8,0),(11,0),(24,5),(39,27)])
def q_f110_5 (N : TN) : ACode := (.seq (q_f110_5a N) (q_f110_6 N))
noncomputable def D_f110_5 (F:TF)(N:TN)(Q:TQ) (x0 x1 x5 x6 x7 x8 x9:AV) (L : Lg) : Prop :=
 wpOp F .nilchk [x0] L fun v1 L1=>
 wpOp F (.fad 0) [v1] L1 fun v2 L2=>
 wpOp F (.ld none) [v2] L2 fun v3 L3=>
 CallL F (N k_f103) [v3] L3 fun v4 L4=>
 wpOp F .nilchk [x0] L4 fun v5 L5=>
 wpOp F (.fad 1) [v5] L5 fun v6 L6=>
 wpOp F (.ld none) [v6] L6 fun v7 L7=>
 wpOp F .nilchk [v7] L7 fun v8 L8=>
 wpOp F (.fad 3) [v8] L8 fun v9 L9=>
 wpOp F (.ld none) [v9] L9 fun v10 L10=>
 wpOp F .lenSl [v10] L10 fun v11 L11=>
 wpOp F (.bin .eql) [v4,v11] L11 fun v12 L12=>
 gdOp F v12 true .mv [x0] L12 fun v13 L13=>
 gdOp F v12 true .nilchk [v13] L13 fun v14 L14=>
 gdOp F v12 true (.fad 0) [v14] L14 fun v15 L15=>
 gdOp F v12 true (.ld none) [v15] L15 fun v16 L16=>
 gdOp F v12 true .mv [x1] L16 fun v17 L17=>
 gdOp F v12 true (.call (N k_f104)) [v16,v17] L17 fun v18 L18=>
 gdOp F v12 true .mv [x0] L18 fun v19 L19=>
 gdOp F v12 true .nilchk [v19] L19 fun v20 L20=>
 gdOp F v12 true (.fad 1) [v20] L20 fun v21 L21=>
 gdOp F v12 true (.ld none) [v21] L21 fun v22 L22=>
 gdOp F v12 true .mv [x1] L22 fun v23 L23=>
 gdOp F v12 true (.call (N k_f105)) [v22,v23] L23 fun v24 L24=>
 gdOp F v12 true (.bin .eql) [v18,v24] L24 fun v25 L25=>
 wpOp F .pick [v12,v25,(.b false)] L25 fun v26 L26=>
 gdOp F v26 true .mv [x0] L26 fun v27 L27=>
 gdOp F v26 true .nilchk [v27] L27 fun v28 L28=>
 gdOp F v26 true (.fad 0) [v28] L28 fun v29 L29=>
 gdOp F v26 true (.ld none) [v29] L29 fun v30 L30=>
 gdOp F v26 true .mv [x1] L30 fun v31 L31=>
 gdOp F v26 true (.call (N k_f60)) [v30,v31] L31 fun v32 L32=>
 gdOp F v26 true .mv [x0] L32 fun v33 L33=>
 gdOp F v26 true .nilchk [v33] L33 fun v34 L34=>
 gdOp F v26 true (.fad 1) [v34] L34 fun v35 L35=>
 gdOp F v26 true (.ld none) [v35] L35 fun v36 L36=>
 gdOp F v26 true .mv [x1] L36 fun v37 L37=>
 gdOp F v26 true (.call (N k_f106)) [v36,v37] L37 fun v38 L38=>
 gdOp F v26 true (.bin .eql) [v32,v38] L38 fun v39 L39=>
 wpOp F .pick [v26,v39,(.b false)] L39 fun v40 L40=>
 gdOp F v40 true .mv [x6] L40 fun v41 L41=>
 gdOp F v40 true .mv [x7] L41 fun v42 L42=>
 gdOp F v40 true .lenSl [v42] L42 fun v43 L43=>
 gdOp F v40 true (.bin .gtr) [v43,(.i .i64 0)] L43 fun v44 L44=>
 gdOp F v40 true (.eq false .bool) [v41,v44] L44 fun v45 L45=>
 wpOp F .pick [v40,v45,(.b false)] L45 fun v46 L46=>
 gdOp F v46 true .mv [x6] L46 fun v47 L47=>
 gdOp F v46 true (.un .not) [v47] L47 fun v48 L48=>
 gdOp F v46 true .mv [v48] L48 fun v49 L49=>
 gdOp F v49 false .mv [x5] L49 fun v50 L50=>
 gdOp F v49 false .mv [x7] L50 fun v51 L51=>
 gdOp F v49 false (.iad 3) [v51,(.i .i64 0)] L51 fun v52 L52=>
 gdOp F v49 false (.fad 1) [v52] L52 fun v53 L53=>
 gdOp F v49 false (.ld none) [v53] L53 fun v54 L54=>
 gdOp F v49 false (.bin .eql) [v50,v54] L54 fun v55 L55=>
 gdOp F v46 true .pick [v49,(.b true),v55] L55 fun v56 L56=>
 wpOp F .pick [v46,v56,(.b false)] L56 fun v57 L57=>
 gdOp F v57 true .mv [x8] L57 fun v58 L58=>
 gdOp F v57 true (.eq false .ptr) [v58,(.p none)] L58 fun v59 L59=>
 gdOp F v57 true .mv [x9] L59 fun v60 L60=>
 gdOp F v57 true (.eq false .ptr) [v60,(.p none)] L60 fun v61 L61=>
 gdOp F v57 true (.eq false .bool) [v59,v61] L61 fun v62 L62=>
 wpOp F .pick [v57,v62,(.b false)] L62 fun v63 L63=>
 gdOp F v63 true .mv [x8] L63 fun v64 L64=>
 gdOp F v63 true (.call (N k_f59)) [v64,(.b false)] L64 fun v65 L65=>
 gdOp F v63 true .mv [x9] L65 fun v66 L66=>
 gdOp F v63 true (.call (N k_f107)) [v66,(.b false)] L66 fun v67 L67=>
 gdOp F v63 true (.eq false .bool) [v65,v67] L67 fun v68 L68=>
 wpOp F .pick [v63,v68,(.b false)] L68 fun v69 L69=>
 gdOp F v69 true .mv [x8] L69 fun v70 L70=>
 gdOp F v69 true (.call (N k_f108)) [v70] L70 fun v71 L71=>
 gdOp F v69 true (.bin .eql) [v71,(.i .i64 0)] L71 fun v72 L72=>
 wpOp F .pick [v69,v72,(.b false)] L72 fun v73 L73=>
 gdOp F v73 true .mv [x8] L73 fun v74 L74=>
 gdOp F v73 true (.call (N k_f109)) [v74] L74 fun v75 L75=>
 gdOp F v73 true (.bin .eql) [v75,(.i .i64 0)] L75 fun v76 L76=>
 wpOp F .pick [v73,v76,(.b false)] L76 fun v77 L77=>
 (againV (.ld none) [v6] L6 L ∧ againV (.ld none) [v9] L9 L ∧ againG v12 true (againV (.ld none) [v21] L21 L4) ∧ againG v26 true (againV (.ld none) [v35] L35 L24) ∧ True) ∧ (D_f110_6 F N Q v77 L77)
theorem e_f110_5 (F:TF)(N:TN)(Q:TQ) (l t : Env) (L : Lg) : wp F (q_f110_5 N) l t L (fin [.tmp (.l 4)] Q) nE (fin [.tmp (.l 4)] Q) = D_f110_5 F N Q (l 0) (l 1) (l 5) (l 6) (l 7) (l 8) (l 9) L := wpS (e_f110_6 F N Q) (by kernel_rfl)
def q_f110_4a (N : TN) : ACode := (.regD [oQ (27,.mv,[.l 0]),oQ (28,.nilchk,[.t 27]),oQ (29,.fad 0,[.t 28]),oQ (30,.ld none,[.t 29]),oQ (31,.mv,[.l 1]),oQ (32,.call (N k_f90),[.t 30,.t 31]),oQ (33,.mv,[.l 0]),oQ (34,.nilchk,[.t 33]),oQ (35,.fad 1,[.t 34]),oQ (36,.ld none,[.t 35]),oQ (37,.mv,[.l 1]),oQ (38,.call (N k_f92),[.t 36,.t 37]),⟨.l 8,none,.mv,[.t 32]⟩,⟨.l 9,none,.mv,[.t 38]⟩] [(9,0)])
def q_f110_4 (N : TN) : ACode := (.seq (q_f110_4a N) (q_f110_5 N))
noncomputable def D_f110_4 (F:TF)(N:TN)(Q:TQ) (x0 x1 x5 x6 x7:AV) (L : Lg) : Prop :=
 wpOp F .nilchk [x0] L fun v1 L1=>
 wpOp F (.fad 0) [v1] L1 fun v2 L2=>
 wpOp F (.ld none) [v2] L2 fun v3 L3=>
 CallL F (N k_f90) [v3,x1] L3 fun v4 L4=>
 wpOp F .nilchk [x0] L4 fun v5 L5=>
 wpOp F (.fad 1) [v5] L5 fun v6 L6=>
 wpOp F (.ld none) [v6] L6 fun v7 L7=>
 CallL F (N k_f92) [v7,x1] L7 fun v8 L8=>
 (againV (.ld none) [v6] L6 L ∧ True) ∧ (D_f110_5 F N Q x0 x1 x5 x6 x7 v4 v8 L8)
theorem e_f110_4 (F:TF)(N:TN)(Q:TQ) (l t : Env) (L : Lg) : wp F (q_f110_4 N) l t L (fin [.tmp (.l 4)] Q) nE (fin [.tmp (.l 4)] Q) = D_f110_4 F N Q (l 0) (l 1) (l 5) (l 6) (l 7) L := wpS (e_f110_5 F N Q) (by kernel_rfl)
def q_f110_3a (N : TN) : ACode := (.reg [oQ (18,.mv,[.l 0]),oQ (19,.nilchk,[.t 18]),oQ (20,.fad 1,[.t 19]),oQ (21,.ld none,[.t 20]),oQ (22,.nilchk,[.t 21]),oQ (23,.fad 0,[.t 22]),oQ (24,.fad 0,[.t 23]),oQ (25,.fad 0,[.t 24]),oQ (26,.ld none,[.t 25]),⟨.l 7,none,.mv,[.t 26]⟩])
def q_f110_3 (N : TN) : ACode := (.seq (q_f110_3a N) (q_f110_4 N))
noncomputable def D_f110_3 (F:TF)(N:TN)(Q:TQ) (x0 x1 x5 x6:AV) (L : Lg) : Prop :=
 wpOp F .nilchk [x0] L fun v1 L1=>
 wpOp F (.fad 1) [v1] L1 fun v2 L2=>
 wpOp F (.ld none) [v2] L2 fun v3 L3=>
 wpOp F .nilchk [v3] L3 fun v4 L4=>
 wpOp F (.fad 0) [v4] L4 fun v5 L5=>
 wpOp F (.fad 0) [v5] L5 fun v6 L6=>
 wpOp F (.fad 0) [v6] L6 fun v7 L7=>
 wpOp F (.ld none) [v7] L7 fun v8 L8=>
 D_f110_4 F N Q x0 x1 x5 x6 v8 L8
theorem e_f110_3 (F:TF)(N:TN)(Q:TQ) (l t : Env) (L : Lg) : wp F (q_f110_3 N) l t L (fin [.tmp (.l 4)] Q) nE (fin [.tmp (.l 4)] Q) = D_f110_3 F N Q (l 0) (l 1) (l 5) (l 6) L := wpS (e_f110_4 F N Q) (by kernel_rfl)
def q_f110_2a (N : TN) : ACode := (.reg [oQ (11,.mv,[.l 0]),oQ (12,.nilchk,[.t 11]),oQ (13,.fad 0,[.t 12]),oQ (14,.ld none,[.t 13]),oQ (15,.call (N k_f102),[.t 14]),oQ (10,.mv,[.t 15]),oQ (16,.ext 0,[.t 10]),oQ (17,.ext 1,[.t 10]),⟨.l 5,none,.mv,[.t 16]⟩,⟨.l 6,none,.mv,[.t 17]⟩])
def q_f110_2 (N : TN) : ACode := (.seq (q_f110_2a N) (q_f110_3 N))
noncomputable def D_f110_2 (F:TF)(N:TN)(Q:TQ) (x0 x1:AV) (L : Lg) : Prop :=
 wpOp F .nilchk [x0] L fun v1 L1=>
 wpOp F (.fad 0) [v1] L1 fun v2 L2=>
 wpOp F (.ld none) [v2] L2 fun v3 L3=>
 CallL F (N k_f102) [v3] L3 fun v4 L4=>
 wpOp F (.ext 0) [v4] L4 fun v5 L5=>
 wpOp F (.ext 1) [v4] L5 fun v6 L6=>
 D_f110_3 F N Q x0 x1 v5 v6 L6
theorem e_f110_2 (F:TF)(N:TN)(Q:TQ) (l t : Env) (L : Lg) : wp F (q_f110_2 N) l t L (fin [.tmp (.l 4)] Q) nE (fin [.tmp (.l 4)] Q) = D_f110_2 F N Q (l 0) (l 1) L := wpS (e_f110_3 F N Q) (by kernel_rfl)
def q_f110_1a (N : TN) : ACode := (.reg [⟨.l 4,none,.mv,[.c (.b false)]⟩])
def q_f110_1 (N : TN) : ACode := (.seq (q_f110_1a N) (q_f110_2 N))
noncomputable def D_f110_1 (F:TF)(N:TN)(Q:TQ) (x0 x1:AV) (L : Lg) : Prop :=
 D_f110_2 F N Q x0 x1 L
theorem e_f110_1 (F:TF)(N:TN)(Q:TQ) (l t : Env) (L : Lg) : wp F (q_f110_1 N) l t L (fin [.tmp (.l 4)] Q) nE (fin [.tmp (.l 4)] Q) = D_f110_1 F N Q (l 0) (l 1) L := wpS (e_f110_2 F N Q) (by kernel_rfl)
def c_f110 (N : TN) : AFn := ⟨q_f110_1 N,[.tmp (.l 4)]⟩
structure H_f110 (N : TN) (F : TF) : Prop where
  code : F (N k_f110) = some (c_f110 N)
  f102 : H_f102 N F
  f90 : H_f90 N F
  f92 : H_f92 N F
  f103 : H_f103 N F
  f104 : H_f104 N F
  f105 : H_f105 N F
  f60 : H_f60 N F
  f106 : H_f106 N F
  f59 : H_f59 N F
  f107 : H_f107 N F
  f108 : H_f108 N F
  f109 : H_f109 N F
theorem r_f110 {F : TF} {N : TN} (h : F (N k_f110) = some (c_f110 N)) {Q : TQ} {a0 a1 : AV} {L : Lg} (e : D_f110_1 F N Q a0 a1 L) : CallL F (N k_f110) [a0,a1] L Q :=
  CallL.of_wp h (Eq.mpr (Eq.trans (e_f110_1 F N Q (initE [a0,a1] 0) Env.nil L) (by kernel_rfl : _ = D_f110_1 F N Q a0 a1 L)) e)
def q_f111_6 (N : TN) : ACode := (.seq (.reg [oQ (42,.call (N k_f61),[]),⟨.l 2,none,.mv,[.t 42]⟩]) .ret)
noncomputable def D_f111_6 (F:TF)(N:TN)(Q:TQ) (L : Lg) : Prop :=
 CallL F (N k_f61) [] L fun v1 L1=>
 fin1 (some v1) Q L1
theorem e_f111_6 (F:TF)(N:TN)(Q:TQ) (l t : Env) (L : Lg) : wp F (q_f111_6 N) l t L (fin [.tmp (.l 2)] Q) nE (fin [.tmp (.l 2)] Q) = D_f111_6 F N Q L := by kernel_rfl
def w_f111_5 (F:TF)(N:TN)(Q:TQ) : Kn := (fun (l t : Env) (L : Lg) => D_f111_6 F N Q L)
def y_f111_8 (F:TF)(N:TN)(Q:TQ) : Nat → Kn := (fun (j : Nat) (l t : Env) (L : Lg) => bif Nat.beq j 0 then (w_f111_5 F N Q) l t L else nE j l t L)
def q_f111_10 (N : TN) : ACode := (.seq (.seq (.reg [oQ (19,.mv,[.l 4]),oQ (20,.mv,[.l 0]),oQ (21,.lenSl,[.t 20]),oQ (22,.bin .lss,[.t 19,.t 21])]) (.cond (.t 22) .skip (.exit 0))) (.seq (.block 1 (.seq (.reg [oQ (25,.mv,[.l 3]),oQ (26,.mv,[.l 0]),oQ (27,.mv,[.l 4]),oQ (28,.iad 3,[.t 26,.t 27]),oQ (29,.ld (some 3),[.t 28]),oQ (30,.call (N k_f101),[.t 25,.t 29]),oQ (31,.un .not,[.t 30]),oQ (32,.mv,[.t 31]),gQ (33,32,false,.mv,[.l 3]),gQ (34,32,false,.mv,[.l 0]),gQ (35,32,false,.mv,[.l 4]),gQ (36,32,false,.iad 3,[.t 34,.t 35]),gQ (37,32,false,.fad 1,[.t 36]),gQ (38,32,false,.ld none,[.t 37]),gQ (39,32,false,.call (N k_f110),[.t 33,.t 38]),gQ (40,32,false,.un .not,[.t 39]),oQ (41,.pick,[.t 32,.c (.b true),.t 40])]) (.cond (.t 41) (.seq (.reg [⟨.l 2,none,.mv,[.c (.b false)]⟩]) .ret) .skip))) (.reg [oQ (23,.mv,[.l 4]),oQ (24,.bin .add,[.t 23,.c (.i .i64 1)]),⟨.l 4,none,.mv,[.t 24]⟩])))
noncomputable def D_f111_10 (F:TF)(N:TN)(Q:TQ) (k1 : TK) (l : Env) (L : Lg) : Prop :=
 wpOp F .lenSl [(l 0)] L fun v1 L1=>
 wpOp F (.bin .lss) [(l 4),v1] L1 fun v2 L2=>
 condW v2
 (wpOp F (.iad 3) [(l 0),(l 4)] L2 fun v3 L3=>
 wpOp F (.ld (some 3)) [v3] L3 fun v4 L4=>
 CallL F (N k_f101) [(l 3),v4] L4 fun v5 L5=>
 wpOp F (.un .not) [v5] L5 fun v6 L6=>
 gdOp F v6 false .mv [(l 3)] L6 fun v7 L7=>
 gdOp F v6 false .mv [(l 0)] L7 fun v8 L8=>
 gdOp F v6 false .mv [(l 4)] L8 fun v9 L9=>
 gdOp F v6 false (.iad 3) [v8,v9] L9 fun v10 L10=>
 gdOp F v6 false (.fad 1) [v10] L10 fun v11 L11=>
 gdOp F v6 false (.ld none) [v11] L11 fun v12 L12=>
 gdOp F v6 false (.call (N k_f110)) [v7,v12] L12 fun v13 L13=>
 gdOp F v6 false (.un .not) [v13] L13 fun v14 L14=>
 wpOp F .pick [v6,(.b true),v14] L14 fun v15 L15=>
 condW v15
 (fin1 (some (.b false)) Q L15)
 (wpOp F (.bin .add) [(l 4),(.i .i64 1)] L15 fun v16 L16=>
 k1 (Env.put l 4 v16) L16))
 (D_f111_6 F N Q L2)
theorem e_f111_10 (F:TF)(N:TN)(Q:TQ) (k1 : TK) (l t : Env) (L : Lg) : wp F (q_f111_10 N) l t L (fun (l _ : Env) (L : Lg) => k1 l L) (y_f111_8 F N Q) (fin [.tmp (.l 2)] Q) = D_f111_10 F N Q k1 l L := by kernel_rfl
def q_f111_9 (N : TN) : ACode := (.loop (q_f111_10 N))
noncomputable def D_f111_9 (F:TF)(N:TN)(Q:TQ) (l : Env) (L : Lg) : Prop :=
 loopW (fun l t L k1 => D_f111_10 F N Q k1 l L) l L
theorem e_f111_9 (F:TF)(N:TN)(Q:TQ) (l t : Env) (L : Lg) : wp F (q_f111_9 N) l t L (w_f111_5 F N Q) (y_f111_8 F N Q) (fin [.tmp (.l 2)] Q) = D_f111_9 F N Q l L := wpL (fun l t L k1 => e_f111_10 F N Q k1 l t L) (by kernel_rfl)
def q_f111_8 (N : TN) : ACode := (.block 0 (q_f111_9 N))
theorem e_f111_8 (F:TF)(N:TN)(Q:TQ) (l t : Env) (L : Lg) : wp F (q_f111_8 N) l t L (w_f111_5 F N Q) nE (fin [.tmp (.l 2)] Q) = D_f111_9 F N Q l L := wpB (e_f111_9 F N Q l t L)
def q_f111_7a (N : TN) : ACode := (.reg [⟨.l 4,none,.mv,[.c (.i .i64 0)]⟩])
def q_f111_7 (N : TN) : ACode := (.seq (q_f111_7a N) (q_f111_8 N))
noncomputable def D_f111_7 (F:TF)(N:TN)(Q:TQ) (l : Env) (L : Lg) : Prop :=
 D_f111_9 F N Q (Env.put l 4 (.i .i64 0)) L
theorem e_f111_7 (F:TF)(N:TN)(Q:TQ) (l t : Env) (L : Lg) : wp F (q_f111_7 N) l t L (w_f111_5 F N Q) nE (fin [.tmp (.l 2)] Q) = D_f111_7 F N Q l L := wpS (e_f111_8 F N Q) (by kernel_rfl)
def q_f111_5 (N : TN) : ACode := (.seq (q_f111_7 N) (q_f111_6 N))
theorem e_f111_5 (F:TF)(N:TN)(Q:TQ) (l t : Env) (L : Lg) : wp F (q_f111_5 N) l t L (fin [.tmp (.l 2)] Q) nE (fin [.tmp (.l 2)] Q) = D_f111_7 F N Q l L := wpS (e_f111_6 F N Q) (e_f111_7 F N Q l t L)
def q_f111_4a (N : TN) : ACode := (.seq (.reg [oQ (14,.mv,[.l 3]),oQ (15,.nilchk,[.t 14]),oQ (16,.fad 0,[.t 15]),oQ (17,.ld none,[.t 16]),oQ (18,.eq false .ptr,[.t 17,.c (.p none)])]) (.cond (.t 18) (.seq (.reg [⟨.l 2,none,.mv,[.c (.b false)]⟩]) .ret) .skip))
def q_f111_4 (N : TN) : ACode := (.seq (q_f111_4a N) (q_f111_5 N))
noncomputable def D_f111_4 (F:TF)(N:TN)(Q:TQ) (l : Env) (L : Lg) : Prop :=
 wpOp F .nilchk [(l 3)] L fun v1 L1=>
 wpOp F (.fad 0) [v1] L1 fun v2 L2=>
 wpOp F (.ld none) [v2] L2 fun v3 L3=>
 wpOp F (.eq false .ptr) [v3,(.p none)] L3 fun v4 L4=>
 condW v4
 (fin1 (some (.b false)) Q L4)
 (D_f111_7 F N Q l L4)
theorem e_f111_4 (F:TF)(N:TN)(Q:TQ) (l t : Env) (L : Lg) : wp F (q_f111_4 N) l t L (fin [.tmp (.l 2)] Q) nE (fin [.tmp (.l 2)] Q) = D_f111_4 F N Q l L := wpS (e_f111_5 F N Q) (by kernel_rfl)
def q_f111_3a (N : TN) : ACode := (.reg [oQ (9,.call (N k_f21),[]),oQ (10,.build [.sl none 0 0 0,.i .i64 0,.sl none 0 0 0,.sl none 0 0 0,.i .i64 0] [],[]),oQ (11,.box,[.t 10]),oQ (12,.build [.p none,.p none,.i .i64 0] [(0,1),(1,1)],[.t 9,.t 11]),oQ (13,.box,[.t 12]),⟨.l 3,none,.mv,[.t 13]⟩])
def q_f111_3 (N : TN) : ACode := (.seq (q_f111_3a N) (q_f111_4 N))
noncomputable def D_f111_3 (F:TF)(N:TN)(Q:TQ) (l : Env) (L : Lg) : Prop :=
 CallL F (N k_f21) [] L fun v1 L1=>
 wpOp F (.build [.sl none 0 0 0,.i .i64 0,.sl none 0 0 0,.sl none 0 0 0,.i .i64 0] []) [] L1 fun v2 L2=>
 wpOp F .box [v2] L2 fun v3 L3=>
 wpOp F (.build [.p none,.p none,.i .i64 0] [(0,1),(1,1)]) [v1,v3] L3 fun v4 L4=>
 wpOp F .box [v4] L4 fun v5 L5=>
 D_f111_4 F N Q (Env.put l 3 v5) L5
theorem e_f111_3 (F:TF)(N:TN)(Q:TQ) (l t : Env) (L : Lg) : wp F (q_f111_3 N) l t L (fin [.tmp (.l 2)] Q) nE (fin [.tmp (.l 2)] Q) = D_f111_3 F N Q l L := wpS (e_f111_4 F N Q) (by kernel_rfl)
def q_f111_2a (N : TN) : ACode := (.seq (.reg [oQ (5,.mv,[.l 0]),oQ (6,.lenSl,[.t 5]),oQ (7,.bin .gtr,[.t 6,.c (.i .i64 120)])]) (.cond (.t 7) (.seq (.reg [oQ (8,.call (N k_f61),[]),⟨.l 2,none,.mv,[.t 8]⟩]) .ret) .skip))
def q_f111_2 (N : TN) : ACode := (.seq (q_f111_2a N) (q_f111_3 N))
noncomputable def D_f111_2 (F:TF)(N:TN)(Q:TQ) (l : Env) (L : Lg) : Prop :=
 wpOp F .lenSl [(l 0)] L fun v1 L1=>
 wpOp F (.bin .gtr) [v1,(.i .i64 120)] L1 fun v2 L2=>
 condW v2
 (CallL F (N k_f61) [] L2 fun v3 L3=>
 fin1 (some v3) Q L3)
 (D_f111_3 F N Q l L2)
theorem e_f111_2 (F:TF)(N:TN)(Q:TQ) (l t : Env) (L : Lg) : wp F (q_f111_2 N) l t L (fin [.tmp (.l 2)] Q) nE (fin [.tmp (.l 2)] Q) = D_f111_2 F N Q l L := wpS (e_f111_3 F N Q) (by kernel_rfl)
def q_f111_1a (N : TN) : ACode := (.reg [⟨.l 2,none,.mv,[.c (.b false)]⟩])
def q_f111_1 (N : TN) : ACode := (.seq (q_f111_1a N) (q_f111_2 N))
noncomputable def D_f111_1 (F:TF)(N:TN)(Q:TQ) (l : Env) (L : Lg) : Prop :=
 D_f111_2 F N Q (Env.put l 2 (.b false)) L
theorem e_f111_1 (F:TF)(N:TN)(Q:TQ) (l t : Env) (L : Lg) : wp F (q_f111_1 N) l t L (fin [.tmp (.l 2)] Q) nE (fin [.tmp (.l 2)] Q) = D_f111_1 F N Q l L := wpS (e_f111_2 F N Q) (by kernel_rfl)
def c_f111 (N : TN) : AFn := ⟨q_f111_1 N,[.tmp (.l 2)]⟩
theorem r_f111 {F : TF} {N : TN} (h : F (N k_f111) = some (c_f111 N)) {Q : TQ} {a0 : AV} {L : Lg} (e : D_f111_1 F N Q (initE [a0] 0) L) : CallL F (N k_f111) [a0] L Q :=
  CallL.of_wp h (Eq.mpr (Eq.trans (e_f111_1 F N Q (initE [a0] 0) Env.nil L) (by kernel_rfl : _ = D_f111_1 F N Q (initE [a0] 0) L)) e)
end Go.AM

set_option linter.unusedVariables false
set_option linter.unusedSimpArgs false
namespace Go.AM

def Lg.two (r b : Nat) (c d : LC) : Lg := fun m => if m = r then some c else if m = b then some d else none
theorem over_two (L : Lg) {r b : Nat} (h : b ≠ r) (c d : LC) : (Lg.two r b c d).over L = (L.put b d).put r c := by
  funext m
  unfold Lg.over Lg.two Lg.put
  by_cases h1 : m = r
  · simp [h1]
  · by_cases h2 : m = b
    · subst h2; simp [h1]
    · simp [h1,h2]
theorem over_del (M L : Lg) {r : Nat} (h : M r ≠ none) : M.over (L.del r) = M.over L := by
  funext m
  unfold Lg.over Lg.del
  by_cases h1 : m = r
  · subst h1
    cases h2 : M m with
    | none => exact absurd h2 h
    | some c => rfl
  · simp [h1]
theorem CallL.opens {F : Nat → Option AFn} {f : Nat} {vs : List AV} {L : Lg} {Q : AV → Lg → Prop} {r : Nat} {P : Hp → Prop} (e : L r = some (.abs P))
    (h : ∀ hm,P hm → ∃ M : Lg,Sat M hm ∧ M r ≠ none ∧ ((∀ b c,M b = some c → b ≠ r → L b = none) → CallL F f vs (M.over L) Q)) : CallL F f vs L Q := by
  apply CallL.unfold e
  intro hm hP
  obtain ⟨M,hs,hr,hc⟩ := h hm hP
  refine ⟨M,hs,fun hf => ?_⟩
  rw [over_del M L hr]
  exact hc hf
theorem Sees.shut {L M : Lg} {r : Nat} {P : Hp → Prop} (hf : ∀ b c,M b = some c → b ≠ r → L b = none) (hr : (∃ cs,M r = some (.raw (.cells cs))) ∨ ∃ Q,M r = some (.abs Q)) (hP : ∀ h,Sat M h → P h) : Sees (M.over L) (L.put r (.abs P)) := by
  have h1 := Sees.fold (L := M.over L) (M := M) (r := r) (P := P) (fun b c hb => by simp [Lg.over,hb]) hr hP
  have h2 : ((M.over L).minus M).put r (.abs P) = L.put r (.abs P) := by
    funext m
    unfold Lg.put
    by_cases hm : m = r
    · simp [hm]
    · simp only [hm,if_false]
      cases h3 : M m with
      | none => simp [Lg.over,Lg.minus,h3]
      | some c => simp only [Lg.minus,h3]; exact (hf m c h3 hm).symm
  rw [h2] at h1
  exact h1
theorem Sees.shutAt {L Lf : Lg} {r : Nat} {P : Hp → Prop} (ids : Nat → Prop) (hr : ids r) (h1 : ∀ b c,¬ ids b → L b = some c → Lf b = some c) (h2 : ∀ b,ids b → b ≠ r → L b = none)
    (h3 : (∃ cs,Lf r = some (.raw (.cells cs))) ∨ ∃ Q,Lf r = some (.abs Q)) (hP : ∀ (M : Lg) h,(∀ b,ids b → M b = Lf b) → (∀ b,¬ ids b → M b = none) → Sat M h → P h) : Sees Lf (L.put r (.abs P)) := by
  classical
  let M : Lg := fun b => if ids b then Lf b else none
  have hM : ∀ b,ids b → M b = Lf b := fun b hb => by simp [M,hb]
  have hN : ∀ b,¬ ids b → M b = none := fun b hb => by simp [M,hb]
  have e1 : Sees Lf (M.over L) := by
    apply Sees.drop
    intro b c hb
    unfold Lg.over at hb
    by_cases hi : ids b
    · rw [hM b hi] at hb
      cases h4 : Lf b with
      | some d => rw [h4] at hb; exact hb
      | none =>
        rw [h4] at hb
        by_cases hbr : b = r
        · subst hbr; rcases h3 with ⟨cs,h3⟩ | ⟨Q,h3⟩ <;> rw [h3] at h4 <;> cases h4
        · rw [h2 b hi hbr] at hb; cases hb
    · rw [hN b hi] at hb
      exact h1 b c hi hb
  refine e1.trans (Sees.shut ?_ ?_ fun h hs => hP M h hM hN hs)
  · intro b c hb hbr
    by_cases hi : ids b
    · exact h2 b hi hbr
    · rw [hN b hi] at hb; cases hb
  · rw [hM r hr]; exact h3
theorem CallL.open2 {F : Nat → Option AFn} {f : Nat} {vs : List AV} {L : Lg} {Q : AV → Lg → Prop} {r : Nat} {P : Hp → Prop} (e : L r = some (.abs P))
    (h : ∀ hm,P hm → ∃ b c d,b ≠ r ∧ Sat (Lg.two r b c d) hm ∧ (L b = none → CallL F f vs ((L.put b d).put r c) Q)) : CallL F f vs L Q := by
  apply CallL.opens e
  intro hm hP
  obtain ⟨b,c,d,hb,hs,hc⟩ := h hm hP
  refine ⟨Lg.two r b c d,hs,by simp [Lg.two],fun hf => ?_⟩
  rw [over_two L hb]
  exact hc (hf b d (by simp [Lg.two,hb]) hb)
theorem Sees.shut2 {L : Lg} {r b : Nat} {cs : List AV} {d : LC} {P : Hp → Prop} (hb : b ≠ r) (hf : L b = none) (hP : ∀ h,Sat (Lg.two r b (.raw (.cells cs)) d) h → P h) : Sees ((L.put b d).put r (.raw (.cells cs))) (L.put r (.abs P)) := by
  rw [← over_two L hb]
  refine Sees.shut ?_ (.inl ⟨cs,by simp [Lg.two]⟩) hP
  intro b' c' h1 h2
  unfold Lg.two at h1
  simp only [h2,if_false] at h1
  split at h1
  · rename_i h3; subst h3; exact hf
  · cases h1

theorem Lg.put3 (L : Lg) {n m : Nat} (h : n ≠ m) (c d e : LC) : ((L.put n c).put m d).put n e = (L.put n e).put m d := by
  rw [Lg.put_comm _ (Ne.symm h),Lg.put_put]
@[simp] theorem kEq_self (j : IntKind) : kEq j j = true := by cases j <;> rfl
theorem beq_self (n : Nat) : Nat.beq n n = true := by rw [beq_nat]; simp
@[simp] theorem sameV_i (j : IntKind) (x : Int) : sameV (.i j x) (.i j x) = true := by simp [sameV,same1,iEq_eq]
@[simp] theorem sameV_b (x : Bool) : sameV (.b x) (.b x) = true := by simp [sameV,same1]
@[simp] theorem sameV_p (x : Option (Nat × Nat)) : sameV (.p x) (.p x) = true := by cases x <;> simp [sameV,same1,beq_self]
@[simp] theorem sameV_m (x : Option Nat) : sameV (.m x) (.m x) = true := by cases x <;> simp [sameV,same1,beq_self]
@[simp] theorem sameV_sl (a : Option (Nat × Nat)) (n c e : Nat) : sameV (.sl a n c e) (.sl a n c e) = true := by cases a <;> simp [sameV,same1,beq_self]
theorem splice_one (c : List AV) (o : Nat) (v : AV) (h : o < c.length) : splice c o [v] = c.set o v := by
  unfold splice
  rw [List.set_eq_take_append_cons_drop]
  simp [h]
theorem rdL_cell {L : Lg} {b o : Nat} {c : List AV} (h : L b = some (.raw (.cells c))) : rdL L (b,o) none = c[o]? := by
  simp [rdL,h,AB.read,look]
theorem rdL_cells {L : Lg} {b o n : Nat} {c : List AV} (h : L b = some (.raw (.cells c))) (hn : o + n ≤ c.length) : rdL L (b,o) (some n) = some (.agg ((c.drop o).take n)) := by
  simp [rdL,h,AB.read,look,cut,ble_nat,hn]
theorem rdL_ro {L : Lg} {b o : Nat} {c : List AV} (h : L b = some (.raw (.ro c))) : rdL L (b,o) none = c[o]? := by
  simp [rdL,h,AB.read,look]
theorem rdL_ros {L : Lg} {b o n : Nat} {c : List AV} (h : L b = some (.raw (.ro c))) (hn : o + n ≤ c.length) : rdL L (b,o) (some n) = some (.agg ((c.drop o).take n)) := by
  simp [rdL,h,AB.read,look,cut,ble_nat,hn]
theorem stL_cell {L : Lg} {b o : Nat} {c : List AV} {v : AV} {k : AV → Lg → Prop} (h : L b = some (.raw (.cells c))) (ho : o < c.length) (hv : v.cellsOf = some [v]) : stL 1 L k [.p (some (b,o)),v] = k .bad (L.put b (.raw (.cells (c.set o v)))) := by
  have h1 : v.one = true := by
    have := cellsOf_one hv
    simpa using this
  have h2 : o + 1 ≤ c.length := ho
  simp [stL,hv,wrL,h,h1,splice_one c o v ho,h2]
theorem stL_cells {L : Lg} {b o n : Nat} {c l : List AV} {k : AV → Lg → Prop} (h : L b = some (.raw (.cells c))) (hl : l.all AV.one = true) (hn : l.length = n) (ho : o + n ≤ c.length) : stL n L k [.p (some (b,o)),.agg l] = k .bad (L.put b (.raw (.cells (splice c o l)))) := by
  subst hn
  have hl' : ∀ x,x ∈ l → x.one = true := List.all_eq_true.1 hl
  simp only [stL,cellsOf_agg l hl,if_true,wrL,h,ho,hl,and_self]
theorem cellsOf_agg' (l : List AV) : (AV.agg l).cellsOf = if l.all AV.one = true then some l else none := by
  simp only [AV.cellsOf]
  cases h : l.all AV.one <;> simp
theorem newL_box (v : AV) (L : Lg) (k : AV → Lg → Prop) {l : List AV} (hv : v.cellsOf = some l) : newL aBox [v] L k = ∀ b,L b = none → k (.p (some (b,0))) (L.put b (.raw (.cells l))) := by
  simp [newL,aBox,hv]
theorem newL_box_agg (l : List AV) (L : Lg) (k : AV → Lg → Prop) (h : l.all AV.one = true) : newL aBox [.agg l] L k = ∀ b,L b = none → k (.p (some (b,0))) (L.put b (.raw (.cells l))) := newL_box _ L k (cellsOf_agg l h)
@[simp] theorem newL_box_agg2 (x y : AV) (L : Lg) (k : AV → Lg → Prop) (h1 : x.one = true) (h2 : y.one = true) : newL aBox [.agg [x,y]] L k = ∀ b,L b = none → k (.p (some (b,0))) (L.put b (.raw (.cells [x,y]))) := newL_box_agg _ L k (by simp [h1,h2])
@[simp] theorem newL_box_agg3 (x y z : AV) (L : Lg) (k : AV → Lg → Prop) (h1 : x.one = true) (h2 : y.one = true) (h3 : z.one = true) : newL aBox [.agg [x,y,z]] L k = ∀ b,L b = none → k (.p (some (b,0))) (L.put b (.raw (.cells [x,y,z]))) := newL_box_agg _ L k (by simp [h1,h2,h3])
@[simp] theorem newL_box_agg5 (x y z u v : AV) (L : Lg) (k : AV → Lg → Prop) (h1 : x.one = true) (h2 : y.one = true) (h3 : z.one = true) (h4 : u.one = true) (h5 : v.one = true) : newL aBox [.agg [x,y,z,u,v]] L k = ∀ b,L b = none → k (.p (some (b,0))) (L.put b (.raw (.cells [x,y,z,u,v]))) := newL_box_agg _ L k (by simp [h1,h2,h3,h4,h5])
@[simp] theorem newL_box_i (j n) (L : Lg) (k : AV → Lg → Prop) : newL aBox [.i j n] L k = ∀ b,L b = none → k (.p (some (b,0))) (L.put b (.raw (.cells [.i j n]))) := newL_box _ L k rfl
@[simp] theorem newL_box_b (n) (L : Lg) (k : AV → Lg → Prop) : newL aBox [.b n] L k = ∀ b,L b = none → k (.p (some (b,0))) (L.put b (.raw (.cells [.b n]))) := newL_box _ L k rfl
@[simp] theorem newL_box_p (n) (L : Lg) (k : AV → Lg → Prop) : newL aBox [.p n] L k = ∀ b,L b = none → k (.p (some (b,0))) (L.put b (.raw (.cells [.p n]))) := newL_box _ L k rfl
@[simp] theorem newL_box_sl (a b c d) (L : Lg) (k : AV → Lg → Prop) : newL aBox [.sl a b c d] L k = ∀ r,L r = none → k (.p (some (r,0))) (L.put r (.raw (.cells [.sl a b c d]))) := newL_box _ L k rfl
theorem newL_bslice {z : List AV} {len size : Nat} {ps : List Nat} {vs c : List AV} (L : Lg) (k : AV → Lg → Prop) (h : fillP (reps z len) (ps.map fun i => (i * size,size)) vs = some c) (h1 : c.all AV.one = true) :
    newL (aBslice z len size ps) vs L k = ∀ b,L b = none → k (.sl (some (b,0)) len len 0) (L.put b (.raw (.cells c))) := by
  simp [newL,aBslice,h,h1]
theorem reps_one' (v : AV) : ∀ n,reps [v] n = List.replicate n v
  | 0 => rfl
  | n + 1 => by simp [reps,reps_one' v n,List.replicate_succ]

theorem loopW_intro {B : Env → Env → Lg → (Env → Lg → Prop) → Prop} {l : Env} {L : Lg} (I : Nat → Env → Lg → Prop) (n : Nat) (h0 : I n l L) (h : ∀ n l t L,I n l L → B l t L (fun l L => ∃ m,m < n ∧ I m l L)) : loopW B l L := ⟨I,⟨n,h0⟩,h⟩
@[simp] theorem initE_cons (v : AV) (r : List AV) (i : Nat) : initE (v :: r) i = (initE r (i + 1)).put i v := rfl
@[simp] theorem initE_nil (i n : Nat) : initE [] i n = .bad := rfl
@[simp] theorem evO_c (l t : Env) (v : AV) : evO l t (.c v) = v := rfl
theorem res_cell_tmp (L : Lg) {b o n : Nat} {c : List AV} (v : AV) (h : L b = some (.raw (.cells c))) (hn : o + n ≤ c.length) : resVL Env.nil Env.nil L [.cell (.c (.p (some (b,o)))) (some n),.tmp (.c v)] = some (.tup [.agg ((c.drop o).take n),v]) := by
  simp [resVL,resLL,resOneL,rdL_cells h hn]
def OwnSl (L : Lg) (v : AV) (cs : List AV) (n size : Nat) : Prop :=
  (n = 0 ∧ cs = [] ∧ v = .sl none 0 0 0) ∨ ∃ b,0 < n ∧ v = .sl (some (b,0)) n n size ∧ L b = some (.raw (.cells cs)) ∧ cs.length = n * size
def slB : AV → Option Nat
  | .sl (some (b,_)) _ _ _ => some b
  | _ => none
def Lg.delO (L : Lg) : Option Nat → Lg
  | none => L
  | some b => L.del b
def FreshSl (L : Lg) (v : AV) (cs : List AV) (n size : Nat) (L' : Lg) : Prop :=
  (n = 0 ∧ cs = [] ∧ v = .sl none 0 0 0 ∧ L' = L) ∨ ∃ b ex,L b = none ∧ 0 < n ∧ v = .sl (some (b,0)) n n ex ∧ cs.length = n * size ∧ L' = L.put b (.raw (.cells cs))
def Ext2 (L L' : Lg) : Prop := ∀ b c,L b = some c → L' b = some c
theorem Ext2.refl (L : Lg) : Ext2 L L := fun _ _ h => h
theorem Ext2.trans {L M K : Lg} (h : Ext2 L M) (k : Ext2 M K) : Ext2 L K := fun b c e => k b c (h b c e)
theorem Ext2.put {L M : Lg} (h : Ext2 L M) {b : Nat} (hb : L b = none) (c : LC) : Ext2 L (M.put b c) := fun d e hd => by
  have : d ≠ b := by rintro rfl; rw [hb] at hd; cases hd
  rw [Lg.put_ne _ _ _ this]; exact h d e hd
theorem Ext2.del {L M : Lg} (h : Ext2 L M) {b : Nat} (hb : L b = none) : Ext2 L (M.del b) := fun d e hd => by
  have : d ≠ b := by rintro rfl; rw [hb] at hd; cases hd
  rw [Lg.del_apply,if_neg this]; exact h d e hd
theorem Ext2.delO {L M : Lg} (h : Ext2 L M) {o : Option Nat} (hb : ∀ b,o = some b → L b = none) : Ext2 L (M.delO o) := by
  cases o with
  | none => exact h
  | some b => exact h.del (hb b rfl)
theorem Ext2.none {L M : Lg} (h : Ext2 L M) {b : Nat} (hb : M b = none) : L b = none := by
  cases e : L b with
  | none => rfl
  | some c => rw [h b c e] at hb; cases hb
theorem Ext2.sees {L M : Lg} (h : Ext2 L M) : Sees M L := Sees.drop h
theorem OwnSl.app {L : Lg} {v : AV} {cs : List AV} {n size bytes : Nat} (h : OwnSl L v cs n size) (hsz : 0 < size) {src : AV} {new : List AV} {m c e : Nat} {a : Option (Nat × Nat)} (hs : src = .sl a m c e) (hm : 0 < m) (hr : rdCellsL L a (m * size) = some new) (hn : new.length = m * size) (h1 : new.all AV.one = true) (hb : (n + m) * bytes ≤ 70368744177664)
    {k : AV → Lg → Prop} (hk : ∀ b,L b = none → k (.sl (some (b,0)) (n + m) (n + m) size) ((L.delO (slB v)).put b (.raw (.cells (cs ++ new))))) : appW size bytes L k [v,src] := by
  subst hs
  rcases h with ⟨rfl,rfl,rfl⟩ | ⟨b,h0,rfl,hL,hl⟩
  · simp only [appW,hr,appL,h1,true_and]
    have h2 : ¬ (0 + m ≤ 0) := by omega
    simp only [h2,if_false,hb,true_and,Nat.zero_mul,rdCellsL,goneL,if_true,List.nil_append]
    exact hk
  · simp only [appW,hr,appL,h1,true_and]
    have h2 : ¬ (n + m ≤ n) := by omega
    have h3 : rdCellsL L (some (b,0)) (n * size) = some cs := by
      simp only [rdCellsL,hL,AB.read,cut,ble_nat,Nat.zero_add,hl,Nat.le_refl,decide_true,cond_true,List.drop_zero]
      rw [← hl,List.take_length]
    have h4 : ¬ size = 0 := by omega
    simp only [h2,if_false,hb,true_and,h3,goneL,h4,if_true,hL]
    exact hk
theorem OwnSl.of_app {L : Lg} {v : AV} {cs new : List AV} {n m size b : Nat} (h : OwnSl L v cs n size) (hm : 0 < m) (hn : new.length = m * size) : OwnSl ((L.delO (slB v)).put b (.raw (.cells (cs ++ new)))) (.sl (some (b,0)) (n + m) (n + m) size) (cs ++ new) (n + m) size := by
  refine .inr ⟨b,by omega,rfl,Lg.put_same _ _ _,?_⟩
  rcases h with ⟨rfl,rfl,rfl⟩ | ⟨b,h0,rfl,hL,hl⟩
  · simp [hn]
  · simp [hl,hn,Nat.add_mul]
theorem appW_grow {L L' : Lg} {size bytes len cap ex m c e : Nat} {a b : Option (Nat × Nat)} {new old : List AV} {k : AV → Lg → Prop} (hr : rdCellsL L b (m * size) = some new) (h1 : new.all AV.one = true) (hlt : ¬ len + m ≤ cap)
    (hb : (len + m) * bytes ≤ 70368744177664) (ho : rdCellsL L a (len * size) = some old) (hg : goneL L a ex size = some L') (hk : ∀ b,L b = none → k (.sl (some (b,0)) (len + m) (len + m) size) (L'.put b (.raw (.cells (old ++ new))))) :
    appW size bytes L k [.sl a len cap ex,.sl b m c e] := by
  simp only [appW,hr,appL,h1,true_and,hlt,if_false,hb,ho,hg]
  exact hk
theorem appW_room {L L' : Lg} {size bytes len cap ex m c e r o : Nat} {b : Option (Nat × Nat)} {new : List AV} {k : AV → Lg → Prop} (hr : rdCellsL L b (m * size) = some new) (h1 : new.all AV.one = true) (hle : len + m ≤ cap) (hm : m ≠ 0)
    (hw : wrL L (r,o + len * size) new = some L') (hk : k (.sl (some (r,o)) (len + m) cap ex) L') : appW size bytes L k [.sl (some (r,o)) len cap ex,.sl b m c e] := by
  simp only [appW,hr,appL,h1,true_and,hle,if_true,hm,if_false,hw]
  exact hk
end Go.AM

set_option linter.unusedVariables false
set_option linter.unusedSimpArgs false
namespace Go.AM
variable {N : Nat → Nat} {F : Nat → Option AFn}

def ints (zs : List Int) : List AV := zs.map (.i .i64 ·)
@[simp] theorem ints_length (zs : List Int) : (ints zs).length = zs.length := by simp [ints]
@[simp] theorem ints_get (zs : List Int) (i : Nat) : (ints zs)[i]? = (zs[i]?).map (.i .i64 ·) := by simp [ints]
theorem ints_set (zs : List Int) (i : Nat) (v : Int) : (ints zs).set i (.i .i64 v) = ints (zs.set i v) := by simp [ints,List.map_set]
def RingP (r : Nat) (xs : List Int) (cap : Nat) (h : Hp) : Prop := ∃ (b fr : Nat) (zs : List Int),b ≠ r ∧ zs.length = cap ∧ xs.length ≤ cap ∧ cap ≤ 64 ∧ fr ≤ cap ∧ (0 < cap → fr < cap) ∧ (∀ i,i < xs.length → zs[(fr + i) % cap]? = xs[i]?) ∧
  Sat (Lg.two r b (.raw (.cells [.sl (some (b,0)) cap cap 0,.i .i64 fr,.i .i64 xs.length])) (.raw (.cells (ints zs)))) h

section
variable {L : Lg} {r cap : Nat} {xs : List Int}
theorem ringLen_raw (h : H_f6 N F) {a b : AV} {n : Int} (e : L r = some (.raw (.cells [a,b,.i .i64 n]))) : CallL F (N k_f6) [.p (some (r,0))] L fun w L' => w = .i .i64 n ∧ L' = L := by
  apply r_f6 h.code
  simp [D_f6_1,rdL,AB.read,look,e]
theorem ringLen_spec (h : H_f6 N F) (e : L r = some (.abs (RingP r xs cap))) : CallL F (N k_f6) [.p (some (r,0))] L fun w L' => w = .i .i64 xs.length ∧ L' = L := by
  apply CallL.open2 e
  rintro hm ⟨b,fr,zs,hne,h1,h2,h3,h4,h5,h6,hs⟩
  refine ⟨b,_,_,hne,hs,fun hb => ?_⟩
  refine (ringLen_raw h (Lg.put_same _ _ _)).sees ?_
  rintro _ _ ⟨rfl,rfl⟩
  refine ⟨L,?_,rfl,rfl⟩
  have := Sees.shut2 (P := RingP r xs cap) hne hb (fun h hs => ⟨b,fr,zs,hne,h1,h2,h3,h4,h5,h6,hs⟩)
  rwa [Lg.put_self L r _ e] at this
theorem ringSize_spec (h : H_f7 N F) (e : L r = some (.abs (RingP r xs cap))) : CallL F (N k_f7) [.p (some (r,0))] L fun w L' => w = .i .i64 cap ∧ L' = L := by
  apply CallL.open2 e
  rintro hm ⟨b,fr,zs,hne,h1,h2,h3,h4,h5,h6,hs⟩
  refine ⟨b,_,_,hne,hs,fun hb => ?_⟩
  apply r_f7 h.code
  simp [D_f7_1,rdL,AB.read,look]
  have := Sees.shut2 (P := RingP r xs cap) hne hb (fun h hs => ⟨b,fr,zs,hne,h1,h2,h3,h4,h5,h6,hs⟩)
  rwa [Lg.put_self L r _ e] at this
theorem ringPush_spec (h : H_f4 N F) (e : L r = some (.abs (RingP r xs cap))) (v : Int) : CallL F (N k_f4) [.p (some (r,0)),.i .i64 v] L fun w L' =>
    if xs.length = cap then w = .b false ∧ L' = L else w = .b true ∧ L' = L.put r (.abs (RingP r (xs ++ [v]) cap)) := by
  apply CallL.open2 e
  rintro hm ⟨b,fr,zs,hne,h1,h2,h3,h4,h5,h6,hs⟩
  refine ⟨b,_,_,hne,hs,fun hb => ?_⟩
  apply r_f4 h.code
  unfold D_f4_1 D_f4_2
  by_cases hf : xs.length = cap
  · simp [rdL,AB.read,look,hf]
    have := Sees.shut2 (P := RingP r xs cap) hne hb (fun h hs => ⟨b,fr,zs,hne,h1,h2,h3,h4,h5,h6,hs⟩)
    rwa [Lg.put_self L r _ e,hf] at this
  · have hi : ¬ ((xs.length : Int) = cap) := by omega
    have hc : (cap : Int) ≠ 0 := by omega
    have e1 : wr .i64 ((fr : Int) + xs.length) = (fr : Int) + xs.length := wr_id (by omega) (by omega)
    obtain ⟨m,hm'⟩ : ∃ m,m = (fr + xs.length) % cap := ⟨_,rfl⟩
    have e2 : ((fr : Int) + xs.length).tmod cap = (m : Int) := by rw [hm',← Int.natCast_add,Int.ofNat_tmod]
    obtain ⟨n1,hn1⟩ : ∃ n1,n1 = xs.length + 1 := ⟨_,rfl⟩
    have e3 : wr .i64 ((xs.length : Int) + 1) = (n1 : Int) := by rw [wr_id (by omega) (by omega)]; omega
    have hlt : m < cap := by rw [hm']; exact Nat.mod_lt _ (by omega)
    have e5 : (m : Int) < cap := by omega
    have e6 : m + 1 ≤ cap := hlt
    simp [rdL,AB.read,look,hf,hi,D_f4_3,e1,e2,wp_rem _ _ _ _ _ _ hc,wp_iad _ _ _ 1 b 0 cap cap 0 .i64 (m : Int) (Int.natCast_nonneg _) e5,
      stL,wrL,splice_one,ints_set,Lg.put_apply,hne,Ne.symm hne,h1,hlt,e3,e6,Lg.put3 _ hne]
    apply Sees.shut2 hne hb
    intro h hs
    refine ⟨b,fr,zs.set m v,hne,by simpa using h1,by simp; omega,h3,h4,h5,?_,by simpa [hn1] using hs⟩
    intro i hi'
    rw [List.length_append,List.length_singleton] at hi'
    rw [List.getElem?_set,List.getElem?_append]
    by_cases h7 : i < xs.length
    · have : m ≠ (fr + i) % cap := by
        rw [hm']; intro h8
        have h9 : (fr + xs.length) % cap = (fr + i) % cap := h8
        have := Nat.mod_lt (fr + i) (show 0 < cap by omega)
        have a1 := Nat.div_add_mod (fr + xs.length) cap
        have a2 := Nat.div_add_mod (fr + i) cap
        have a3 : (fr + i) / cap ≤ (fr + xs.length) / cap := Nat.div_le_div_right (by omega)
        rcases Nat.lt_or_ge ((fr + i) / cap) ((fr + xs.length) / cap) with a4 | a4
        · have a5 := Nat.mul_le_mul_left cap (show (fr + i) / cap + 1 ≤ (fr + xs.length) / cap from a4)
          rw [Nat.mul_add] at a5
          omega
        · have : (fr + i) / cap = (fr + xs.length) / cap := by omega
          rw [this] at a2
          omega
      simp only [this,if_false,h7,if_true]
      exact h6 i h7
    · have : i = xs.length := by omega
      subst this
      simp [hm']
      rw [← hm']
      simp [h1,hlt]
theorem ringPop_spec (h : H_f5 N F) (e : L r = some (.abs (RingP r xs cap))) : CallL F (N k_f5) [.p (some (r,0))] L fun w L' => match (generalizing := false) xs with
    | [] => w = .tup [.i .i64 0,.b false] ∧ L' = L
    | x :: ys => w = .tup [.i .i64 x,.b true] ∧ L' = L.put r (.abs (RingP r ys cap)) := by
  apply CallL.open2 e
  rintro hm ⟨b,fr,zs,hne,h1,h2,h3,h4,h5,h6,hs⟩
  refine ⟨b,_,_,hne,hs,fun hb => ?_⟩
  apply r_f5 h.code
  unfold D_f5_1 D_f5_2
  cases xs with
  | nil =>
    simp [rdL,AB.read,look]
    have := Sees.shut2 (P := RingP r [] cap) hne hb (fun h hs => ⟨b,fr,zs,hne,h1,h2,h3,h4,h5,h6,hs⟩)
    rwa [Lg.put_self L r _ e] at this
  | cons x ys =>
    have hi : ¬ (((x :: ys).length : Int) = 0) := by simp; omega
    have hl : (x :: ys).length = ys.length + 1 := rfl
    have hc : (cap : Int) ≠ 0 := by omega
    have hfr := h5 (by omega)
    obtain ⟨n0,hn0⟩ : ∃ n0,n0 = (x :: ys).length := ⟨_,rfl⟩
    rw [← hn0] at hi hs ⊢
    have hx : zs[fr]? = some x := by
      have := h6 0 (by simp)
      rw [Nat.add_zero,Nat.mod_eq_of_lt hfr] at this
      simpa using this
    have e1 : wr .i64 ((fr : Int) + 1) = (fr : Int) + 1 := wr_id (by omega) (by omega)
    obtain ⟨m,hm'⟩ : ∃ m,m = (fr + 1) % cap := ⟨_,rfl⟩
    have e2 : ((fr : Int) + 1).tmod cap = (m : Int) := by rw [hm',← Int.natCast_succ,Int.ofNat_tmod]
    have hi2 : n0 ≠ 0 := by omega
    have e3 : wr .i64 ((n0 : Int) - 1) = (ys.length : Int) := by rw [wr_id (by omega) (by omega)]; omega
    have hlt : m < cap := by rw [hm']; exact Nat.mod_lt _ (by omega)
    have e5 : (fr : Int) < cap := by omega
    simp [rdL,AB.read,look,hi,D_f5_3,e1,e2,wp_rem _ _ _ _ _ _ hc,wp_iad _ _ _ 1 b 0 cap cap 0 .i64 (fr : Int) (Int.natCast_nonneg _) e5,
      stL,wrL,splice_one,ints_set,Lg.put_apply,hne,h1,hlt,e3,hx,hi2]
    apply Sees.shut2 hne hb
    intro h hs
    refine ⟨b,m,zs,hne,h1,by omega,h3,by omega,fun _ => hlt,?_,hs⟩
    intro i hi'
    have := h6 (i + 1) (by omega)
    rw [List.getElem?_cons_succ] at this
    rw [← this,hm']
    congr 1
    rw [Nat.mod_add_mod]
    congr 1; omega
theorem ringClear_spec (h : H_f8 N F) (e : L r = some (.abs (RingP r xs cap))) : CallL F (N k_f8) [.p (some (r,0))] L fun w L' => w = .i .i64 xs.length ∧ L' = L.put r (.abs (RingP r [] cap)) := by
  apply CallL.open2 e
  rintro hm ⟨b,fr,zs,hne,h1,h2,h3,h4,h5,h6,hs⟩
  refine ⟨b,_,_,hne,hs,fun hb => ?_⟩
  apply r_f8 h.code
  unfold D_f8_1
  have key : Sees ((L.put b (.raw (.cells (ints zs)))).put r (.raw (.cells [.sl (some (b,0)) cap cap 0,.i .i64 fr,.i .i64 (0 : Nat)]))) (L.put r (.abs (RingP r [] cap))) :=
    Sees.shut2 hne hb (fun h hs => ⟨b,fr,zs,hne,h1,by simp,h3,h4,h5,by simp,hs⟩)
  refine (ringLen_raw (r := r) h.f6 (Lg.put_same _ _ _)).mono ?_
  rintro _ _ ⟨rfl,rfl⟩
  by_cases h0 : xs.length = 0
  · have h0' : ((0 : Nat) : Int) = 0 := rfl
    rw [h0] at hs ⊢
    simpa [h0'] using key
  · have hp : (0 : Int) < xs.length := by omega
    have hp2 : 0 < xs.length := by omega
    simpa [hp,hp2,rdL,AB.read,look,stL,wrL,splice_one] using key
theorem ringNew_spec (h : H_f9 N F) (n : Nat) (hn : n ≤ 64) : CallL F (N k_f9) [.i .i64 n] L fun w L' => ∃ r,L r = none ∧ w = .tup [.p (some (r,0)),.i .i64 0] ∧ L' = L.put r (.abs (RingP r [] n)) := by
  apply r_f9 h.code
  have h1 : ¬ ((n : Int) < 0) := by omega
  have h2 : ¬ ((64 : Int) < n) := by omega
  have h2' : ¬ (64 < n) := by omega
  simp [D_f9_1,h1,h2,h2',wp_mksl F _ _ [.i .i64 0] 8 .i64 .i64 n n (Nat.le_refl n) (by omega)]
  intro b hb
  simp [fillP,splice,Nat.ble]
  · intro r hr
    have hrb : r ≠ b := by rintro rfl; simp at hr
    rw [Lg.put_ne _ _ _ hrb] at hr
    refine ⟨L.put r (.abs (RingP r [] n)),?_,r,hr,rfl,rfl⟩
    refine Sees.shut2 (Ne.symm hrb) hb ?_
    intro h hs
    refine ⟨b,0,List.replicate n 0,Ne.symm hrb,by simp,by simp,hn,by omega,fun h => h,by simp,?_⟩
    have : ints (List.replicate n 0) = reps [.i .i64 0] n := by simp [ints,reps_one']
    rw [this]
    exact hs
end
end Go.AM


set_option linter.unusedVariables false
set_option linter.unusedSimpArgs false
namespace Go.AM
variable {N : Nat → Nat} {F : Nat → Option AFn}

structure Wt where
  t : Int
  c : Int
  v : Int
  deriving DecidableEq
def Wt.cells (w : Wt) : List AV := [.i .i64 w.t,.i .i64 w.c,.i .i64 w.v]
def Wt.av (w : Wt) : AV := .agg w.cells
def Wt.zero : Wt := ⟨0,0,0⟩
def ptr (o : Option Nat) : AV := .p (o.map fun b => (b,0))
@[simp] theorem ptr_none : ptr none = .p none := rfl
@[simp] theorem ptr_some (b : Nat) : ptr (some b) = .p (some (b,0)) := rfl
@[simp] theorem ptr_cellsOf (o : Option Nat) : (ptr o).cellsOf = some [ptr o] := rfl
@[simp] theorem ptr_one (o : Option Nat) : (ptr o).one = true := rfl
def wnode (w : Wt) (p n : Option Nat) : LC := .raw (.cells [.i .i64 w.t,.i .i64 w.c,.i .i64 w.v,ptr p,ptr n])
def hd (n : Option Nat) : List (Nat × Wt) → Option Nat
  | [] => n
  | x :: _ => some x.1
def lst (p : Option Nat) : List (Nat × Wt) → Option Nat
  | [] => p
  | x :: r => lst (some x.1) r
def Seg (M : Lg) (p : Option Nat) : List (Nat × Wt) → Option Nat → Prop
  | [],_ => True
  | (i,w) :: r,n => M i = some (wnode w p (hd n r)) ∧ Seg M (some i) r n
def idsOf (l : List (Nat × Wt)) : List Nat := l.map (·.1)
@[simp] theorem hd_nil (n : Option Nat) : hd n [] = n := rfl
@[simp] theorem hd_cons (n : Option Nat) (x : Nat × Wt) (r : List (Nat × Wt)) : hd n (x :: r) = some x.1 := rfl
@[simp] theorem lst_nil (n : Option Nat) : lst n [] = n := rfl
@[simp] theorem lst_cons (n : Option Nat) (x : Nat × Wt) (r : List (Nat × Wt)) : lst n (x :: r) = lst (some x.1) r := rfl
theorem hd_append (n : Option Nat) : ∀ (A B : List (Nat × Wt)),hd n (A ++ B) = hd (hd n B) A
  | [],_ => rfl
  | _ :: _,_ => rfl
theorem lst_append : ∀ (A B : List (Nat × Wt)) (p : Option Nat),lst p (A ++ B) = lst (lst p A) B
  | [],_,_ => rfl
  | _ :: A,B,_ => lst_append A B _
theorem Seg.append (M : Lg) : ∀ (A B : List (Nat × Wt)) (p n : Option Nat),Seg M p (A ++ B) n ↔ Seg M p A (hd n B) ∧ Seg M (lst p A) B n
  | [],_,_,_ => by simp [Seg,lst]
  | (i,w) :: A,B,p,n => by
    simp only [List.cons_append,Seg,lst,hd_append,Seg.append M A B,and_assoc]
theorem Seg.congr {M M' : Lg} : ∀ {l : List (Nat × Wt)} {p n : Option Nat},(∀ i,i ∈ idsOf l → M' i = M i) → Seg M p l n → Seg M' p l n
  | [],_,_,_,_ => trivial
  | (i,w) :: r,p,n,h,hs => ⟨by rw [h i (by simp [idsOf])]; exact hs.1,Seg.congr (fun j hj => h j (by simp [idsOf] at hj ⊢; exact .inr hj)) hs.2⟩

theorem Seg.some {M : Lg} : ∀ {l : List (Nat × Wt)} {p n : Option Nat},Seg M p l n → ∀ i,i ∈ idsOf l → M i ≠ none
  | [],_,_,_,i,hi => by simp [idsOf] at hi
  | (j,w) :: r,p,n,hs,i,hi => by
    simp only [idsOf,List.map_cons,List.mem_cons] at hi
    rcases hi with rfl | hi
    · rw [hs.1]; simp
    · exact Seg.some hs.2 i hi

def QueueP (q : Nat) (ws : List Wt) (h : Hp) : Prop := ∃ (l : List (Nat × Wt)) (M : Lg),l.map (·.2) = ws ∧ (q :: idsOf l).Nodup ∧ ws.length ≤ 1000000 ∧
  M q = some (.raw (.cells [ptr (hd none l),ptr (lst none l),.i .i64 ws.length])) ∧ Seg M none l none ∧ (∀ b,b ∉ q :: idsOf l → M b = none) ∧ Sat M h

section
variable {L : Lg} {q : Nat} {ws : List Wt}
structure QOpen (L : Lg) (q : Nat) (l : List (Nat × Wt)) (L1 : Lg) : Prop where
  nd : (q :: idsOf l).Nodup
  root : L1 q = some (.raw (.cells [ptr (hd none l),ptr (lst none l),.i .i64 l.length]))
  seg : Seg L1 none l none
  old : ∀ b c,b ∉ q :: idsOf l → L b = some c → L1 b = some c
  new : ∀ b,b ∈ idsOf l → L b = none
theorem QOpen.shut {l : List (Nat × Wt)} {L1 : Lg} (h : QOpen L q l L1) (hl : l.length ≤ 1000000) : Sees L1 (L.put q (.abs (QueueP q (l.map (·.2))))) := by
  refine Sees.shutAt (fun b => b ∈ q :: idsOf l) (List.mem_cons_self ..) h.old ?_ (.inl ⟨_,h.root⟩) ?_
  · intro b hb hbq
    rcases List.mem_cons.1 hb with rfl | hb
    · exact absurd rfl hbq
    · exact h.new b hb
  · intro M hp hM hN hs
    refine ⟨l,M,rfl,h.nd,by simpa using hl,?_,?_,hN,hs⟩
    · rw [hM q (List.mem_cons_self ..),h.root]; simp
    · exact Seg.congr (fun i hi => hM i (List.mem_cons_of_mem _ hi)) h.seg
theorem CallL.openQ {f : Nat} {vs : List AV} {Q : AV → Lg → Prop} (e : L q = some (.abs (QueueP q ws)))
    (h : ∀ l L1,l.map (·.2) = ws → l.length ≤ 1000000 → QOpen L q l L1 → (∀ b,b ∉ q :: idsOf l → L1 b = L b) → CallL F f vs L1 Q) : CallL F f vs L Q := by
  apply CallL.opens e
  rintro hm ⟨l,M,h1,h2,h3,h4,h5,h6,hs⟩
  refine ⟨M,hs,by rw [h4]; simp,fun hf => ?_⟩
  have hover : ∀ b c,M b = some c → (M.over L) b = some c := fun b c hb => by simp [Lg.over,hb]
  have hseg : ∀ {l : List (Nat × Wt)} {p n : Option Nat},Seg M p l n → Seg (M.over L) p l n := by
    intro l
    induction l with
    | nil => intros; trivial
    | cons x r ih => intro p n hs; exact ⟨hover _ _ hs.1,ih hs.2⟩
  have hin : ∀ {l : List (Nat × Wt)} {p n : Option Nat},Seg M p l n → ∀ i,i ∈ idsOf l → ∃ c,M i = some c := by
    intro l
    induction l with
    | nil => intro p n hs i hi; simp [idsOf] at hi
    | cons x r ih =>
      intro p n hs i hi
      simp only [idsOf,List.map_cons,List.mem_cons] at hi
      rcases hi with rfl | hi
      · exact ⟨_,hs.1⟩
      · exact ih hs.2 i hi
  have hlen : l.length = ws.length := by rw [← h1]; simp
  refine h l (M.over L) h1 (by omega) ⟨h2,?_,hseg h5,?_,?_⟩ ?_
  · rw [hlen]; exact hover q _ h4
  · intro b c hb hL; simp [Lg.over,h6 b hb,hL]
  · intro b hb
    obtain ⟨c,hc⟩ := hin h5 b hb
    refine hf b c hc ?_
    rintro rfl
    exact (List.nodup_cons.1 h2).1 hb
  · intro b hb; simp [Lg.over,h6 b hb]

theorem queueNew_spec (h : H_f18 N F) : CallL F (N k_f18) [] L fun v L' => ∃ q,L q = none ∧ v = .p (some (q,0)) ∧ L' = L.put q (.abs (QueueP q [])) := by
  apply r_f18 h.code
  simp [D_f18_1,fillP]
  intro b hb
  refine ⟨L.put b (.abs (QueueP b [])),?_,b,hb,rfl,rfl⟩
  have : QOpen L b [] (L.put b (.raw (.cells [.p none,.p none,.i .i64 0]))) :=
    ⟨by simp [idsOf],by simp [hd,lst],trivial,fun c d h1 h2 => by simp [idsOf] at h1; rw [Lg.put_ne _ _ _ h1]; exact h2,fun c hc => by simp [idsOf] at hc⟩
  exact this.shut (by simp)
theorem queueLen_spec (h : H_f17 N F) (e : L q = some (.abs (QueueP q ws))) : CallL F (N k_f17) [.p (some (q,0))] L fun v L' => v = .i .i64 ws.length ∧ L' = L := by
  apply CallL.openQ e
  intro l L1 h1 h2 hq hn
  apply r_f17 h.code
  have hlen : l.length = ws.length := by rw [← h1]; simp
  simp [D_f17_1,rdL,AB.read,look,hq.root,hlen]
  have := hq.shut h2
  rwa [h1,Lg.put_self L q _ e] at this
theorem queuePush_spec (h : H_f16 N F) (e : L q = some (.abs (QueueP q ws))) (w : Wt) (hws : ws.length < 1000000) : CallL F (N k_f16) [.p (some (q,0)),w.av] L fun v L' => v = .i .i64 (ws.length + 1) ∧ L' = L.put q (.abs (QueueP q (ws ++ [w]))) := by
  apply CallL.openQ e
  intro l L1 h1 h2 hq hn
  apply r_f16 h.code
  have hlen : l.length = ws.length := by rw [← h1]; simp
  have e1 : wr .i64 ((ws.length : Int) + 1) = (ws.length : Int) + 1 := wr_id (by omega) (by omega)
  have hroot := hq.root
  unfold D_f16_1 D_f16_2 D_f16_3 D_f16_4 D_f16_5 Wt.av Wt.cells
  simp
  intro x hx
  have hxq : x ≠ q := by rintro rfl; rw [hroot] at hx; cases hx
  simp [rdL,AB.read,look,Lg.put_apply,hxq,Ne.symm hxq,hroot,cut,ble_nat,beq_nat,fillP,splice,cellsOf_agg']
  rw [newL_box_agg _ _ _ (by simp)]
  intro y hy1
  have hy : y ≠ x := by rintro rfl; simp at hy1
  rw [Lg.put_ne _ _ _ hy] at hy1
  have hyq : y ≠ q := by rintro rfl; rw [hroot] at hy1; cases hy1
  have hyL : L y = none := by
    cases h3 : L y with
    | none => rfl
    | some c =>
      by_cases h4 : y ∈ q :: idsOf l
      · rcases List.mem_cons.1 h4 with h4 | h4
        · exact absurd h4 hyq
        · rw [hq.new y h4] at h3; cases h3
      · rw [hq.old y c h4 h3] at hy1; cases hy1
  have hyl : y ∉ idsOf l := by
    intro h4
    exact Seg.some hq.seg y h4 hy1
  rcases List.eq_nil_or_concat l with rfl | ⟨A,⟨j,u⟩,rfl⟩
  · simp at hlen
    simp [hd,lst,rdL,AB.read,look,Lg.put_apply,hyq,Ne.symm hyq,hxq,Ne.symm hxq,hroot,stL,wrL,splice_one,hy]
    have hws0 : ws = [] := List.length_eq_zero_iff.1 hlen.symm
    subst hws0
    refine ⟨?_,by rw [wr_id (by omega) (by omega)]; simp⟩
    have hf : ∀ Lf : Lg,Lf q = some (.raw (.cells [.p (some (y,0)),.p (some (y,0)),.i .i64 1])) → Lf y = some (wnode w none none) → (∀ b,b ≠ q → b ≠ y → b ≠ x → Lf b = L1 b) → QOpen L q [(y,w)] Lf := by
      intro Lf f1 f2 f3
      refine ⟨by simp [idsOf,Ne.symm hyq],by simpa [hd,lst] using f1,⟨f2,trivial⟩,?_,by simpa [idsOf] using hyL⟩
      intro b c hb hc
      simp [idsOf] at hb
      have hbx : b ≠ x := by
        rintro rfl
        rw [hq.old b c (by simp [idsOf,hb.1]) hc] at hx; cases hx
      rw [f3 b hb.1 hb.2 hbx]
      exact hq.old b c (by simp [idsOf,hb.1]) hc
    refine (hf _ ?_ ?_ ?_).shut (by simp)
    · simp [wr_id]
    · simp [Lg.put_apply,hyq,wnode]
    · intro b b1 b2 b3; simp [Lg.put_apply,b1,b2,b3]
  · simp only [List.concat_eq_append] at hq hroot hyl h1 hlen hn h2
    have hseg := (Seg.append L1 A [(j,u)] none none).1 hq.seg
    have hj : L1 j = some (wnode u (lst none A) none) := hseg.2.1
    have hnd := hq.nd
    simp only [idsOf,List.map_append,List.map_cons,List.map_nil] at hnd hyl
    have hjq : j ≠ q := by
      rintro rfl
      exact (List.nodup_cons.1 hnd).1 (by simp)
    have hjA : j ∉ idsOf A := by
      have := (List.nodup_append.1 (List.nodup_cons.1 hnd).2).2.2
      intro hjA
      exact this j hjA j (by simp) rfl
    have hyj : y ≠ j := by rintro rfl; exact hyl (by simp)
    have hxj : x ≠ j := by rintro rfl; rw [hj] at hx; cases hx
    have hl1 : lst none (A ++ [(j,u)]) = some j := by simp [lst_append,lst]
    have hlen' : (A.length : Int) + 1 = ws.length := by simp at hlen; omega
    simp [hl1] at hroot
    simp [hl1,rdL,AB.read,look,Lg.put_apply,hyq,Ne.symm hyq,hxq,Ne.symm hxq,hyj,Ne.symm hyj,hjq,Ne.symm hjq,hxj,Ne.symm hxj,hroot,stL,wrL,splice_one,hy,hj,wnode,hlen',e1]
    have hf : ∀ Lf : Lg,Lf q = some (.raw (.cells [ptr (hd none (A ++ [(j,u)])),.p (some (y,0)),.i .i64 (ws.length + 1)])) → Lf y = some (wnode w (some j) none) → Lf j = some (wnode u (lst none A) (some y)) →
        (∀ b,b ≠ q → b ≠ y → b ≠ j → b ≠ x → Lf b = L1 b) → QOpen L q (A ++ [(j,u),(y,w)]) Lf := by
      intro Lf f1 f2 f3 f4
      have hqA : q ∉ idsOf A := fun h5 => (List.nodup_cons.1 hnd).1 (by simp [idsOf] at h5 ⊢; exact .inl h5)
      have hyA : y ∉ idsOf A := fun h5 => hyl (by simp [idsOf] at h5 ⊢; exact .inl h5)
      refine ⟨?_,?_,?_,?_,?_⟩
      · have e3 : q :: idsOf (A ++ [(j,u),(y,w)]) = (q :: (List.map (fun x => x.fst) A ++ [j])) ++ [y] := by simp [idsOf]
        rw [e3,List.nodup_append]
        refine ⟨hnd,by simp,?_⟩
        intro a ha b hb hab
        simp at hb
        subst hb
        subst hab
        rcases List.mem_cons.1 ha with ha | ha
        · exact hyq ha
        · exact hyl ha
      · rw [f1]
        have : hd none (A ++ [(j,u),(y,w)]) = hd none (A ++ [(j,u)]) := by rw [hd_append,hd_append]; rfl
        rw [this]
        simp [lst_append,lst]
        omega
      · rw [Seg.append]
        refine ⟨Seg.congr ?_ hseg.1,f3,f2,trivial⟩
        intro i hi
        have : i ≠ x := by
          rintro rfl
          have := hq.new i (by simp [idsOf] at hi ⊢; exact .inl hi)
          exact Seg.some hseg.1 i hi hx
        exact f4 i (fun h5 => hqA (h5 ▸ hi)) (fun h5 => hyA (h5 ▸ hi)) (fun h5 => hjA (h5 ▸ hi)) this
      · intro b c hb hc
        simp [idsOf] at hb
        have hb' : b ∉ q :: idsOf (A ++ [(j,u)]) := by
          simp [idsOf]
          exact ⟨hb.1,fun x => hb.2.1 x,hb.2.2.1⟩
        have h6 := hq.old b c hb' hc
        have hbx : b ≠ x := by rintro rfl; rw [h6] at hx; cases hx
        rw [f4 b hb.1 hb.2.2.2 hb.2.2.1 hbx]
        exact h6
      · intro b hb
        by_cases h7 : b = y
        · subst h7; exact hyL
        · exact hq.new b (by simp [idsOf] at hb ⊢; rcases hb with hb | hb | hb; exact .inl hb; exact .inr hb; exact absurd hb h7)
    have h8 : ws ++ [w] = (A ++ [(j,u),(y,w)]).map (·.2) := by rw [← h1]; simp
    rw [h8]
    refine (hf _ ?_ ?_ ?_ ?_).shut ?_
    · simp
    · simp [Lg.put_apply,hyq,hyj,wnode]
    · simp [Lg.put_apply,hjq,wnode]
    · intro b b1 b2 b3 b4; simp [Lg.put_apply,b1,b2,b3,b4]
    · simp; omega

theorem idsOf_append (A B : List (Nat × Wt)) : idsOf (A ++ B) = idsOf A ++ idsOf B := by simp [idsOf]
theorem idsOf_cons (x : Nat × Wt) (B : List (Nat × Wt)) : idsOf (x :: B) = x.1 :: idsOf B := rfl
@[simp] theorem idsOf_nil : idsOf [] = [] := rfl
theorem QOpen.dropped {A B : List (Nat × Wt)} {i : Nat} {w : Wt} {L1 : Lg} (hq : QOpen L q (A ++ (i,w) :: B) L1) {Lf : Lg}
    (f1 : Lf q = some (.raw (.cells [ptr (hd none (A ++ B)),ptr (lst none (A ++ B)),.i .i64 (A ++ B).length])))
    (f2 : ∀ A' j u,A = A' ++ [(j,u)] → Lf j = some (wnode u (lst none A') (hd none B)))
    (f3 : ∀ k z B',B = (k,z) :: B' → Lf k = some (wnode z (lst none A) (hd none B')))
    (f4 : ∀ b,b ≠ q → (∀ A' j u,A = A' ++ [(j,u)] → b ≠ j) → (∀ k z B',B = (k,z) :: B' → b ≠ k) → Lf b = L1 b) : QOpen L q (A ++ B) Lf := by
  have hseg := (Seg.append L1 A ((i,w) :: B) none none).1 hq.seg
  have hnd := hq.nd
  rw [idsOf_append,idsOf_cons] at hnd
  have h1 := (List.nodup_cons.1 hnd).1
  have h2 := List.nodup_append.1 (List.nodup_cons.1 hnd).2
  have h3 := List.nodup_cons.1 h2.2.1
  refine ⟨?_,f1,?_,?_,?_⟩
  · rw [idsOf_append,List.nodup_cons,List.nodup_append]
    refine ⟨fun h => h1 ?_,h2.1,h3.2,fun a ha b hb => h2.2.2 a ha b (List.mem_cons_of_mem _ hb)⟩
    rw [List.mem_append] at h ⊢
    exact h.imp id (List.mem_cons_of_mem _)
  · rw [Seg.append]
    refine ⟨?_,?_⟩
    · rcases List.eq_nil_or_concat A with rfl | ⟨A',⟨j,u⟩,rfl⟩
      · trivial
      · simp only [List.concat_eq_append] at *
        have hs := (Seg.append L1 A' [(j,u)] none (some i)).1 hseg.1
        rw [Seg.append]
        refine ⟨Seg.congr ?_ hs.1,f2 A' j u rfl,trivial⟩
        intro b hb
        have hnA := h2.1
        rw [idsOf_append,List.nodup_append] at hnA
        refine f4 b ?_ ?_ ?_
        · rintro rfl; exact h1 (by rw [idsOf_append]; simp [hb])
        · intro A'' j' u' e hbj
          have := (List.append_inj' e rfl).2
          simp at this
          subst hbj
          exact hnA.2.2 b hb j (by simp [idsOf]) this.1.symm
        · intro k z B' e hbk
          subst hbk
          refine h2.2.2 b (by rw [idsOf_append]; simp [hb]) b ?_ rfl
          rw [e,idsOf_cons]; simp
    · cases B with
      | nil => trivial
      | cons x B' =>
        obtain ⟨k,z⟩ := x
        refine ⟨f3 k z B' rfl,Seg.congr ?_ hseg.2.2.2⟩
        intro b hb
        rw [idsOf_cons] at h3
        have h4 := List.nodup_cons.1 h3.2
        refine f4 b ?_ ?_ ?_
        · rintro rfl; exact h1 (by rw [idsOf_cons]; simp [hb])
        · intro A' j u e hbj
          subst hbj
          refine h2.2.2 b (by rw [e,idsOf_append]; simp [idsOf]) b (by rw [idsOf_cons]; simp [hb]) rfl
        · intro k' z' B'' e hbk
          simp at e
          subst hbk
          rw [← e.1.1] at hb
          exact h4.1 hb
  · intro b c hb hc
    rw [idsOf_append] at hb
    by_cases hbi : b = i
    · subst hbi
      have := hq.new b (by rw [idsOf_append,idsOf_cons]; simp)
      rw [this] at hc; cases hc
    · have hb' : b ∉ q :: idsOf (A ++ (i,w) :: B) := by
        rw [idsOf_append,idsOf_cons]
        simp at hb ⊢
        exact ⟨hb.1,hb.2.1,hbi,hb.2.2⟩
      simp at hb
      rw [f4 b hb.1 ?_ ?_]
      · exact hq.old b c hb' hc
      · rintro A' j u rfl rfl; exact hb.2.1 (by simp [idsOf])
      · rintro k z B' rfl rfl; exact hb.2.2 (by simp [idsOf])
  · intro b hb
    refine hq.new b ?_
    rw [idsOf_append,idsOf_cons]
    rw [idsOf_append] at hb
    rw [List.mem_append] at hb ⊢
    exact hb.imp id (List.mem_cons_of_mem _)
theorem queueDrop_open (h : H_f11 N F) {A B : List (Nat × Wt)} {i : Nat} {w : Wt} {L1 : Lg} (hq : QOpen L q (A ++ (i,w) :: B) L1) (hl : (A ++ (i,w) :: B).length ≤ 1000000) :
    CallL F (N k_f11) [.p (some (q,0)),.p (some (i,0))] L1 fun v L' => v = .tup [] ∧ QOpen L q (A ++ B) L' ∧ L' i = some (wnode w (lst none A) (hd none B)) ∧ ∀ b,b ∉ q :: idsOf (A ++ B) → L' b = L1 b := by
  apply r_f11 h.code
  have hseg := (Seg.append L1 A ((i,w) :: B) none none).1 hq.seg
  have hnd := hq.nd
  rw [idsOf_append,idsOf_cons] at hnd
  have h1 := (List.nodup_cons.1 hnd).1
  have h2 := List.nodup_append.1 (List.nodup_cons.1 hnd).2
  have h3 := List.nodup_cons.1 h2.2.1
  have hiq : i ≠ q := by rintro rfl; exact h1 (by simp)
  have hi : L1 i = some (wnode w (lst none A) (hd none B)) := hseg.2.1
  have hroot := hq.root
  unfold D_f11_1 D_f11_2
  have e1 : wr .i64 ((((A ++ (i,w) :: B).length : Nat) : Int) - 1) = ((A ++ B).length : Nat) := by rw [wr_id (by simp at hl ⊢; omega) (by omega)]; simp; omega
  have hr1 : hd none (A ++ (i,w) :: B) = hd (some i) A := by rw [hd_append]; rfl
  have hr2 : lst none (A ++ (i,w) :: B) = lst (some i) B := by rw [lst_append]; rfl
  rw [hr1,hr2] at hroot
  obtain ⟨n,hn⟩ : ∃ n,n = (A ++ (i,w) :: B).length := ⟨_,rfl⟩
  obtain ⟨m,hm⟩ : ∃ m,m = (A ++ B).length := ⟨_,rfl⟩
  rw [← hn] at e1 hroot
  rw [← hm] at e1
  rcases List.eq_nil_or_concat A with rfl | ⟨A',⟨j,u⟩,rfl⟩
  · cases B with
    | nil =>
      simp [rdL,AB.read,look,hi,wnode,hroot,stL,wrL,splice_one,Lg.put_apply,hiq,Ne.symm hiq,e1]
      refine ⟨_,Sees.refl _,hq.dropped ?_ ?_ ?_ ?_,?_,?_⟩
      · simp [hm]
      · intro A' j u e; simp at e
      · intro k z B' e; simp at e
      · intro b b1 b2 b3; simp [Lg.put_apply,b1]
      · simp [Lg.put_apply,hiq,hi,wnode]
      · intro b b1; simp [Lg.put_apply,b1]
    | cons x B' =>
      obtain ⟨k,z⟩ := x
      have hk : L1 k = some (wnode z (some i) (hd none B')) := hseg.2.2.1
      have hkq : k ≠ q := by rintro rfl; exact h1 (by simp [idsOf])
      have hki : k ≠ i := by rintro rfl; exact h3.1 (by simp [idsOf])
      simp [rdL,AB.read,look,hi,hk,wnode,hroot,stL,wrL,splice_one,Lg.put_apply,hiq,Ne.symm hiq,hkq,Ne.symm hkq,hki,Ne.symm hki,e1]
      refine ⟨_,Sees.refl _,hq.dropped ?_ ?_ ?_ ?_,?_,?_⟩
      · simp [hm]
      · intro A' j u e; simp at e
      · intro k' z' B'' e
        simp at e
        obtain ⟨⟨rfl,rfl⟩,rfl⟩ := e
        simp [Lg.put_apply,hkq,wnode]
      · intro b b1 b2 b3
        have : b ≠ k := b3 k z B' rfl
        simp [Lg.put_apply,b1,this]
      · simp [Lg.put_apply,hiq,Ne.symm hki,hi,wnode]
      · intro b b1 b2
        have b3 : b ≠ k := by rintro rfl; exact b2 (by simp [idsOf])
        simp [Lg.put_apply,b1,b3]
  · simp only [List.concat_eq_append] at *
    have hsA := (Seg.append L1 A' [(j,u)] none _).1 hseg.1
    have hj : L1 j = some (wnode u (lst none A') (some i)) := hsA.2.1
    have hjq : j ≠ q := by rintro rfl; exact h1 (by simp [idsOf])
    have hji : j ≠ i := fun e => h2.2.2 j (by simp [idsOf]) i (by simp) e
    have hl1 : lst none (A' ++ [(j,u)]) = some j := by simp [lst_append]
    have hh1 : hd (some i) (A' ++ [(j,u)]) = hd (some j) A' := by simp [hd_append]
    rw [hl1] at hi
    rw [hh1] at hroot
    cases B with
    | nil =>
      simp [rdL,AB.read,look,hi,hj,wnode,hroot,stL,wrL,splice_one,Lg.put_apply,hiq,Ne.symm hiq,hjq,Ne.symm hjq,hji,Ne.symm hji,e1]
      refine ⟨_,Sees.refl _,?_,?_,?_⟩
      rw [← List.append_nil (A' ++ [(j,u)])]
      refine hq.dropped ?_ ?_ ?_ ?_
      · have : hd none (A' ++ [(j,u)]) = hd (some j) A' := by simp [hd_append]
        rw [hm]; simp [this,hl1]
      · intro A'' j' u' e
        obtain ⟨rfl,e2⟩ := List.append_inj' e rfl
        simp at e2
        obtain ⟨rfl,rfl⟩ := e2
        simp [Lg.put_apply,hjq,wnode]
      · intro k z B' e; simp at e
      · intro b b1 b2 b3
        have : b ≠ j := b2 A' j u rfl
        simp [Lg.put_apply,b1,this]
      · simp [Lg.put_apply,hiq,Ne.symm hji,hi,wnode,hl1]
      · intro b b1 b2
        have b3 : b ≠ j := by rintro rfl; exact b2 (by simp [idsOf])
        simp [Lg.put_apply,b1,b3]
    | cons x B' =>
      obtain ⟨k,z⟩ := x
      have hk : L1 k = some (wnode z (some i) (hd none B')) := hseg.2.2.1
      have hkq : k ≠ q := by rintro rfl; exact h1 (by simp [idsOf])
      have hki : k ≠ i := by rintro rfl; exact h3.1 (by simp [idsOf])
      have hkj : k ≠ j := fun e => h2.2.2 j (by simp [idsOf]) k (by simp [idsOf]) e.symm
      simp [rdL,AB.read,look,hi,hj,hk,wnode,hroot,stL,wrL,splice_one,Lg.put_apply,hiq,Ne.symm hiq,hjq,Ne.symm hjq,hji,Ne.symm hji,hkq,Ne.symm hkq,hki,Ne.symm hki,hkj,Ne.symm hkj,e1]
      refine ⟨_,Sees.refl _,?_,?_,?_⟩
      rw [show A' ++ (j,u) :: (k,z) :: B' = A' ++ [(j,u)] ++ (k,z) :: B' by simp]
      refine hq.dropped ?_ ?_ ?_ ?_
      · have : hd none (A' ++ [(j,u)] ++ (k,z) :: B') = hd (some j) A' := by rw [hd_append,hd_append]; simp
        have h9 : lst none (A' ++ [(j,u)] ++ (k,z) :: B') = lst (some k) B' := by rw [lst_append]; simp
        rw [this,h9,← hm]
        simp [Lg.put_apply]
      · intro A'' j' u' e
        obtain ⟨rfl,e2⟩ := List.append_inj' e rfl
        simp at e2
        obtain ⟨rfl,rfl⟩ := e2
        simp [Lg.put_apply,hjq,Ne.symm hkj,wnode]
      · intro k' z' B'' e
        simp at e
        obtain ⟨⟨rfl,rfl⟩,rfl⟩ := e
        simp [Lg.put_apply,hkq,hkj,wnode,hl1]
      · intro b b1 b2 b3
        have c1 : b ≠ k := b3 k z B' rfl
        have c2 : b ≠ j := b2 A' j u rfl
        simp [Lg.put_apply,b1,c1,c2]
      · simp [Lg.put_apply,hiq,Ne.symm hji,Ne.symm hki,hi,wnode,hl1]
      · intro b b1 b2
        have b3 : b ≠ j := by rintro rfl; exact b2 (by simp [idsOf])
        have b4 : b ≠ k := by rintro rfl; exact b2 (by simp [idsOf])
        simp [Lg.put_apply,b1,b3,b4]

theorem QOpen.other {l : List (Nat × Wt)} {L1 : Lg} (h : QOpen L q l L1) {L2 : Lg} (h2 : ∀ b c,L1 b = some c → L2 b = some c) : QOpen L q l L2 := by
  refine ⟨h.nd,h2 _ _ h.root,?_,fun b c hb hc => h2 _ _ (h.old b c hb hc),h.new⟩
  have : ∀ {l : List (Nat × Wt)} {p n : Option Nat},Seg L1 p l n → Seg L2 p l n := by
    intro l
    induction l with
    | nil => intros; trivial
    | cons x r ih => intro p n hs; exact ⟨h2 _ _ hs.1,ih hs.2⟩
  exact this h.seg
theorem QOpen.put {l : List (Nat × Wt)} {L1 : Lg} (h : QOpen L q l L1) {rc : Nat} {c : LC} (h1 : rc ∉ q :: idsOf l) (h2 : L rc = none) : QOpen L q l (L1.put rc c) := by
  have h3 : ∀ b,b ∈ q :: idsOf l → (L1.put rc c) b = L1 b := fun b hb => Lg.put_ne _ _ _ (fun e => h1 (e ▸ hb))
  refine ⟨h.nd,?_,Seg.congr (fun i hi => h3 i (List.mem_cons_of_mem _ hi)) h.seg,?_,h.new⟩
  · rw [h3 q (List.mem_cons_self ..)]; exact h.root
  · intro b d hb hd
    have : b ≠ rc := by rintro rfl; rw [h2] at hd; cases hd
    rw [Lg.put_ne _ _ _ this]
    exact h.old b d hb hd
theorem QOpen.keeps {l : List (Nat × Wt)} {L1 : Lg} (h : QOpen L q l L1) {b : Nat} {c : LC} (hb : b ≠ q) (hc : L b = some c) : L1 b = some c := by
  by_cases hi : b ∈ idsOf l
  · rw [h.new b hi] at hc; cases hc
  · exact h.old b c (by simp [hb,hi]) hc
def takeW (p : Wt → Bool) : List Wt → Option (Wt × List Wt)
  | [] => none
  | w :: r => if p w = true then some (w,r) else (takeW p r).map fun x => (x.1,w :: x.2)
theorem takeW_skip (p : Wt → Bool) (w : Wt) (B : List Wt) : ∀ (A : List Wt),(∀ x,x ∈ A → p x = false) → p w = true → takeW p (A ++ w :: B) = some (w,A ++ B)
  | [],_,hw => by simp [takeW,hw]
  | a :: A,hA,hw => by simp [takeW,hA a (by simp),takeW_skip p w B A (fun x hx => hA x (by simp [hx])) hw]
theorem takeW_none (p : Wt → Bool) : ∀ (A : List Wt),(∀ x,x ∈ A → p x = false) → takeW p A = none
  | [],_ => rfl
  | a :: A,hA => by simp [takeW,hA a (by simp),takeW_none p A (fun x hx => hA x (by simp [hx]))]
theorem queueTake_spec (h : H_f12 N F) (e : L q = some (.abs (QueueP q ws))) {f : Nat} {fst cap : List AV} {p : Wt → Bool}
    (hso : ∀ (w : Wt) L',(∀ b c,b ≠ q → L b = some c → L' b = some c) → CallL F f (fst ++ w.av :: cap) L' fun v L'' => v = .b (p w) ∧ L'' = L') :
    CallL F (N k_f12) [.p (some (q,0)),.fn f fst cap] L fun v L' => match (generalizing := false) takeW p ws with
      | none => v = .tup [Wt.zero.av,.b false] ∧ L' = L
      | some (w,r) => v = .tup [w.av,.b true] ∧ L' = L.put q (.abs (QueueP q r)) := by
  apply CallL.openQ e
  intro l L1 h1 h2 hq hn
  apply r_f12 h.code
  unfold D_f12_1 D_f12_2 D_f12_5
  generalize hQ : (fun (v : AV) (L' : Lg) => match takeW p ws with
      | none => v = AV.tup [Wt.zero.av,.b false] ∧ L' = L
      | some (w,r) => v = AV.tup [w.av,.b true] ∧ L' = L.put q (.abs (QueueP q r))) = Q
  simp [initE]
  intro rc hrc
  have hrq : rc ≠ q := by rintro rfl; rw [hq.root] at hrc; cases hrc
  simp [Env.put_apply,rdL,AB.read,look,Lg.put_apply,Ne.symm hrq,hq.root,D_f12_7]
  have hq2 : QOpen L q l (L1.put rc (.raw (.cells [.i .i64 0,.i .i64 0,.i .i64 0]))) := hq.other (fun b c hb => by
    have : b ≠ rc := by rintro rfl; rw [hrc] at hb; cases hb
    rw [Lg.put_ne _ _ _ this]; exact hb)
  refine loopW_intro (fun n l' L' => ∃ A B,l = A ++ B ∧ (∀ x,x ∈ A → p x.2 = false) ∧ n = B.length ∧ L' = L1.put rc (.raw (.cells [.i .i64 0,.i .i64 0,.i .i64 0])) ∧ l' 0 = .p (some (q,0)) ∧ l' 1 = .fn f fst cap ∧ l' 4 = .p (some (rc,0)) ∧ l' 6 = ptr (hd none B))
    l.length ⟨[],l,rfl,by simp,rfl,rfl,by simp [Env.put_apply],by simp [Env.put_apply],by simp [Env.put_apply],by simp [Env.put_apply]⟩ ?_
  rintro n l' t L' ⟨A,B,rfl,hA,hnB,rfl,l0,l1,l4,l6⟩
  unfold D_f12_8
  rw [l0,l1,l4,l6]
  have h0 : ∀ b c,b ≠ q → L b = some c → (L1.put rc (.raw (.cells [.i .i64 0,.i .i64 0,.i .i64 0]))) b = some c := fun b c hb hc => hq2.keeps hb hc
  cases B with
  | nil =>
    simp [D_f12_4,fillP,stL_cells (Lg.put_same _ _ _),splice,res_cell_tmp _ _ (Lg.put_same _ _ _)]
    refine ⟨L,?_,?_⟩
    · have := hq2.shut h2
      rwa [h1,Lg.put_self L q _ e] at this
    · subst hQ
      have : takeW p ws = none := takeW_none p ws (by rw [← h1]; intro x hx; simp at hx; obtain ⟨a,hx⟩ := hx; exact hA _ hx)
      simp only [this]
      exact ⟨rfl,trivial⟩
  | cons x B =>
    obtain ⟨i,w⟩ := x
    have hseg := (Seg.append _ A ((i,w) :: B) none none).1 hq2.seg
    have hi := hseg.2.1
    simp [rdL,AB.read,look,hi,wnode,cut,ble_nat]
    refine (hso w _ h0).mono ?_
    rintro _ _ ⟨rfl,rfl⟩
    rw [condW_bool]
    refine ⟨fun hw => ?_,fun hw => ?_⟩
    · refine (queueDrop_open h.f11 hq2 h2).mono ?_
      rintro _ L3 ⟨rfl,hq3,h3i,h3o⟩
      have hrc3 : L3 rc = some (.raw (.cells [.i .i64 0,.i .i64 0,.i .i64 0])) := by
        rw [h3o rc,Lg.put_same]
        intro hm
        rw [idsOf_append] at hm
        have : rc ∈ idsOf (A ++ (i,w) :: B) := by
          rw [idsOf_append,idsOf_cons]
          simp at hm ⊢
          rcases hm with hm | hm | hm
          · exact absurd hm hrq
          · exact .inl hm
          · exact .inr (.inr hm)
        exact Seg.some hq.seg rc this hrc
      simp [rdL,AB.read,look,h3i,wnode,cut,ble_nat,stL_cells hrc3,splice,res_cell_tmp _ _ (Lg.put_same _ _ _)]
      have hrcL : L rc = none := by
        cases hL : L rc with
        | none => rfl
        | some c => rw [hq.keeps hrq hL] at hrc; cases hrc
      have hrc4 : rc ∉ q :: idsOf (A ++ B) := by
        intro hm
        rcases List.mem_cons.1 hm with hm | hm
        · exact hrq hm
        · have h7 := Seg.some hq3.seg rc hm
          have : rc ∈ idsOf (A ++ (i,w) :: B) := by
            rw [idsOf_append] at hm
            rw [idsOf_append,idsOf_cons]
            simp at hm ⊢
            rcases hm with hm | hm
            · exact .inl hm
            · exact .inr (.inr hm)
          exact Seg.some hq.seg rc this hrc
      refine ⟨_,(hq3.put hrc4 hrcL).shut ?_,?_⟩
      · simp at h2 ⊢; omega
      · subst hQ
        have : takeW p ws = some (w,(A ++ B).map (·.2)) := by
          rw [← h1]; simpa using takeW_skip p w (B.map (·.2)) (A.map (·.2)) (by intro x hx; simp at hx; obtain ⟨a,hx⟩ := hx; exact hA _ hx) hw
        simp only [this]
        exact ⟨rfl,trivial⟩
    · simp [rdL,AB.read,look,hi,wnode]
      refine ⟨B.length,by simp at hnB; omega,A ++ [(i,w)],B,by simp,?_,rfl,l0,l1,l4,rfl⟩
      intro a b hx
      rcases List.mem_append.1 hx with hx | hx
      · exact hA _ hx
      · simp at hx; obtain ⟨_,rfl⟩ := hx; exact hw
theorem queuePop_spec (h : H_f14 N F) (e : L q = some (.abs (QueueP q ws))) :
    CallL F (N k_f14) [.p (some (q,0))] L fun v L' => match (generalizing := false) ws with
      | [] => v = .tup [Wt.zero.av,.b false] ∧ L' = L
      | w :: r => v = .tup [w.av,.b true] ∧ L' = L.put q (.abs (QueueP q r)) := by
  apply r_f14 h.code
  unfold D_f13
  simp
  intro rc hrc
  have hrq : rc ≠ q := by rintro rfl; rw [e] at hrc; cases hrc
  have e2 : (L.put rc (.raw (.cells [.i .i64 0,.i .i64 0,.i .i64 0]))) q = some (.abs (QueueP q ws)) := by rw [Lg.put_ne _ _ _ (Ne.symm hrq)]; exact e
  refine (queueTake_spec h.f12 e2 (f := N k_f13) (fst := []) (cap := []) (p := fun _ => true) ?_).mono ?_
  · intro w L' hL'
    apply r_f13 h.f13.code
    simp [D_f13_1,Wt.av]
    rw [newL_box_agg _ _ _ (by simp [Wt.cells])]
    intro b hb
    exact Sees.drop fun c d hc => by
      have : c ≠ b := by rintro rfl; rw [hb] at hc; cases hc
      rw [Lg.put_ne _ _ _ this]; exact hc
  · intro v L' hv
    have hs1 : Sees (L.put rc (.raw (.cells [.i .i64 0,.i .i64 0,.i .i64 0]))) L := Sees.drop fun c d hc => by
      have : c ≠ rc := by rintro rfl; rw [hrc] at hc; cases hc
      rw [Lg.put_ne _ _ _ this]; exact hc
    cases ws with
    | nil =>
      simp only [takeW] at hv
      obtain ⟨rfl,rfl⟩ := hv
      simp [Wt.av,Wt.cells,Wt.zero,stL_cells (Lg.put_same _ _ _),splice,res_cell_tmp _ _ (Lg.put_same _ _ _)]
      simpa using hs1
    | cons w r =>
      simp only [takeW,if_true] at hv
      obtain ⟨rfl,rfl⟩ := hv
      have e3 : ((L.put rc (.raw (.cells [.i .i64 0,.i .i64 0,.i .i64 0]))).put q (.abs (QueueP q r))) rc = some (.raw (.cells [.i .i64 0,.i .i64 0,.i .i64 0])) := by
        rw [Lg.put_ne _ _ _ hrq,Lg.put_same]
      simp [Wt.av,Wt.cells,stL_cells e3,splice,res_cell_tmp _ _ (Lg.put_same _ _ _)]
      apply Sees.drop
      intro c d hc
      have : c ≠ rc := by
        rintro rfl
        rw [Lg.put_ne _ _ _ hrq,hrc] at hc; cases hc
      rw [Lg.put_ne _ _ _ this,Lg.put_apply]
      rw [Lg.put_apply] at hc
      split
      · rename_i h9; rw [if_pos h9] at hc; exact hc
      · rename_i h9; rw [if_neg h9] at hc; rw [Lg.put_ne _ _ _ this]; exact hc
def wcells : List Wt → List AV
  | [] => []
  | w :: r => w.cells ++ wcells r
theorem wcells_append : ∀ (A B : List Wt),wcells (A ++ B) = wcells A ++ wcells B
  | [],_ => rfl
  | w :: A,B => by simp [wcells,wcells_append A B]
theorem QOpen.onto {l : List (Nat × Wt)} {L1 : Lg} (h : QOpen L q l L1) {b : Nat} {c : LC} {L2 : Lg} (hb : L1 b = none) (h2 : Ext2 L1 L2) (h3 : L2 b = some c) : QOpen (L.put b c) q l L2 := by
  have hx := h.other h2
  refine ⟨hx.nd,hx.root,hx.seg,?_,?_⟩
  · intro d e hd he
    rw [Lg.put_apply] at he
    split at he
    · rename_i h4; subst h4; cases he; exact h3
    · exact hx.old d e hd he
  · intro d hd
    have : d ≠ b := by rintro rfl; exact Seg.some h.seg d hd hb
    rw [Lg.put_ne _ _ _ this]
    exact h.new d hd
theorem queueAll_spec (h : H_f15 N F) (e : L q = some (.abs (QueueP q ws))) :
    CallL F (N k_f15) [.p (some (q,0))] L fun v L' => FreshSl L v (wcells ws) ws.length 3 L' := by
  apply CallL.openQ e
  intro l L1 h1 h2 hq hn
  apply r_f15 h.code
  unfold D_f15_1 D_f15_2 D_f15_5
  generalize hQ : (fun (v : AV) (L' : Lg) => FreshSl L v (wcells ws) ws.length 3 L') = Q
  have hlen : l.length = ws.length := by rw [← h1]; simp
  simp [rdL,AB.read,look,hq.root,D_f15_7]
  refine loopW_intro (fun n l' L' => ∃ A B v,l = A ++ B ∧ n = B.length ∧ Ext2 L1 L' ∧ l' 2 = v ∧ OwnSl L' v (wcells (A.map (·.2))) A.length 3 ∧ (∀ b,slB v = some b → L1 b = none) ∧ l' 3 = ptr (hd none B))
    l.length ⟨[],l,_,rfl,rfl,Ext2.refl _,rfl,.inl ⟨rfl,rfl,by simp⟩,by simp [slB],by simp⟩ ?_
  rintro n l' t L' ⟨A,B,v,rfl,hnB,hext,l2,hown,hfr,l3⟩
  unfold D_f15_8
  rw [l3,l2]
  cases B with
  | nil =>
    simp [D_f15_4]
    subst hQ
    simp only [List.append_nil] at h1 hlen hq
    rw [h1,hlen] at hown
    rcases hown with ⟨h3,h4,rfl⟩ | ⟨b,h0,rfl,hL,hl⟩
    · refine ⟨L,?_,.inl ⟨h3,h4,rfl,rfl⟩⟩
      have := (hq.other hext).shut (by simp at h2 ⊢; omega)
      rwa [h1,Lg.put_self L q _ e] at this
    · have hb1 := hfr b rfl
      have hqb : q ≠ b := by rintro rfl; rw [hq.root] at hb1; cases hb1
      have hLb : L b = none := by
        cases hL2 : L b with
        | none => rfl
        | some c => rw [hq.keeps (Ne.symm hqb) hL2] at hb1; cases hb1
      refine ⟨L.put b (.raw (.cells (wcells ws))),?_,.inr ⟨b,3,hLb,by omega,rfl,hl,rfl⟩⟩
      have := (hq.onto hb1 hext hL).shut (by simp at h2 ⊢; omega)
      rwa [h1,Lg.put_self _ q] at this
      rw [Lg.put_ne _ _ _ hqb]; exact e
  | cons x B =>
    obtain ⟨i,w⟩ := x
    have hseg := (Seg.append _ A ((i,w) :: B) none none).1 (hq.other hext).seg
    have hi := hseg.2.1
    simp [rdL,AB.read,look,hi,wnode,cut,ble_nat]
    rw [newL_bslice (c := w.cells) _ _ (by simp [reps,fillP,cellsOf_agg',splice,Wt.cells,ble_nat,beq_nat]) (by simp [Wt.cells])]
    intro b1 hb1
    have hv1 : OwnSl (L'.put b1 (.raw (.cells w.cells))) v (wcells (A.map (·.2))) A.length 3 := by
      rcases hown with h5 | ⟨b,h0,rfl,hL,hl⟩
      · exact .inl h5
      · refine .inr ⟨b,h0,rfl,?_,hl⟩
        have : b ≠ b1 := by rintro rfl; rw [hL] at hb1; cases hb1
        rw [Lg.put_ne _ _ _ this]; exact hL
    simp
    refine OwnSl.app hv1 (by omega) rfl (m := 1) (new := w.cells) (by omega) (by simp [rdCellsL,AB.read,cut,Wt.cells,ble_nat]) rfl (by simp [Wt.cells]) (by simp at h2; omega) ?_
    intro b2 hb2
    have hb2' : b2 ≠ b1 := by rintro rfl; simp at hb2
    rw [Lg.put_ne _ _ _ hb2'] at hb2
    have hext2 : Ext2 L1 (((L'.put b1 (.raw (.cells w.cells))).delO (slB v)).put b2 (.raw (.cells (wcells (A.map (·.2)) ++ w.cells)))) :=
      ((hext.put (hext.none hb1) _).delO hfr).put (hext.none hb2) _
    have hi2 := ((Seg.append _ A ((i,w) :: B) none none).1 (hq.other hext2).seg).2.1
    simp [rdL,AB.read,look,hi2,wnode]
    refine ⟨B.length,by simp at hnB; omega,A ++ [(i,w)],B,by simp,rfl,hext2,?_,?_,rfl⟩
    · have := OwnSl.of_app (b := b2) hv1 (new := w.cells) (m := 1) (by omega) rfl
      simpa [wcells_append,wcells] using this
    · intro b hb; simp [slB] at hb; subst hb; exact hext.none hb2
end
end Go.AM


set_option linter.unusedVariables false
set_option linter.unusedSimpArgs false
namespace Go.AM
variable {N : Nat → Nat} {F : Nat → Option AFn}

structure Ch where
  vals : List Int
  cap : Nat
  recvs : List Wt
  sends : List Wt
  timed : Bool
  signal : Bool
  closed : Bool
structure Wk where
  t : Int
  c : Int
  v : Int
  ok : Bool
  panic : Bool
  deriving DecidableEq
def Wk.cells (w : Wk) : List AV := [.i .i64 w.t,.i .i64 w.c,.i .i64 w.v,.b w.ok,.b w.panic]
def wkcells : List Wk → List AV
  | [] => []
  | w :: r => w.cells ++ wkcells r
def croot (rg q1 q2 : Nat) (x : Ch) : LC := .raw (.cells [.p (some (rg,0)),.p (some (q1,0)),.p (some (q2,0)),.b x.timed,.b x.signal,.b x.closed])
structure COpen (L : Lg) (c : Nat) (x : Ch) (rg q1 q2 : Nat) (L1 : Lg) : Prop where
  n1 : rg ≠ c
  n2 : q1 ≠ c
  n3 : q2 ≠ c
  n4 : rg ≠ q1
  n5 : rg ≠ q2
  n6 : q1 ≠ q2
  root : L1 c = some (croot rg q1 q2 x)
  ring : L1 rg = some (.abs (RingP rg x.vals x.cap))
  rcv : L1 q1 = some (.abs (QueueP q1 x.recvs))
  snd : L1 q2 = some (.abs (QueueP q2 x.sends))
  old : ∀ b d,b ≠ c → b ≠ rg → b ≠ q1 → b ≠ q2 → L b = some d → L1 b = some d
  f1 : L rg = none
  f2 : L q1 = none
  f3 : L q2 = none
def ChanP (c : Nat) (x : Ch) (h : Hp) : Prop := ∃ (rg q1 q2 : Nat) (M : Lg),rg ≠ c ∧ q1 ≠ c ∧ q2 ≠ c ∧ rg ≠ q1 ∧ rg ≠ q2 ∧ q1 ≠ q2 ∧ M c = some (croot rg q1 q2 x) ∧ M rg = some (.abs (RingP rg x.vals x.cap)) ∧
  M q1 = some (.abs (QueueP q1 x.recvs)) ∧ M q2 = some (.abs (QueueP q2 x.sends)) ∧ (∀ b,b ≠ c → b ≠ rg → b ≠ q1 → b ≠ q2 → M b = none) ∧ Sat M h

section
variable {L L1 : Lg} {c rg q1 q2 : Nat} {x : Ch}
theorem COpen.shut (h : COpen L c x rg q1 q2 L1) : Sees L1 (L.put c (.abs (ChanP c x))) := by
  refine Sees.shutAt (fun b => b = c ∨ b = rg ∨ b = q1 ∨ b = q2) (.inl rfl) ?_ ?_ (.inl ⟨_,h.root⟩) ?_
  · intro b d hb hd
    simp only [not_or] at hb
    exact h.old b d hb.1 hb.2.1 hb.2.2.1 hb.2.2.2 hd
  · rintro b (rfl | rfl | rfl | rfl) hb
    · exact absurd rfl hb
    · exact h.f1
    · exact h.f2
    · exact h.f3
  · intro M hp hM hN hs
    refine ⟨rg,q1,q2,M,h.n1,h.n2,h.n3,h.n4,h.n5,h.n6,?_,?_,?_,?_,?_,hs⟩
    · rw [hM c (.inl rfl)]; exact h.root
    · rw [hM rg (.inr (.inl rfl))]; exact h.ring
    · rw [hM q1 (.inr (.inr (.inl rfl)))]; exact h.rcv
    · rw [hM q2 (.inr (.inr (.inr rfl)))]; exact h.snd
    · intro b b1 b2 b3 b4; exact hN b (by simp [b1,b2,b3,b4])
theorem CallL.openC {f : Nat} {vs : List AV} {Q : AV → Lg → Prop} (e : L c = some (.abs (ChanP c x)))
    (h : ∀ rg q1 q2 L1,COpen L c x rg q1 q2 L1 → CallL F f vs L1 Q) : CallL F f vs L Q := by
  apply CallL.opens e
  rintro hm ⟨rg,q1,q2,M,n1,n2,n3,n4,n5,n6,m1,m2,m3,m4,m5,hs⟩
  refine ⟨M,hs,by rw [m1]; simp,fun hf => ?_⟩
  have hover : ∀ b d,M b = some d → (M.over L) b = some d := fun b d hb => by simp [Lg.over,hb]
  exact h rg q1 q2 (M.over L) ⟨n1,n2,n3,n4,n5,n6,hover _ _ m1,hover _ _ m2,hover _ _ m3,hover _ _ m4,
    fun b d b1 b2 b3 b4 hd => by simp [Lg.over,m5 b b1 b2 b3 b4,hd],hf _ _ m2 n1,hf _ _ m3 n2,hf _ _ m4 n3⟩
theorem COpen.ext (h : COpen L c x rg q1 q2 L1) {L2 : Lg} (h2 : Ext2 L1 L2) : COpen L c x rg q1 q2 L2 :=
  ⟨h.n1,h.n2,h.n3,h.n4,h.n5,h.n6,h2 _ _ h.root,h2 _ _ h.ring,h2 _ _ h.rcv,h2 _ _ h.snd,fun b d b1 b2 b3 b4 hd => h2 _ _ (h.old b d b1 b2 b3 b4 hd),h.f1,h.f2,h.f3⟩
theorem COpen.setRing (h : COpen L c x rg q1 q2 L1) (ys : List Int) : COpen L c { x with vals := ys } rg q1 q2 (L1.put rg (.abs (RingP rg ys x.cap))) :=
  ⟨h.n1,h.n2,h.n3,h.n4,h.n5,h.n6,by rw [Lg.put_ne _ _ _ (Ne.symm h.n1)]; exact h.root,Lg.put_same _ _ _,by rw [Lg.put_ne _ _ _ (Ne.symm h.n4)]; exact h.rcv,by rw [Lg.put_ne _ _ _ (Ne.symm h.n5)]; exact h.snd,
    fun b d b1 b2 b3 b4 hd => by rw [Lg.put_ne _ _ _ b2]; exact h.old b d b1 b2 b3 b4 hd,h.f1,h.f2,h.f3⟩
theorem COpen.setRcv (h : COpen L c x rg q1 q2 L1) (ws : List Wt) : COpen L c { x with recvs := ws } rg q1 q2 (L1.put q1 (.abs (QueueP q1 ws))) :=
  ⟨h.n1,h.n2,h.n3,h.n4,h.n5,h.n6,by rw [Lg.put_ne _ _ _ (Ne.symm h.n2)]; exact h.root,by rw [Lg.put_ne _ _ _ h.n4]; exact h.ring,Lg.put_same _ _ _,by rw [Lg.put_ne _ _ _ (Ne.symm h.n6)]; exact h.snd,
    fun b d b1 b2 b3 b4 hd => by rw [Lg.put_ne _ _ _ b3]; exact h.old b d b1 b2 b3 b4 hd,h.f1,h.f2,h.f3⟩
theorem COpen.setSnd (h : COpen L c x rg q1 q2 L1) (ws : List Wt) : COpen L c { x with sends := ws } rg q1 q2 (L1.put q2 (.abs (QueueP q2 ws))) :=
  ⟨h.n1,h.n2,h.n3,h.n4,h.n5,h.n6,by rw [Lg.put_ne _ _ _ (Ne.symm h.n3)]; exact h.root,by rw [Lg.put_ne _ _ _ h.n5]; exact h.ring,by rw [Lg.put_ne _ _ _ h.n6]; exact h.rcv,Lg.put_same _ _ _,
    fun b d b1 b2 b3 b4 hd => by rw [Lg.put_ne _ _ _ b4]; exact h.old b d b1 b2 b3 b4 hd,h.f1,h.f2,h.f3⟩
theorem COpen.setRoot (h : COpen L c x rg q1 q2 L1) (a b d : Bool) : COpen L c { x with timed := a,signal := b,closed := d } rg q1 q2 (L1.put c (croot rg q1 q2 { x with timed := a,signal := b,closed := d })) :=
  ⟨h.n1,h.n2,h.n3,h.n4,h.n5,h.n6,Lg.put_same _ _ _,by rw [Lg.put_ne _ _ _ h.n1]; exact h.ring,by rw [Lg.put_ne _ _ _ h.n2]; exact h.rcv,by rw [Lg.put_ne _ _ _ h.n3]; exact h.snd,
    fun b d b1 b2 b3 b4 hd => by rw [Lg.put_ne _ _ _ b1]; exact h.old b d b1 b2 b3 b4 hd,h.f1,h.f2,h.f3⟩
theorem COpen.back (h : COpen L c x rg q1 q2 L1) (e : L c = some (.abs (ChanP c x))) : Sees L1 L := by
  have := h.shut
  rwa [Lg.put_self L c _ e] at this
theorem COpen.onto (h : COpen L c x rg q1 q2 L1) {b : Nat} {d : LC} (hb : L1 b = none) : COpen (L.put b d) c x rg q1 q2 (L1.put b d) := by
  have e := h.ext ((Ext2.refl L1).put hb d)
  have nb : ∀ {r : Nat} {k : LC},L1 r = some k → r ≠ b := fun hr hrb => by rw [hrb,hb] at hr; cases hr
  refine ⟨h.n1,h.n2,h.n3,h.n4,h.n5,h.n6,e.root,e.ring,e.rcv,e.snd,?_,?_,?_,?_⟩
  · intro r k b1 b2 b3 b4 hk
    rw [Lg.put_apply] at hk ⊢
    split
    · rename_i h9; rw [if_pos h9] at hk; exact hk
    · rename_i h9; rw [if_neg h9] at hk; exact h.old r k b1 b2 b3 b4 hk
  · rw [Lg.put_ne _ _ _ (nb h.ring)]; exact h.f1
  · rw [Lg.put_ne _ _ _ (nb h.rcv)]; exact h.f2
  · rw [Lg.put_ne _ _ _ (nb h.snd)]; exact h.f3
theorem COpen.none (h : COpen L c x rg q1 q2 L1) {b : Nat} (hb : L1 b = none) : b ≠ c ∧ L b = none := by
  have nb : ∀ {r : Nat} {k : LC},L1 r = some k → b ≠ r := fun hr hrb => by rw [← hrb,hb] at hr; cases hr
  refine ⟨nb h.root,?_⟩
  cases e : L b with
  | none => rfl
  | some d => rw [h.old b d (nb h.root) (nb h.ring) (nb h.rcv) (nb h.snd) e] at hb; cases hb

theorem mute_open (hf : H_f56 N F) (h : COpen L c x rg q1 q2 L1) : CallL F (N k_f56) [.p (some (c,0))] L1 fun v L' => v = .b (x.timed || x.signal) ∧ L' = L1 := by
  apply r_f56 hf.code
  cases h1 : x.timed <;> simp [D_f56_1,rdL,AB.read,look,h.root,croot,h1]
theorem free_open (hf : H_f57 N F) (h : COpen L c x rg q1 q2 L1) (send : Bool) : CallL F (N k_f57) [.p (some (c,0)),.b send] L1 fun v L' => v = .b (if send = true then decide (x.vals.length < x.cap) else decide (0 < x.vals.length)) ∧ L' = L1 := by
  apply r_f57 hf.code
  cases send
  · simp [D_f57_1,rdL,AB.read,look,h.root,croot]
    refine (ringLen_spec hf.f6 h.ring).mono ?_
    rintro _ _ ⟨rfl,rfl⟩
    simp
  · simp [D_f57_1,rdL,AB.read,look,h.root,croot]
    refine (ringLen_spec hf.f6 h.ring).mono ?_
    rintro _ _ ⟨rfl,rfl⟩
    simp [rdL,AB.read,look,h.root,croot]
    refine (ringSize_spec hf.f7 h.ring).mono ?_
    rintro _ _ ⟨rfl,rfl⟩
    simp [againV,semRL,rLdL,rdL,AB.read,look,h.root,croot,sameV,same1]
theorem queue_open (hf : H_f58 N F) (h : COpen L c x rg q1 q2 L1) (send : Bool) : CallL F (N k_f58) [.p (some (c,0)),.b send] L1 fun v L' => v = .p (some (if send = true then q2 else q1,0)) ∧ L' = L1 := by
  apply r_f58 hf.code
  cases send <;> simp [D_f58_1,rdL,AB.read,look,h.root,croot]
def Ch.wait (x : Ch) (send : Bool) : List Wt := if send = true then x.sends else x.recvs
def Ch.mute (x : Ch) : Bool := x.timed || x.signal
def Ch.free (x : Ch) (send : Bool) : Bool := if send = true then decide (x.vals.length < x.cap) else decide (0 < x.vals.length)
def Ch.can (x : Ch) (send : Bool) : Bool := !(x.mute && send) && (x.closed || x.free send || decide (0 < (x.wait (!send)).length))
theorem waiting_open (hf : H_f95 N F) (h : COpen L c x rg q1 q2 L1) (send : Bool) : CallL F (N k_f95) [.p (some (c,0)),.b send] L1 fun v L' => FreshSl L1 v (wcells (x.wait send)) (x.wait send).length 3 L' := by
  apply r_f95 hf.code
  unfold D_f95_1
  refine (queue_open hf.f58 h send).mono ?_
  rintro _ L1 ⟨rfl,rfl⟩
  have e : L1 (if send = true then q2 else q1) = some (.abs (QueueP (if send = true then q2 else q1) (x.wait send))) := by
    cases send
    · exact h.rcv
    · exact h.snd
  refine (queueAll_spec hf.f15 e).mono ?_
  intro v L' hv
  simp
  exact ⟨L',Sees.refl _,hv⟩
theorem can_spec (hf : H_f59 N F) (e : L c = some (.abs (ChanP c x))) (send : Bool) : CallL F (N k_f59) [.p (some (c,0)),.b send] L fun v L' => v = .b (x.can send) ∧ L' = L := by
  apply CallL.openC e
  intro rg q1 q2 L1 h
  apply r_f59 hf.code
  unfold D_f59_1 D_f59_2
  simp
  refine (mute_open hf.f56 h).mono ?_
  rintro _ L1 ⟨rfl,rfl⟩
  have hb := h.back e
  have key : D_f59_3 F N (fun v L' => v = .b (x.closed || x.free send || decide (0 < (x.wait (!send)).length)) ∧ L' = L) (.p (some (c,0))) (.b send) L1 := by
    unfold D_f59_3
    simp [rdL,AB.read,look,h.root,croot]
    cases hc : x.closed
    · simp
      refine (free_open hf.f57 h send).mono ?_
      rintro _ L1 ⟨rfl,rfl⟩
      have hfr : (if send = true then decide (x.vals.length < x.cap) else decide (0 < x.vals.length)) = x.free send := rfl
      rw [hfr]
      cases hfree : x.free send
      · cases send
        · simp
          refine (queue_open hf.f58 h true).mono ?_
          rintro _ L1 ⟨rfl,rfl⟩
          simp
          refine (queueLen_spec hf.f17 h.snd).mono ?_
          rintro _ L1 ⟨rfl,rfl⟩
          simpa [Ch.wait] using hb
        · simp
          refine (queue_open hf.f58 h false).mono ?_
          rintro _ L1 ⟨rfl,rfl⟩
          simp
          refine (queueLen_spec hf.f17 h.rcv).mono ?_
          rintro _ L1 ⟨rfl,rfl⟩
          simpa [Ch.wait] using hb
      · simpa using hb
    · simpa using hb
  have key2 : (x.timed || x.signal) = x.mute := rfl
  rw [key2]
  cases hm : x.mute
  · simp
    simpa [Ch.can,hm] using key
  · cases send
    · simp
      simpa [Ch.can,hm] using key
    · simp [Ch.can,hm]
      simpa using hb
theorem chanLen_spec (hf : H_f108 N F) (e : L c = some (.abs (ChanP c x))) : CallL F (N k_f108) [.p (some (c,0))] L fun v L' => v = .i .i64 (if x.timed = true then 0 else x.vals.length) ∧ L' = L := by
  apply CallL.openC e
  intro rg q1 q2 L1 h
  apply r_f108 hf.code
  have hb := h.back e
  unfold D_f108_1
  cases ht : x.timed
  · simp [rdL,AB.read,look,h.root,croot,ht]
    refine (ringLen_spec hf.f6 h.ring).mono ?_
    rintro _ L1 ⟨rfl,rfl⟩
    simpa using hb
  · simpa [rdL,AB.read,look,h.root,croot,ht] using hb
theorem chanCap_spec (hf : H_f109 N F) (e : L c = some (.abs (ChanP c x))) : CallL F (N k_f109) [.p (some (c,0))] L fun v L' => v = .i .i64 (if x.timed = true then 0 else x.cap) ∧ L' = L := by
  apply CallL.openC e
  intro rg q1 q2 L1 h
  apply r_f109 hf.code
  have hb := h.back e
  unfold D_f109_1
  cases ht : x.timed
  · simp [rdL,AB.read,look,h.root,croot,ht]
    refine (ringSize_spec hf.f7 h.ring).mono ?_
    rintro _ L1 ⟨rfl,rfl⟩
    simpa using hb
  · simpa [rdL,AB.read,look,h.root,croot,ht] using hb
theorem drop_spec (hf : H_f50 N F) (e : L c = some (.abs (ChanP c x))) : CallL F (N k_f50) [.p (some (c,0))] L fun v L' =>
    if x.timed = true then v = .b (decide (0 < x.vals.length)) ∧ L' = L.put c (.abs (ChanP c { x with vals := [] })) else v = .b false ∧ L' = L := by
  apply CallL.openC e
  intro rg q1 q2 L1 h
  apply r_f50 hf.code
  unfold D_f50_1
  cases ht : x.timed
  · simpa [rdL,AB.read,look,h.root,croot,ht] using h.back e
  · simp [rdL,AB.read,look,h.root,croot,ht]
    refine (ringClear_spec hf.f8 h.ring).mono ?_
    rintro _ L2 ⟨rfl,rfl⟩
    simpa [ht] using (h.setRing []).shut
theorem dropNil_spec (hf : H_f50 N F) : CallL F (N k_f50) [.p none] L fun v L' => v = .b false ∧ L' = L := by
  apply r_f50 hf.code
  simp [D_f50_1]
theorem putNil_spec (hf : H_f47 N F) (v : Int) : CallL F (N k_f47) [.p none,.i .i64 v] L fun v L' => v = .tup [.sl none 0 0 0,.b false] ∧ L' = L := by
  apply r_f47 hf.code
  simp [D_f47_1]
theorem deliver_open (hf : H_f46 N F) (h : COpen L c x rg q1 q2 L1) (v : Int) : CallL F (N k_f46) [.p (some (c,0)),.i .i64 v] L1 fun r L' => match (generalizing := false) x.recvs with
    | [] => r = .sl none 0 0 0 ∧ L' = L1
    | w :: ws => FreshSl (L1.put q1 (.abs (QueueP q1 ws))) r (wkcells [⟨w.t,w.c,v,true,false⟩]) 1 5 L' := by
  apply r_f46 hf.code
  unfold D_f46_1
  simp [rdL,AB.read,look,h.root,croot]
  refine (queuePop_spec hf.f14 h.rcv).mono ?_
  intro r L' hr
  cases hx : x.recvs with
  | nil =>
    simp only [hx] at hr
    obtain ⟨rfl,rfl⟩ := hr
    simp [Wt.av]
    intro b hb
    rw [stL_cells (Lg.put_same _ _ _) (by simp [Wt.cells]) (by simp [Wt.cells]) (by simp)]
    simp
    exact ((Ext2.refl L').put hb _).sees
  | cons w ws =>
    simp only [hx] at hr
    obtain ⟨rfl,rfl⟩ := hr
    simp [Wt.av]
    intro b hb
    rw [stL_cells (Lg.put_same _ _ _) (by simp [Wt.cells]) (by simp [Wt.cells]) (by simp),Lg.put_put]
    simp [Wt.cells,splice,rdL,AB.read,look,fillP,beq_nat,ble_nat]
    rw [newL_bslice (c := [.i .i64 w.t,.i .i64 w.c,.i .i64 v,.b true,.b false]) _ _ (by simp [reps,fillP,cellsOf_agg',splice,ble_nat,beq_nat]) (by simp)]
    intro d hd
    have hdb : d ≠ b := by rintro rfl; simp at hd
    rw [Lg.put_ne _ _ _ hdb] at hd
    refine ⟨(L1.put q1 (.abs (QueueP q1 ws))).put d (.raw (.cells [.i .i64 w.t,.i .i64 w.c,.i .i64 v,.b true,.b false])),?_,.inr ⟨d,0,hd,by omega,rfl,rfl,by simp [wkcells,Wk.cells]⟩⟩
    rw [Lg.put_comm _ (Ne.symm hdb)]
    apply Ext2.sees
    refine (Ext2.refl _).put ?_ _
    rw [Lg.put_ne _ _ _ (Ne.symm hdb)]; exact hb
def Ch.put (x : Ch) (v : Int) : Ch × List Wk × Bool :=
  if x.timed = true then match x.recvs with
    | w :: ws => ({ x with recvs := ws },[⟨w.t,w.c,v,true,false⟩],true)
    | [] => if x.vals.length = x.cap then (x,[],false) else ({ x with vals := x.vals ++ [v] },[],true)
  else (x,[],false)
theorem put_spec (hf : H_f47 N F) (e : L c = some (.abs (ChanP c x))) (v : Int) : CallL F (N k_f47) [.p (some (c,0)),.i .i64 v] L fun r L' => ∃ s,r = .tup [s,.b (x.put v).2.2] ∧
    FreshSl (L.put c (.abs (ChanP c (x.put v).1))) s (wkcells (x.put v).2.1) (x.put v).2.1.length 5 L' := by
  apply CallL.openC e
  intro rg q1 q2 L1 h
  apply r_f47 hf.code
  unfold D_f47_1
  cases ht : x.timed
  · simp [rdL,AB.read,look,h.root,croot,ht,Ch.put]
    exact ⟨L,h.back e,.inl ⟨rfl,rfl,rfl,by simp [e]⟩⟩
  · simp [rdL,AB.read,look,h.root,croot,ht]
    refine (deliver_open hf.f46 h v).mono ?_
    intro r L' hr
    cases hx : x.recvs with
    | nil =>
      simp only [hx] at hr
      obtain ⟨rfl,rfl⟩ := hr
      simp [rdL,AB.read,look,h.root,croot]
      refine (ringPush_spec hf.f4 h.ring v).mono ?_
      intro r L2 hr
      by_cases hc : x.vals.length = x.cap
      · simp only [hc,if_true] at hr
        obtain ⟨rfl,rfl⟩ := hr
        simp [Ch.put,ht,hx,hc]
        exact ⟨L,h.back e,.inl ⟨rfl,rfl,rfl,by simp [e]⟩⟩
      · simp only [hc,if_false] at hr
        obtain ⟨rfl,rfl⟩ := hr
        simp [Ch.put,ht,hx,hc]
        exact ⟨_,(h.setRing (x.vals ++ [v])).shut,.inl ⟨rfl,rfl,rfl,by simp [ht,hx]⟩⟩
    | cons w ws =>
      simp only [hx] at hr
      rcases hr with ⟨h1,_⟩ | ⟨b,ex,hb,h0,rfl,h2,rfl⟩
      · cases h1
      · simp [Ch.put,ht,hx]
        have h3 := h.setRcv ws
        have hn := h3.none hb
        refine ⟨_,(h3.onto hb).shut,.inr ⟨b,ex,?_,by omega,rfl,rfl,?_⟩⟩
        · rw [Lg.put_ne _ _ _ hn.1]; exact hn.2
        · rw [Lg.put_comm _ hn.1]; simp [ht]
theorem splice_w (a b c : AV) (w : Wt) : splice [a,b,c] 0 w.cells = w.cells := by simp [splice,Wt.cells]
def Ch.recv (x : Ch) : Ch × Int × Bool × Bool × List Wk :=
  match x.vals,x.sends with
  | a :: vs,w :: ws => ({ x with vals := if vs.length = x.cap then vs else vs ++ [w.v],sends := ws },a,true,true,[⟨w.t,w.c,0,true,false⟩])
  | a :: vs,[] => ({ x with vals := vs },a,true,true,[])
  | [],w :: ws => ({ x with sends := ws },w.v,true,true,[⟨w.t,w.c,0,true,false⟩])
  | [],[] => (x,0,false,x.closed,[])
theorem recv_spec (hf : H_f91 N F) (e : L c = some (.abs (ChanP c x))) : CallL F (N k_f91) [.p (some (c,0))] L fun r L' => ∃ s,r = .tup [.i .i64 x.recv.2.1,.b x.recv.2.2.1,.b x.recv.2.2.2.1,s] ∧
    FreshSl (L.put c (.abs (ChanP c x.recv.1))) s (wkcells x.recv.2.2.2.2) x.recv.2.2.2.2.length 5 L' := by
  apply CallL.openC e
  intro rg q1 q2 L1 h
  apply r_f91 hf.code
  unfold D_f91_1 D_f91_2 D_f91_3
  generalize hQ : (fun (r : AV) (L' : Lg) => ∃ s,r = .tup [.i .i64 x.recv.2.1,.b x.recv.2.2.1,.b x.recv.2.2.2.1,s] ∧
    FreshSl (L.put c (.abs (ChanP c x.recv.1))) s (wkcells x.recv.2.2.2.2) x.recv.2.2.2.2.length 5 L') = Q
  simp [rdL,AB.read,look,h.root,croot]
  refine (ringPop_spec hf.f5 h.ring).mono ?_
  intro r L2 hr
  cases hv : x.vals with
  | nil =>
    simp only [hv] at hr
    obtain ⟨rfl,rfl⟩ := hr
    simp [D_f91_4,rdL,AB.read,look,h.root,croot]
    refine (queuePop_spec hf.f14 h.snd).mono ?_
    intro r L3 hr
    cases hw : x.sends with
    | nil =>
      simp only [hw] at hr
      obtain ⟨rfl,rfl⟩ := hr
      simp [Wt.av]
      intro b hb
      have h2 := h.ext ((Ext2.refl L3).put hb (.raw (.cells (splice [.i .i64 0,.i .i64 0,.i .i64 0] 0 Wt.zero.cells))))
      rw [stL_cells (Lg.put_same _ _ _) (by simp [Wt.cells]) (by simp [Wt.cells]) (by simp),Lg.put_put]
      simp [D_f91_5,D_f91_6,rdL,AB.read,look,h2.root,croot]
      refine ⟨L,h2.back e,?_⟩
      subst hQ
      have hx : x.recv = (x,0,false,x.closed,[]) := by simp [Ch.recv,hv,hw]
      simp only [hx]
      exact ⟨_,rfl,.inl ⟨rfl,rfl,rfl,by simp [e]⟩⟩
    | cons w ws =>
      simp only [hw] at hr
      obtain ⟨rfl,rfl⟩ := hr
      have h1 := h.setSnd ws
      simp [Wt.av]
      intro b hb
      rw [stL_cells (Lg.put_same _ _ _) (by simp [Wt.cells]) (by simp [Wt.cells]) (by simp),Lg.put_put]
      simp [Wt.cells,splice,D_f91_5,rdL,AB.read,look,fillP,beq_nat,ble_nat]
      rw [newL_bslice (c := [.i .i64 w.t,.i .i64 w.c,.i .i64 0,.b true,.b false]) _ _ (by simp [reps,fillP,cellsOf_agg',splice,ble_nat,beq_nat]) (by simp)]
      intro d hd
      have hdb : d ≠ b := by rintro rfl; simp at hd
      rw [Lg.put_ne _ _ _ hdb] at hd
      simp [D_f91_6,D_f91_7,rdL,AB.read,look,Lg.put_apply,Ne.symm hdb]
      have hn := h1.none hd
      refine ⟨_,Sees.trans ?_ (h1.onto (d := .raw (.cells [.i .i64 w.t,.i .i64 w.c,.i .i64 0,.b true,.b false])) hd).shut,?_⟩
      · rw [Lg.put_comm _ (Ne.symm hdb)]
        apply Ext2.sees
        refine (Ext2.refl _).put ?_ _
        rw [Lg.put_ne _ _ _ (Ne.symm hdb)]; exact hb
      · subst hQ
        have hx : x.recv = ({ x with sends := ws },w.v,true,true,[⟨w.t,w.c,0,true,false⟩]) := by simp [Ch.recv,hv,hw]
        simp only [hx]
        refine ⟨_,rfl,.inr ⟨d,0,?_,by simp,rfl,rfl,?_⟩⟩
        · rw [Lg.put_ne _ _ _ hn.1]; exact hn.2
        · rw [Lg.put_comm _ hn.1]; rfl
  | cons a vs =>
    simp only [hv] at hr
    obtain ⟨rfl,rfl⟩ := hr
    have h1 := h.setRing vs
    simp [D_f91_4,rdL,AB.read,look,h1.root,croot]
    refine (queuePop_spec hf.f14 h1.snd).mono ?_
    intro r L3 hr
    cases hw : x.sends with
    | nil =>
      simp only [hw] at hr
      obtain ⟨rfl,rfl⟩ := hr
      simp [Wt.av]
      intro b hb
      have h2 := h1.ext ((Ext2.refl _).put hb (.raw (.cells (splice [.i .i64 0,.i .i64 0,.i .i64 0] 0 Wt.zero.cells))))
      rw [stL_cells (Lg.put_same _ _ _) (by simp [Wt.cells]) (by simp [Wt.cells]) (by simp),Lg.put_put]
      simp [D_f91_5,D_f91_6,D_f91_7]
      refine ⟨_,h2.shut,?_⟩
      subst hQ
      have hx : x.recv = ({ x with vals := vs },a,true,true,[]) := by simp [Ch.recv,hv,hw]
      simp only [hx]
      exact ⟨_,rfl,.inl ⟨rfl,rfl,rfl,rfl⟩⟩
    | cons w ws =>
      simp only [hw] at hr
      obtain ⟨rfl,rfl⟩ := hr
      have h2 := h1.setSnd ws
      simp [Wt.av]
      intro b hb
      rw [stL_cells (Lg.put_same _ _ _) (by simp [Wt.cells]) (by simp [Wt.cells]) (by simp),Lg.put_put,splice_w]
      simp [Wt.cells,splice,D_f91_5,rdL,AB.read,look,fillP,beq_nat,ble_nat]
      rw [newL_bslice (c := [.i .i64 w.t,.i .i64 w.c,.i .i64 0,.b true,.b false]) _ _ (by simp [reps,fillP,cellsOf_agg',splice,ble_nat,beq_nat]) (by simp)]
      intro d hd
      have hdb : d ≠ b := by rintro rfl; simp at hd
      rw [Lg.put_ne _ _ _ hdb] at hd
      rw [Lg.put_comm _ (Ne.symm hdb)]
      have hcb : c ≠ b := by rintro rfl; rw [h2.root] at hb; cases hb
      have hn := h2.none hd
      have h3 := h2.onto (d := .raw (.cells [.i .i64 w.t,.i .i64 w.c,.i .i64 0,.b true,.b false])) hd
      have h4 := h3.ext ((Ext2.refl _).put (b := b) (by rw [Lg.put_ne _ _ _ (Ne.symm hdb)]; exact hb) (.raw (.cells w.cells)))
      simp [D_f91_6,D_f91_7,rdL,AB.read,look,h4.root,croot]
      simp [Wt.cells]
      refine (ringPush_spec hf.f4 h4.ring w.v).mono ?_
      intro r L4 hr
      by_cases hc : vs.length = x.cap
      · simp only [hc,if_true] at hr
        obtain ⟨rfl,rfl⟩ := hr
        refine ⟨_,h4.shut,?_⟩
        subst hQ
        have hx : x.recv = ({ x with vals := vs,sends := ws },a,true,true,[⟨w.t,w.c,0,true,false⟩]) := by simp [Ch.recv,hv,hw,hc]
        simp only [hx]
        refine ⟨_,rfl,.inr ⟨d,0,?_,by simp,rfl,rfl,?_⟩⟩
        · rw [Lg.put_ne _ _ _ hn.1]; exact hn.2
        · rw [Lg.put_comm _ hn.1]; rfl
      · simp only [hc,if_false] at hr
        obtain ⟨rfl,rfl⟩ := hr
        refine ⟨_,(h4.setRing (vs ++ [w.v])).shut,?_⟩
        subst hQ
        have hx : x.recv = ({ x with vals := vs ++ [w.v],sends := ws },a,true,true,[⟨w.t,w.c,0,true,false⟩]) := by simp [Ch.recv,hv,hw,hc]
        simp only [hx]
        refine ⟨_,rfl,.inr ⟨d,0,?_,by simp,rfl,rfl,?_⟩⟩
        · rw [Lg.put_ne _ _ _ hn.1]; exact hn.2
        · rw [Lg.put_comm _ hn.1]; rfl
theorem recvNil_spec (hf : H_f91 N F) : CallL F (N k_f91) [.p none] L fun r L' => r = .tup [.i .i64 0,.b false,.b false,.sl none 0 0 0] ∧ L' = L := by
  apply r_f91 hf.code
  simp [D_f91_1,D_f91_2]
theorem chanNew_open (hf : H_f22 N F) (n : Nat) (hn : n ≤ 64) : CallL F (N k_f22) [.i .i64 n] L fun r L' => ∃ c rg q1 q2,L c = none ∧ r = .tup [.p (some (c,0)),.i .i64 0] ∧ COpen L c ⟨[],n,[],[],false,false,false⟩ rg q1 q2 L' := by
  apply r_f22 hf.code
  unfold D_f22_1
  refine (ringNew_spec hf.f9 n hn).mono ?_
  rintro _ _ ⟨rg,hrg,rfl,rfl⟩
  simp
  refine (queueNew_spec hf.f18).mono ?_
  rintro _ _ ⟨q1,h1,rfl,rfl⟩
  refine (queueNew_spec hf.f18).mono ?_
  rintro _ _ ⟨q2,h2,rfl,rfl⟩
  have n1 : q1 ≠ rg := by rintro rfl; simp at h1
  have n2 : q2 ≠ q1 := by rintro rfl; simp at h2
  have n3 : q2 ≠ rg := by rintro rfl; rw [Lg.put_ne _ _ _ n2,Lg.put_same] at h2; cases h2
  rw [Lg.put_ne _ _ _ n1] at h1
  rw [Lg.put_ne _ _ _ n2,Lg.put_ne _ _ _ n3] at h2
  simp [fillP,splice,ble_nat,beq_nat]
  rw [newL_box_agg _ _ _ (by simp)]
  intro c hc
  have n4 : c ≠ q2 := by rintro rfl; simp at hc
  have n5 : c ≠ q1 := by rintro rfl; simp [Lg.put_apply,Ne.symm n2] at hc
  have n6 : c ≠ rg := by rintro rfl; simp [Lg.put_apply,Ne.symm n1,Ne.symm n3] at hc
  rw [Lg.put_ne _ _ _ n4,Lg.put_ne _ _ _ n5,Lg.put_ne _ _ _ n6] at hc
  refine ⟨_,Sees.refl _,c,rg,q1,q2,hc,rfl,Ne.symm n6,Ne.symm n5,Ne.symm n4,Ne.symm n1,Ne.symm n3,Ne.symm n2,Lg.put_same _ _ _,?_,?_,?_,?_,hrg,h1,h2⟩
  · simp [Lg.put_apply,Ne.symm n6,Ne.symm n1,Ne.symm n3]
  · simp [Lg.put_apply,Ne.symm n5,Ne.symm n2]
  · simp [Lg.put_apply,Ne.symm n4]
  · intro b d b1 b2 b3 b4 hd; simp [Lg.put_apply,b1,b2,b3,b4,hd]
theorem timed_spec (hf : H_f23 N F) : CallL F (N k_f23) [] L fun r L' => ∃ c,L c = none ∧ r = .p (some (c,0)) ∧ L' = L.put c (.abs (ChanP c ⟨[],1,[],[],true,false,false⟩)) := by
  apply r_f23 hf.code
  unfold D_f23_1
  refine (chanNew_open hf.f22 1 (by omega)).mono ?_
  rintro _ L1 ⟨c,rg,q1,q2,hc,rfl,h⟩
  have h2 := h.setRoot true false false
  simp [stL_cell h.root]
  exact ⟨_,h2.shut,c,hc,rfl,rfl⟩
theorem wcells_at : ∀ (ws : List Wt) (i : Nat) (w : Wt),ws[i]? = some w → ((wcells ws).drop (i * 3)).take 3 = w.cells ∧ i * 3 + 3 ≤ (wcells ws).length
  | [],i,w,h => by simp at h
  | a :: r,0,w,h => by simp at h; subst h; simp [wcells,Wt.cells]
  | a :: r,i + 1,w,h => by
    have := wcells_at r i w (by simpa using h)
    have e : (i + 1) * 3 = i * 3 + 1 + 1 + 1 := by omega
    rw [e]
    simp only [wcells,Wt.cells,List.cons_append,List.nil_append,List.drop_succ_cons,List.length_cons]
    exact ⟨this.1,by omega⟩
def SlW (L : Lg) (s : AV) (ws : List Wt) : Prop := (ws = [] ∧ s = .sl none 0 0 0) ∨ ∃ b ex,s = .sl (some (b,0)) ws.length ws.length ex ∧ L b = some (.raw (.cells (wcells ws)))
theorem containsW_spec (hf : H_f97 N F) {s : AV} {ws : List Wt} (hs : SlW L s ws) (hl : ws.length ≤ 1000000) {f : Nat} {fst cap : List AV} {p : Wt → Bool}
    (hso : ∀ w : Wt,CallL F f (fst ++ w.av :: cap) L fun v L' => v = .b (p w) ∧ L' = L) : CallL F (N k_f97) [s,.fn f fst cap] L fun v L' => v = .b (ws.any p) ∧ L' = L := by
  apply r_f97 hf.code
  unfold D_f97_1
  have key : CallL F (N k_f96) [s,.fn f fst cap] L fun v L' => (∃ i : Int,v = .i .i64 i ∧ (decide (0 ≤ i) = ws.any p)) ∧ L' = L := by
    apply r_f96 hf.f96.code
    unfold D_f96_1 D_f96_4
    obtain ⟨a,cp,ex,hsl⟩ : ∃ a cp ex,s = .sl a ws.length cp ex := by
      rcases hs with ⟨rfl,rfl⟩ | ⟨b,ex,rfl,_⟩
      · exact ⟨none,0,0,rfl⟩
      · exact ⟨_,_,_,rfl⟩
    simp [hsl,D_f96_6]
    refine loopW_intro (fun n l' L' => ∃ i : Nat,i ≤ ws.length ∧ n = ws.length - i ∧ (∀ x,x ∈ ws.take i → p x = false) ∧ L' = L ∧ l' 0 = s ∧ l' 1 = .fn f fst cap ∧ l' 7 = .i .i64 ws.length ∧ l' 8 = .i .i64 i)
      ws.length ⟨0,by omega,by omega,by simp,rfl,by simp [hsl],by simp,by simp,by simp⟩ ?_
    rintro n l' t L' ⟨i,hi,hn,hA,rfl,l0,l1,l7,l8⟩
    unfold D_f96_7
    rw [l0,l1,l7,l8]
    by_cases hlt : i < ws.length
    · have hne : ws ≠ [] := by rintro rfl; simp at hlt
      rcases hs with ⟨h1,_⟩ | ⟨b,ex,rfl,hL⟩
      · exact absurd h1 hne
      have hw : ws[i]? = some ws[i] := List.getElem?_eq_getElem hlt
      have hat := wcells_at ws i _ hw
      have e1 : ((i : Int) < (ws.length : Int)) := by omega
      simp [hlt,wp_iad _ _ _ 3 b 0 ws.length ws.length ex .i64 (i : Int) (Int.natCast_nonneg _) e1,rdL,AB.read,look,hL,cut,ble_nat,hat.2,hat.1]
      refine (hso ws[i]).mono ?_
      rintro _ L2 ⟨rfl,rfl⟩
      rw [condW_bool]
      refine ⟨fun hp => ?_,fun hp => ?_⟩
      · simp
        have : ws.any p = true := List.any_eq_true.2 ⟨ws[i],List.getElem_mem _,hp⟩
        simpa using this
      · have e2 : wr .i64 ((i : Int) + 1) = ((i + 1 : Nat) : Int) := by rw [wr_id (by omega) (by omega)]; omega
        simp
        refine ⟨ws.length - (i + 1),by omega,i + 1,by omega,rfl,?_,l0,l1,l7,e2⟩
        intro x hx
        rw [List.take_add_one,hw] at hx
        rcases List.mem_append.1 hx with hx | hx
        · exact hA x hx
        · simp at hx; rw [hx]; exact hp
    · have e1 : ¬ ((i : Int) < (ws.length : Int)) := by omega
      have e2 : i = ws.length := by omega
      simp [hlt,D_f96_3]
      rw [e2,List.take_length] at hA
      simpa using hA
  refine key.mono ?_
  rintro _ _ ⟨⟨i,rfl,hi⟩,rfl⟩
  simp [← hi]
theorem FreshSl.slW {v : AV} {ws : List Wt} {L' : Lg} (h : FreshSl L v (wcells ws) ws.length 3 L') : SlW L' v ws := by
  rcases h with ⟨h1,h2,rfl,rfl⟩ | ⟨b,ex,h1,h2,rfl,h3,rfl⟩
  · exact .inl ⟨List.length_eq_zero_iff.1 h1,rfl⟩
  · exact .inr ⟨b,ex,rfl,Lg.put_same _ _ _⟩
theorem FreshSl.ext {v : AV} {cs : List AV} {n size : Nat} {L' : Lg} (h : FreshSl L v cs n size L') : Ext2 L L' := by
  rcases h with ⟨h1,h2,rfl,rfl⟩ | ⟨b,ex,h1,h2,rfl,h3,rfl⟩
  · exact Ext2.refl _
  · exact (Ext2.refl _).put h1 _
def Ch.waits (x : Ch) (w : Wt) (send : Bool) : Ch × Int :=
  if (x.mute && send) = true then (x,7) else if x.closed = true then (x,5)
  else if (x.free send || (x.wait (!send)).any fun y => !decide (y.t = w.t)) = true then (x,1)
  else (if send = true then { x with sends := x.sends ++ [w] } else { x with recvs := x.recvs ++ [w] },0)
theorem wait_rest (hf : H_f98 N F) {K : Lg} (h1 : COpen L c x rg q1 q2 K) (w : Wt) (send : Bool) (hl1 : (x.wait send).length < 1000000) (hl2 : (x.wait (!send)).length ≤ 1000000) {b0 : Nat} (hb0 : K b0 = some (.raw (.cells w.cells)))
    (hb1 : b0 ≠ c ∧ b0 ≠ rg ∧ b0 ≠ q1 ∧ b0 ≠ q2) (hm : (x.mute && send) = false) {Q : AV → Lg → Prop}
    (fin : ∀ (y : Ch) (k : Int) {K : Lg},x.waits w send = (y,k) → Sees K (L.put c (.abs (ChanP c y))) → fin1 (some (.i .i64 k)) Q K) (e : L c = some (.abs (ChanP c x))) :
 wpOp F .nilchk [.p (some (c,0))] K fun v6 L6 =>
 wpOp F (.fad 5) [v6] L6 fun v7 L7 =>
 wpOp F (.ld none) [v7] L7 fun v8 L8 =>
 condW v8
 (fin1 (some (.i .i64 5)) Q L8)
 (wpOp F (.mkfn (N k_f94) 0) [.p (some (b0,0))] L8 fun v9 L9 =>
 CallL F (N k_f57) [.p (some (c,0)),.b send] L9 fun v10 L10 =>
 gdOp F v10 false .mv [.p (some (c,0))] L10 fun v11 L11 =>
 gdOp F v10 false .mv [.b send] L11 fun v12 L12 =>
 gdOp F v10 false (.un .not) [v12] L12 fun v13 L13 =>
 gdOp F v10 false (.call (N k_f95)) [v11,v13] L13 fun v14 L14 =>
 gdOp F v10 false .mv [v9] L14 fun v15 L15 =>
 gdOp F v10 false (.call (N k_f97)) [v14,v15] L15 fun v16 L16 =>
 wpOp F .pick [v10,(.b true),v16] L16 fun v17 L17 =>
 condW v17
 (fin1 (some (.i .i64 1)) Q L17)
 (CallL F (N k_f58) [.p (some (c,0)),.b send] L17 fun v18 L18 =>
 wpOp F (.ld (some 3)) [.p (some (b0,0))] L18 fun v19 L19 =>
 CallL F (N k_f16) [v18,v19] L19 fun v20 L20 =>
 (againV (.ld (some 3)) [.p (some (b0,0))] L18 L17 ∧ True) ∧ (fin1 (some (.i .i64 0)) Q L20))) := by
  have same : ∀ {K : Lg} (h1 : COpen L c x rg q1 q2 K) (k : Int),x.waits w send = (x,k) → fin1 (some (.i .i64 k)) Q K := by
    intro K h1 k hk
    refine fin x k hk ?_
    rw [Lg.put_self L c _ e]
    exact h1.back e
  simp [rdL,AB.read,look,h1.root,croot]
  cases hc : x.closed
  · simp
    refine (free_open hf.f57 h1 send).mono ?_
    rintro _ K ⟨rfl,rfl⟩
    have hfr : (if send = true then decide (x.vals.length < x.cap) else decide (0 < x.vals.length)) = x.free send := rfl
    rw [hfr]
    have push : ∀ {K : Lg} (h1 : COpen L c x rg q1 q2 K),K b0 = some (.raw (.cells w.cells)) → (x.free send || (x.wait (!send)).any fun y => !decide (y.t = w.t)) = false →
        CallL F (N k_f58) [.p (some (c,0)),.b send] K fun v18 L18 => wpOp F (.ld (some 3)) [.p (some (b0,0))] L18 fun v19 L19 => CallL F (N k_f16) [v18,v19] L19 fun v20 L20 =>
          (againV (.ld (some 3)) [.p (some (b0,0))] L18 K ∧ True) ∧ (fin1 (some (.i .i64 0)) Q L20) := by
      intro K h1 hb0 hn
      refine (queue_open hf.f58 h1 send).mono ?_
      rintro _ K ⟨rfl,rfl⟩
      have e4 : K (if send = true then q2 else q1) = some (.abs (QueueP (if send = true then q2 else q1) (x.wait send))) := by
        cases send
        · exact h1.rcv
        · exact h1.snd
      simp [rdL_cells hb0 (show 0 + 3 ≤ w.cells.length by simp [Wt.cells])]
      refine (queuePush_spec hf.f16 e4 w hl1).mono ?_
      rintro _ K2 ⟨rfl,rfl⟩
      refine ⟨⟨?_,trivial⟩,?_⟩
      · simp [againV,semRL,rLdL,rdL_cells hb0 (show 0 + 3 ≤ w.cells.length by simp [Wt.cells]),sameV,sameL,same1,Wt.cells,iEq_eq,kEq]
      · cases send
        · exact fin { x with recvs := x.recvs ++ [w] } 0 (by simp only [Ch.waits,hm,hc,hn]; simp) (h1.setRcv (x.recvs ++ [w])).shut
        · exact fin { x with sends := x.sends ++ [w] } 0 (by simp only [Ch.waits,hm,hc,hn]; simp) (h1.setSnd (x.sends ++ [w])).shut
    cases hfree : x.free send
    · simp
      refine (waiting_open hf.f95 h1 (!send)).mono ?_
      intro v14 L14 hv
      have h2 := h1.ext hv.ext
      have hb2 := hv.ext b0 _ hb0
      simp
      refine (containsW_spec hf.f97 hv.slW hl2 (f := N k_f94) (fst := []) (cap := [.p (some (b0,0))]) (p := fun y => !decide (y.t = w.t)) ?_).mono ?_
      · intro y
        apply r_f94 hf.f94.code
        unfold D_f94_1 Wt.av
        simp
        rw [newL_box_agg _ _ _ (by simp [Wt.cells])]
        intro b hb
        have hbb : b0 ≠ b := by rintro rfl; rw [hb] at hb2; cases hb2
        simp [rdL,AB.read,look,Lg.put_apply,hbb,hb2,Wt.cells]
        exact ((Ext2.refl _).put hb _).sees
      · rintro _ K2 ⟨rfl,rfl⟩
        simp
        rw [condW_bool]
        refine ⟨fun ha => ?_,fun ha => ?_⟩
        · exact same h2 1 (by simp only [Ch.waits,hm,hc,hfree,ha,Bool.false_or,if_true,Bool.false_eq_true,if_false])
        · exact push h2 hb2 (by rw [hfree,ha]; rfl)
    · simp
      exact same h1 1 (by simp only [Ch.waits,hm,hc,hfree]; simp)
  · simp
    exact same h1 5 (by simp only [Ch.waits,hm,hc]; simp)
theorem wait_spec (hf : H_f98 N F) (e : L c = some (.abs (ChanP c x))) (w : Wt) (send : Bool) (hl1 : (x.wait send).length < 1000000) (hl2 : (x.wait (!send)).length ≤ 1000000) :
    CallL F (N k_f98) [.p (some (c,0)),w.av,.b send] L fun v L' => v = .i .i64 (x.waits w send).2 ∧ L' = L.put c (.abs (ChanP c (x.waits w send).1)) := by
  apply CallL.openC e
  intro rg q1 q2 L1 h
  apply r_f98 hf.code
  unfold D_f94 Wt.av
  generalize hQ : (fun (v : AV) (L' : Lg) => v = .i .i64 (x.waits w send).2 ∧ L' = L.put c (.abs (ChanP c (x.waits w send).1))) = Q
  simp
  rw [newL_box_agg _ _ _ (by simp [Wt.cells])]
  intro b0 hb0
  have h1 := h.ext ((Ext2.refl _).put hb0 (.raw (.cells w.cells)))
  simp
  refine (mute_open hf.f56 h1).mono ?_
  rintro _ K ⟨rfl,rfl⟩
  have key2 : (x.timed || x.signal) = x.mute := rfl
  rw [key2]
  have hback := h1.back e
  have fin : ∀ (y : Ch) (k : Int) {K : Lg},x.waits w send = (y,k) → Sees K (L.put c (.abs (ChanP c y))) → fin1 (some (.i .i64 k)) Q K := by
    intro y k K hy hs
    subst hQ
    refine ⟨_,hs,?_⟩
    simp only [hy]
    exact ⟨trivial,trivial⟩
  have same : ∀ (k : Int),x.waits w send = (x,k) → fin1 (some (.i .i64 k)) Q (L1.put b0 (.raw (.cells w.cells))) := by
    intro k hk
    refine fin x k hk ?_
    rw [Lg.put_self L c _ e]
    exact hback
  have hb2 : b0 ≠ c ∧ b0 ≠ rg ∧ b0 ≠ q1 ∧ b0 ≠ q2 := by
    refine ⟨?_,?_,?_,?_⟩ <;> rintro rfl
    · rw [h.root] at hb0; cases hb0
    · rw [h.ring] at hb0; cases hb0
    · rw [h.rcv] at hb0; cases hb0
    · rw [h.snd] at hb0; cases hb0
  cases hmm : x.mute
  · simp
    exact wait_rest hf h1 w send hl1 hl2 (Lg.put_same _ _ _) hb2 (by rw [hmm]; rfl) fin e
  · cases send
    · simp
      exact wait_rest hf h1 w false hl1 hl2 (Lg.put_same _ _ _) hb2 (by rw [hmm]; rfl) fin e
    · simp
      exact same 7 (by simp [Ch.waits,hmm])
end
end Go.AM


set_option linter.unusedVariables false
set_option linter.unusedSimpArgs false
namespace Go.AM

def enc (ks : List (Int × Int)) : List (AV × AV) := ks.map fun x => (.i .i64 x.1,.i .i64 x.2)
def look1 (k : Int) : List (Int × Int) → Option Int
  | [] => none
  | (a,v) :: r => if a = k then some v else look1 k r
def set1 (k v : Int) : List (Int × Int) → List (Int × Int)
  | [] => [(k,v)]
  | (a,u) :: r => if a = k then (a,v) :: r else (a,u) :: set1 k v r
def del1 (k : Int) : List (Int × Int) → List (Int × Int)
  | [] => []
  | (a,u) :: r => if a = k then r else (a,u) :: del1 k r
theorem look1_cons (k a v : Int) (r : List (Int × Int)) : look1 k ((a,v) :: r) = if a = k then some v else look1 k r := rfl
theorem set1_cons (k v a u : Int) (r : List (Int × Int)) : set1 k v ((a,u) :: r) = if a = k then (a,v) :: r else (a,u) :: set1 k v r := rfl
theorem del1_cons (k a u : Int) (r : List (Int × Int)) : del1 k ((a,u) :: r) = if a = k then r else (a,u) :: del1 k r := rfl
theorem kEq64 : kEq .i64 .i64 = true := rfl
theorem iEq_dec (a b : Int) : iEq a b = decide (a = b) := by rw [iEq_eq,beq_dec]
theorem mfind_enc (k : Int) : ∀ ks,mfind .i64 k (enc ks) = some ((look1 k ks).map (.i .i64 ·))
  | [] => rfl
  | (a,v) :: r => by
    show (bif kEq .i64 .i64 then (bif iEq k a then some (some (AV.i .i64 v)) else mfind .i64 k (enc r)) else none) = _
    rw [kEq64,cond_true,mfind_enc k r,iEq_dec]
    rw [look1_cons]
    by_cases h : a = k
    · simp [h]
    · simp [h,Ne.symm h]
theorem msetL_enc (k v : Int) : ∀ ks,msetL .i64 k (.i .i64 v) (enc ks) = some (enc (set1 k v ks))
  | [] => rfl
  | (a,u) :: r => by
    show (bif kEq .i64 .i64 then (bif iEq k a then some ((AV.i .i64 a,AV.i .i64 v) :: enc r) else (msetL .i64 k (.i .i64 v) (enc r)).map ((AV.i .i64 a,AV.i .i64 u) :: ·)) else none) = _
    rw [kEq64,cond_true,msetL_enc k v r,iEq_dec]
    rw [set1_cons]
    by_cases h : a = k
    · simp [h,enc]
    · simp [h,Ne.symm h,enc]
theorem mdelL_enc (k : Int) : ∀ ks,mdelL .i64 k (enc ks) = some (enc (del1 k ks))
  | [] => rfl
  | (a,u) :: r => by
    show (bif kEq .i64 .i64 then (bif iEq k a then some (enc r) else (mdelL .i64 k (enc r)).map ((AV.i .i64 a,AV.i .i64 u) :: ·)) else none) = _
    rw [kEq64,cond_true,mdelL_enc k r,iEq_dec]
    rw [del1_cons]
    by_cases h : a = k
    · simp [h]
    · simp [h,Ne.symm h,enc]
theorem look1_set1 (k v j : Int) : ∀ ks,look1 j (set1 k v ks) = if k = j then some v else look1 j ks
  | [] => by simp [set1,look1]
  | (a,u) :: r => by
    rw [set1_cons]
    by_cases h : a = k
    · subst h; by_cases h2 : a = j <;> simp [look1,h2]
    · simp only [h,if_false,look1,look1_set1 k v j r]
      by_cases h2 : a = j
      · subst h2; simp [Ne.symm h]
      · simp [h2]
theorem look1_none (j : Int) : ∀ (ks : List (Int × Int)),j ∉ ks.map (·.1) → look1 j ks = none
  | [],_ => rfl
  | (a,u) :: r,h => by
    simp at h
    simp [look1,Ne.symm h.1,look1_none j r (by simpa using h.2)]
theorem set1_keys (k v : Int) : ∀ (ks : List (Int × Int)),(set1 k v ks).map (·.1) = if k ∈ ks.map (·.1) then ks.map (·.1) else ks.map (·.1) ++ [k]
  | [] => rfl
  | (a,u) :: r => by
    rw [set1_cons]
    by_cases h : a = k
    · simp [h]
    · simp only [h,if_false,List.map_cons,set1_keys k v r,List.mem_cons,Ne.symm h,false_or]
      split <;> simp
theorem del1_sub (k : Int) : ∀ (ks : List (Int × Int)),(del1 k ks).map (·.1) |>.Sublist (ks.map (·.1))
  | [] => List.Sublist.refl _
  | (a,u) :: r => by
    rw [del1_cons]
    by_cases h : a = k
    · simp [h]
    · simp only [h,if_false,List.map_cons]; exact (del1_sub k r).cons_cons _
theorem look1_del1 (k j : Int) : ∀ (ks : List (Int × Int)),(ks.map (·.1)).Nodup → look1 j (del1 k ks) = if k = j then none else look1 j ks
  | [],_ => by simp [del1,look1]
  | (a,u) :: r,h => by
    simp only [List.map_cons,List.nodup_cons] at h
    rw [del1_cons]
    by_cases h1 : a = k
    · subst h1
      by_cases h2 : a = j
      · subst h2; simp [look1_none a r h.1]
      · simp [look1,h2]
    · simp only [h1,if_false,look1,look1_del1 k j r h.2]
      by_cases h2 : a = j
      · subst h2; simp [Ne.symm h1]
      · simp [h2]
def MapI (es : List (AV × AV)) (f : Int → Option Int) : Prop := ∃ ks,es = enc ks ∧ (ks.map (·.1)).Nodup ∧ ∀ k,look1 k ks = f k
def updI (f : Int → Option Int) (k : Int) (v : Option Int) : Int → Option Int := fun j => if k = j then v else f j
theorem mapI_nil : MapI [] fun _ => none := ⟨[],rfl,by simp,fun _ => rfl⟩
theorem MapI.find {es : List (AV × AV)} {f : Int → Option Int} (h : MapI es f) (k : Int) : mfind .i64 k es = some ((f k).map (.i .i64 ·)) := by
  obtain ⟨ks,rfl,_,h2⟩ := h; rw [mfind_enc,h2]
theorem MapI.set {es : List (AV × AV)} {f : Int → Option Int} (h : MapI es f) (k v : Int) : ∃ es',msetL .i64 k (.i .i64 v) es = some es' ∧ MapI es' (updI f k (some v)) := by
  obtain ⟨ks,rfl,h1,h2⟩ := h
  refine ⟨_,msetL_enc k v ks,set1 k v ks,rfl,?_,fun j => by rw [look1_set1,h2]; rfl⟩
  rw [set1_keys]
  split
  · exact h1
  · rename_i h3
    rw [List.nodup_append]
    exact ⟨h1,by simp,fun a ha b hb hab => by simp at hb; subst hb; subst hab; exact h3 ha⟩
theorem MapI.del {es : List (AV × AV)} {f : Int → Option Int} (h : MapI es f) (k : Int) : ∃ es',mdelL .i64 k es = some es' ∧ MapI es' (updI f k none) := by
  obtain ⟨ks,rfl,h1,h2⟩ := h
  exact ⟨_,mdelL_enc k ks,del1 k ks,rfl,(del1_sub k ks).nodup h1,fun j => by rw [look1_del1 k j ks h1,h2]; rfl⟩
end Go.AM


set_option linter.unusedVariables false
set_option linter.unusedSimpArgs false
namespace Go.AM
variable {N : Nat → Nat} {F : Nat → Option AFn}

structure It where
  id : Int
  w : Int
  s : Int
  deriving DecidableEq
def It.cells (x : It) : List AV := [.i .i64 x.id,.i .i64 x.w,.i .i64 x.s]
def It.av (x : It) : AV := .agg x.cells
def It.zero : It := ⟨0,0,0⟩
def icells : List It → List AV
  | [] => []
  | x :: r => x.cells ++ icells r
theorem icells_append : ∀ (A B : List It),icells (A ++ B) = icells A ++ icells B
  | [],_ => rfl
  | w :: A,B => by simp [icells,icells_append A B]
theorem icells_length : ∀ (A : List It),(icells A).length = A.length * 3
  | [] => rfl
  | w :: A => by simp [icells,icells_length A,It.cells]; omega
theorem icells_at : ∀ (ws : List It) (i : Nat) (w : It) (sp : List AV),ws[i]? = some w → ((icells ws ++ sp).drop (i * 3)).take 3 = w.cells ∧ i * 3 + 3 ≤ (icells ws ++ sp).length
  | [],i,w,sp,h => by simp at h
  | a :: r,0,w,sp,h => by simp at h; subst h; simp [icells,It.cells]
  | a :: r,i + 1,w,sp,h => by
    have := icells_at r i w sp (by simpa using h)
    have e : (i + 1) * 3 = i * 3 + 1 + 1 + 1 := by omega
    rw [e]
    simp only [icells,It.cells,List.cons_append,List.nil_append,List.drop_succ_cons,List.length_cons]
    exact ⟨this.1,by omega⟩
theorem splice_cons (a : AV) (c : List AV) (n : Nat) (vs : List AV) : splice (a :: c) (n + 1) vs = a :: splice c n vs := by
  have : n + 1 + vs.length = (n + vs.length) + 1 := by omega
  simp [splice,this]
theorem icells_set : ∀ (ws : List It) (i : Nat) (w : It) (sp : List AV),i < ws.length → splice (icells ws ++ sp) (i * 3) w.cells = icells (ws.set i w) ++ sp
  | [],i,w,sp,h => by simp at h
  | a :: r,0,w,sp,h => by simp [splice,icells,It.cells]
  | a :: r,i + 1,w,sp,h => by
    have e : (i + 1) * 3 = i * 3 + 1 + 1 + 1 := by omega
    rw [e,List.set_cons_succ]
    simp only [icells,It.cells,List.cons_append,List.nil_append]
    rw [splice_cons,splice_cons,splice_cons]
    have := icells_set r i w sp (by simpa using h)
    simp only [It.cells] at this
    rw [this]
def It.lt (a b : It) : Prop := a.w < b.w ∨ (a.w = b.w ∧ a.s < b.s)
instance (a b : It) : Decidable (a.lt b) := by unfold It.lt; exact inferInstance
theorem It.lt_irrefl (a : It) : ¬ a.lt a := by unfold It.lt; omega
theorem It.lt_asymm {a b : It} (h : a.lt b) : ¬ b.lt a := by unfold It.lt at *; omega
theorem It.lt_trans {a b c : It} (h : a.lt b) (k : b.lt c) : a.lt c := by unfold It.lt at *; omega
theorem It.ge_trans {a b c : It} (h : ¬ a.lt b) (k : ¬ b.lt c) : ¬ a.lt c := by unfold It.lt at *; omega
def cmpZ (x y : Int) : Int := if x < y then -1 else if y < x then 1 else 0
def It.cmp (a b : It) : Int := if cmpZ a.w b.w ≠ 0 then cmpZ a.w b.w else cmpZ a.s b.s
theorem It.cmp_neg (a b : It) : a.cmp b < 0 ↔ a.lt b := by unfold It.cmp It.lt cmpZ; split <;> split <;> (try split) <;> (try split) <;> omega
section
variable {L : Lg}
theorem compare_spec (h : H_f28 N F) (x y : Int) : CallL F (N k_f28) [.i .i64 x,.i .i64 y] L fun v L' => v = .i .i64 (cmpZ x y) ∧ L' = L := by
  apply r_f28 h.code
  unfold D_f28_1
  have nan : ∀ (z : Int) (L : Lg),CallL F (N k_f27) [.i .i64 z] L fun v L' => v = .b false ∧ L' = L := by
    intro z L
    apply r_f27 h.f27.code
    simp [D_f27_1]
  refine (nan x L).mono ?_
  rintro _ _ ⟨rfl,rfl⟩
  refine (nan y _).mono ?_
  rintro _ _ ⟨rfl,rfl⟩
  by_cases h1 : x < y
  · simp [h1,cmpZ]
  · by_cases h2 : y < x <;> simp [h1,h2,cmpZ]
theorem or_spec (h : H_f29 N F) {b : Nat} {x y : Int} {cp ex : Nat} (hL : L b = some (.raw (.cells [.i .i64 x,.i .i64 y]))) : CallL F (N k_f29) [.sl (some (b,0)) 2 cp ex] L fun v L' => v = .i .i64 (if x ≠ 0 then x else y) ∧ L' = L := by
  apply r_f29 h.code
  unfold D_f29_1 D_f29_2 D_f29_5
  simp [D_f29_7]
  refine loopW_intro (fun n l' L' => ∃ i : Nat,i ≤ 2 ∧ n = 2 - i ∧ (0 < i → x = 0) ∧ (1 < i → y = 0) ∧ L' = L ∧ l' 3 = .i .i64 0 ∧ l' 6 = .sl (some (b,0)) 2 cp ex ∧ l' 7 = .i .i64 2 ∧ l' 8 = .i .i64 i)
    2 ⟨0,by omega,by omega,by omega,by omega,rfl,by simp,by simp,by simp,by simp⟩ ?_
  rintro n l' t L' ⟨i,hi,hn,h0,h1,rfl,l3,l6,l7,l8⟩
  unfold D_f29_8
  rw [l3,l6,l7,l8]
  obtain rfl | rfl | rfl : i = 0 ∨ i = 1 ∨ i = 2 := by omega
  · by_cases hx : x = 0
    · simp [wp_iad _ _ _ 1 b 0 2 cp ex .i64 0 (by omega) (by omega),rdL,AB.read,look,hL,hx]
      refine ⟨1,by omega,1,by omega,by omega,?_⟩
      simp [hx,l3,l6,l7,wr_id]
    · simp [wp_iad _ _ _ 1 b 0 2 cp ex .i64 0 (by omega) (by omega),rdL,AB.read,look,hL,hx]
  · have hx := h0 (by omega)
    have e : ((1 : Nat) : Int) = 1 := rfl
    rw [e]
    by_cases hy : y = 0
    · simp [wp_iad _ _ _ 1 b 0 2 cp ex .i64 1 (by omega) (by omega),rdL,AB.read,look,hL,hx,hy]
      refine ⟨0,by omega,2,by omega,by omega,?_⟩
      simp [hx,hy,l3,l6,l7,wr_id]
    · simp [wp_iad _ _ _ 1 b 0 2 cp ex .i64 1 (by omega) (by omega),rdL,AB.read,look,hL,hx,hy]
  · have hx := h0 (by omega)
    have hy := h1 (by omega)
    simp [D_f29_4,hx,hy]
theorem ahead_spec (h : H_f30 N F) (x y : It) : CallL F (N k_f30) [x.av,y.av] L fun v L' => v = .i .i64 (x.cmp y) ∧ L' = L := by
  apply r_f30 h.code
  unfold D_f30_1 It.av
  simp
  rw [newL_box_agg _ _ _ (by simp [It.cells])]
  intro b1 h1
  simp
  rw [newL_box_agg _ _ _ (by simp [It.cells])]
  intro b2 h2
  have n1 : b2 ≠ b1 := by rintro rfl; simp at h2
  rw [Lg.put_ne _ _ _ n1] at h2
  simp [rdL,AB.read,look,Lg.put_apply,n1,Ne.symm n1,It.cells]
  refine (compare_spec h.f28 _ _).mono ?_
  rintro _ _ ⟨rfl,rfl⟩
  simp [rdL,AB.read,look,Lg.put_apply,n1,Ne.symm n1,It.cells]
  refine (compare_spec h.f28 _ _).mono ?_
  rintro _ _ ⟨rfl,rfl⟩
  simp
  rw [newL_bslice (c := [.i .i64 (cmpZ x.w y.w),.i .i64 (cmpZ x.s y.s)]) _ _ (by simp [reps,fillP,splice,ble_nat,beq_nat]) (by simp)]
  intro b3 h3
  refine (or_spec h.f29 (Lg.put_same _ _ _)).mono ?_
  rintro _ _ ⟨rfl,rfl⟩
  have n2 : b3 ≠ b2 := by rintro rfl; simp at h3
  have n3 : b3 ≠ b1 := by rintro rfl; simp [Lg.put_apply,Ne.symm n1] at h3
  rw [Lg.put_ne _ _ _ n2,Lg.put_ne _ _ _ n3] at h3
  simp [againV,semRL,rLdL,rdL,AB.read,look,Lg.put_apply,n1,Ne.symm n1,n2,Ne.symm n2,n3,Ne.symm n3,It.cells]
  refine ⟨Sees.drop ?_,?_⟩
  · intro c d hd
    have c1 : c ≠ b1 := by rintro rfl; rw [h1] at hd; cases hd
    have c2 : c ≠ b2 := by rintro rfl; rw [h2] at hd; cases hd
    have c3 : c ≠ b3 := by rintro rfl; rw [h3] at hd; cases hd
    simp [Lg.put_apply,c1,c2,c3,hd]
  · unfold It.cmp; by_cases h9 : cmpZ x.w y.w = 0 <;> simp [h9]
end
end Go.AM


