/- The table of the abstract machine's code, and that each is compiled from the program's. PRINTED by our glue3.py. -/
import Derived.Test.YtjmnmaaipcbmnaaGreatTA
import Derived.Test.YtjmnmaaipcbmnaaGreatTB
set_option maxRecDepth 100000
set_option maxHeartbeats 4000000
set_option linter.unusedVariables false
namespace Go.Proofs.YtjmnmaaipcbmnaaGreat.T
open Go.AM

def tbl : Nat → Option AFn
  | 3 => some a3
  | 4 => some a4
  | 5 => some a5
  | 6 => some a6
  | 7 => some a7
  | 8 => some a8
  | 9 => some a9
  | 10 => some a10
  | 11 => some a11
  | 12 => some a12
  | 13 => some a13
  | 14 => some a14
  | 15 => some a15
  | 16 => some a16
  | 17 => some a17
  | 18 => some a18
  | 19 => some a19
  | 20 => some a20
  | 21 => some a21
  | 22 => some a22
  | 23 => some a23
  | 24 => some a24
  | 25 => some a25
  | 26 => some a26
  | 27 => some a27
  | 28 => some a28
  | 29 => some a29
  | 30 => some a30
  | 31 => some a31
  | 32 => some a32
  | 33 => some a33
  | 34 => some a34
  | 35 => some a35
  | 36 => some a36
  | 37 => some a37
  | 38 => some a38
  | 39 => some a39
  | 40 => some a40
  | 41 => some a41
  | 42 => some a42
  | 43 => some a43
  | 44 => some a44
  | 45 => some a45
  | 46 => some a46
  | 47 => some a47
  | 48 => some a48
  | 49 => some a49
  | 50 => some a50
  | 51 => some a51
  | 52 => some a52
  | 53 => some a53
  | 54 => some a54
  | 55 => some a55
  | 56 => some a56
  | 57 => some a57
  | 58 => some a58
  | 59 => some a59
  | 60 => some a60
  | 61 => some a61
  | 62 => some a62
  | 63 => some a63
  | 64 => some a64
  | 65 => some a65
  | 66 => some a66
  | 67 => some a67
  | 68 => some a68
  | 69 => some a69
  | 70 => some a70
  | 71 => some a71
  | 72 => some a72
  | 73 => some a73
  | 74 => some a74
  | 75 => some a75
  | 76 => some a76
  | 77 => some a77
  | 78 => some a78
  | 79 => some a79
  | 80 => some a80
  | 81 => some a81
  | 82 => some a82
  | 83 => some a83
  | 84 => some a84
  | 85 => some a85
  | 86 => some a86
  | 87 => some a87
  | 88 => some a88
  | 89 => some a89
  | 90 => some a90
  | 91 => some a91
  | 92 => some a92
  | 93 => some a93
  | 94 => some a94
  | 95 => some a95
  | 96 => some a96
  | 97 => some a97
  | 98 => some a98
  | 99 => some a99
  | 100 => some a100
  | 101 => some a101
  | 102 => some a102
  | 103 => some a103
  | 104 => some a104
  | 105 => some a105
  | 106 => some a106
  | 107 => some a107
  | 108 => some a108
  | 109 => some a109
  | 110 => some a110
  | 111 => some a111
  | 112 => some a112
  | 113 => some a113
  | 114 => some a114
  | 115 => some a115
  | 116 => some a116
  | 117 => some a117
  | 118 => some a118
  | 119 => some a119
  | 120 => some a120
  | 121 => some a121
  | 122 => some a122
  | 123 => some a123
  | 124 => some a124
  | 125 => some a125
  | 126 => some a126
  | 127 => some a127
  | 128 => some a128
  | 129 => some a129
  | 130 => some a130
  | 131 => some a131
  | 132 => some a132
  | 133 => some a133
  | 134 => some a134
  | 135 => some a135
  | 136 => some a136
  | 137 => some a137
  | 138 => some a138
  | 139 => some a139
  | 140 => some a140
  | 141 => some a141
  | 142 => some a142
  | 143 => some a143
  | 144 => some a144
  | 145 => some a145
  | 146 => some a146
  | 147 => some a147
  | 148 => some a148
  | 149 => some a149
  | 150 => some a150
  | 151 => some a151
  | 152 => some a152
  | 153 => some a153
  | 154 => some a154
  | 155 => some a155
  | 156 => some a156
  | 157 => some a157
  | 158 => some a158
  | 159 => some a159
  | 160 => some a160
  | 161 => some a161
  | 162 => some a162
  | 163 => some a163
  | 164 => some a164
  | 165 => some a165
  | 166 => some a166
  | 167 => some a167
  | 168 => some a168
  | 169 => some a169
  | 170 => some a170
  | 171 => some a171
  | 172 => some a172
  | 173 => some a173
  | 174 => some a174
  | 175 => some a175
  | 176 => some a176
  | 177 => some a177
  | 178 => some a178
  | 179 => some a179
  | 180 => some a180
  | 181 => some a181
  | 182 => some a182
  | 183 => some a183
  | 184 => some a184
  | 185 => some a185
  | 186 => some a186
  | 187 => some a187
  | 188 => some a188
  | 189 => some a189
  | 190 => some a190
  | 191 => some a191
  | 192 => some a192
  | 193 => some a193
  | 194 => some a194
  | 195 => some a195
  | 196 => some a196
  | 197 => some a197
  | 198 => some a198
  | 199 => some a199
  | 200 => some a200
  | 201 => some a201
  | 202 => some a202
  | 203 => some a203
  | 204 => some a204
  | 205 => some a205
  | 206 => some a206
  | 207 => some a207
  | 208 => some a208
  | 209 => some a209
  | 210 => some a210
  | 211 => some a211
  | 212 => some a212
  | 213 => some a213
  | 214 => some a214
  | 215 => some a215
  | 216 => some a216
  | 217 => some a217
  | 218 => some a218
  | _ => none
theorem ok : TblOk Tryz.prog tbl := by
  intro f fn h
  unfold tbl at h
  split at h
  · cases h; exact .inl ⟨b3, _, Tryz.func3, c3⟩
  · cases h; exact .inl ⟨b4, _, Tryz.func4, c4⟩
  · cases h; exact .inl ⟨b5, _, Tryz.func5, c5⟩
  · cases h; exact .inl ⟨b6, _, Tryz.func6, c6⟩
  · cases h; exact .inl ⟨b7, _, Tryz.func7, c7⟩
  · cases h; exact .inl ⟨b8, _, Tryz.func8, c8⟩
  · cases h; exact .inl ⟨b9, _, Tryz.func9, c9⟩
  · cases h; exact .inl ⟨b10, _, Tryz.func10, c10⟩
  · cases h; exact .inl ⟨b11, _, Tryz.func11, c11⟩
  · cases h; exact .inl ⟨b12, _, Tryz.func12, c12⟩
  · cases h; exact .inl ⟨b13, _, Tryz.func13, c13⟩
  · cases h; exact .inl ⟨b14, _, Tryz.func14, c14⟩
  · cases h; exact .inl ⟨b15, _, Tryz.func15, c15⟩
  · cases h; exact .inl ⟨b16, _, Tryz.func16, c16⟩
  · cases h; exact .inl ⟨b17, _, Tryz.func17, c17⟩
  · cases h; exact .inl ⟨b18, _, Tryz.func18, c18⟩
  · cases h; exact .inl ⟨b19, _, Tryz.func19, c19⟩
  · cases h; exact .inl ⟨b20, _, Tryz.func20, c20⟩
  · cases h; exact .inl ⟨b21, _, Tryz.func21, c21⟩
  · cases h; exact .inl ⟨b22, _, Tryz.func22, c22⟩
  · cases h; exact .inl ⟨b23, _, Tryz.func23, c23⟩
  · cases h; exact .inl ⟨b24, _, Tryz.func24, c24⟩
  · cases h; exact .inl ⟨b25, _, Tryz.func25, c25⟩
  · cases h; exact .inl ⟨b26, _, Tryz.func26, c26⟩
  · cases h; exact .inl ⟨b27, _, Tryz.func27, c27⟩
  · cases h; exact .inl ⟨b28, _, Tryz.func28, c28⟩
  · cases h; exact .inl ⟨b29, _, Tryz.func29, c29⟩
  · cases h; exact .inl ⟨b30, _, Tryz.func30, c30⟩
  · cases h; exact .inl ⟨b31, _, Tryz.func31, c31⟩
  · cases h; exact .inl ⟨b32, _, Tryz.func32, c32⟩
  · cases h; exact .inl ⟨b33, _, Tryz.func33, c33⟩
  · cases h; exact .inl ⟨b34, _, Tryz.func34, c34⟩
  · cases h; exact .inl ⟨b35, _, Tryz.func35, c35⟩
  · cases h; exact .inl ⟨b36, _, Tryz.func36, c36⟩
  · cases h; exact .inl ⟨b37, _, Tryz.func37, c37⟩
  · cases h; exact .inl ⟨b38, _, Tryz.func38, c38⟩
  · cases h; exact .inl ⟨b39, _, Tryz.func39, c39⟩
  · cases h; exact .inl ⟨b40, _, Tryz.func40, c40⟩
  · cases h; exact .inl ⟨b41, _, Tryz.func41, c41⟩
  · cases h; exact .inl ⟨b42, _, Tryz.func42, c42⟩
  · cases h; exact .inl ⟨b43, _, Tryz.func43, c43⟩
  · cases h; exact .inl ⟨b44, _, Tryz.func44, c44⟩
  · cases h; exact .inl ⟨b45, _, Tryz.func45, c45⟩
  · cases h; exact .inl ⟨b46, _, Tryz.func46, c46⟩
  · cases h; exact .inl ⟨b47, _, Tryz.func47, c47⟩
  · cases h; exact .inl ⟨b48, _, Tryz.func48, c48⟩
  · cases h; exact .inl ⟨b49, _, Tryz.func49, c49⟩
  · cases h; exact .inl ⟨b50, _, Tryz.func50, c50⟩
  · cases h; exact .inl ⟨b51, _, Tryz.func51, c51⟩
  · cases h; exact .inl ⟨b52, _, Tryz.func52, c52⟩
  · cases h; exact .inl ⟨b53, _, Tryz.func53, c53⟩
  · cases h; exact .inl ⟨b54, _, Tryz.func54, c54⟩
  · cases h; exact .inl ⟨b55, _, Tryz.func55, c55⟩
  · cases h; exact .inl ⟨b56, _, Tryz.func56, c56⟩
  · cases h; exact .inl ⟨b57, _, Tryz.func57, c57⟩
  · cases h; exact .inl ⟨b58, _, Tryz.func58, c58⟩
  · cases h; exact .inl ⟨b59, _, Tryz.func59, c59⟩
  · cases h; exact .inl ⟨b60, _, Tryz.func60, c60⟩
  · cases h; exact .inl ⟨b61, _, Tryz.func61, c61⟩
  · cases h; exact .inl ⟨b62, _, Tryz.func62, c62⟩
  · cases h; exact .inl ⟨b63, _, Tryz.func63, c63⟩
  · cases h; exact .inl ⟨b64, _, Tryz.func64, c64⟩
  · cases h; exact .inl ⟨b65, _, Tryz.func65, c65⟩
  · cases h; exact .inl ⟨b66, _, Tryz.func66, c66⟩
  · cases h; exact .inl ⟨b67, _, Tryz.func67, c67⟩
  · cases h; exact .inl ⟨b68, _, Tryz.func68, c68⟩
  · cases h; exact .inl ⟨b69, _, Tryz.func69, c69⟩
  · cases h; exact .inl ⟨b70, _, Tryz.func70, c70⟩
  · cases h; exact .inl ⟨b71, _, Tryz.func71, c71⟩
  · cases h; exact .inl ⟨b72, _, Tryz.func72, c72⟩
  · cases h; exact .inl ⟨b73, _, Tryz.func73, c73⟩
  · cases h; exact .inl ⟨b74, _, Tryz.func74, c74⟩
  · cases h; exact .inl ⟨b75, _, Tryz.func75, c75⟩
  · cases h; exact .inl ⟨b76, _, Tryz.func76, c76⟩
  · cases h; exact .inl ⟨b77, _, Tryz.func77, c77⟩
  · cases h; exact .inl ⟨b78, _, Tryz.func78, c78⟩
  · cases h; exact .inl ⟨b79, _, Tryz.func79, c79⟩
  · cases h; exact .inl ⟨b80, _, Tryz.func80, c80⟩
  · cases h; exact .inl ⟨b81, _, Tryz.func81, c81⟩
  · cases h; exact .inl ⟨b82, _, Tryz.func82, c82⟩
  · cases h; exact .inl ⟨b83, _, Tryz.func83, c83⟩
  · cases h; exact .inl ⟨b84, _, Tryz.func84, c84⟩
  · cases h; exact .inl ⟨b85, _, Tryz.func85, c85⟩
  · cases h; exact .inl ⟨b86, _, Tryz.func86, c86⟩
  · cases h; exact .inl ⟨b87, _, Tryz.func87, c87⟩
  · cases h; exact .inl ⟨b88, _, Tryz.func88, c88⟩
  · cases h; exact .inl ⟨b89, _, Tryz.func89, c89⟩
  · cases h; exact .inl ⟨b90, _, Tryz.func90, c90⟩
  · cases h; exact .inl ⟨b91, _, Tryz.func91, c91⟩
  · cases h; exact .inl ⟨b92, _, Tryz.func92, c92⟩
  · cases h; exact .inl ⟨b93, _, Tryz.func93, c93⟩
  · cases h; exact .inl ⟨b94, _, Tryz.func94, c94⟩
  · cases h; exact .inl ⟨b95, _, Tryz.func95, c95⟩
  · cases h; exact .inl ⟨b96, _, Tryz.func96, c96⟩
  · cases h; exact .inl ⟨b97, _, Tryz.func97, c97⟩
  · cases h; exact .inl ⟨b98, _, Tryz.func98, c98⟩
  · cases h; exact .inl ⟨b99, _, Tryz.func99, c99⟩
  · cases h; exact .inl ⟨b100, _, Tryz.func100, c100⟩
  · cases h; exact .inl ⟨b101, _, Tryz.func101, c101⟩
  · cases h; exact .inl ⟨b102, _, Tryz.func102, c102⟩
  · cases h; exact .inl ⟨b103, _, Tryz.func103, c103⟩
  · cases h; exact .inl ⟨b104, _, Tryz.func104, c104⟩
  · cases h; exact .inl ⟨b105, _, Tryz.func105, c105⟩
  · cases h; exact .inl ⟨b106, _, Tryz.func106, c106⟩
  · cases h; exact .inl ⟨b107, _, Tryz.func107, c107⟩
  · cases h; exact .inl ⟨b108, _, Tryz.func108, c108⟩
  · cases h; exact .inl ⟨b109, _, Tryz.func109, c109⟩
  · cases h; exact .inl ⟨b110, _, Tryz.func110, c110⟩
  · cases h; exact .inl ⟨b111, _, Tryz.func111, c111⟩
  · cases h; exact .inl ⟨b112, _, Tryz.func112, c112⟩
  · cases h; exact .inl ⟨b113, _, Tryz.func113, c113⟩
  · cases h; exact .inl ⟨b114, _, Tryz.func114, c114⟩
  · cases h; exact .inl ⟨b115, _, Tryz.func115, c115⟩
  · cases h; exact .inl ⟨b116, _, Tryz.func116, c116⟩
  · cases h; exact .inl ⟨b117, _, Tryz.func117, c117⟩
  · cases h; exact .inl ⟨b118, _, Tryz.func118, c118⟩
  · cases h; exact .inl ⟨b119, _, Tryz.func119, c119⟩
  · cases h; exact .inl ⟨b120, _, Tryz.func120, c120⟩
  · cases h; exact .inl ⟨b121, _, Tryz.func121, c121⟩
  · cases h; exact .inl ⟨b122, _, Tryz.func122, c122⟩
  · cases h; exact .inl ⟨b123, _, Tryz.func123, c123⟩
  · cases h; exact .inl ⟨b124, _, Tryz.func124, c124⟩
  · cases h; exact .inl ⟨b125, _, Tryz.func125, c125⟩
  · cases h; exact .inl ⟨b126, _, Tryz.func126, c126⟩
  · cases h; exact .inl ⟨b127, _, Tryz.func127, c127⟩
  · cases h; exact .inl ⟨b128, _, Tryz.func128, c128⟩
  · cases h; exact .inl ⟨b129, _, Tryz.func129, c129⟩
  · cases h; exact .inl ⟨b130, _, Tryz.func130, c130⟩
  · cases h; exact .inl ⟨b131, _, Tryz.func131, c131⟩
  · cases h; exact .inl ⟨b132, _, Tryz.func132, c132⟩
  · cases h; exact .inl ⟨b133, _, Tryz.func133, c133⟩
  · cases h; exact .inl ⟨b134, _, Tryz.func134, c134⟩
  · cases h; exact .inl ⟨b135, _, Tryz.func135, c135⟩
  · cases h; exact .inl ⟨b136, _, Tryz.func136, c136⟩
  · cases h; exact .inl ⟨b137, _, Tryz.func137, c137⟩
  · cases h; exact .inl ⟨b138, _, Tryz.func138, c138⟩
  · cases h; exact .inl ⟨b139, _, Tryz.func139, c139⟩
  · cases h; exact .inl ⟨b140, _, Tryz.func140, c140⟩
  · cases h; exact .inl ⟨b141, _, Tryz.func141, c141⟩
  · cases h; exact .inl ⟨b142, _, Tryz.func142, c142⟩
  · cases h; exact .inl ⟨b143, _, Tryz.func143, c143⟩
  · cases h; exact .inl ⟨b144, _, Tryz.func144, c144⟩
  · cases h; exact .inl ⟨b145, _, Tryz.func145, c145⟩
  · cases h; exact .inl ⟨b146, _, Tryz.func146, c146⟩
  · cases h; exact .inl ⟨b147, _, Tryz.func147, c147⟩
  · cases h; exact .inl ⟨b148, _, Tryz.func148, c148⟩
  · cases h; exact .inl ⟨b149, _, Tryz.func149, c149⟩
  · cases h; exact .inl ⟨b150, _, Tryz.func150, c150⟩
  · cases h; exact .inl ⟨b151, _, Tryz.func151, c151⟩
  · cases h; exact .inl ⟨b152, _, Tryz.func152, c152⟩
  · cases h; exact .inl ⟨b153, _, Tryz.func153, c153⟩
  · cases h; exact .inl ⟨b154, _, Tryz.func154, c154⟩
  · cases h; exact .inl ⟨b155, _, Tryz.func155, c155⟩
  · cases h; exact .inl ⟨b156, _, Tryz.func156, c156⟩
  · cases h; exact .inl ⟨b157, _, Tryz.func157, c157⟩
  · cases h; exact .inl ⟨b158, _, Tryz.func158, c158⟩
  · cases h; exact .inl ⟨b159, _, Tryz.func159, c159⟩
  · cases h; exact .inl ⟨b160, _, Tryz.func160, c160⟩
  · cases h; exact .inl ⟨b161, _, Tryz.func161, c161⟩
  · cases h; exact .inl ⟨b162, _, Tryz.func162, c162⟩
  · cases h; exact .inl ⟨b163, _, Tryz.func163, c163⟩
  · cases h; exact .inl ⟨b164, _, Tryz.func164, c164⟩
  · cases h; exact .inl ⟨b165, _, Tryz.func165, c165⟩
  · cases h; exact .inl ⟨b166, _, Tryz.func166, c166⟩
  · cases h; exact .inl ⟨b167, _, Tryz.func167, c167⟩
  · cases h; exact .inl ⟨b168, _, Tryz.func168, c168⟩
  · cases h; exact .inl ⟨b169, _, Tryz.func169, c169⟩
  · cases h; exact .inl ⟨b170, _, Tryz.func170, c170⟩
  · cases h; exact .inl ⟨b171, _, Tryz.func171, c171⟩
  · cases h; exact .inl ⟨b172, _, Tryz.func172, c172⟩
  · cases h; exact .inl ⟨b173, _, Tryz.func173, c173⟩
  · cases h; exact .inl ⟨b174, _, Tryz.func174, c174⟩
  · cases h; exact .inl ⟨b175, _, Tryz.func175, c175⟩
  · cases h; exact .inl ⟨b176, _, Tryz.func176, c176⟩
  · cases h; exact .inl ⟨b177, _, Tryz.func177, c177⟩
  · cases h; exact .inl ⟨b178, _, Tryz.func178, c178⟩
  · cases h; exact .inl ⟨b179, _, Tryz.func179, c179⟩
  · cases h; exact .inl ⟨b180, _, Tryz.func180, c180⟩
  · cases h; exact .inl ⟨b181, _, Tryz.func181, c181⟩
  · cases h; exact .inl ⟨b182, _, Tryz.func182, c182⟩
  · cases h; exact .inl ⟨b183, _, Tryz.func183, c183⟩
  · cases h; exact .inl ⟨b184, _, Tryz.func184, c184⟩
  · cases h; exact .inl ⟨b185, _, Tryz.func185, c185⟩
  · cases h; exact .inl ⟨b186, _, Tryz.func186, c186⟩
  · cases h; exact .inl ⟨b187, _, Tryz.func187, c187⟩
  · cases h; exact .inl ⟨b188, _, Tryz.func188, c188⟩
  · cases h; exact .inl ⟨b189, _, Tryz.func189, c189⟩
  · cases h; exact .inl ⟨b190, _, Tryz.func190, c190⟩
  · cases h; exact .inl ⟨b191, _, Tryz.func191, c191⟩
  · cases h; exact .inl ⟨b192, _, Tryz.func192, c192⟩
  · cases h; exact .inl ⟨b193, _, Tryz.func193, c193⟩
  · cases h; exact .inl ⟨b194, _, Tryz.func194, c194⟩
  · cases h; exact .inl ⟨b195, _, Tryz.func195, c195⟩
  · cases h; exact .inl ⟨b196, _, Tryz.func196, c196⟩
  · cases h; exact .inl ⟨b197, _, Tryz.func197, c197⟩
  · cases h; exact .inl ⟨b198, _, Tryz.func198, c198⟩
  · cases h; exact .inl ⟨b199, _, Tryz.func199, c199⟩
  · cases h; exact .inl ⟨b200, _, Tryz.func200, c200⟩
  · cases h; exact .inl ⟨b201, _, Tryz.func201, c201⟩
  · cases h; exact .inl ⟨b202, _, Tryz.func202, c202⟩
  · cases h; exact .inl ⟨b203, _, Tryz.func203, c203⟩
  · cases h; exact .inl ⟨b204, _, Tryz.func204, c204⟩
  · cases h; exact .inl ⟨b205, _, Tryz.func205, c205⟩
  · cases h; exact .inl ⟨b206, _, Tryz.func206, c206⟩
  · cases h; exact .inl ⟨b207, _, Tryz.func207, c207⟩
  · cases h; exact .inl ⟨b208, _, Tryz.func208, c208⟩
  · cases h; exact .inl ⟨b209, _, Tryz.func209, c209⟩
  · cases h; exact .inl ⟨b210, _, Tryz.func210, c210⟩
  · cases h; exact .inl ⟨b211, _, Tryz.func211, c211⟩
  · cases h; exact .inl ⟨b212, _, Tryz.func212, c212⟩
  · cases h; exact .inl ⟨b213, _, Tryz.func213, c213⟩
  · cases h; exact .inl ⟨b214, _, Tryz.func214, c214⟩
  · cases h; exact .inl ⟨b215, _, Tryz.func215, c215⟩
  · cases h; exact .inl ⟨b216, _, Tryz.func216, c216⟩
  · cases h; exact .inl ⟨b217, _, Tryz.func217, c217⟩
  · cases h; exact .inl ⟨b218, _, Tryz.func218, c218⟩
  · cases h
theorem clean : ∀ f fn, tbl f = some fn → fn.clean = true := by
  intro f fn h
  unfold tbl at h
  split at h
  · cases h; kernel_rfl
  · cases h; kernel_rfl
  · cases h; kernel_rfl
  · cases h; kernel_rfl
  · cases h; kernel_rfl
  · cases h; kernel_rfl
  · cases h; kernel_rfl
  · cases h; kernel_rfl
  · cases h; kernel_rfl
  · cases h; kernel_rfl
  · cases h; kernel_rfl
  · cases h; kernel_rfl
  · cases h; kernel_rfl
  · cases h; kernel_rfl
  · cases h; kernel_rfl
  · cases h; kernel_rfl
  · cases h; kernel_rfl
  · cases h; kernel_rfl
  · cases h; kernel_rfl
  · cases h; kernel_rfl
  · cases h; kernel_rfl
  · cases h; kernel_rfl
  · cases h; kernel_rfl
  · cases h; kernel_rfl
  · cases h; kernel_rfl
  · cases h; kernel_rfl
  · cases h; kernel_rfl
  · cases h; kernel_rfl
  · cases h; kernel_rfl
  · cases h; kernel_rfl
  · cases h; kernel_rfl
  · cases h; kernel_rfl
  · cases h; kernel_rfl
  · cases h; kernel_rfl
  · cases h; kernel_rfl
  · cases h; kernel_rfl
  · cases h; kernel_rfl
  · cases h; kernel_rfl
  · cases h; kernel_rfl
  · cases h; kernel_rfl
  · cases h; kernel_rfl
  · cases h; kernel_rfl
  · cases h; kernel_rfl
  · cases h; kernel_rfl
  · cases h; kernel_rfl
  · cases h; kernel_rfl
  · cases h; kernel_rfl
  · cases h; kernel_rfl
  · cases h; kernel_rfl
  · cases h; kernel_rfl
  · cases h; kernel_rfl
  · cases h; kernel_rfl
  · cases h; kernel_rfl
  · cases h; kernel_rfl
  · cases h; kernel_rfl
  · cases h; kernel_rfl
  · cases h; kernel_rfl
  · cases h; kernel_rfl
  · cases h; kernel_rfl
  · cases h; kernel_rfl
  · cases h; kernel_rfl
  · cases h; kernel_rfl
  · cases h; kernel_rfl
  · cases h; kernel_rfl
  · cases h; kernel_rfl
  · cases h; kernel_rfl
  · cases h; kernel_rfl
  · cases h; kernel_rfl
  · cases h; kernel_rfl
  · cases h; kernel_rfl
  · cases h; kernel_rfl
  · cases h; kernel_rfl
  · cases h; kernel_rfl
  · cases h; kernel_rfl
  · cases h; kernel_rfl
  · cases h; kernel_rfl
  · cases h; kernel_rfl
  · cases h; kernel_rfl
  · cases h; kernel_rfl
  · cases h; kernel_rfl
  · cases h; kernel_rfl
  · cases h; kernel_rfl
  · cases h; kernel_rfl
  · cases h; kernel_rfl
  · cases h; kernel_rfl
  · cases h; kernel_rfl
  · cases h; kernel_rfl
  · cases h; kernel_rfl
  · cases h; kernel_rfl
  · cases h; kernel_rfl
  · cases h; kernel_rfl
  · cases h; kernel_rfl
  · cases h; kernel_rfl
  · cases h; kernel_rfl
  · cases h; kernel_rfl
  · cases h; kernel_rfl
  · cases h; kernel_rfl
  · cases h; kernel_rfl
  · cases h; kernel_rfl
  · cases h; kernel_rfl
  · cases h; kernel_rfl
  · cases h; kernel_rfl
  · cases h; kernel_rfl
  · cases h; kernel_rfl
  · cases h; kernel_rfl
  · cases h; kernel_rfl
  · cases h; kernel_rfl
  · cases h; kernel_rfl
  · cases h; kernel_rfl
  · cases h; kernel_rfl
  · cases h; kernel_rfl
  · cases h; kernel_rfl
  · cases h; kernel_rfl
  · cases h; kernel_rfl
  · cases h; kernel_rfl
  · cases h; kernel_rfl
  · cases h; kernel_rfl
  · cases h; kernel_rfl
  · cases h; kernel_rfl
  · cases h; kernel_rfl
  · cases h; kernel_rfl
  · cases h; kernel_rfl
  · cases h; kernel_rfl
  · cases h; kernel_rfl
  · cases h; kernel_rfl
  · cases h; kernel_rfl
  · cases h; kernel_rfl
  · cases h; kernel_rfl
  · cases h; kernel_rfl
  · cases h; kernel_rfl
  · cases h; kernel_rfl
  · cases h; kernel_rfl
  · cases h; kernel_rfl
  · cases h; kernel_rfl
  · cases h; kernel_rfl
  · cases h; kernel_rfl
  · cases h; kernel_rfl
  · cases h; kernel_rfl
  · cases h; kernel_rfl
  · cases h; kernel_rfl
  · cases h; kernel_rfl
  · cases h; kernel_rfl
  · cases h; kernel_rfl
  · cases h; kernel_rfl
  · cases h; kernel_rfl
  · cases h; kernel_rfl
  · cases h; kernel_rfl
  · cases h; kernel_rfl
  · cases h; kernel_rfl
  · cases h; kernel_rfl
  · cases h; kernel_rfl
  · cases h; kernel_rfl
  · cases h; kernel_rfl
  · cases h; kernel_rfl
  · cases h; kernel_rfl
  · cases h; kernel_rfl
  · cases h; kernel_rfl
  · cases h; kernel_rfl
  · cases h; kernel_rfl
  · cases h; kernel_rfl
  · cases h; kernel_rfl
  · cases h; kernel_rfl
  · cases h; kernel_rfl
  · cases h; kernel_rfl
  · cases h; kernel_rfl
  · cases h; kernel_rfl
  · cases h; kernel_rfl
  · cases h; kernel_rfl
  · cases h; kernel_rfl
  · cases h; kernel_rfl
  · cases h; kernel_rfl
  · cases h; kernel_rfl
  · cases h; kernel_rfl
  · cases h; kernel_rfl
  · cases h; kernel_rfl
  · cases h; kernel_rfl
  · cases h; kernel_rfl
  · cases h; kernel_rfl
  · cases h; kernel_rfl
  · cases h; kernel_rfl
  · cases h; kernel_rfl
  · cases h; kernel_rfl
  · cases h; kernel_rfl
  · cases h; kernel_rfl
  · cases h; kernel_rfl
  · cases h; kernel_rfl
  · cases h; kernel_rfl
  · cases h; kernel_rfl
  · cases h; kernel_rfl
  · cases h; kernel_rfl
  · cases h; kernel_rfl
  · cases h; kernel_rfl
  · cases h; kernel_rfl
  · cases h; kernel_rfl
  · cases h; kernel_rfl
  · cases h; kernel_rfl
  · cases h; kernel_rfl
  · cases h; kernel_rfl
  · cases h; kernel_rfl
  · cases h; kernel_rfl
  · cases h; kernel_rfl
  · cases h; kernel_rfl
  · cases h; kernel_rfl
  · cases h; kernel_rfl
  · cases h; kernel_rfl
  · cases h; kernel_rfl
  · cases h; kernel_rfl
  · cases h; kernel_rfl
  · cases h; kernel_rfl
  · cases h; kernel_rfl
  · cases h; kernel_rfl
  · cases h; kernel_rfl
  · cases h; kernel_rfl
  · cases h; kernel_rfl
  · cases h; kernel_rfl
  · cases h; kernel_rfl
  · cases h
theorem mixed : Tryz.prog.follows .mixedOrders = true := by kernel_rfl
theorem awake4 : KnownTrue Tryz.prog 4 := known mixed ok Tryz.func4 c4 (n := 100000) (by kernel_rfl)
/-- the table, with what is known -/
def tblK (f : Nat) : Option AFn := bif Nat.beq f 4 then some kTrue else tbl f
theorem okK : TblOk Tryz.prog tblK := by
  intro f fn h
  unfold tblK at h
  cases h4 : Nat.beq f 4
  case true =>
    rw [h4] at h
    cases h
    exact .inr ⟨rfl, by rw [beq_nat, decide_eq_true_eq] at h4; subst h4; exact awake4⟩
  rw [h4] at h
  exact ok f fn h
theorem cleanK : ∀ f fn, tblK f = some fn → fn.clean = true := by
  intro f fn h
  unfold tblK at h
  cases h4 : Nat.beq f 4
  case true =>
    rw [h4] at h
    cases h
    rfl
  rw [h4] at h
  exact clean f fn h
end Go.Proofs.YtjmnmaaipcbmnaaGreat.T
