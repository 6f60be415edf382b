/- Functions of the program on the abstract machine: written by a program (ggen) off the elaborated code. -/
import Derived.Test.YtgkpnfnkaplebaaGreatDoorDk
set_option linter.unusedVariables false
set_option linter.constructorNameAsVariable false
set_option maxRecDepth 100000
namespace Go.Proofs.YtgkpnfnkaplebaaGreatDoor
open Go.Vc Go.Ab
noncomputable section
variable (v1 v2 : AV) (l1 l2 l3 l4 : List AV) (L1 L2 : List AP) (d1 d2 d3 d4 : DV) (R1 : List DV) (n1 n2 n3 n4 n5 n6 n7 n8 : Int) (m1 m2 m3 m4 : Nat) (t1 t2 t3 t4 : Bool) (p1 p2 p3 p4 p5 : AP) (b1 b2 b3 b4 b5 : P4) (s1 s2 s3 : AS) (H1 : AH) (x1 x2 : List Int) (c1 c2 c3 c4 c5 c6 c7 c8 c9 c10 c11 c12 c13 c14 c15 : G DV) (Ka1 Ka2 : AH → Option DV) (Kb1 Kb2 : DV → AH → Option DV) (Kc1 Kc2 : DV → DV → AH → Option DV) (Kd1 : DV → DV → DV → AH → Option DV)
variable {ads : List Addr}
def ii0 : Int := Int.ofNat (nat_lit 0)
def ii1 : Int := Int.ofNat (nat_lit 1)
def ii10 : Int := Int.ofNat (nat_lit 10)
def ii100 : Int := Int.ofNat (nat_lit 100)
def ii10000 : Int := Int.ofNat (nat_lit 10000)
def ii100000 : Int := Int.ofNat (nat_lit 100000)
def ii1000000 : Int := Int.ofNat (nat_lit 1000000)
def ii10000000 : Int := Int.ofNat (nat_lit 10000000)
def ii101 : Int := Int.ofNat (nat_lit 101)
def ii102 : Int := Int.ofNat (nat_lit 102)
def ii1023 : Int := Int.ofNat (nat_lit 1023)
def ii1024 : Int := Int.ofNat (nat_lit 1024)
def ii103 : Int := Int.ofNat (nat_lit 103)
def ii104 : Int := Int.ofNat (nat_lit 104)
def ii1048576 : Int := Int.ofNat (nat_lit 1048576)
def ii105 : Int := Int.ofNat (nat_lit 105)
def ii106 : Int := Int.ofNat (nat_lit 106)
def ii107 : Int := Int.ofNat (nat_lit 107)
def ii1073741824 : Int := Int.ofNat (nat_lit 1073741824)
def ii108 : Int := Int.ofNat (nat_lit 108)
def ii109 : Int := Int.ofNat (nat_lit 109)
def ii1099511627776 : Int := Int.ofNat (nat_lit 1099511627776)
def ii11 : Int := Int.ofNat (nat_lit 11)
def ii110 : Int := Int.ofNat (nat_lit 110)
def ii111 : Int := Int.ofNat (nat_lit 111)
def ii112 : Int := Int.ofNat (nat_lit 112)
def ii113 : Int := Int.ofNat (nat_lit 113)
def ii114 : Int := Int.ofNat (nat_lit 114)
def ii115 : Int := Int.ofNat (nat_lit 115)
def ii1152921504606846976 : Int := Int.ofNat (nat_lit 1152921504606846976)
def ii116 : Int := Int.ofNat (nat_lit 116)
def ii117 : Int := Int.ofNat (nat_lit 117)
def ii118 : Int := Int.ofNat (nat_lit 118)
def ii119 : Int := Int.ofNat (nat_lit 119)
def ii12 : Int := Int.ofNat (nat_lit 12)
def ii120 : Int := Int.ofNat (nat_lit 120)
def ii121 : Int := Int.ofNat (nat_lit 121)
def ii122 : Int := Int.ofNat (nat_lit 122)
def ii123 : Int := Int.ofNat (nat_lit 123)
def ii124 : Int := Int.ofNat (nat_lit 124)
def ii125 : Int := Int.ofNat (nat_lit 125)
def ii126 : Int := Int.ofNat (nat_lit 126)
def ii127 : Int := Int.ofNat (nat_lit 127)
def ii128 : Int := Int.ofNat (nat_lit 128)
def ii129 : Int := Int.ofNat (nat_lit 129)
def ii13 : Int := Int.ofNat (nat_lit 13)
def ii130 : Int := Int.ofNat (nat_lit 130)
def ii131 : Int := Int.ofNat (nat_lit 131)
def ii132 : Int := Int.ofNat (nat_lit 132)
def ii133 : Int := Int.ofNat (nat_lit 133)
def ii134 : Int := Int.ofNat (nat_lit 134)
def ii135 : Int := Int.ofNat (nat_lit 135)
def ii136 : Int := Int.ofNat (nat_lit 136)
def ii137 : Int := Int.ofNat (nat_lit 137)
def ii138 : Int := Int.ofNat (nat_lit 138)
def ii139 : Int := Int.ofNat (nat_lit 139)
def ii14 : Int := Int.ofNat (nat_lit 14)
def ii140 : Int := Int.ofNat (nat_lit 140)
def ii141 : Int := Int.ofNat (nat_lit 141)
def ii142 : Int := Int.ofNat (nat_lit 142)
def ii143 : Int := Int.ofNat (nat_lit 143)
def ii144 : Int := Int.ofNat (nat_lit 144)
def ii145 : Int := Int.ofNat (nat_lit 145)
def ii146 : Int := Int.ofNat (nat_lit 146)
def ii147 : Int := Int.ofNat (nat_lit 147)
def ii148 : Int := Int.ofNat (nat_lit 148)
def ii149 : Int := Int.ofNat (nat_lit 149)
def ii15 : Int := Int.ofNat (nat_lit 15)
def ii150 : Int := Int.ofNat (nat_lit 150)
def ii1500 : Int := Int.ofNat (nat_lit 1500)
def ii151 : Int := Int.ofNat (nat_lit 151)
def ii1514 : Int := Int.ofNat (nat_lit 1514)
def ii152 : Int := Int.ofNat (nat_lit 152)
def ii153 : Int := Int.ofNat (nat_lit 153)
def ii154 : Int := Int.ofNat (nat_lit 154)
def ii155 : Int := Int.ofNat (nat_lit 155)
def ii156 : Int := Int.ofNat (nat_lit 156)
def ii157 : Int := Int.ofNat (nat_lit 157)
def ii158 : Int := Int.ofNat (nat_lit 158)
def ii159 : Int := Int.ofNat (nat_lit 159)
def ii16 : Int := Int.ofNat (nat_lit 16)
def ii160 : Int := Int.ofNat (nat_lit 160)
def ii161 : Int := Int.ofNat (nat_lit 161)
def ii162 : Int := Int.ofNat (nat_lit 162)
def ii163 : Int := Int.ofNat (nat_lit 163)
def ii164 : Int := Int.ofNat (nat_lit 164)
def ii165 : Int := Int.ofNat (nat_lit 165)
def ii166 : Int := Int.ofNat (nat_lit 166)
def ii167 : Int := Int.ofNat (nat_lit 167)
def ii168 : Int := Int.ofNat (nat_lit 168)
def ii169 : Int := Int.ofNat (nat_lit 169)
def ii17 : Int := Int.ofNat (nat_lit 17)
def ii170 : Int := Int.ofNat (nat_lit 170)
def ii171 : Int := Int.ofNat (nat_lit 171)
def ii172 : Int := Int.ofNat (nat_lit 172)
def ii173 : Int := Int.ofNat (nat_lit 173)
def ii174 : Int := Int.ofNat (nat_lit 174)
def ii175 : Int := Int.ofNat (nat_lit 175)
def ii176 : Int := Int.ofNat (nat_lit 176)
def ii177 : Int := Int.ofNat (nat_lit 177)
def ii178 : Int := Int.ofNat (nat_lit 178)
def ii179 : Int := Int.ofNat (nat_lit 179)
def ii18 : Int := Int.ofNat (nat_lit 18)
def ii180 : Int := Int.ofNat (nat_lit 180)
def ii181 : Int := Int.ofNat (nat_lit 181)
def ii182 : Int := Int.ofNat (nat_lit 182)
def ii183 : Int := Int.ofNat (nat_lit 183)
def ii184 : Int := Int.ofNat (nat_lit 184)
def ii185 : Int := Int.ofNat (nat_lit 185)
def ii186 : Int := Int.ofNat (nat_lit 186)
def ii187 : Int := Int.ofNat (nat_lit 187)
def ii188 : Int := Int.ofNat (nat_lit 188)
def ii189 : Int := Int.ofNat (nat_lit 189)
def ii19 : Int := Int.ofNat (nat_lit 19)
def ii190 : Int := Int.ofNat (nat_lit 190)
def ii191 : Int := Int.ofNat (nat_lit 191)
def ii192 : Int := Int.ofNat (nat_lit 192)
def ii193 : Int := Int.ofNat (nat_lit 193)
def ii194 : Int := Int.ofNat (nat_lit 194)
def ii195 : Int := Int.ofNat (nat_lit 195)
def ii196 : Int := Int.ofNat (nat_lit 196)
def ii197 : Int := Int.ofNat (nat_lit 197)
def ii198 : Int := Int.ofNat (nat_lit 198)
def ii199 : Int := Int.ofNat (nat_lit 199)
def ii2 : Int := Int.ofNat (nat_lit 2)
def ii20 : Int := Int.ofNat (nat_lit 20)
def ii200 : Int := Int.ofNat (nat_lit 200)
def ii20000 : Int := Int.ofNat (nat_lit 20000)
def ii200000 : Int := Int.ofNat (nat_lit 200000)
def ii2007 : Int := Int.ofNat (nat_lit 2007)
def ii201 : Int := Int.ofNat (nat_lit 201)
def ii202 : Int := Int.ofNat (nat_lit 202)
def ii203 : Int := Int.ofNat (nat_lit 203)
def ii204 : Int := Int.ofNat (nat_lit 204)
def ii2048 : Int := Int.ofNat (nat_lit 2048)
def ii205 : Int := Int.ofNat (nat_lit 205)
def ii206 : Int := Int.ofNat (nat_lit 206)
def ii207 : Int := Int.ofNat (nat_lit 207)
def ii208 : Int := Int.ofNat (nat_lit 208)
def ii209 : Int := Int.ofNat (nat_lit 209)
def ii21 : Int := Int.ofNat (nat_lit 21)
def ii210 : Int := Int.ofNat (nat_lit 210)
def ii211 : Int := Int.ofNat (nat_lit 211)
def ii212 : Int := Int.ofNat (nat_lit 212)
def ii213 : Int := Int.ofNat (nat_lit 213)
def ii214 : Int := Int.ofNat (nat_lit 214)
def ii215 : Int := Int.ofNat (nat_lit 215)
def ii216 : Int := Int.ofNat (nat_lit 216)
def ii217 : Int := Int.ofNat (nat_lit 217)
def ii218 : Int := Int.ofNat (nat_lit 218)
def ii219 : Int := Int.ofNat (nat_lit 219)
def ii22 : Int := Int.ofNat (nat_lit 22)
def ii220 : Int := Int.ofNat (nat_lit 220)
def ii221 : Int := Int.ofNat (nat_lit 221)
def ii222 : Int := Int.ofNat (nat_lit 222)
def ii223 : Int := Int.ofNat (nat_lit 223)
def ii224 : Int := Int.ofNat (nat_lit 224)
def ii225 : Int := Int.ofNat (nat_lit 225)
def ii226 : Int := Int.ofNat (nat_lit 226)
def ii227 : Int := Int.ofNat (nat_lit 227)
def ii228 : Int := Int.ofNat (nat_lit 228)
def ii229 : Int := Int.ofNat (nat_lit 229)
def ii23 : Int := Int.ofNat (nat_lit 23)
def ii230 : Int := Int.ofNat (nat_lit 230)
def ii231 : Int := Int.ofNat (nat_lit 231)
def ii232 : Int := Int.ofNat (nat_lit 232)
def ii233 : Int := Int.ofNat (nat_lit 233)
def ii234 : Int := Int.ofNat (nat_lit 234)
def ii235 : Int := Int.ofNat (nat_lit 235)
def ii236 : Int := Int.ofNat (nat_lit 236)
def ii237 : Int := Int.ofNat (nat_lit 237)
def ii238 : Int := Int.ofNat (nat_lit 238)
def ii239 : Int := Int.ofNat (nat_lit 239)
def ii24 : Int := Int.ofNat (nat_lit 24)
def ii240 : Int := Int.ofNat (nat_lit 240)
def ii241 : Int := Int.ofNat (nat_lit 241)
def ii242 : Int := Int.ofNat (nat_lit 242)
def ii243 : Int := Int.ofNat (nat_lit 243)
def ii244 : Int := Int.ofNat (nat_lit 244)
def ii245 : Int := Int.ofNat (nat_lit 245)
def ii246 : Int := Int.ofNat (nat_lit 246)
def ii247 : Int := Int.ofNat (nat_lit 247)
def ii248 : Int := Int.ofNat (nat_lit 248)
def ii249 : Int := Int.ofNat (nat_lit 249)
def ii25 : Int := Int.ofNat (nat_lit 25)
def ii250 : Int := Int.ofNat (nat_lit 250)
def ii251 : Int := Int.ofNat (nat_lit 251)
def ii252 : Int := Int.ofNat (nat_lit 252)
def ii253 : Int := Int.ofNat (nat_lit 253)
def ii254 : Int := Int.ofNat (nat_lit 254)
def ii255 : Int := Int.ofNat (nat_lit 255)
def ii256 : Int := Int.ofNat (nat_lit 256)
def ii26 : Int := Int.ofNat (nat_lit 26)
def ii27 : Int := Int.ofNat (nat_lit 27)
def ii28 : Int := Int.ofNat (nat_lit 28)
def ii29 : Int := Int.ofNat (nat_lit 29)
def ii3 : Int := Int.ofNat (nat_lit 3)
def ii30 : Int := Int.ofNat (nat_lit 30)
def ii300 : Int := Int.ofNat (nat_lit 300)
def ii31 : Int := Int.ofNat (nat_lit 31)
def ii32 : Int := Int.ofNat (nat_lit 32)
def ii320 : Int := Int.ofNat (nat_lit 320)
def ii33 : Int := Int.ofNat (nat_lit 33)
def ii34 : Int := Int.ofNat (nat_lit 34)
def ii35 : Int := Int.ofNat (nat_lit 35)
def ii36 : Int := Int.ofNat (nat_lit 36)
def ii360 : Int := Int.ofNat (nat_lit 360)
def ii37 : Int := Int.ofNat (nat_lit 37)
def ii38 : Int := Int.ofNat (nat_lit 38)
def ii39 : Int := Int.ofNat (nat_lit 39)
def ii4 : Int := Int.ofNat (nat_lit 4)
def ii40 : Int := Int.ofNat (nat_lit 40)
def ii4095 : Int := Int.ofNat (nat_lit 4095)
def ii4096 : Int := Int.ofNat (nat_lit 4096)
def ii41 : Int := Int.ofNat (nat_lit 41)
def ii42 : Int := Int.ofNat (nat_lit 42)
def ii4294967296 : Int := Int.ofNat (nat_lit 4294967296)
def ii43 : Int := Int.ofNat (nat_lit 43)
def ii44 : Int := Int.ofNat (nat_lit 44)
def ii45 : Int := Int.ofNat (nat_lit 45)
def ii46 : Int := Int.ofNat (nat_lit 46)
def ii47 : Int := Int.ofNat (nat_lit 47)
def ii48 : Int := Int.ofNat (nat_lit 48)
def ii49 : Int := Int.ofNat (nat_lit 49)
def ii5 : Int := Int.ofNat (nat_lit 5)
def ii50 : Int := Int.ofNat (nat_lit 50)
def ii50000 : Int := Int.ofNat (nat_lit 50000)
def ii51 : Int := Int.ofNat (nat_lit 51)
def ii512 : Int := Int.ofNat (nat_lit 512)
def ii52 : Int := Int.ofNat (nat_lit 52)
def ii53 : Int := Int.ofNat (nat_lit 53)
def ii54 : Int := Int.ofNat (nat_lit 54)
def ii54840 : Int := Int.ofNat (nat_lit 54840)
def ii55 : Int := Int.ofNat (nat_lit 55)
def ii56 : Int := Int.ofNat (nat_lit 56)
def ii57 : Int := Int.ofNat (nat_lit 57)
def ii58 : Int := Int.ofNat (nat_lit 58)
def ii59 : Int := Int.ofNat (nat_lit 59)
def ii6 : Int := Int.ofNat (nat_lit 6)
def ii60 : Int := Int.ofNat (nat_lit 60)
def ii61 : Int := Int.ofNat (nat_lit 61)
def ii62 : Int := Int.ofNat (nat_lit 62)
def ii63 : Int := Int.ofNat (nat_lit 63)
def ii64 : Int := Int.ofNat (nat_lit 64)
def ii65 : Int := Int.ofNat (nat_lit 65)
def ii65535 : Int := Int.ofNat (nat_lit 65535)
def ii65536 : Int := Int.ofNat (nat_lit 65536)
def ii66 : Int := Int.ofNat (nat_lit 66)
def ii67 : Int := Int.ofNat (nat_lit 67)
def ii68 : Int := Int.ofNat (nat_lit 68)
def ii69 : Int := Int.ofNat (nat_lit 69)
def ii7 : Int := Int.ofNat (nat_lit 7)
def ii70 : Int := Int.ofNat (nat_lit 70)
def ii71 : Int := Int.ofNat (nat_lit 71)
def ii72 : Int := Int.ofNat (nat_lit 72)
def ii73 : Int := Int.ofNat (nat_lit 73)
def ii73244475 : Int := Int.ofNat (nat_lit 73244475)
def ii74 : Int := Int.ofNat (nat_lit 74)
def ii75 : Int := Int.ofNat (nat_lit 75)
def ii76 : Int := Int.ofNat (nat_lit 76)
def ii77 : Int := Int.ofNat (nat_lit 77)
def ii78 : Int := Int.ofNat (nat_lit 78)
def ii79 : Int := Int.ofNat (nat_lit 79)
def ii8 : Int := Int.ofNat (nat_lit 8)
def ii80 : Int := Int.ofNat (nat_lit 80)
def ii81 : Int := Int.ofNat (nat_lit 81)
def ii82 : Int := Int.ofNat (nat_lit 82)
def ii83 : Int := Int.ofNat (nat_lit 83)
def ii84 : Int := Int.ofNat (nat_lit 84)
def ii85 : Int := Int.ofNat (nat_lit 85)
def ii86 : Int := Int.ofNat (nat_lit 86)
def ii87 : Int := Int.ofNat (nat_lit 87)
def ii88 : Int := Int.ofNat (nat_lit 88)
def ii89 : Int := Int.ofNat (nat_lit 89)
def ii9 : Int := Int.ofNat (nat_lit 9)
def ii90 : Int := Int.ofNat (nat_lit 90)
def ii91 : Int := Int.ofNat (nat_lit 91)
def ii92 : Int := Int.ofNat (nat_lit 92)
def ii93 : Int := Int.ofNat (nat_lit 93)
def ii94 : Int := Int.ofNat (nat_lit 94)
def ii95 : Int := Int.ofNat (nat_lit 95)
def ii96 : Int := Int.ofNat (nat_lit 96)
def ii97 : Int := Int.ofNat (nat_lit 97)
def ii98 : Int := Int.ofNat (nat_lit 98)
def ii99 : Int := Int.ofNat (nat_lit 99)
def im1 : Int := Int.negSucc (nat_lit 0)
def im63 : Int := Int.negSucc (nat_lit 62)
def nn0 : Nat := nat_lit 0
def nn1 : Nat := nat_lit 1
def nn10 : Nat := nat_lit 10
def nn100 : Nat := nat_lit 100
def nn101 : Nat := nat_lit 101
def nn102 : Nat := nat_lit 102
def nn11 : Nat := nat_lit 11
def nn110 : Nat := nat_lit 110
def nn119 : Nat := nat_lit 119
def nn12 : Nat := nat_lit 12
def nn123 : Nat := nat_lit 123
def nn124 : Nat := nat_lit 124
def nn125 : Nat := nat_lit 125
def nn126 : Nat := nat_lit 126
def nn127 : Nat := nat_lit 127
def nn128 : Nat := nat_lit 128
def nn129 : Nat := nat_lit 129
def nn13 : Nat := nat_lit 13
def nn130 : Nat := nat_lit 130
def nn131 : Nat := nat_lit 131
def nn132 : Nat := nat_lit 132
def nn133 : Nat := nat_lit 133
def nn134 : Nat := nat_lit 134
def nn135 : Nat := nat_lit 135
def nn136 : Nat := nat_lit 136
def nn137 : Nat := nat_lit 137
def nn138 : Nat := nat_lit 138
def nn139 : Nat := nat_lit 139
def nn14 : Nat := nat_lit 14
def nn140 : Nat := nat_lit 140
def nn141 : Nat := nat_lit 141
def nn143 : Nat := nat_lit 143
def nn144 : Nat := nat_lit 144
def nn146 : Nat := nat_lit 146
def nn147 : Nat := nat_lit 147
def nn148 : Nat := nat_lit 148
def nn149 : Nat := nat_lit 149
def nn15 : Nat := nat_lit 15
def nn150 : Nat := nat_lit 150
def nn151 : Nat := nat_lit 151
def nn152 : Nat := nat_lit 152
def nn153 : Nat := nat_lit 153
def nn154 : Nat := nat_lit 154
def nn155 : Nat := nat_lit 155
def nn157 : Nat := nat_lit 157
def nn158 : Nat := nat_lit 158
def nn16 : Nat := nat_lit 16
def nn160 : Nat := nat_lit 160
def nn162 : Nat := nat_lit 162
def nn163 : Nat := nat_lit 163
def nn164 : Nat := nat_lit 164
def nn166 : Nat := nat_lit 166
def nn17 : Nat := nat_lit 17
def nn173 : Nat := nat_lit 173
def nn174 : Nat := nat_lit 174
def nn175 : Nat := nat_lit 175
def nn176 : Nat := nat_lit 176
def nn178 : Nat := nat_lit 178
def nn18 : Nat := nat_lit 18
def nn188 : Nat := nat_lit 188
def nn19 : Nat := nat_lit 19
def nn192 : Nat := nat_lit 192
def nn193 : Nat := nat_lit 193
def nn194 : Nat := nat_lit 194
def nn195 : Nat := nat_lit 195
def nn196 : Nat := nat_lit 196
def nn197 : Nat := nat_lit 197
def nn198 : Nat := nat_lit 198
def nn199 : Nat := nat_lit 199
def nn2 : Nat := nat_lit 2
def nn20 : Nat := nat_lit 20
def nn200 : Nat := nat_lit 200
def nn201 : Nat := nat_lit 201
def nn202 : Nat := nat_lit 202
def nn203 : Nat := nat_lit 203
def nn204 : Nat := nat_lit 204
def nn206 : Nat := nat_lit 206
def nn207 : Nat := nat_lit 207
def nn208 : Nat := nat_lit 208
def nn209 : Nat := nat_lit 209
def nn21 : Nat := nat_lit 21
def nn210 : Nat := nat_lit 210
def nn211 : Nat := nat_lit 211
def nn212 : Nat := nat_lit 212
def nn214 : Nat := nat_lit 214
def nn215 : Nat := nat_lit 215
def nn216 : Nat := nat_lit 216
def nn217 : Nat := nat_lit 217
def nn218 : Nat := nat_lit 218
def nn219 : Nat := nat_lit 219
def nn22 : Nat := nat_lit 22
def nn220 : Nat := nat_lit 220
def nn222 : Nat := nat_lit 222
def nn223 : Nat := nat_lit 223
def nn224 : Nat := nat_lit 224
def nn225 : Nat := nat_lit 225
def nn226 : Nat := nat_lit 226
def nn227 : Nat := nat_lit 227
def nn228 : Nat := nat_lit 228
def nn229 : Nat := nat_lit 229
def nn23 : Nat := nat_lit 23
def nn230 : Nat := nat_lit 230
def nn231 : Nat := nat_lit 231
def nn232 : Nat := nat_lit 232
def nn233 : Nat := nat_lit 233
def nn234 : Nat := nat_lit 234
def nn235 : Nat := nat_lit 235
def nn236 : Nat := nat_lit 236
def nn237 : Nat := nat_lit 237
def nn238 : Nat := nat_lit 238
def nn239 : Nat := nat_lit 239
def nn24 : Nat := nat_lit 24
def nn241 : Nat := nat_lit 241
def nn243 : Nat := nat_lit 243
def nn244 : Nat := nat_lit 244
def nn245 : Nat := nat_lit 245
def nn247 : Nat := nat_lit 247
def nn248 : Nat := nat_lit 248
def nn249 : Nat := nat_lit 249
def nn25 : Nat := nat_lit 25
def nn250 : Nat := nat_lit 250
def nn251 : Nat := nat_lit 251
def nn252 : Nat := nat_lit 252
def nn253 : Nat := nat_lit 253
def nn254 : Nat := nat_lit 254
def nn255 : Nat := nat_lit 255
def nn256 : Nat := nat_lit 256
def nn258 : Nat := nat_lit 258
def nn259 : Nat := nat_lit 259
def nn26 : Nat := nat_lit 26
def nn260 : Nat := nat_lit 260
def nn263 : Nat := nat_lit 263
def nn264 : Nat := nat_lit 264
def nn265 : Nat := nat_lit 265
def nn266 : Nat := nat_lit 266
def nn268 : Nat := nat_lit 268
def nn27 : Nat := nat_lit 27
def nn275 : Nat := nat_lit 275
def nn276 : Nat := nat_lit 276
def nn278 : Nat := nat_lit 278
def nn28 : Nat := nat_lit 28
def nn280 : Nat := nat_lit 280
def nn282 : Nat := nat_lit 282
def nn283 : Nat := nat_lit 283
def nn284 : Nat := nat_lit 284
def nn285 : Nat := nat_lit 285
def nn286 : Nat := nat_lit 286
def nn287 : Nat := nat_lit 287
def nn289 : Nat := nat_lit 289
def nn29 : Nat := nat_lit 29
def nn290 : Nat := nat_lit 290
def nn291 : Nat := nat_lit 291
def nn292 : Nat := nat_lit 292
def nn293 : Nat := nat_lit 293
def nn294 : Nat := nat_lit 294
def nn295 : Nat := nat_lit 295
def nn296 : Nat := nat_lit 296
def nn297 : Nat := nat_lit 297
def nn298 : Nat := nat_lit 298
def nn299 : Nat := nat_lit 299
def nn3 : Nat := nat_lit 3
def nn30 : Nat := nat_lit 30
def nn300 : Nat := nat_lit 300
def nn301 : Nat := nat_lit 301
def nn302 : Nat := nat_lit 302
def nn303 : Nat := nat_lit 303
def nn304 : Nat := nat_lit 304
def nn305 : Nat := nat_lit 305
def nn307 : Nat := nat_lit 307
def nn308 : Nat := nat_lit 308
def nn309 : Nat := nat_lit 309
def nn31 : Nat := nat_lit 31
def nn310 : Nat := nat_lit 310
def nn311 : Nat := nat_lit 311
def nn312 : Nat := nat_lit 312
def nn313 : Nat := nat_lit 313
def nn314 : Nat := nat_lit 314
def nn316 : Nat := nat_lit 316
def nn317 : Nat := nat_lit 317
def nn32 : Nat := nat_lit 32
def nn324 : Nat := nat_lit 324
def nn325 : Nat := nat_lit 325
def nn326 : Nat := nat_lit 326
def nn327 : Nat := nat_lit 327
def nn328 : Nat := nat_lit 328
def nn329 : Nat := nat_lit 329
def nn33 : Nat := nat_lit 33
def nn330 : Nat := nat_lit 330
def nn331 : Nat := nat_lit 331
def nn332 : Nat := nat_lit 332
def nn333 : Nat := nat_lit 333
def nn334 : Nat := nat_lit 334
def nn335 : Nat := nat_lit 335
def nn336 : Nat := nat_lit 336
def nn337 : Nat := nat_lit 337
def nn339 : Nat := nat_lit 339
def nn340 : Nat := nat_lit 340
def nn341 : Nat := nat_lit 341
def nn342 : Nat := nat_lit 342
def nn343 : Nat := nat_lit 343
def nn345 : Nat := nat_lit 345
def nn346 : Nat := nat_lit 346
def nn347 : Nat := nat_lit 347
def nn348 : Nat := nat_lit 348
def nn349 : Nat := nat_lit 349
def nn350 : Nat := nat_lit 350
def nn351 : Nat := nat_lit 351
def nn354 : Nat := nat_lit 354
def nn363 : Nat := nat_lit 363
def nn364 : Nat := nat_lit 364
def nn365 : Nat := nat_lit 365
def nn366 : Nat := nat_lit 366
def nn372 : Nat := nat_lit 372
def nn374 : Nat := nat_lit 374
def nn375 : Nat := nat_lit 375
def nn376 : Nat := nat_lit 376
def nn38 : Nat := nat_lit 38
def nn39 : Nat := nat_lit 39
def nn4 : Nat := nat_lit 4
def nn40 : Nat := nat_lit 40
def nn406 : Nat := nat_lit 406
def nn407 : Nat := nat_lit 407
def nn41 : Nat := nat_lit 41
def nn42 : Nat := nat_lit 42
def nn43 : Nat := nat_lit 43
def nn44 : Nat := nat_lit 44
def nn45 : Nat := nat_lit 45
def nn46 : Nat := nat_lit 46
def nn47 : Nat := nat_lit 47
def nn48 : Nat := nat_lit 48
def nn49 : Nat := nat_lit 49
def nn5 : Nat := nat_lit 5
def nn50 : Nat := nat_lit 50
def nn51 : Nat := nat_lit 51
def nn53 : Nat := nat_lit 53
def nn56 : Nat := nat_lit 56
def nn57 : Nat := nat_lit 57
def nn58 : Nat := nat_lit 58
def nn59 : Nat := nat_lit 59
def nn6 : Nat := nat_lit 6
def nn62 : Nat := nat_lit 62
def nn64 : Nat := nat_lit 64
def nn65 : Nat := nat_lit 65
def nn66 : Nat := nat_lit 66
def nn7 : Nat := nat_lit 7
def nn70 : Nat := nat_lit 70
def nn71 : Nat := nat_lit 71
def nn72 : Nat := nat_lit 72
def nn73 : Nat := nat_lit 73
def nn74 : Nat := nat_lit 74
def nn75 : Nat := nat_lit 75
def nn76 : Nat := nat_lit 76
def nn77 : Nat := nat_lit 77
def nn78 : Nat := nat_lit 78
def nn79 : Nat := nat_lit 79
def nn8 : Nat := nat_lit 8
def nn80 : Nat := nat_lit 80
def nn81 : Nat := nat_lit 81
def nn82 : Nat := nat_lit 82
def nn83 : Nat := nat_lit 83
def nn84 : Nat := nat_lit 84
def nn85 : Nat := nat_lit 85
def nn86 : Nat := nat_lit 86
def nn88 : Nat := nat_lit 88
def nn9 : Nat := nat_lit 9
def nn90 : Nat := nat_lit 90
def nn9223372036854775807 : Nat := nat_lit 9223372036854775807
def nn94 : Nat := nat_lit 94
def nn95 : Nat := nat_lit 95
def nn98 : Nat := nat_lit 98
def nn99 : Nat := nat_lit 99
def ss0 : List Int := [ii111, ii102, ii102, ii101, ii114]
def ss1 : List Int := [ii99, ii111, ii117, ii110, ii116, ii115]
def ss2 : List Int := [ii116, ii105, ii109, ii101]
def ss3 : List Int := [ii98, ii101, ii97, ii99, ii111, ii110]
def ss4 : List Int := [ii108, ii101, ii97, ii118, ii101]
def ss5 : List Int := [ii112, ii111, ii108, ii108]
def ss6 : List Int := [ii117, ii112]
def ss7 : List Int := [ii106, ii111, ii105, ii110]
def ss8 : List Int := [ii100, ii111, ii122, ii101]
def ss9 : List Int := [ii116, ii114, ii105, ii103, ii103, ii101, ii114]
def ss10 : List Int := [ii114, ii97, ii116, ii101]
def ss11 : List Int := [ii115, ii101, ii110, ii100]
def ss12 : List Int := [ii48, ii49, ii50, ii51, ii52, ii53, ii54, ii55, ii56, ii57]
def ss13 : List Int := [ii0, ii128, ii64, ii192, ii32, ii160, ii96, ii224, ii16, ii144, ii80, ii208, ii48, ii176, ii112, ii240, ii8, ii136, ii72, ii200, ii40, ii168, ii104, ii232, ii24, ii152, ii88, ii216, ii56, ii184, ii120, ii248, ii4, ii132, ii68, ii196, ii36, ii164, ii100, ii228, ii20, ii148, ii84, ii212, ii52, ii180, ii116, ii244, ii12, ii140, ii76, ii204, ii44, ii172, ii108, ii236, ii28, ii156, ii92, ii220, ii60, ii188, ii124, ii252, ii2, ii130, ii66, ii194, ii34, ii162, ii98, ii226, ii18, ii146, ii82, ii210, ii50, ii178, ii114, ii242, ii10, ii138, ii74, ii202, ii42, ii170, ii106, ii234, ii26, ii154, ii90, ii218, ii58, ii186, ii122, ii250, ii6, ii134, ii70, ii198, ii38, ii166, ii102, ii230, ii22, ii150, ii86, ii214, ii54, ii182, ii118, ii246, ii14, ii142, ii78, ii206, ii46, ii174, ii110, ii238, ii30, ii158, ii94, ii222, ii62, ii190, ii126, ii254, ii1, ii129, ii65, ii193, ii33, ii161, ii97, ii225, ii17, ii145, ii81, ii209, ii49, ii177, ii113, ii241, ii9, ii137, ii73, ii201, ii41, ii169, ii105, ii233, ii25, ii153, ii89, ii217, ii57, ii185, ii121, ii249, ii5, ii133, ii69, ii197, ii37, ii165, ii101, ii229, ii21, ii149, ii85, ii213, ii53, ii181, ii117, ii245, ii13, ii141, ii77, ii205, ii45, ii173, ii109, ii237, ii29, ii157, ii93, ii221, ii61, ii189, ii125, ii253, ii3, ii131, ii67, ii195, ii35, ii163, ii99, ii227, ii19, ii147, ii83, ii211, ii51, ii179, ii115, ii243, ii11, ii139, ii75, ii203, ii43, ii171, ii107, ii235, ii27, ii155, ii91, ii219, ii59, ii187, ii123, ii251, ii7, ii135, ii71, ii199, ii39, ii167, ii103, ii231, ii23, ii151, ii87, ii215, ii55, ii183, ii119, ii247, ii15, ii143, ii79, ii207, ii47, ii175, ii111, ii239, ii31, ii159, ii95, ii223, ii63, ii191, ii127, ii255]
def ss14 : List Int := [ii0, ii1, ii2, ii2, ii3, ii3, ii3, ii3, ii4, ii4, ii4, ii4, ii4, ii4, ii4, ii4, ii5, ii5, ii5, ii5, ii5, ii5, ii5, ii5, ii5, ii5, ii5, ii5, ii5, ii5, ii5, ii5, ii6, ii6, ii6, ii6, ii6, ii6, ii6, ii6, ii6, ii6, ii6, ii6, ii6, ii6, ii6, ii6, ii6, ii6, ii6, ii6, ii6, ii6, ii6, ii6, ii6, ii6, ii6, ii6, ii6, ii6, ii6, ii6, ii7, ii7, ii7, ii7, ii7, ii7, ii7, ii7, ii7, ii7, ii7, ii7, ii7, ii7, ii7, ii7, ii7, ii7, ii7, ii7, ii7, ii7, ii7, ii7, ii7, ii7, ii7, ii7, ii7, ii7, ii7, ii7, ii7, ii7, ii7, ii7, ii7, ii7, ii7, ii7, ii7, ii7, ii7, ii7, ii7, ii7, ii7, ii7, ii7, ii7, ii7, ii7, ii7, ii7, ii7, ii7, ii7, ii7, ii7, ii7, ii7, ii7, ii7, ii7, ii8, ii8, ii8, ii8, ii8, ii8, ii8, ii8, ii8, ii8, ii8, ii8, ii8, ii8, ii8, ii8, ii8, ii8, ii8, ii8, ii8, ii8, ii8, ii8, ii8, ii8, ii8, ii8, ii8, ii8, ii8, ii8, ii8, ii8, ii8, ii8, ii8, ii8, ii8, ii8, ii8, ii8, ii8, ii8, ii8, ii8, ii8, ii8, ii8, ii8, ii8, ii8, ii8, ii8, ii8, ii8, ii8, ii8, ii8, ii8, ii8, ii8, ii8, ii8, ii8, ii8, ii8, ii8, ii8, ii8, ii8, ii8, ii8, ii8, ii8, ii8, ii8, ii8, ii8, ii8, ii8, ii8, ii8, ii8, ii8, ii8, ii8, ii8, ii8, ii8, ii8, ii8, ii8, ii8, ii8, ii8, ii8, ii8, ii8, ii8, ii8, ii8, ii8, ii8, ii8, ii8, ii8, ii8, ii8, ii8, ii8, ii8, ii8, ii8, ii8, ii8, ii8, ii8, ii8, ii8, ii8, ii8, ii8, ii8, ii8, ii8, ii8, ii8]
def ss15 : List Int := [ii48, ii49, ii50, ii51, ii52, ii53, ii54, ii55, ii56, ii57, ii97, ii98, ii99, ii100, ii101, ii102, ii103, ii104, ii105, ii106, ii107, ii108, ii109, ii110, ii111, ii112, ii113, ii114, ii115, ii116, ii117, ii118, ii119, ii120, ii121, ii122]
def ss16 : List Int := [ii48, ii48, ii48, ii49, ii48, ii50, ii48, ii51, ii48, ii52, ii48, ii53, ii48, ii54, ii48, ii55, ii48, ii56, ii48, ii57, ii49, ii48, ii49, ii49, ii49, ii50, ii49, ii51, ii49, ii52, ii49, ii53, ii49, ii54, ii49, ii55, ii49, ii56, ii49, ii57, ii50, ii48, ii50, ii49, ii50, ii50, ii50, ii51, ii50, ii52, ii50, ii53, ii50, ii54, ii50, ii55, ii50, ii56, ii50, ii57, ii51, ii48, ii51, ii49, ii51, ii50, ii51, ii51, ii51, ii52, ii51, ii53, ii51, ii54, ii51, ii55, ii51, ii56, ii51, ii57, ii52, ii48, ii52, ii49, ii52, ii50, ii52, ii51, ii52, ii52, ii52, ii53, ii52, ii54, ii52, ii55, ii52, ii56, ii52, ii57, ii53, ii48, ii53, ii49, ii53, ii50, ii53, ii51, ii53, ii52, ii53, ii53, ii53, ii54, ii53, ii55, ii53, ii56, ii53, ii57, ii54, ii48, ii54, ii49, ii54, ii50, ii54, ii51, ii54, ii52, ii54, ii53, ii54, ii54, ii54, ii55, ii54, ii56, ii54, ii57, ii55, ii48, ii55, ii49, ii55, ii50, ii55, ii51, ii55, ii52, ii55, ii53, ii55, ii54, ii55, ii55, ii55, ii56, ii55, ii57, ii56, ii48, ii56, ii49, ii56, ii50, ii56, ii51, ii56, ii52, ii56, ii53, ii56, ii54, ii56, ii55, ii56, ii56, ii56, ii57, ii57, ii48, ii57, ii49, ii57, ii50, ii57, ii51, ii57, ii52, ii57, ii53, ii57, ii54, ii57, ii55, ii57, ii56, ii57, ii57]
def ss17 : List Int := [ii110, ii111, ii110, ii101]
def ss18 : List Int := [ii100, ii97, ii116, ii97]
def ss19 : List Int := [ii98, ii97, ii114]
def ss20 : List Int := [ii97, ii100, ii100]
def ss21 : List Int := [ii32]
def ss22 : List Int := [ii10]
def ss23 : List Int := [ii106, ii111, ii105, ii110, ii32, ii48, ii32, ii49]
def ss24 : List Int := [ii111, ii102, ii102, ii101, ii114, ii32, ii48, ii32, ii48, ii32, ii49, ii32, ii104, ii101, ii108, ii108, ii111]
def ss25 : List Int := [ii115, ii101, ii110, ii100, ii32, ii48, ii32, ii48]
def ss26 : List Int := [ii48, ii32, ii104, ii101, ii108, ii108, ii111]
def ss27 : List Int := [ii117, ii112, ii32, ii48]
def yy0 : AV := (AV.i .i64 ii0)
def yy1 : AV := (AV.i .u32 ii0)
def yy10 : AV := (AV.i .i64 ii160)
def yy11 : AV := (AV.i .i64 ii10)
def yy12 : AV := (AV.i .i64 ii50)
def yy13 : AV := (AV.i .i64 ii100)
def yy14 : AV := (AV.i .u8 ii208)
def yy15 : AV := (AV.i .u8 ii3)
def yy16 : AV := (AV.i .u8 ii1)
def yy17 : AV := AV.nf
def yy18 : AV := (AV.i .i64 ii15)
def yy19 : AV := (AV.i .i64 ii7)
def yy2 : AV := (AV.b false)
def yy20 : AV := (AV.i .i64 ii3)
def yy21 : AV := (AV.i .i64 ii2)
def yy22 : AV := (AV.i .u8 ii78)
def yy23 : AV := (AV.i .i64 ii24)
def yy24 : AV := (AV.i .i64 ii36)
def yy25 : AV := (AV.i .i64 ii144)
def yy26 : AV := (AV.i .i64 ii48)
def yy27 : AV := (AV.i .i64 ii192)
def yy28 : AV := (AV.i .i64 ii72)
def yy29 : AV := (AV.i .i64 ii216)
def yy3 : AV := (AV.s AS.nil)
def yy30 : AV := (AV.i .i64 ii96)
def yy31 : AV := (AV.i .i64 ii136)
def yy32 : AV := (AV.i .u8 ii136)
def yy33 : AV := (AV.i .u64 ii0)
def yy34 : AV := (AV.g ss17)
def yy35 : AV := (AV.g List.nil)
def yy36 : AV := (AV.g ss18)
def yy37 : AV := (AV.g ss19)
def yy38 : AV := (AV.g ss20)
def yy39 : AV := (AV.i .u8 ii5)
def yy4 : AV := (AV.p AP.nil)
def yy40 : AV := (AV.g ss23)
def yy41 : AV := (AV.g ss24)
def yy42 : AV := (AV.g ss25)
def yy43 : AV := (AV.g ss26)
def yy5 : AV := (AV.i .i64 ii1)
def yy6 : AV := (AV.i .u8 ii0)
def yy7 : AV := (AV.i .i64 ii20)
def yy8 : AV := (AV.i .i64 ii40)
def yy9 : AV := (AV.i .i64 ii80)
def g178x1 := alB H1 (@T4.n AV (AV.i .u32 n1) (@T4.n AV (AV.i .i64 n2) (@T4.n AV yy0 (@T4.n AV yy0 (@T4.n AV yy0 te te te te) te te te) (@T4.n AV yy0 (@T4.n AV yy0 te te te te) te te te) (@T4.n AV yy0 (@T4.n AV yy0 te te te te) te te te) (@T4.n AV yy0 (@T4.n AV yy0 te te te te) te te te)) (@T4.n AV yy1 (@T4.n AV yy1 (@T4.n AV yy1 te te te te) te te te) (@T4.n AV yy1 (@T4.n AV yy1 te te te te) te te te) (@T4.n AV yy1 (@T4.n AV yy1 te te te te) te te te) (@T4.n AV yy1 te te te te)) (@T4.n AV yy0 (@T4.n AV yy0 (@T4.n AV yy0 te te te te) te te te) (@T4.n AV yy0 (@T4.n AV yy0 te te te te) te te te) (@T4.n AV yy0 (@T4.n AV yy0 te te te te) te te te) (@T4.n AV yy0 te te te te)) (@T4.n AV yy1 (@T4.n AV yy1 (@T4.n AV yy1 te te te te) te te te) (@T4.n AV yy1 (@T4.n AV yy1 te te te te) te te te) (@T4.n AV yy1 (@T4.n AV yy1 te te te te) te te te) (@T4.n AV yy1 te te te te))) (@T4.n AV (AV.i .i64 n3) (@T4.n AV yy0 (@T4.n AV yy0 (@T4.n AV yy0 te te te te) te te te) (@T4.n AV yy0 (@T4.n AV yy0 te te te te) te te te) (@T4.n AV yy0 (@T4.n AV yy0 te te te te) te te te) (@T4.n AV yy0 (@T4.n AV yy0 te te te te) te te te)) (@T4.n AV yy2 (@T4.n AV yy2 (@T4.n AV yy2 te te te te) te te te) (@T4.n AV yy2 (@T4.n AV yy2 te te te te) te te te) (@T4.n AV yy2 (@T4.n AV yy2 te te te te) te te te) (@T4.n AV yy2 te te te te)) (@T4.n AV yy0 (@T4.n AV yy0 (@T4.n AV yy0 te te te te) te te te) (@T4.n AV yy0 (@T4.n AV yy0 te te te te) te te te) (@T4.n AV yy0 (@T4.n AV yy0 te te te te) te te te) (@T4.n AV yy0 te te te te)) (@T4.n AV yy2 (@T4.n AV yy2 (@T4.n AV yy2 te te te te) te te te) (@T4.n AV yy2 (@T4.n AV yy2 te te te te) te te te) (@T4.n AV yy2 (@T4.n AV yy2 te te te te) te te te) (@T4.n AV yy2 te te te te))) (@T4.n AV yy3 (@T4.n AV yy0 (@T4.n AV yy0 (@T4.n AV yy0 te te te te) te te te) (@T4.n AV yy0 (@T4.n AV yy0 te te te te) te te te) (@T4.n AV yy0 (@T4.n AV yy0 te te te te) te te te) (@T4.n AV yy0 te te te te)) (@T4.n AV yy3 (@T4.n AV yy3 (@T4.n AV yy3 te te te te) te te te) (@T4.n AV yy3 (@T4.n AV yy3 te te te te) te te te) (@T4.n AV yy3 (@T4.n AV yy3 te te te te) te te te) (@T4.n AV yy3 te te te te)) (@T4.n AV yy0 (@T4.n AV yy0 (@T4.n AV yy0 te te te te) te te te) (@T4.n AV yy0 (@T4.n AV yy0 te te te te) te te te) (@T4.n AV yy0 (@T4.n AV yy0 te te te te) te te te) (@T4.n AV yy0 te te te te)) (@T4.n AV yy3 (@T4.n AV yy3 (@T4.n AV yy3 te te te te) te te te) (@T4.n AV yy3 (@T4.n AV yy3 te te te te) te te te) (@T4.n AV yy3 (@T4.n AV yy3 te te te te) te te te) (@T4.n AV yy3 te te te te))) (@T4.n AV yy0 (@T4.n AV yy1 (@T4.n AV yy1 (@T4.n AV yy1 te te te te) te te te) (@T4.n AV yy1 (@T4.n AV yy1 te te te te) te te te) (@T4.n AV yy1 (@T4.n AV yy1 te te te te) te te te) (@T4.n AV yy1 te te te te)) (@T4.n AV yy0 (@T4.n AV yy0 (@T4.n AV yy0 te te te te) te te te) (@T4.n AV yy0 (@T4.n AV yy0 te te te te) te te te) (@T4.n AV yy0 (@T4.n AV yy0 te te te te) te te te) (@T4.n AV yy0 te te te te)) (@T4.n AV yy1 (@T4.n AV yy1 (@T4.n AV yy1 te te te te) te te te) (@T4.n AV yy1 (@T4.n AV yy1 te te te te) te te te) (@T4.n AV yy1 (@T4.n AV yy1 te te te te) te te te) (@T4.n AV yy1 te te te te)) (@T4.n AV yy0 (@T4.n AV yy0 (@T4.n AV yy0 te te te te) te te te) (@T4.n AV yy0 (@T4.n AV yy0 te te te te) te te te) (@T4.n AV yy0 (@T4.n AV yy3 te te te te) te te te) (@T4.n AV yy0 te te te te)))) nn135 nn0 fun b1 H2 => Kb1 (DV.v (AV.p (AP.at b1 nn0))) H2
/-- fq.New -/
def g178 : G DV := fun R1 H1 Kb1 => lc R1 fun d1 R2 => onV d1 fun v1 => isI .u32 v1 fun n1 => lc R2 fun d2 R3 => onV d2 fun v2 => isI .i64 v2 fun n2 => lc R3 fun d3 R4 => onV d3 fun v3 => isI .i64 v3 fun n3 => ln R4 <| g178x1 n1 n2 n3 H1 Kb1
def G178 : G DV := g178

def g99x1 := isI .i64 v1 fun n4 => onA p1 fun b1 m1 => rdK H1 b1 (Nat.add m1 nn2) fun v2 => isI .i64 v2 fun n5 => onA p1 fun b2 m2 => rng n1 nn16 <| c1 [(DV.v (AV.i .u32 n2)), (DV.v (AV.i .i64 n4)), (DV.v (AV.i .i64 n5))] H1 fun d1 H2 => onV d1 fun v3 => isP v3 fun p2 => rng n3 nn8 <| wrK H2 b2 (Nat.add (Nat.add (Nat.add m2 nn5) (Nat.mul (itn n1) nn8)) (itn n3)) (AV.p p2) fun H3 => wrp .i64 (iadd n3 ii1) fun n6 => Kb1 (DV.v (AV.i .i64 n6)) H3
def g99x2 := isP v1 fun p1 => lc R1 fun d1 R2 => onV d1 fun v2 => isI .i64 v2 fun n1 => ln R2 <| lpR (failF [(5 , .int .i64)]) (fun Kb2 => fun d2 H2 => onV d2 fun v3 => isI .i64 v3 fun n2 => frcB (ilt n2 ii8) fun t1 => br t1 (onA p1 fun b1 m1 => rdK H2 b1 m1 fun v4 => isI .u32 v4 fun n3 => onA p1 fun b2 m2 => rdK H2 b2 (Nat.add m2 nn1) fun v5 => g99x1 v5 n1 n3 n2 p1 H2 c1 Kb2) (Kb1 DV.n H2)) (nat_lit 100000) (DV.v (AV.i .i64 ii0)) H1
/-- (*pool.Pool).renew -/
def g99 : G DV := fun R1 H1 Kb1 => lc R1 fun d1 R2 => onV d1 fun v1 => g99x2 v1 R2 H1 c1 Kb1
def G99 : G DV := g99 G178

def g45x1 := alB H1 (@T4.n AV (AV.i .u32 n1) (@T4.n AV (AV.i .i64 n2) (@T4.n AV yy4 (@T4.n AV yy4 (@T4.n AV yy4 te te te te) te te te) (@T4.n AV yy4 (@T4.n AV yy4 te te te te) te te te) (@T4.n AV yy4 (@T4.n AV yy4 te te te te) te te te) (@T4.n AV yy4 te te te te)) (@T4.n AV yy4 (@T4.n AV yy4 (@T4.n AV yy4 te te te te) te te te) (@T4.n AV yy4 (@T4.n AV yy4 te te te te) te te te) (@T4.n AV yy4 (@T4.n AV yy4 te te te te) te te te) (@T4.n AV yy4 te te te te)) (@T4.n AV yy4 (@T4.n AV yy4 (@T4.n AV yy4 te te te te) te te te) (@T4.n AV yy4 (@T4.n AV yy4 te te te te) te te te) (@T4.n AV yy4 (@T4.n AV yy4 te te te te) te te te) (@T4.n AV yy4 te te te te)) (@T4.n AV yy4 (@T4.n AV yy4 (@T4.n AV yy4 te te te te) te te te) (@T4.n AV yy4 (@T4.n AV yy4 te te te te) te te te) (@T4.n AV yy4 (@T4.n AV yy4 te te te te) te te te) (@T4.n AV yy4 te te te te))) (@T4.n AV (AV.i .i64 n3) (@T4.n AV yy4 (@T4.n AV yy4 (@T4.n AV yy4 te te te te) te te te) (@T4.n AV yy4 (@T4.n AV yy4 te te te te) te te te) (@T4.n AV yy4 (@T4.n AV yy4 te te te te) te te te) (@T4.n AV yy4 te te te te)) (@T4.n AV yy4 (@T4.n AV yy4 (@T4.n AV yy4 te te te te) te te te) (@T4.n AV yy4 (@T4.n AV yy4 te te te te) te te te) (@T4.n AV yy4 (@T4.n AV yy4 te te te te) te te te) (@T4.n AV yy4 te te te te)) (@T4.n AV yy4 (@T4.n AV yy4 (@T4.n AV yy4 te te te te) te te te) (@T4.n AV yy4 (@T4.n AV yy4 te te te te) te te te) (@T4.n AV yy4 (@T4.n AV yy4 te te te te) te te te) (@T4.n AV yy4 te te te te)) (@T4.n AV yy4 (@T4.n AV yy4 (@T4.n AV yy4 te te te te) te te te) (@T4.n AV yy4 (@T4.n AV yy4 te te te te) te te te) (@T4.n AV yy4 (@T4.n AV yy4 te te te te) te te te) (@T4.n AV yy4 te te te te))) (@T4.n AV (AV.i .i64 n4) (@T4.n AV yy4 (@T4.n AV yy4 (@T4.n AV yy4 te te te te) te te te) (@T4.n AV yy4 (@T4.n AV yy4 te te te te) te te te) (@T4.n AV yy4 (@T4.n AV yy4 te te te te) te te te) (@T4.n AV yy4 te te te te)) (@T4.n AV yy4 (@T4.n AV yy4 (@T4.n AV yy4 te te te te) te te te) (@T4.n AV yy4 (@T4.n AV yy4 te te te te) te te te) (@T4.n AV yy4 (@T4.n AV yy4 te te te te) te te te) (@T4.n AV yy4 te te te te)) (@T4.n AV yy4 (@T4.n AV yy4 (@T4.n AV yy4 te te te te) te te te) (@T4.n AV yy4 (@T4.n AV yy4 te te te te) te te te) (@T4.n AV yy4 (@T4.n AV yy4 te te te te) te te te) (@T4.n AV yy4 te te te te)) (@T4.n AV yy4 (@T4.n AV yy4 (@T4.n AV yy4 te te te te) te te te) (@T4.n AV yy4 (@T4.n AV yy4 te te te te) te te te) (@T4.n AV yy4 (@T4.n AV yy4 te te te te) te te te) (@T4.n AV yy4 te te te te))) (@T4.n AV (AV.i .i64 n5) (@T4.n AV yy4 (@T4.n AV yy4 (@T4.n AV yy4 te te te te) te te te) (@T4.n AV yy4 (@T4.n AV yy4 te te te te) te te te) (@T4.n AV yy4 (@T4.n AV yy4 te te te te) te te te) (@T4.n AV yy4 te te te te)) (@T4.n AV yy4 (@T4.n AV yy4 (@T4.n AV yy4 te te te te) te te te) (@T4.n AV yy4 (@T4.n AV yy4 te te te te) te te te) (@T4.n AV yy4 (@T4.n AV yy4 te te te te) te te te) (@T4.n AV yy4 te te te te)) (@T4.n AV yy4 (@T4.n AV yy4 (@T4.n AV yy4 te te te te) te te te) (@T4.n AV yy4 (@T4.n AV yy4 te te te te) te te te) (@T4.n AV yy4 (@T4.n AV yy4 te te te te) te te te) (@T4.n AV yy4 te te te te)) (@T4.n AV yy4 (@T4.n AV yy4 (@T4.n AV yy4 te te te te) te te te) (@T4.n AV yy4 (@T4.n AV yy4 te te te te) te te te) (@T4.n AV yy4 (@T4.n AV yy4 te te te te) te te te) (@T4.n AV yy4 te te te te)))) nn133 nn0 fun b1 H2 => lpR (failF [(36 , .int .i64)]) (fun Kb2 => fun d1 H3 => onV d1 fun v1 => isI .i64 v1 fun n6 => frcB (ilt n6 ii16) fun t1 => br t1 (c1 [(DV.v (AV.p (AP.at b1 nn0))), (DV.v (AV.i .i64 n6))] H3 fun d2 H4 => wrp .i64 (iadd n6 ii1) fun n7 => Kb2 (DV.v (AV.i .i64 n7)) H4) (Kb1 (DV.c (DV.v (AV.p (AP.at b1 nn0))) (DV.c (DV.v AV.ni) DV.n)) H3)) (nat_lit 100000) (DV.v (AV.i .i64 ii0)) H2
def g45x2 := onV d1 fun v1 => isB v1 fun t1 => jn (fun d2 H2 => jn (fun d3 H3 => pickK t1 (DV.v (AV.b true)) d3 fun d4 => onV d4 fun v2 => isB v2 fun t2 => br t2 (Kb1 (DV.c (DV.v (AV.p AP.nil)) (DV.c (DV.v (AV.er (nat_lit 2))) DV.n)) H3) (g45x1 n1 n2 n3 n4 n5 H3 c1 Kb1)) fun Kb2 => br t1 (Kb2 DV.n H2) (onV d2 fun v2 => isI .i64 v2 fun n6 => frcB (ilt ii1048576 n6) fun t2 => Kb2 (DV.v (AV.b t2)) H2)) fun Kb2 => br t1 (Kb2 DV.n H1) (Kb2 (DV.v (AV.i .i64 n5)) H1)
def g45x3 := jn (fun d2 H2 => pickK t1 (DV.v (AV.b true)) d2 fun d3 => onV d3 fun v1 => isB v1 fun t2 => jn (fun d4 H3 => jn (fun d5 H4 => pickK t2 (DV.v (AV.b true)) d5 fun d6 => g45x2 d6 n1 n2 n3 n4 n5 H4 c1 Kb1) fun Kb2 => br t2 (Kb2 DV.n H3) (onV d4 fun v2 => isI .i64 v2 fun n6 => frcB (ilt n6 ii1) fun t3 => Kb2 (DV.v (AV.b t3)) H3)) fun Kb2 => br t2 (Kb2 DV.n H2) (Kb2 (DV.v (AV.i .i64 n5)) H2)) fun Kb2 => br t1 (Kb2 DV.n H1) (onV d1 fun v1 => isI .i64 v1 fun n6 => frcB (ilt ii512 n6) fun t2 => Kb2 (DV.v (AV.b t2)) H1)
def g45x4 := isI .u32 v1 fun n1 => lc R1 fun d1 R2 => onV d1 fun v2 => isI .i64 v2 fun n2 => lc R2 fun d2 R3 => onV d2 fun v3 => isI .i64 v3 fun n3 => lc R3 fun d3 R4 => onV d3 fun v4 => isI .i64 v4 fun n4 => lc R4 fun d4 R5 => onV d4 fun v5 => isI .i64 v5 fun n5 => ln R5 <| frcB (ilt n4 ii1) fun t1 => jn (fun d5 H2 => g45x3 d5 n1 n2 n3 n4 n5 t1 H2 c1 Kb1) fun Kb2 => br t1 (Kb2 DV.n H1) (Kb2 (DV.v (AV.i .i64 n4)) H1)
/-- pool.New -/
def g45 : G DV := fun R1 H1 Kb1 => lc R1 fun d1 R2 => onV d1 fun v1 => g45x4 v1 R2 H1 c1 Kb1
def G45 : G DV := g45 G99

def g100x1 := jn (fun d2 H2 => pickK t1 (DV.v (AV.b true)) d2 fun d3 => onV d3 fun v1 => isB v1 fun t2 => br t2 (Kb1 (DV.c (DV.v (AV.p AP.nil)) (DV.c (DV.v (AV.er (nat_lit 2))) DV.n)) H2) (alB H2 (@T4.n AV (AV.i .i64 n1) (@T4.n AV (AV.i .i64 n1) te te te te) (@T4.n AV (AV.i .i64 n2) te te te te) (@T4.n AV yy3 te te te te) te) nn4 nn0 fun b1 H3 => Kb1 (DV.c (DV.v (AV.p (AP.at b1 nn0))) (DV.c (DV.v AV.ni) DV.n)) H3)) fun Kb2 => br t1 (Kb2 DV.n H1) (onV d1 fun v1 => isI .i64 v1 fun n3 => frcB (ilt ii64 n3) fun t2 => Kb2 (DV.v (AV.b t2)) H1)
def g100x2 := onV d1 fun v1 => isB v1 fun t1 => jn (fun d2 H2 => jn (fun d3 H3 => pickK t1 (DV.v (AV.b true)) d3 fun d4 => onV d4 fun v2 => isB v2 fun t2 => jn (fun d5 H4 => g100x1 d5 n1 n2 t2 H4 Kb1) fun Kb2 => br t2 (Kb2 DV.n H3) (Kb2 (DV.v (AV.i .i64 n2)) H3)) fun Kb2 => br t1 (Kb2 DV.n H2) (onV d2 fun v2 => isI .i64 v2 fun n3 => frcB (ilt n3 ii1) fun t2 => Kb2 (DV.v (AV.b t2)) H2)) fun Kb2 => br t1 (Kb2 DV.n H1) (Kb2 (DV.v (AV.i .i64 n2)) H1)
def g100x3 := lc R1 fun d1 R2 => onV d1 fun v1 => isI .i64 v1 fun n1 => lc R2 fun d2 R3 => onV d2 fun v2 => isI .i64 v2 fun n2 => ln R3 <| frcB (ilt n1 ii0) fun t1 => jn (fun d3 H2 => jn (fun d4 H3 => pickK t1 (DV.v (AV.b true)) d4 fun d5 => g100x2 d5 n1 n2 H3 Kb1) fun Kb2 => br t1 (Kb2 DV.n H2) (onV d3 fun v3 => isI .i64 v3 fun n3 => frcB (ile ii4096 n3) fun t2 => Kb2 (DV.v (AV.b t2)) H2)) fun Kb2 => br t1 (Kb2 DV.n H1) (Kb2 (DV.v (AV.i .i64 n1)) H1)
/-- win.New -/
def g100 : G DV := fun R1 H1 Kb1 => g100x3 R1 H1 Kb1
def G100 : G DV := g100

def g46x1 := br t1 (Kb1 (DV.c (DV.v (AV.p AP.nil)) (DV.c (DV.v v1) DV.n)) H1) (alB H1 (@T4.n AV (AV.p p1) (@T4.n AV (AV.i .i64 n1) (@T4.n AV yy0 te te te te) te te te) (@T4.n AV (AV.i .i64 n2) (@T4.n AV yy3 te te te te) te te te) (@T4.n AV (AV.i .i64 n3) (@T4.n AV yy2 te te te te) te te te) (@T4.n AV yy5 (@T4.n AV yy0 te te te te) te te te)) nn9 nn0 fun b1 H2 => Kb1 (DV.c (DV.v (AV.p (AP.at b1 nn0))) (DV.c (DV.v AV.ni) DV.n)) H2)
def g46x2 := jn (fun d2 H2 => pickK t1 (DV.v (AV.b true)) d2 fun d3 => onV d3 fun v1 => isB v1 fun t2 => br t2 (Kb1 (DV.c (DV.v (AV.p AP.nil)) (DV.c (DV.v (AV.er (nat_lit 2))) DV.n)) H2) (c1 [(DV.v (AV.i .i64 ii0)), (DV.v (AV.i .i64 ii1))] H2 fun d4 H3 => onC d4 fun d5 d6 => onV d5 fun v2 => isP v2 fun p1 => onC d6 fun d7 d8 => onV d7 fun v3 => onN d8 <| ifA true true v3 AV.ni fun t3 => frcB (bnot t3) fun t4 => g46x1 v3 n1 n2 n3 t4 p1 H3 Kb1)) fun Kb2 => br t1 (Kb2 DV.n H1) (onV d1 fun v1 => isI .i64 v1 fun n4 => frcB (ilt ii1099511627776 n4) fun t2 => Kb2 (DV.v (AV.b t2)) H1)
def g46x3 := isB v1 fun t1 => jn (fun d1 H2 => jn (fun d2 H3 => pickK t1 (DV.v (AV.b true)) d2 fun d3 => onV d3 fun v2 => isB v2 fun t2 => jn (fun d4 H4 => g46x2 d4 n1 n2 n3 t2 H4 c1 Kb1) fun Kb2 => br t2 (Kb2 DV.n H3) (Kb2 (DV.v (AV.i .i64 n3)) H3)) fun Kb2 => br t1 (Kb2 DV.n H2) (onV d1 fun v2 => isI .i64 v2 fun n4 => frcB (ilt n4 ii1) fun t2 => Kb2 (DV.v (AV.b t2)) H2)) fun Kb2 => br t1 (Kb2 DV.n H1) (Kb2 (DV.v (AV.i .i64 n3)) H1)
def g46x4 := jn (fun d2 H2 => pickK t1 (DV.v (AV.b true)) d2 fun d3 => onV d3 fun v1 => isB v1 fun t2 => jn (fun d4 H3 => jn (fun d5 H4 => pickK t2 (DV.v (AV.b true)) d5 fun d6 => onV d6 fun v2 => g46x3 v2 n1 n2 n3 H4 c1 Kb1) fun Kb2 => br t2 (Kb2 DV.n H3) (onV d4 fun v2 => isI .i64 v2 fun n4 => frcB (ilt ii15 n4) fun t3 => Kb2 (DV.v (AV.b t3)) H3)) fun Kb2 => br t2 (Kb2 DV.n H2) (Kb2 (DV.v (AV.i .i64 n2)) H2)) fun Kb2 => br t1 (Kb2 DV.n H1) (onV d1 fun v1 => isI .i64 v1 fun n4 => frcB (ilt n4 ii0) fun t2 => Kb2 (DV.v (AV.b t2)) H1)
def g46x5 := frcB (ilt n1 ii1) fun t1 => jn (fun d1 H2 => jn (fun d2 H3 => pickK t1 (DV.v (AV.b true)) d2 fun d3 => onV d3 fun v1 => isB v1 fun t2 => jn (fun d4 H4 => g46x4 d4 n1 n2 n3 t2 H4 c1 Kb1) fun Kb2 => br t2 (Kb2 DV.n H3) (Kb2 (DV.v (AV.i .i64 n2)) H3)) fun Kb2 => br t1 (Kb2 DV.n H2) (onV d1 fun v1 => isI .i64 v1 fun n4 => frcB (ilt ii64 n4) fun t2 => Kb2 (DV.v (AV.b t2)) H2)) fun Kb2 => br t1 (Kb2 DV.n H1) (Kb2 (DV.v (AV.i .i64 n1)) H1)
/-- ba.New -/
def g46 : G DV := fun R1 H1 Kb1 => lc R1 fun d1 R2 => onV d1 fun v1 => isI .i64 v1 fun n1 => lc R2 fun d2 R3 => onV d2 fun v2 => isI .i64 v2 fun n2 => lc R3 fun d3 R4 => onV d3 fun v3 => isI .i64 v3 fun n3 => ln R4 <| g46x5 n1 n2 n3 H1 c1 Kb1
def G46 : G DV := g46 G100

/-- aql.fair -/
def g101 : G DV := fun R1 H1 Kb1 => lc R1 fun d1 R2 => onV d1 fun v1 => isI .i64 v1 fun n1 => ln R2 <| frcB (ile ii0 n1) fun t1 => jn (fun d2 H2 => jn (fun d3 H3 => pickK t1 d3 (DV.v (AV.b false)) fun d4 => onV d4 fun v2 => isB v2 fun t2 => Kb1 (DV.v (AV.b t2)) H3) fun Kb2 => br t1 (onV d2 fun v2 => isI .i64 v2 fun n2 => frcB (ile n2 ii1099511627776) fun t2 => Kb2 (DV.v (AV.b t2)) H2) (Kb2 DV.n H2)) fun Kb2 => br t1 (Kb2 (DV.v (AV.i .i64 n1)) H1) (Kb2 DV.n H1)
def G101 : G DV := g101

def g47x1 := alB H1 (@T4.n AV (AV.i .i64 n1) (@T4.n AV (AV.i .i64 n2) (@T4.n AV yy0 te te te te) (@T4.n AV yy0 te te te te) (@T4.n AV yy0 te te te te) (@T4.n AV yy0 te te te te)) (@T4.n AV yy0 (@T4.n AV yy0 te te te te) (@T4.n AV yy0 te te te te) (@T4.n AV yy0 te te te te) te) (@T4.n AV yy0 (@T4.n AV yy0 te te te te) (@T4.n AV yy0 te te te te) (@T4.n AV yy0 te te te te) te) (@T4.n AV yy0 (@T4.n AV yy0 te te te te) (@T4.n AV yy0 te te te te) (@T4.n AV yy0 te te te te) te)) nn18 nn0 fun b1 H2 => Kb1 (DV.c (DV.v (AV.p (AP.at b1 nn0))) (DV.c (DV.v AV.ni) DV.n)) H2
def g47x2 := jn (fun d2 H2 => jn (fun d3 H3 => pickK t1 (DV.v (AV.b true)) d3 fun d4 => onV d4 fun v1 => isB v1 fun t2 => br t2 (Kb1 (DV.c (DV.v (AV.p AP.nil)) (DV.c (DV.v (AV.er (nat_lit 2))) DV.n)) H3) (g47x1 n1 n2 H3 Kb1)) fun Kb2 => br t1 (Kb2 DV.n H2) (onV d2 fun v1 => isB v1 fun t2 => frcB (bnot t2) fun t3 => Kb2 (DV.v (AV.b t3)) H2)) fun Kb2 => br t1 (Kb2 DV.n H1) (c1 [d1] H1 fun d2 H2 => onV d2 fun v1 => isB v1 fun t2 => Kb2 (DV.v (AV.b t2)) H2)
/-- aql.New -/
def g47 : G DV := fun R1 H1 Kb1 => lc R1 fun d1 R2 => onV d1 fun v1 => isI .i64 v1 fun n1 => lc R2 fun d2 R3 => onV d2 fun v2 => isI .i64 v2 fun n2 => ln R3 <| c1 [(DV.v (AV.i .i64 n1))] H1 fun d3 H2 => onV d3 fun v3 => isB v3 fun t1 => frcB (bnot t1) fun t2 => jn (fun d4 H3 => g47x2 d4 n1 n2 t2 H3 c1 Kb1) fun Kb2 => br t2 (Kb2 DV.n H2) (Kb2 (DV.v (AV.i .i64 n2)) H2)
def G47 : G DV := g47 G101

/-- ap.New$1 -/
def g48 : G DV := fun R1 H1 Kb1 => lc R1 fun d1 R2 => onV d1 fun v1 => isI .i64 v1 fun n1 => ln R2 <| frcB (ilt n1 ii0) fun t1 => jn (fun d2 H2 => jn (fun d3 H3 => pickK t1 (DV.v (AV.b true)) d3 fun d4 => onV d4 fun v2 => isB v2 fun t2 => Kb1 (DV.v (AV.b t2)) H3) fun Kb2 => br t1 (Kb2 DV.n H2) (onV d2 fun v2 => isI .i64 v2 fun n2 => frcB (ilt ii54840 n2) fun t2 => Kb2 (DV.v (AV.b t2)) H2)) fun Kb2 => br t1 (Kb2 DV.n H1) (Kb2 (DV.v (AV.i .i64 n1)) H1)
def G48 : G DV := g48

def g102x1 := frcB (ilt n1 (Int.ofNat m1)) fun t1 => br t1 (ixA s1 n1 (fun x => x) fun b1 m2 => rdK H1 b1 m2 fun v1 => isI .i64 v1 fun n2 => onV d1 fun v2 => fnK v2 fun m3 L1 L2 => lookD [((nat_lit 48) , c1)] m3 (appA (mapP L1) (appA [(DV.v (AV.i .i64 n2))] (mapP L2))) H1 fun d2 H2 => onV d2 fun v3 => isB v3 fun t2 => br t2 (Kb1 (DV.v (AV.i .i64 n1)) H2) (wrp .i64 (iadd n1 ii1) fun n3 => Kb2 (DV.v (AV.i .i64 n3)) H2)) (Kb1 (DV.v (AV.i .i64 im1)) H1)
/-- slices.IndexFunc[[]int64,int64] -/
def g102 : G DV := fun R1 H1 Kb1 => lc R1 fun d1 R2 => onV d1 fun v1 => isS v1 fun s1 => lc R2 fun d2 R3 => ln R3 <| lenA s1 fun m1 => lpR (failF [(8 , .int .i64)]) (fun Kb2 => fun d3 H2 => onV d3 fun v2 => isI .i64 v2 fun n1 => g102x1 d2 n1 m1 s1 H2 c1 Kb1 Kb2) (nat_lit 100000) (DV.v (AV.i .i64 ii0)) H1
def G102 : G DV := g102 G48

/-- slices.ContainsFunc[[]int64,int64] -/
def g49 : G DV := fun R1 H1 Kb1 => lc R1 fun d1 R2 => onV d1 fun v1 => isS v1 fun s1 => lc R2 fun d2 R3 => ln R3 <| c1 [(DV.v (AV.s s1)), d2] H1 fun d3 H2 => onV d3 fun v2 => isI .i64 v2 fun n1 => frcB (ile ii0 n1) fun t1 => Kb1 (DV.v (AV.b t1)) H2
def G49 : G DV := g49 G102

def z0 : List AV := [(AV.i .u8 ii0), (AV.i .u8 ii0), (AV.i .u8 ii0), (AV.i .u8 ii0), (AV.i .u8 ii0), (AV.i .u8 ii0)]
def g50x1 := jn (fun d1 H2 => jn (fun d2 H3 => jn (fun d3 H4 => pickK t1 d3 (DV.v (AV.b false)) fun d4 => onV d4 fun v1 => isB v1 fun t2 => Kb1 (DV.v (AV.b t2)) H4) fun Kb2 => br t1 (onL d1 fun l1 => onL d2 fun l2 => intsK .u8 l1 fun x1 => intsK .u8 l2 fun x2 => must (Nat.beq (leni x1) nn6) <| must (Nat.beq (leni x2) nn6) <| frcB (bnot (leqI x1 x2)) fun t2 => Kb2 (DV.v (AV.b t2)) H3) (Kb2 DV.n H3)) fun Kb2 => br t1 (Kb2 (DV.a z0) H2) (Kb2 DV.n H2)) fun Kb2 => br t1 (rdR H1 b1 nn0 nn6 fun l1 => Kb2 (DV.a l1) H1) (Kb2 DV.n H1)
/-- sta.Fair -/
def g50 : G DV := fun R1 H1 Kb1 => lc R1 fun d1 R2 => ln R2 <| cellsD d1 fun l1 => alK H1 l1 fun b1 H2 => rdK H2 b1 nn0 fun v1 => isI .u8 v1 fun n1 => asI (bits .and .u8 n1 ii1) fun n2 => frcB (ieq n2 ii0) fun t1 => g50x1 t1 b1 H2 Kb1
def G50 : G DV := g50

def g51x1 := alB H1 (@T4.n AV yy4 (@T4.n AV yy4 (@T4.n AV yy4 te te te te) (@T4.n AV yy4 te te te te) (@T4.n AV yy4 te te te te) te) (@T4.n AV yy4 (@T4.n AV yy4 te te te te) (@T4.n AV yy4 te te te te) (@T4.n AV yy4 te te te te) te) (@T4.n AV yy4 (@T4.n AV yy4 te te te te) (@T4.n AV yy4 te te te te) (@T4.n AV yy4 te te te te) te) (@T4.n AV yy4 (@T4.n AV yy4 te te te te) (@T4.n AV yy4 te te te te) (@T4.n AV (AV.p (AP.at b1 nn0)) te te te te) te)) nn17 nn0 fun b2 H2 => Kb1 (DV.v (AV.p (AP.at b2 nn0))) H2
/-- sched.New -/
def g51 : G DV := fun R1 H1 Kb1 => ln R1 <| alB H1 (@T4.n AV yy3 te te te te) nn1 nn0 fun b1 H2 => g51x1 b1 H2 Kb1
def G51 : G DV := g51

def g23x1 := alK H1 (lapp l1 ((AV.i .i64 ii0) :: ((AV.b false) :: ((AV.i .u8 ii0) :: ((AV.i .u8 ii0) :: ((AV.i .u8 ii0) :: ((AV.i .u8 ii0) :: ((AV.i .u8 ii0) :: ((AV.i .u8 ii0) :: ((AV.i .i64 ii0) :: ((AV.b false) :: ((AV.i .u8 ii0) :: ((AV.i .u8 ii0) :: ((AV.i .u8 ii0) :: ((AV.i .u8 ii0) :: ((AV.i .u8 ii0) :: ((AV.i .u8 ii0) :: ((AV.i .i64 ii0) :: ((AV.b false) :: ((AV.i .u8 ii0) :: ((AV.i .u8 ii0) :: ((AV.i .u8 ii0) :: ((AV.i .u8 ii0) :: ((AV.i .u8 ii0) :: ((AV.i .u8 ii0) :: ((AV.i .i64 ii0) :: ((AV.b false) :: ((AV.i .u8 ii0) :: ((AV.i .u8 ii0) :: ((AV.i .u8 ii0) :: ((AV.i .u8 ii0) :: ((AV.i .u8 ii0) :: ((AV.i .u8 ii0) :: ((AV.i .i64 ii0) :: ((AV.b false) :: ((AV.i .u8 ii0) :: ((AV.i .u8 ii0) :: ((AV.i .u8 ii0) :: ((AV.i .u8 ii0) :: ((AV.i .u8 ii0) :: ((AV.i .u8 ii0) :: ((AV.i .i64 ii0) :: ((AV.b false) :: ((AV.i .u8 ii0) :: ((AV.i .u8 ii0) :: ((AV.i .u8 ii0) :: ((AV.i .u8 ii0) :: ((AV.i .u8 ii0) :: ((AV.i .u8 ii0) :: ((AV.i .i64 ii0) :: ((AV.b false) :: ((AV.i .u8 ii0) :: ((AV.i .u8 ii0) :: ((AV.i .u8 ii0) :: ((AV.i .u8 ii0) :: ((AV.i .u8 ii0) :: ((AV.i .u8 ii0) :: ((AV.i .i64 ii0) :: ((AV.b false) :: ((AV.i .u8 ii0) :: ((AV.i .u8 ii0) :: ((AV.i .u8 ii0) :: ((AV.i .u8 ii0) :: ((AV.i .u8 ii0) :: ((AV.i .u8 ii0) :: ((AV.i .i64 ii0) :: ((AV.b false) :: ((AV.i .u8 ii0) :: ((AV.i .u8 ii0) :: ((AV.i .u8 ii0) :: ((AV.i .u8 ii0) :: ((AV.i .u8 ii0) :: ((AV.i .u8 ii0) :: ((AV.i .i64 ii0) :: ((AV.b false) :: ((AV.i .u8 ii0) :: ((AV.i .u8 ii0) :: ((AV.i .u8 ii0) :: ((AV.i .u8 ii0) :: ((AV.i .u8 ii0) :: ((AV.i .u8 ii0) :: ((AV.i .i64 ii0) :: ((AV.b false) :: ((AV.i .u8 ii0) :: ((AV.i .u8 ii0) :: ((AV.i .u8 ii0) :: ((AV.i .u8 ii0) :: ((AV.i .u8 ii0) :: ((AV.i .u8 ii0) :: ((AV.i .i64 ii0) :: ((AV.b false) :: ((AV.i .u8 ii0) :: ((AV.i .u8 ii0) :: ((AV.i .u8 ii0) :: ((AV.i .u8 ii0) :: ((AV.i .u8 ii0) :: ((AV.i .u8 ii0) :: ((AV.i .i64 ii0) :: ((AV.b false) :: ((AV.i .u8 ii0) :: ((AV.i .u8 ii0) :: ((AV.i .u8 ii0) :: ((AV.i .u8 ii0) :: ((AV.i .u8 ii0) :: ((AV.i .u8 ii0) :: ((AV.i .i64 ii0) :: ((AV.b false) :: ((AV.i .u8 ii0) :: ((AV.i .u8 ii0) :: ((AV.i .u8 ii0) :: ((AV.i .u8 ii0) :: ((AV.i .u8 ii0) :: ((AV.i .u8 ii0) :: ((AV.i .i64 ii0) :: ((AV.b false) :: ((AV.i .u8 ii0) :: ((AV.i .u8 ii0) :: ((AV.i .u8 ii0) :: ((AV.i .u8 ii0) :: ((AV.i .u8 ii0) :: ((AV.i .u8 ii0) :: ((AV.i .i64 ii0) :: ((AV.b false) :: ((AV.i .u8 ii0) :: ((AV.i .u8 ii0) :: ((AV.i .u8 ii0) :: ((AV.i .u8 ii0) :: ((AV.i .u8 ii0) :: ((AV.i .u8 ii0) :: ((AV.i .i64 ii0) :: ((AV.b false) :: ((AV.b false) :: ((AV.b false) :: ((AV.b false) :: ((AV.b false) :: ((AV.b false) :: ((AV.b false) :: ((AV.b false) :: ((AV.i .i64 ii0) :: ((AV.i .i64 ii0) :: ((AV.b false) :: ((AV.b false) :: ((AV.b false) :: ((AV.b false) :: ((AV.b false) :: ((AV.b false) :: ((AV.b false) :: ((AV.b false) :: ((AV.i .i64 ii0) :: ((AV.i .i64 ii0) :: ((AV.b false) :: ((AV.b false) :: ((AV.b false) :: ((AV.b false) :: ((AV.b false) :: ((AV.b false) :: ((AV.b false) :: ((AV.b false) :: ((AV.i .i64 ii0) :: ((AV.i .i64 ii0) :: ((AV.b false) :: ((AV.b false) :: ((AV.b false) :: ((AV.b false) :: ((AV.b false) :: ((AV.b false) :: ((AV.b false) :: ((AV.b false) :: ((AV.i .i64 ii0) :: ((AV.i .i64 ii0) :: ((AV.b false) :: ((AV.b false) :: ((AV.b false) :: ((AV.b false) :: ((AV.b false) :: ((AV.b false) :: ((AV.b false) :: ((AV.b false) :: ((AV.i .i64 ii0) :: ((AV.i .i64 ii0) :: ((AV.b false) :: ((AV.b false) :: ((AV.b false) :: ((AV.b false) :: ((AV.b false) :: ((AV.b false) :: ((AV.b false) :: ((AV.b false) :: ((AV.i .i64 ii0) :: ((AV.i .i64 ii0) :: ((AV.b false) :: ((AV.b false) :: ((AV.b false) :: ((AV.b false) :: ((AV.b false) :: ((AV.b false) :: ((AV.b false) :: ((AV.b false) :: ((AV.i .i64 ii0) :: ((AV.i .i64 ii0) :: ((AV.b false) :: ((AV.b false) :: ((AV.b false) :: ((AV.b false) :: ((AV.b false) :: ((AV.b false) :: ((AV.b false) :: ((AV.b false) :: ((AV.i .i64 ii0) :: ((AV.i .i64 ii0) :: ((AV.b false) :: ((AV.b false) :: ((AV.b false) :: ((AV.b false) :: ((AV.b false) :: ((AV.b false) :: ((AV.b false) :: ((AV.b false) :: ((AV.i .i64 ii0) :: ((AV.i .i64 ii0) :: ((AV.b false) :: ((AV.b false) :: ((AV.b false) :: ((AV.b false) :: ((AV.b false) :: ((AV.b false) :: ((AV.b false) :: ((AV.b false) :: ((AV.i .i64 ii0) :: ((AV.i .i64 ii0) :: ((AV.b false) :: ((AV.b false) :: ((AV.b false) :: ((AV.b false) :: ((AV.b false) :: ((AV.b false) :: ((AV.b false) :: ((AV.b false) :: ((AV.i .i64 ii0) :: ((AV.i .i64 ii0) :: ((AV.b false) :: ((AV.b false) :: ((AV.b false) :: ((AV.b false) :: ((AV.b false) :: ((AV.b false) :: ((AV.b false) :: ((AV.b false) :: ((AV.i .i64 ii0) :: ((AV.i .i64 ii0) :: ((AV.b false) :: ((AV.b false) :: ((AV.b false) :: ((AV.b false) :: ((AV.b false) :: ((AV.b false) :: ((AV.b false) :: ((AV.b false) :: ((AV.i .i64 ii0) :: ((AV.i .i64 ii0) :: ((AV.b false) :: ((AV.b false) :: ((AV.b false) :: ((AV.b false) :: ((AV.b false) :: ((AV.b false) :: ((AV.b false) :: ((AV.b false) :: ((AV.i .i64 ii0) :: ((AV.i .i64 ii0) :: ((AV.b false) :: ((AV.b false) :: ((AV.b false) :: ((AV.b false) :: ((AV.b false) :: ((AV.b false) :: ((AV.b false) :: ((AV.b false) :: ((AV.i .i64 ii0) :: ((AV.i .i64 ii0) :: ((AV.b false) :: ((AV.b false) :: ((AV.b false) :: ((AV.b false) :: ((AV.b false) :: ((AV.b false) :: ((AV.b false) :: ((AV.b false) :: ((AV.i .i64 ii0) :: ((AV.i .i64 ii0) :: ((AV.s AS.nil) :: ((AV.p p1) :: ((AV.p p2) :: ((AV.p AP.nil) :: ((AV.p AP.nil) :: ((AV.p AP.nil) :: ((AV.p AP.nil) :: ((AV.b false) :: ((AV.i .i64 ii0) :: ((AV.i .i64 ii0) :: ((AV.b false) :: ((AV.i .i64 ii0) :: ((AV.i .i64 ii0) :: ((AV.b false) :: ((AV.i .i64 ii0) :: ((AV.i .i64 ii0) :: ((AV.b false) :: ((AV.i .i64 ii0) :: ((AV.i .i64 ii0) :: ((AV.p AP.nil) :: ((AV.p AP.nil) :: ((AV.p AP.nil) :: ((AV.p AP.nil) :: ((AV.p AP.nil) :: ((AV.p AP.nil) :: ((AV.p AP.nil) :: ((AV.p AP.nil) :: ((AV.p AP.nil) :: ((AV.p AP.nil) :: ((AV.p AP.nil) :: ((AV.p AP.nil) :: ((AV.p AP.nil) :: ((AV.p AP.nil) :: ((AV.p AP.nil) :: ((AV.p AP.nil) :: ((AV.i .i64 ii0) :: ((AV.s AS.nil) :: []))))))))))))))))))))))))))))))))))))))))))))))))))))))))))))))))))))))))))))))))))))))))))))))))))))))))))))))))))))))))))))))))))))))))))))))))))))))))))))))))))))))))))))))))))))))))))))))))))))))))))))))))))))))))))))))))))))))))))))))))))))))))))))))))))))))))))))))))))))))))))))))))))))))))))))))))))))))))))))))))))))))) fun b1 H2 => lpR (failF [(99 , .int .i64)]) (fun Kb2 => fun d1 H3 => onV d1 fun v1 => isI .i64 v1 fun n1 => frcB (ilt n1 ii4) fun t1 => br t1 (c1 [] H3 fun d2 H4 => onV d2 fun v2 => isP v2 fun p3 => rng n1 nn4 <| wrK H4 b1 (Nat.add nn313 (itn n1)) (AV.p p3) fun H5 => wrp .i64 (iadd n1 ii1) fun n2 => Kb2 (DV.v (AV.i .i64 n2)) H5) (Kb1 (DV.c (DV.v (AV.p (AP.at b1 nn0))) (DV.c (DV.v AV.ni) DV.n)) H3)) (nat_lit 100000) (DV.v (AV.i .i64 ii0)) H2
def g23x2 := jn (fun d2 H2 => jn (fun d3 H3 => pickK t1 (DV.v (AV.b true)) d3 fun d4 => onV d4 fun v1 => isB v1 fun t2 => br t2 (Kb1 (DV.c (DV.v (AV.p AP.nil)) (DV.c (DV.v (AV.er (nat_lit 2))) DV.n)) H3) (rdR H3 b1 nn0 nn21 fun l1 => must (Nat.beq (llen l1) nn21) <| g23x1 l1 p1 p2 H3 c1 Kb1)) fun Kb2 => br t1 (Kb2 DV.n H2) (onV d2 fun v1 => isB v1 fun t2 => frcB (bnot t2) fun t3 => Kb2 (DV.v (AV.b t3)) H2)) fun Kb2 => br t1 (Kb2 DV.n H1) (c2 [d1] H1 fun d2 H2 => onV d2 fun v1 => isB v1 fun t2 => Kb2 (DV.v (AV.b t2)) H2)
def g23x3 := jn (fun d3 H2 => pickK t1 (DV.v (AV.b true)) d3 fun d4 => onV d4 fun v1 => isB v1 fun t2 => jn (fun d5 H3 => jn (fun d6 H4 => g23x2 d6 t2 p1 p2 b1 H4 c1 c2 Kb1) fun Kb2 => br t2 (Kb2 DV.n H3) (onV d5 fun v2 => isP v2 fun p3 => onA p3 fun b2 m1 => rdR H3 b2 m1 nn6 fun l1 => Kb2 (DV.a l1) H3)) fun Kb2 => br t2 (Kb2 DV.n H2) (Kb2 (DV.v (AV.p (AP.at b1 nn0))) H2)) fun Kb2 => br t1 (Kb2 DV.n H1) (c3 [d1, d2] H1 fun d3 H2 => onV d3 fun v1 => isB v1 fun t2 => Kb2 (DV.v (AV.b t2)) H2)
def g23x4 := pickK t1 (DV.v (AV.b true)) d1 fun d2 => onV d2 fun v1 => isB v1 fun t2 => jn (fun d3 H2 => jn (fun d4 H3 => jn (fun d5 H4 => g23x3 d4 d5 t2 p1 p2 b1 H4 c1 c2 c3 Kb1) fun Kb2 => br t2 (Kb2 DV.n H3) (Kb2 (DV.v (AV.fn (nat_lit 48) [])) H3)) fun Kb2 => br t2 (Kb2 DV.n H2) (onV d3 fun v2 => isP v2 fun p3 => onA p3 fun b2 m1 => Kb2 (DV.v (AV.s (AS.sl b2 m1 nn4 nn4))) H2)) fun Kb2 => br t2 (Kb2 DV.n H1) (Kb2 (DV.v (AV.p (AP.at b1 nn15))) H1)
def g23x5 := jn (fun d1 H2 => jn (fun d2 H3 => jn (fun d3 H4 => g23x4 d3 t1 p1 p2 b1 H4 c1 c2 c3 Kb1) fun Kb2 => br t1 (Kb2 DV.n H3) (onV d2 fun v1 => isI .i64 v1 fun n1 => frcB (ilt ii65535 n1) fun t2 => Kb2 (DV.v (AV.b t2)) H3)) fun Kb2 => br t1 (Kb2 DV.n H2) (onV d1 fun v1 => isP v1 fun p3 => onA p3 fun b2 m1 => rdK H2 b2 m1 fun v2 => isI .i64 v2 fun n1 => Kb2 (DV.v (AV.i .i64 n1)) H2)) fun Kb2 => br t1 (Kb2 DV.n H1) (Kb2 (DV.v (AV.p (AP.at b1 nn14))) H1)
def g23x6 := jn (fun d2 H2 => jn (fun d3 H3 => pickK t1 (DV.v (AV.b true)) d3 fun d4 => onV d4 fun v1 => isB v1 fun t2 => g23x5 t2 p1 p2 b1 H3 c1 c2 c3 Kb1) fun Kb2 => br t1 (Kb2 DV.n H2) (onV d2 fun v1 => isI .i64 v1 fun n1 => frcB (ilt n1 ii1) fun t2 => Kb2 (DV.v (AV.b t2)) H2)) fun Kb2 => br t1 (Kb2 DV.n H1) (onV d1 fun v1 => isP v1 fun p3 => onA p3 fun b2 m1 => rdK H1 b2 m1 fun v2 => isI .i64 v2 fun n1 => Kb2 (DV.v (AV.i .i64 n1)) H1)
def g23x7 := jn (fun d2 H2 => jn (fun d3 H3 => pickK t1 (DV.v (AV.b true)) d3 fun d4 => onV d4 fun v1 => isB v1 fun t2 => jn (fun d5 H4 => g23x6 d5 t2 p1 p2 b1 H4 c1 c2 c3 Kb1) fun Kb2 => br t2 (Kb2 DV.n H3) (Kb2 (DV.v (AV.p (AP.at b1 nn14))) H3)) fun Kb2 => br t1 (Kb2 DV.n H2) (onV d2 fun v1 => isI .i64 v1 fun n1 => frcB (ilt ii1073741824 n1) fun t2 => Kb2 (DV.v (AV.b t2)) H2)) fun Kb2 => br t1 (Kb2 DV.n H1) (onV d1 fun v1 => isP v1 fun p3 => onA p3 fun b2 m1 => rdK H1 b2 m1 fun v2 => isI .i64 v2 fun n1 => Kb2 (DV.v (AV.i .i64 n1)) H1)
def g23x8 := jn (fun d2 H2 => jn (fun d3 H3 => pickK t1 (DV.v (AV.b true)) d3 fun d4 => onV d4 fun v1 => isB v1 fun t2 => jn (fun d5 H4 => g23x7 d5 t2 p1 p2 b1 H4 c1 c2 c3 Kb1) fun Kb2 => br t2 (Kb2 DV.n H3) (Kb2 (DV.v (AV.p (AP.at b1 nn10))) H3)) fun Kb2 => br t1 (Kb2 DV.n H2) (onV d2 fun v1 => isI .i64 v1 fun n1 => frcB (ilt n1 ii0) fun t2 => Kb2 (DV.v (AV.b t2)) H2)) fun Kb2 => br t1 (Kb2 DV.n H1) (onV d1 fun v1 => isP v1 fun p3 => onA p3 fun b2 m1 => rdK H1 b2 m1 fun v2 => isI .i64 v2 fun n1 => Kb2 (DV.v (AV.i .i64 n1)) H1)
def g23x9 := jn (fun d2 H2 => jn (fun d3 H3 => pickK t1 (DV.v (AV.b true)) d3 fun d4 => onV d4 fun v1 => isB v1 fun t2 => jn (fun d5 H4 => g23x8 d5 t2 p1 p2 b1 H4 c1 c2 c3 Kb1) fun Kb2 => br t2 (Kb2 DV.n H3) (Kb2 (DV.v (AV.p (AP.at b1 nn10))) H3)) fun Kb2 => br t1 (Kb2 DV.n H2) (onV d2 fun v1 => isI .i64 v1 fun n1 => frcB (ilt ii1073741824 n1) fun t2 => Kb2 (DV.v (AV.b t2)) H2)) fun Kb2 => br t1 (Kb2 DV.n H1) (onV d1 fun v1 => isP v1 fun p3 => onA p3 fun b2 m1 => rdK H1 b2 m1 fun v2 => isI .i64 v2 fun n1 => Kb2 (DV.v (AV.i .i64 n1)) H1)
def g23x10 := onC d1 fun d2 d3 => onV d2 fun v1 => isP v1 fun p2 => onC d3 fun d4 d5 => onV d4 fun v2 => onN d5 <| ifA true true v2 AV.ni fun t1 => frcB (bnot t1) fun t2 => br t2 (Kb1 (DV.c (DV.v (AV.p AP.nil)) (DV.c (DV.v v2) DV.n)) H1) (rdK H1 b1 nn9 fun v3 => isI .i64 v3 fun n1 => frcB (ilt n1 ii0) fun t3 => jn (fun d6 H2 => g23x9 d6 t3 p1 p2 b1 H2 c1 c2 c3 Kb1) fun Kb2 => br t3 (Kb2 DV.n H1) (Kb2 (DV.v (AV.p (AP.at b1 nn9))) H1))
def g23x11 := onC d1 fun d2 d3 => onV d2 fun v1 => isP v1 fun p2 => onC d3 fun d4 d5 => onV d4 fun v2 => onN d5 <| ifA true true v2 AV.ni fun t1 => frcB (bnot t1) fun t2 => br t2 (Kb1 (DV.c (DV.v (AV.p AP.nil)) (DV.c (DV.v v2) DV.n)) H1) (rdK H1 b1 nn19 fun v3 => isI .i64 v3 fun n1 => rdK H1 b1 nn20 fun v4 => isI .i64 v4 fun n2 => c1 [(DV.v (AV.i .i64 n1)), (DV.v (AV.i .i64 n2))] H1 fun d6 H2 => g23x10 d6 p1 b1 H2 c2 c3 c4 Kb1)
def g23x12 := onV d1 fun v1 => onN d2 <| ifA true true v1 AV.ni fun t1 => frcB (bnot t1) fun t2 => br t2 (Kb1 (DV.c (DV.v (AV.p AP.nil)) (DV.c (DV.v v1) DV.n)) H1) (rdK H1 b1 nn11 fun v2 => isI .i64 v2 fun n1 => rdK H1 b1 nn12 fun v3 => isI .i64 v3 fun n2 => rdK H1 b1 nn13 fun v4 => isI .i64 v4 fun n3 => c1 [(DV.v (AV.i .i64 n1)), (DV.v (AV.i .i64 n2)), (DV.v (AV.i .i64 n3))] H1 fun d3 H2 => g23x11 d3 p1 b1 H2 c2 c3 c4 c5 Kb1)
def g23x13 := isI .i64 v1 fun n2 => rdK H1 b1 nn10 fun v2 => isI .i64 v2 fun n3 => rdK H1 b1 nn7 fun v3 => isI .i64 v3 fun n4 => rdK H1 b1 nn8 fun v4 => isI .i64 v4 fun n5 => c1 [(DV.v (AV.i .u32 n1)), (DV.v (AV.i .i64 n2)), (DV.v (AV.i .i64 n3)), (DV.v (AV.i .i64 n4)), (DV.v (AV.i .i64 n5))] H1 fun d1 H2 => onC d1 fun d2 d3 => onV d2 fun v5 => isP v5 fun p1 => onC d3 fun d4 d5 => g23x12 d4 d5 p1 b1 H2 c2 c3 c4 c5 c6 Kb1
/-- ap.New -/
def g23 : G DV := fun R1 H1 Kb1 => lc R1 fun d1 R2 => ln R2 <| cellsD d1 fun l1 => alK H1 l1 fun b1 H2 => rdK H2 b1 nn6 fun v1 => isI .u32 v1 fun n1 => rdK H2 b1 nn9 fun v2 => g23x13 v2 n1 b1 H2 c1 c2 c3 c6 c5 c4 Kb1
def G23 : G DV := g23 G45 G46 G47 G49 G50 G51

def z1 : List AV := [(AV.b false), (AV.i .i64 ii0), (AV.i .i64 ii0), (AV.i .i64 ii0), (AV.i .u64 ii0), (AV.mp AP.nil), (AV.b false), (AV.i .i64 ii0), (AV.b false), (AV.i .i64 ii0), (AV.i .i64 ii0), (AV.i .i64 ii0), (AV.i .u64 ii0), (AV.mp AP.nil), (AV.b false), (AV.i .i64 ii0), (AV.b false), (AV.i .i64 ii0), (AV.i .i64 ii0), (AV.i .i64 ii0), (AV.i .u64 ii0), (AV.mp AP.nil), (AV.b false), (AV.i .i64 ii0), (AV.b false), (AV.i .i64 ii0), (AV.i .i64 ii0), (AV.i .i64 ii0), (AV.i .u64 ii0), (AV.mp AP.nil), (AV.b false), (AV.i .i64 ii0), (AV.b false), (AV.i .i64 ii0), (AV.i .i64 ii0), (AV.i .i64 ii0), (AV.i .u64 ii0), (AV.mp AP.nil), (AV.b false), (AV.i .i64 ii0), (AV.b false), (AV.i .i64 ii0), (AV.i .i64 ii0), (AV.i .i64 ii0), (AV.i .u64 ii0), (AV.mp AP.nil), (AV.b false), (AV.i .i64 ii0), (AV.b false), (AV.i .i64 ii0), (AV.i .i64 ii0), (AV.i .i64 ii0), (AV.i .u64 ii0), (AV.mp AP.nil), (AV.b false), (AV.i .i64 ii0), (AV.b false), (AV.i .i64 ii0), (AV.i .i64 ii0), (AV.i .i64 ii0), (AV.i .u64 ii0), (AV.mp AP.nil), (AV.b false), (AV.i .i64 ii0)]
def g24x1 := jn (fun d2 H2 => pickK t1 (DV.v (AV.b true)) d2 fun d3 => onV d3 fun v1 => isB v1 fun t2 => br t2 (Kb1 (DV.c (DV.v (AV.p AP.nil)) (DV.c (DV.v (AV.er (nat_lit 2))) DV.n)) H2) (rdR H2 b1 nn0 nn6 fun l1 => rdR H2 b2 nn0 nn6 fun l2 => must (Nat.beq (llen l1) nn6) <| must (Nat.beq (llen l2) nn6) <| alK H2 (lapp l1 (lapp l2 ((AV.i .i64 n1) :: z1))) fun b3 H3 => Kb1 (DV.c (DV.v (AV.p (AP.at b3 nn0))) (DV.c (DV.v AV.ni) DV.n)) H3)) fun Kb2 => br t1 (Kb2 DV.n H1) (onV d1 fun v1 => isI .i64 v1 fun n2 => frcB (ilt ii64 n2) fun t2 => Kb2 (DV.v (AV.b t2)) H1)
/-- recv.New -/
def g24 : G DV := fun R1 H1 Kb1 => lc R1 fun d1 R2 => lc R2 fun d2 R3 => lc R3 fun d3 R4 => onV d3 fun v1 => isI .i64 v1 fun n1 => ln R4 <| cellsD d1 fun l1 => alK H1 l1 fun b1 H2 => cellsD d2 fun l2 => alK H2 l2 fun b2 H3 => frcB (ilt n1 ii1) fun t1 => jn (fun d4 H4 => g24x1 d4 n1 t1 b1 b2 H4 Kb1) fun Kb2 => br t1 (Kb2 DV.n H3) (Kb2 (DV.v (AV.i .i64 n1)) H3)
def G24 : G DV := g24

def z2 : T4 AV := (@T4.n AV yy6 (@T4.n AV yy6 (@T4.n AV yy6 te te te te) te te te) (@T4.n AV yy6 te te te te) (@T4.n AV yy6 te te te te) (@T4.n AV yy6 te te te te))
/-- lab.addr -/
def g25 : G DV := fun R1 H1 Kb1 => lc R1 fun d1 R2 => onV d1 fun v1 => isI .i64 v1 fun n1 => ln R2 <| alB H1 z2 nn6 nn0 fun b1 H2 => wrp .u8 n1 fun n2 => wrL H2 b1 nn0 [(AV.i .u8 ii2), (AV.i .u8 ii0), (AV.i .u8 ii0), (AV.i .u8 ii0), (AV.i .u8 ii0), (AV.i .u8 n2)] fun H3 => rdR H3 b1 nn0 nn6 fun l1 => Kb1 (DV.a l1) H3
def G25 : G DV := g25

def g11x1 := alK H1 (lapp l1 ((AV.i .i64 n1) :: ((AV.p p1) :: ((AV.i .i64 ii0) :: ((AV.i .i64 ii0) :: ((AV.p AP.nil) :: ((AV.s AS.nil) :: ((AV.s AS.nil) :: ((AV.i .i64 ii0) :: ((AV.p AP.nil) :: ((AV.s AS.nil) :: ((AV.s AS.nil) :: ((AV.i .i64 ii0) :: ((AV.p AP.nil) :: ((AV.s AS.nil) :: ((AV.s AS.nil) :: ((AV.i .i64 ii0) :: ((AV.p AP.nil) :: ((AV.s AS.nil) :: ((AV.s AS.nil) :: ((AV.i .i64 ii0) :: ((AV.p AP.nil) :: ((AV.s AS.nil) :: ((AV.s AS.nil) :: ((AV.i .i64 ii0) :: ((AV.p AP.nil) :: ((AV.s AS.nil) :: ((AV.s AS.nil) :: ((AV.i .i64 ii0) :: ((AV.p AP.nil) :: ((AV.s AS.nil) :: ((AV.s AS.nil) :: ((AV.i .i64 ii0) :: ((AV.p AP.nil) :: ((AV.s AS.nil) :: ((AV.s AS.nil) :: ((AV.i .i64 ii0) :: ((AV.p AP.nil) :: ((AV.s AS.nil) :: ((AV.s AS.nil) :: ((AV.i .i64 ii0) :: ((AV.p AP.nil) :: ((AV.s AS.nil) :: ((AV.s AS.nil) :: ((AV.i .i64 ii0) :: ((AV.p AP.nil) :: ((AV.s AS.nil) :: ((AV.s AS.nil) :: ((AV.i .i64 ii0) :: ((AV.p AP.nil) :: ((AV.s AS.nil) :: ((AV.s AS.nil) :: ((AV.i .i64 ii0) :: ((AV.p AP.nil) :: ((AV.s AS.nil) :: ((AV.s AS.nil) :: ((AV.i .i64 ii0) :: ((AV.p AP.nil) :: ((AV.s AS.nil) :: ((AV.s AS.nil) :: ((AV.i .i64 ii0) :: ((AV.p AP.nil) :: ((AV.s AS.nil) :: ((AV.s AS.nil) :: ((AV.i .i64 ii0) :: ((AV.p AP.nil) :: ((AV.s AS.nil) :: ((AV.s AS.nil) :: ((AV.i .i64 ii0) :: ((AV.i .i64 ii0) :: ((AV.i .i64 ii0) :: ((AV.i .i64 ii0) :: ((AV.i .i64 ii0) :: ((AV.i .i64 ii0) :: ((AV.b false) :: ((AV.s AS.nil) :: ((AV.i .i64 ii0) :: ((AV.i .i64 ii0) :: ((AV.b false) :: []))))))))))))))))))))))))))))))))))))))))))))))))))))))))))))))))))))))))))))))) fun b1 H2 => Kb1 (DV.c (DV.v (AV.p (AP.at b1 nn0))) (DV.c (DV.v AV.ni) DV.n)) H2
def g11x2 := rdR H1 b1 nn0 nn6 fun l3 => must (aleq l1 l3) <| c1 [(DV.a l2), (DV.a l1), (DV.v (AV.i .i64 n1))] H1 fun d1 H2 => onC d1 fun d2 d3 => onV d2 fun v1 => isP v1 fun p2 => onC d3 fun d4 d5 => onV d4 fun v2 => onN d5 <| ifA true true v2 AV.ni fun t1 => frcB (bnot t1) fun t2 => br t2 (Kb1 (DV.c (DV.v (AV.p AP.nil)) (DV.c (DV.v v2) DV.n)) H2) (rdR H2 b1 nn0 nn21 fun l4 => must (Nat.beq (llen l4) nn21) <| g11x1 l4 n1 p1 H2 Kb1)
def g11x3 := rdR H1 b1 nn0 nn21 fun l1 => c1 [(DV.a l1)] H1 fun d1 H2 => onC d1 fun d2 d3 => onV d2 fun v1 => isP v1 fun p1 => onC d3 fun d4 d5 => onV d4 fun v2 => onN d5 <| ifA true true v2 AV.ni fun t1 => frcB (bnot t1) fun t2 => br t2 (Kb1 (DV.c (DV.v (AV.p AP.nil)) (DV.c (DV.v v2) DV.n)) H2) (rdR H2 b1 nn0 nn6 fun l2 => c2 [(DV.v (AV.i .i64 ii0))] H2 fun d6 H3 => onL d6 fun l3 => g11x2 l2 l3 n1 p1 b1 H3 c3 Kb1)
/-- lab.New -/
def g11 : G DV := fun R1 H1 Kb1 => lc R1 fun d1 R2 => lc R2 fun d2 R3 => onV d2 fun v1 => isI .i64 v1 fun n1 => ln R3 <| cellsD d1 fun l1 => alK H1 l1 fun b1 H2 => g11x3 n1 b1 H2 c1 c3 c2 Kb1
def G11 : G DV := g11 G23 G24 G25

def z3 : List AV := [(AV.i .u8 ii2), (AV.i .u8 ii0), (AV.i .u8 ii0), (AV.i .u8 ii0), (AV.i .u8 ii1), (AV.i .u8 ii0), (AV.i .u32 ii1), (AV.i .i64 ii64), (AV.i .i64 ii100000), (AV.i .i64 ii50000), (AV.i .i64 ii1000000), (AV.i .i64 ii16), (AV.i .i64 ii3), (AV.i .i64 ii10000000), (AV.i .i64 ii20000), (AV.i .i64 ii0), (AV.i .i64 ii0), (AV.i .i64 ii0), (AV.i .i64 ii0), (AV.i .i64 ii100000), (AV.i .i64 ii200000)]
/-- desk.New -/
def g6 : G DV := fun R1 H1 Kb1 => ln R1 <| c1 [(DV.a z3), (DV.v (AV.i .i64 ii16))] H1 fun d1 H2 => onC d1 fun d2 d3 => onV d2 fun v1 => isP v1 fun p1 => onC d3 fun d4 d5 => onV d4 fun v2 => onN d5 <| ifA true true v2 AV.ni fun t1 => frcB (bnot t1) fun t2 => br t2 (Kb1 (DV.v (AV.p AP.nil)) H2) (alB H2 (@T4.n AV (AV.p p1) te te te te) nn1 nn0 fun b1 H3 => Kb1 (DV.v (AV.p (AP.at b1 nn0))) H3)
def G6 : G DV := g6 G11

/-- (*desk.Desk).Line$1 -/
def g14 : G DV := fun R1 H1 Kb1 => lc R1 fun d1 R2 => onV d1 fun v1 => isG v1 fun x1 => ln R2 <| frcB (leqI x1 List.nil) fun t1 => Kb1 (DV.v (AV.b t1)) H1
def G14 : G DV := g14

def g26x1 := frcB (ilt n1 (Int.ofNat m1)) fun t1 => br t1 (ixA s1 n1 (fun x => x) fun b1 m2 => rdK H1 b1 m2 fun v1 => isG v1 fun x1 => onV d1 fun v2 => fnK v2 fun m3 L1 L2 => lookD [((nat_lit 14) , c1)] m3 (appA (mapP L1) (appA [(DV.v (AV.g x1))] (mapP L2))) H1 fun d2 H2 => onV d2 fun v3 => isB v3 fun t2 => br t2 (Kb1 (DV.v (AV.i .i64 n1)) H2) (wrp .i64 (iadd n1 ii1) fun n2 => Kb2 (DV.v (AV.i .i64 n2)) H2)) (Kb1 (DV.v (AV.i .i64 im1)) H1)
/-- slices.IndexFunc[[]string,string] -/
def g26 : G DV := fun R1 H1 Kb1 => lc R1 fun d1 R2 => onV d1 fun v1 => isS v1 fun s1 => lc R2 fun d2 R3 => ln R3 <| lenA s1 fun m1 => lpR (failF [(8 , .int .i64)]) (fun Kb2 => fun d3 H2 => onV d3 fun v2 => isI .i64 v2 fun n1 => g26x1 d2 n1 m1 s1 H2 c1 Kb1 Kb2) (nat_lit 100000) (DV.v (AV.i .i64 ii0)) H1
def G26 : G DV := g26 G14

def g12x1 := rdK H1 b1 m1 fun v1 => isG v1 fun x1 => onV d1 fun v2 => fnK v2 fun m2 L1 L2 => lookD [((nat_lit 14) , c1), ((nat_lit 26) , c2)] m2 (appA (mapP L1) (appA [(DV.v (AV.g x1))] (mapP L2))) H1 fun d2 H2 => onV d2 fun v3 => isB v3 fun t1 => frcB (bnot t1) fun t2 => br t2 (ixA s1 n1 (fun x => x) fun b2 m3 => wrK H2 b2 m3 (AV.g x1) fun H3 => wrp .i64 (iadd n1 ii1) fun n2 => Kb1 (DV.v (AV.i .i64 n2)) H3) (Kb1 (DV.v (AV.i .i64 n1)) H2)
def g12x2 := br t1 (jF [(5 , .int .i64)] (fun d2 H2 => onV d2 fun v1 => isI .i64 v1 fun n3 => wrp .i64 (iadd n1 ii1) fun n4 => Kc1 (DV.v (AV.i .i64 n3)) (DV.v (AV.i .i64 n4)) H2) fun Kb2 => ixA s1 n1 (fun x => x) fun b1 m1 => g12x1 d1 n2 m1 b1 s1 H1 c1 c2 Kb2) (natK n2 fun m1 => lenA s1 fun m2 => slA s1 m1 m2 (fun x => x) fun s2 => clrD [(AV.g List.nil)] s2 H1 fun H2 => natK n2 fun m3 => slA s1 nn0 m3 (fun x => x) fun s3 => Kb1 (DV.v (AV.s s3)) H2)
def g12x3 := isI .i64 v1 fun n1 => frcB (ieq n1 im1) fun t1 => br t1 (Kb1 (DV.v (AV.s s1)) H1) (wrp .i64 (iadd n1 ii1) fun n2 => lpR (failF [(5 , .int .i64), (6 , .int .i64)]) (fun Kc1 => fun d2 d3 H2 => onV d2 fun v2 => isI .i64 v2 fun n3 => onV d3 fun v3 => isI .i64 v3 fun n4 => lenA s1 fun m1 => frcB (ilt n4 (Int.ofNat m1)) fun t2 => g12x2 d1 n4 n3 t2 s1 H2 c1 c2 Kb1 Kc1) (nat_lit 100000) (DV.v (AV.i .i64 n1)) (DV.v (AV.i .i64 n2)) H1)
/-- slices.DeleteFunc[[]string,string] -/
def g12 : G DV := fun R1 H1 Kb1 => lc R1 fun d1 R2 => onV d1 fun v1 => isS v1 fun s1 => lc R2 fun d2 R3 => ln R3 <| c2 [(DV.v (AV.s s1)), d2] H1 fun d3 H2 => onV d3 fun v2 => g12x3 v2 d2 s1 H2 c1 c2 Kb1
def G12 : G DV := g12 G14 G26

def g27x1 := must (Nat.ble nn0 m1) <| must (Nat.ble m1 (leni x1)) <| takeI (Nat.sub m1 nn0) (dropI nn0 x1) fun x3 => ixA (AS.sl b1 nn0 m2 m3) n1 (fun x => x) fun b2 m4 => wrK H1 b2 m4 (AV.g x3) fun H2 => asI (Int.ofNat (leni x2)) fun n3 => wrp .i64 (iadd n2 n3) fun n4 => natK n4 fun m5 => must (Nat.ble m5 (leni x1)) <| must (Nat.ble (leni x1) (leni x1)) <| takeI (Nat.sub (leni x1) m5) (dropI m5 x1) fun x4 => wrp .i64 (iadd n1 ii1) fun n5 => Kc1 (DV.v (AV.g x4)) (DV.v (AV.i .i64 n5)) H2
def g27x2 := onV d1 fun v1 => isG v1 fun x2 => onV d2 fun v2 => isI .i64 v2 fun n3 => frcB (ilt n3 n1) fun t1 => br t1 (c1 [(DV.v (AV.g x2)), (DV.v (AV.g x1))] H1 fun d3 H2 => onV d3 fun v3 => isI .i64 v3 fun n4 => frcB (ilt n4 ii0) fun t2 => br t2 (Kc1 (DV.v (AV.g x2)) (DV.v (AV.i .i64 n3)) H2) (wrp .i64 (iadd n4 n2) fun n5 => natK n5 fun m3 => g27x1 n3 n4 m3 m1 m2 b1 H2 x2 x1 Kc2)) (Kc1 (DV.v (AV.g x2)) (DV.v (AV.i .i64 n3)) H1)
def g27x3 := jF [(0 , .str), (10 , .int .i64)] (fun d1 d2 H2 => onV d1 fun v1 => isG v1 fun x3 => onV d2 fun v2 => isI .i64 v2 fun n3 => ixA (AS.sl b1 nn0 m1 m2) n3 (fun x => x) fun b2 m3 => wrK H2 b2 m3 (AV.g x3) fun H3 => wrp .i64 (iadd n3 ii1) fun n4 => natK n4 fun m4 => slA (AS.sl b1 nn0 m1 m2) nn0 m4 (fun x => x) fun s1 => Kb1 (DV.v (AV.s s1)) H3) fun Kc1 => lpR (failF [(0 , .str), (10 , .int .i64)]) (fun Kc2 => fun d1 d2 H2 => g27x2 d1 d2 n1 n2 m1 m2 b1 H2 x1 c1 Kc1 Kc2) (nat_lit 100000) (DV.v (AV.g x2)) (DV.v (AV.i .i64 ii0)) H1
def g27x4 := jF [(3 , .int .i64)] (fun d1 H2 => onV d1 fun v1 => isI .i64 v1 fun n3 => asI (Int.ofNat (leni x1)) fun n4 => wrp .i64 (iadd n4 ii1) fun n5 => asI (imin n3 n5) fun n6 => natK n6 fun m1 => natK n6 fun m2 => must (Nat.ble m1 m2) <| must (Nat.ble (Nat.mul (nat_lit 16) m2) (nat_lit 281474976710656)) <| must (Nat.ble m2 (nat_lit 9223372036854775807)) <| alK H2 (mkL [(AV.g List.nil)] m2) fun b1 H3 => wrp .i64 (isub n6 ii1) fun n7 => g27x3 n7 n1 m1 m2 b1 H3 x2 x1 c1 Kb1) fun Kb2 => frcB (ilt n2 ii0) fun t1 => br t1 (c2 [(DV.v (AV.g x1)), (DV.v (AV.g x2))] H1 fun d1 H2 => onV d1 fun v1 => isI .i64 v1 fun n3 => wrp .i64 (iadd n3 ii1) fun n4 => Kb2 (DV.v (AV.i .i64 n4)) H2) (Kb2 (DV.v (AV.i .i64 n2)) H1)
/-- strings.genSplit -/
def g27 : G DV := fun R1 H1 Kb1 => lc R1 fun d1 R2 => onV d1 fun v1 => isG v1 fun x1 => lc R2 fun d2 R3 => onV d2 fun v2 => isG v2 fun x2 => lc R3 fun d3 R4 => onV d3 fun v3 => isI .i64 v3 fun n1 => lc R4 fun d4 R5 => onV d4 fun v4 => isI .i64 v4 fun n2 => ln R5 <| frcB (ieq n2 ii0) fun t1 => br t1 (Kb1 (DV.v (AV.s AS.nil)) H1) (frcB (leqI x2 List.nil) fun t2 => br t2 (none) (g27x4 n1 n2 H1 x1 x2 c1 c2 Kb1))
def G27 : G DV := g27 gIndexS.G gCountS.G

/-- strings.Split -/
def g13 : G DV := fun R1 H1 Kb1 => lc R1 fun d1 R2 => onV d1 fun v1 => isG v1 fun x1 => lc R2 fun d2 R3 => onV d2 fun v2 => isG v2 fun x2 => ln R3 <| c1 [(DV.v (AV.g x1)), (DV.v (AV.g x2)), (DV.v (AV.i .i64 ii0)), (DV.v (AV.i .i64 im1))] H1 fun d3 H2 => onV d3 fun v3 => isS v3 fun s1 => Kb1 (DV.v (AV.s s1)) H2
def G13 : G DV := g13 G27

/-- strings.Contains -/
def g15 : G DV := fun R1 H1 Kb1 => lc R1 fun d1 R2 => onV d1 fun v1 => isG v1 fun x1 => lc R2 fun d2 R3 => onV d2 fun v2 => isG v2 fun x2 => ln R3 <| c1 [(DV.v (AV.g x1)), (DV.v (AV.g x2))] H1 fun d3 H2 => onV d3 fun v3 => isI .i64 v3 fun n1 => frcB (ile ii0 n1) fun t1 => Kb1 (DV.v (AV.b t1)) H2
def G15 : G DV := g15 gIndexS.G

def g16x1 := jF [(18 , .bool)] (fun d1 H2 => onV d1 fun v1 => isB v1 fun t1 => br t1 (Kb1 (DV.c (DV.v (AV.i .i64 ii0)) (DV.c (DV.v (AV.b false)) (DV.c (DV.v (AV.b true)) DV.n))) H2) (Kb1 (DV.c (DV.v (AV.i .i64 ii0)) (DV.c (DV.v (AV.b false)) (DV.c (DV.v (AV.b false)) DV.n))) H2)) fun Kb2 => frcB (leqI x1 ss1) fun t1 => br t1 (Kb2 (DV.v (AV.b t1)) H1) (frcB (leqI x1 ss2) fun t2 => br t2 (Kb2 (DV.v (AV.b t2)) H1) (frcB (leqI x1 ss3) fun t3 => Kb2 (DV.v (AV.b t3)) H1))
def g16x2 := jF [(12 , .bool)] (fun d1 H2 => onV d1 fun v1 => isB v1 fun t1 => br t1 (Kb1 (DV.c (DV.v (AV.i .i64 ii1)) (DV.c (DV.v (AV.b false)) (DV.c (DV.v (AV.b true)) DV.n))) H2) (frcB (leqI x1 ss0) fun t2 => br t2 (Kb1 (DV.c (DV.v (AV.i .i64 ii3)) (DV.c (DV.v (AV.b true)) (DV.c (DV.v (AV.b true)) DV.n))) H2) (g16x1 H2 x1 Kb1))) fun Kb2 => frcB (leqI x1 ss4) fun t1 => br t1 (Kb2 (DV.v (AV.b t1)) H1) (frcB (leqI x1 ss5) fun t2 => br t2 (Kb2 (DV.v (AV.b t2)) H1) (frcB (leqI x1 ss6) fun t3 => Kb2 (DV.v (AV.b t3)) H1))
def g16x3 := jF [(6 , .bool)] (fun d1 H2 => onV d1 fun v1 => isB v1 fun t1 => br t1 (Kb1 (DV.c (DV.v (AV.i .i64 ii2)) (DV.c (DV.v (AV.b false)) (DV.c (DV.v (AV.b true)) DV.n))) H2) (g16x2 H2 x1 Kb1)) fun Kb2 => frcB (leqI x1 ss7) fun t1 => br t1 (Kb2 (DV.v (AV.b t1)) H1) (frcB (leqI x1 ss8) fun t2 => br t2 (Kb2 (DV.v (AV.b t2)) H1) (frcB (leqI x1 ss9) fun t3 => br t3 (Kb2 (DV.v (AV.b t3)) H1) (frcB (leqI x1 ss10) fun t4 => br t4 (Kb2 (DV.v (AV.b t4)) H1) (frcB (leqI x1 ss11) fun t5 => Kb2 (DV.v (AV.b t5)) H1))))
/-- desk.forms -/
def g16 : G DV := fun R1 H1 Kb1 => lc R1 fun d1 R2 => onV d1 fun v1 => isG v1 fun x1 => ln R2 <| g16x3 H1 x1 Kb1
def G16 : G DV := g16

def z4 : T4 AV := (@T4.n AV yy2 (@T4.n AV yy2 (@T4.n AV yy2 (@T4.n AV yy2 (@T4.n AV yy2 te te te te) (@T4.n AV yy2 te te te te) (@T4.n AV yy2 te te te te) te) (@T4.n AV yy2 (@T4.n AV yy2 te te te te) (@T4.n AV yy2 te te te te) (@T4.n AV yy2 te te te te) te) (@T4.n AV yy2 (@T4.n AV yy2 te te te te) (@T4.n AV yy2 te te te te) (@T4.n AV yy2 te te te te) te) (@T4.n AV yy2 (@T4.n AV yy2 te te te te) (@T4.n AV yy2 te te te te) te te)) (@T4.n AV yy2 (@T4.n AV yy2 (@T4.n AV yy2 te te te te) (@T4.n AV yy2 te te te te) (@T4.n AV yy2 te te te te) te) (@T4.n AV yy2 (@T4.n AV yy2 te te te te) (@T4.n AV yy2 te te te te) (@T4.n AV yy2 te te te te) te) (@T4.n AV yy2 (@T4.n AV yy2 te te te te) (@T4.n AV yy2 te te te te) (@T4.n AV yy2 te te te te) te) (@T4.n AV yy2 (@T4.n AV yy2 te te te te) (@T4.n AV yy2 te te te te) te te)) (@T4.n AV yy2 (@T4.n AV yy2 (@T4.n AV yy2 te te te te) (@T4.n AV yy2 te te te te) (@T4.n AV yy2 te te te te) te) (@T4.n AV yy2 (@T4.n AV yy2 te te te te) (@T4.n AV yy2 te te te te) (@T4.n AV yy2 te te te te) te) (@T4.n AV yy2 (@T4.n AV yy2 te te te te) (@T4.n AV yy2 te te te te) (@T4.n AV yy2 te te te te) te) (@T4.n AV yy2 (@T4.n AV yy2 te te te te) (@T4.n AV yy2 te te te te) te te)) (@T4.n AV yy2 (@T4.n AV yy2 (@T4.n AV yy2 te te te te) (@T4.n AV yy2 te te te te) (@T4.n AV yy2 te te te te) te) (@T4.n AV yy2 (@T4.n AV yy2 te te te te) (@T4.n AV yy2 te te te te) (@T4.n AV yy2 te te te te) te) (@T4.n AV yy2 (@T4.n AV yy2 te te te te) (@T4.n AV yy2 te te te te) te te) (@T4.n AV yy2 (@T4.n AV yy2 te te te te) (@T4.n AV yy2 te te te te) te te))) (@T4.n AV yy2 (@T4.n AV yy2 (@T4.n AV yy2 (@T4.n AV yy2 te te te te) (@T4.n AV yy2 te te te te) (@T4.n AV yy2 te te te te) te) (@T4.n AV yy2 (@T4.n AV yy2 te te te te) (@T4.n AV yy2 te te te te) (@T4.n AV yy2 te te te te) te) (@T4.n AV yy2 (@T4.n AV yy2 te te te te) (@T4.n AV yy2 te te te te) (@T4.n AV yy2 te te te te) te) (@T4.n AV yy2 (@T4.n AV yy2 te te te te) (@T4.n AV yy2 te te te te) te te)) (@T4.n AV yy2 (@T4.n AV yy2 (@T4.n AV yy2 te te te te) (@T4.n AV yy2 te te te te) (@T4.n AV yy2 te te te te) te) (@T4.n AV yy2 (@T4.n AV yy2 te te te te) (@T4.n AV yy2 te te te te) (@T4.n AV yy2 te te te te) te) (@T4.n AV yy2 (@T4.n AV yy2 te te te te) (@T4.n AV yy2 te te te te) (@T4.n AV yy2 te te te te) te) (@T4.n AV yy2 (@T4.n AV yy2 te te te te) (@T4.n AV yy2 te te te te) te te)) (@T4.n AV yy2 (@T4.n AV yy2 (@T4.n AV yy2 te te te te) (@T4.n AV yy2 te te te te) (@T4.n AV yy2 te te te te) te) (@T4.n AV yy2 (@T4.n AV yy2 te te te te) (@T4.n AV yy2 te te te te) (@T4.n AV yy2 te te te te) te) (@T4.n AV yy2 (@T4.n AV yy2 te te te te) (@T4.n AV yy2 te te te te) (@T4.n AV yy2 te te te te) te) (@T4.n AV yy2 (@T4.n AV yy2 te te te te) (@T4.n AV yy2 te te te te) te te)) (@T4.n AV yy2 (@T4.n AV yy2 (@T4.n AV yy2 te te te te) (@T4.n AV yy2 te te te te) (@T4.n AV yy2 te te te te) te) (@T4.n AV yy2 (@T4.n AV yy2 te te te te) (@T4.n AV yy2 te te te te) (@T4.n AV yy2 te te te te) te) (@T4.n AV yy2 (@T4.n AV yy2 te te te te) (@T4.n AV yy2 te te te te) te te) (@T4.n AV yy2 (@T4.n AV yy2 te te te te) (@T4.n AV yy2 te te te te) te te))) (@T4.n AV yy2 (@T4.n AV yy2 (@T4.n AV yy2 (@T4.n AV yy2 te te te te) (@T4.n AV yy2 te te te te) (@T4.n AV yy2 te te te te) te) (@T4.n AV yy2 (@T4.n AV yy2 te te te te) (@T4.n AV yy2 te te te te) (@T4.n AV yy2 te te te te) te) (@T4.n AV yy2 (@T4.n AV yy2 te te te te) (@T4.n AV yy2 te te te te) (@T4.n AV yy2 te te te te) te) (@T4.n AV yy2 (@T4.n AV yy2 te te te te) (@T4.n AV yy2 te te te te) te te)) (@T4.n AV yy2 (@T4.n AV yy2 (@T4.n AV yy2 te te te te) (@T4.n AV yy2 te te te te) (@T4.n AV yy2 te te te te) te) (@T4.n AV yy2 (@T4.n AV yy2 te te te te) (@T4.n AV yy2 te te te te) (@T4.n AV yy2 te te te te) te) (@T4.n AV yy2 (@T4.n AV yy2 te te te te) (@T4.n AV yy2 te te te te) (@T4.n AV yy2 te te te te) te) (@T4.n AV yy2 (@T4.n AV yy2 te te te te) (@T4.n AV yy2 te te te te) te te)) (@T4.n AV yy2 (@T4.n AV yy2 (@T4.n AV yy2 te te te te) (@T4.n AV yy2 te te te te) (@T4.n AV yy2 te te te te) te) (@T4.n AV yy2 (@T4.n AV yy2 te te te te) (@T4.n AV yy2 te te te te) (@T4.n AV yy2 te te te te) te) (@T4.n AV yy2 (@T4.n AV yy2 te te te te) (@T4.n AV yy2 te te te te) (@T4.n AV yy2 te te te te) te) (@T4.n AV yy2 (@T4.n AV yy2 te te te te) (@T4.n AV yy2 te te te te) te te)) (@T4.n AV yy2 (@T4.n AV yy2 (@T4.n AV yy2 te te te te) (@T4.n AV yy2 te te te te) (@T4.n AV yy2 te te te te) te) (@T4.n AV yy2 (@T4.n AV yy2 te te te te) (@T4.n AV yy2 te te te te) (@T4.n AV yy2 te te te te) te) (@T4.n AV yy2 (@T4.n AV yy2 te te te te) (@T4.n AV yy2 te te te te) te te) (@T4.n AV yy2 (@T4.n AV yy2 te te te te) (@T4.n AV yy2 te te te te) te te))) (@T4.n AV yy2 (@T4.n AV yy2 (@T4.n AV yy2 (@T4.n AV yy2 te te te te) (@T4.n AV yy2 te te te te) (@T4.n AV yy2 te te te te) te) (@T4.n AV yy2 (@T4.n AV yy2 te te te te) (@T4.n AV yy2 te te te te) (@T4.n AV yy2 te te te te) te) (@T4.n AV yy2 (@T4.n AV yy2 te te te te) (@T4.n AV yy2 te te te te) (@T4.n AV yy2 te te te te) te) (@T4.n AV yy2 (@T4.n AV yy2 te te te te) (@T4.n AV yy2 te te te te) te te)) (@T4.n AV yy2 (@T4.n AV yy2 (@T4.n AV yy2 te te te te) (@T4.n AV yy2 te te te te) (@T4.n AV yy2 te te te te) te) (@T4.n AV yy2 (@T4.n AV yy2 te te te te) (@T4.n AV yy2 te te te te) (@T4.n AV yy2 te te te te) te) (@T4.n AV yy2 (@T4.n AV yy2 te te te te) (@T4.n AV yy2 te te te te) (@T4.n AV yy2 te te te te) te) (@T4.n AV yy2 (@T4.n AV yy2 te te te te) (@T4.n AV yy2 te te te te) te te)) (@T4.n AV yy2 (@T4.n AV yy2 (@T4.n AV yy2 te te te te) (@T4.n AV yy2 te te te te) (@T4.n AV yy2 te te te te) te) (@T4.n AV yy2 (@T4.n AV yy2 te te te te) (@T4.n AV yy2 te te te te) (@T4.n AV yy2 te te te te) te) (@T4.n AV yy2 (@T4.n AV yy2 te te te te) (@T4.n AV yy2 te te te te) te te) (@T4.n AV yy2 (@T4.n AV yy2 te te te te) (@T4.n AV yy2 te te te te) te te)) (@T4.n AV yy2 (@T4.n AV yy2 (@T4.n AV yy2 te te te te) (@T4.n AV yy2 te te te te) (@T4.n AV yy2 te te te te) te) (@T4.n AV yy2 (@T4.n AV yy2 te te te te) (@T4.n AV yy2 te te te te) (@T4.n AV yy2 te te te te) te) (@T4.n AV yy2 (@T4.n AV yy2 te te te te) (@T4.n AV yy2 te te te te) te te) (@T4.n AV yy2 (@T4.n AV yy2 te te te te) (@T4.n AV yy2 te te te te) te te))))
def g57x1 := br t1 (rng n1 (leni x1) <| getI (itn n1) x1 fun n2 => asI n2 fun n3 => frcB (ile ii128 n3) fun t2 => br t2 (rdR H1 b1 nn0 nn256 fun l1 => must (Nat.beq (llen l1) nn256) <| wrL H1 b1 nn0 l1 fun H2 => rdR H2 b1 nn0 nn256 fun l2 => Kb1 (DV.c (DV.a l2) (DV.c (DV.v (AV.b false)) DV.n)) H2) (rng n3 nn256 <| wrK H1 b1 (Nat.add nn0 (itn n3)) (AV.b true) fun H2 => wrp .i64 (iadd n1 ii1) fun n4 => Kb2 (DV.v (AV.i .i64 n4)) H2)) (rdR H1 b1 nn0 nn256 fun l1 => must (Nat.beq (llen l1) nn256) <| wrL H1 b1 nn0 l1 fun H2 => rdR H2 b1 nn0 nn256 fun l2 => Kb1 (DV.c (DV.a l2) (DV.c (DV.v (AV.b true)) DV.n)) H2)
/-- strings.makeASCIISet -/
def g57 : G DV := fun R1 H1 Kb1 => lc R1 fun d1 R2 => onV d1 fun v1 => isG v1 fun x1 => ln R2 <| alB H1 z4 nn256 nn0 fun b1 H2 => lpR (failF [(4 , .int .i64)]) (fun Kb2 => fun d2 H3 => onV d2 fun v2 => isI .i64 v2 fun n1 => asI (Int.ofNat (leni x1)) fun n2 => frcB (ilt n1 n2) fun t1 => g57x1 n1 t1 b1 H3 x1 Kb1 Kb2) (nat_lit 100000) (DV.v (AV.i .i64 ii0)) H2
def G57 : G DV := g57

/-- (*strings.asciiSet).contains -/
def g110 : G DV := fun R1 H1 Kb1 => lc R1 fun d1 R2 => onV d1 fun v1 => isP v1 fun p1 => lc R2 fun d2 R3 => onV d2 fun v2 => isI .u8 v2 fun n1 => ln R3 <| onA p1 fun b1 m1 => rng n1 nn256 <| rdK H1 b1 (Nat.add m1 (itn n1)) fun v3 => isB v3 fun t1 => Kb1 (DV.v (AV.b t1)) H1
def G110 : G DV := g110

def g58x1 := asI (Int.ofNat (leni x1)) fun n1 => frcB (ilt ii0 n1) fun t1 => br t1 (rng ii0 (leni x1) <| getI nn0 x1 fun n2 => asI n2 fun n3 => c1 [(DV.v (AV.p p1)), (DV.v (AV.i .u8 n3))] H1 fun d1 H2 => onV d1 fun v1 => isB v1 fun t2 => frcB (bnot t2) fun t3 => br t3 (Kb1 (DV.v (AV.g x1)) H2) (must (Nat.ble nn1 (leni x1)) <| must (Nat.ble (leni x1) (leni x1)) <| takeI (Nat.sub (leni x1) nn1) (dropI nn1 x1) fun x2 => Kb2 (DV.v (AV.g x2)) H2)) (Kb1 (DV.v (AV.g x1)) H1)
/-- strings.trimLeftASCII -/
def g58 : G DV := fun R1 H1 Kb1 => lc R1 fun d1 R2 => onV d1 fun v1 => isG v1 fun x1 => lc R2 fun d2 R3 => onV d2 fun v2 => isP v2 fun p1 => ln R3 <| jF [(0 , .str)] (fun d3 H2 => onV d3 fun v3 => isG v3 fun x2 => Kb1 (DV.v (AV.g x2)) H2) fun Kb2 => lpR (failF [(0 , .str)]) (fun Kb3 => fun d3 H2 => onV d3 fun v3 => isG v3 fun x2 => g58x1 p1 H2 x2 c1 Kb2 Kb3) (nat_lit 100000) (DV.v (AV.g x1)) H1
def G58 : G DV := g58 G110

def g59x1 := wrp .i64 (isub n1 ii1) fun n2 => rng n2 (leni x1) <| getI (itn n2) x1 fun n3 => asI n3 fun n4 => c1 [(DV.v (AV.p p1)), (DV.v (AV.i .u8 n4))] H1 fun d1 H2 => onV d1 fun v1 => isB v1 fun t1 => frcB (bnot t1) fun t2 => br t2 (Kb1 (DV.v (AV.g x1)) H2) (asI (Int.ofNat (leni x1)) fun n5 => wrp .i64 (isub n5 ii1) fun n6 => natK n6 fun m1 => must (Nat.ble nn0 m1) <| must (Nat.ble m1 (leni x1)) <| takeI (Nat.sub m1 nn0) (dropI nn0 x1) fun x2 => Kb2 (DV.v (AV.g x2)) H2)
def g59x2 := lc R1 fun d1 R2 => onV d1 fun v1 => isP v1 fun p1 => ln R2 <| jF [(0 , .str)] (fun d2 H2 => onV d2 fun v2 => isG v2 fun x2 => Kb1 (DV.v (AV.g x2)) H2) fun Kb2 => lpR (failF [(0 , .str)]) (fun Kb3 => fun d2 H2 => onV d2 fun v2 => isG v2 fun x2 => asI (Int.ofNat (leni x2)) fun n1 => frcB (ilt ii0 n1) fun t1 => br t1 (asI (Int.ofNat (leni x2)) fun n2 => g59x1 n2 p1 H2 x2 c1 Kb2 Kb3) (Kb2 (DV.v (AV.g x2)) H2)) (nat_lit 100000) (DV.v (AV.g x1)) H1
/-- strings.trimRightASCII -/
def g59 : G DV := fun R1 H1 Kb1 => lc R1 fun d1 R2 => onV d1 fun v1 => isG v1 fun x1 => g59x2 R2 H1 x1 c1 Kb1
def G59 : G DV := g59 G110

def g29x1 := onC d1 fun d2 d3 => onL d2 fun l1 => onC d3 fun d4 d5 => onV d4 fun v1 => isB v1 fun t1 => onN d5 <| alB H1 z4 nn256 nn0 fun b1 H2 => must (Nat.beq (llen l1) nn256) <| wrL H2 b1 nn0 l1 fun H3 => br t1 (c1 [(DV.v (AV.g x1)), (DV.v (AV.p (AP.at b1 nn0)))] H3 fun d6 H4 => onV d6 fun v2 => isG v2 fun x2 => c2 [(DV.v (AV.g x2)), (DV.v (AV.p (AP.at b1 nn0)))] H4 fun d7 H5 => onV d7 fun v3 => isG v3 fun x3 => Kb1 (DV.v (AV.g x3)) H5) (none)
def g29x2 := jn (fun d2 H2 => jn (fun d3 H3 => pickK t1 d3 (DV.v (AV.b false)) fun d4 => onV d4 fun v1 => isB v1 fun t2 => br t2 (rng ii0 (leni x1) <| getI nn0 x1 fun n1 => asI n1 fun n2 => rng ii0 (leni x1) <| getI nn0 x1 fun n3 => asI n3 fun n4 => none) (c1 [(DV.v (AV.g x1))] H3 fun d5 H4 => g29x1 d5 H4 x2 c2 c3 Kb1)) fun Kb2 => br t1 (onV d2 fun v1 => isI .u8 v1 fun n1 => frcB (ilt n1 ii128) fun t2 => Kb2 (DV.v (AV.b t2)) H2) (Kb2 DV.n H2)) fun Kb2 => br t1 (onV d1 fun v1 => isG v1 fun x3 => rng ii0 (leni x3) <| getI nn0 x3 fun n1 => asI n1 fun n2 => Kb2 (DV.v (AV.i .u8 n2)) H1) (Kb2 DV.n H1)
def g29x3 := jn (fun d1 H2 => jn (fun d2 H3 => pickK t1 (DV.v (AV.b true)) d2 fun d3 => onV d3 fun v1 => isB v1 fun t2 => br t2 (Kb1 (DV.v (AV.g x1)) H3) (asI (Int.ofNat (leni x2)) fun n1 => frcB (ieq n1 ii1) fun t3 => jn (fun d4 H4 => g29x2 d4 t3 H4 x2 x1 c1 c2 c3 Kb1) fun Kb2 => br t3 (Kb2 (DV.v (AV.g x2)) H3) (Kb2 DV.n H3))) fun Kb2 => br t1 (Kb2 DV.n H2) (onV d1 fun v1 => isG v1 fun x3 => frcB (leqI x3 List.nil) fun t2 => Kb2 (DV.v (AV.b t2)) H2)) fun Kb2 => br t1 (Kb2 DV.n H1) (Kb2 (DV.v (AV.g x2)) H1)
/-- strings.Trim -/
def g29 : G DV := fun R1 H1 Kb1 => lc R1 fun d1 R2 => onV d1 fun v1 => isG v1 fun x1 => lc R2 fun d2 R3 => onV d2 fun v2 => isG v2 fun x2 => ln R3 <| frcB (leqI x1 List.nil) fun t1 => g29x3 t1 H1 x1 x2 c1 c3 c2 Kb1
def G29 : G DV := g29 G57 G58 G59

def g62x1 := br t1 (ixA s1 n1 (fun x => x) fun b1 m1 => rdK H1 b1 m1 fun v1 => isI .u8 v1 fun n3 => wrp .u8 (isub n3 ii48) fun n4 => frcB (ilt ii9 n4) fun t2 => br t2 (Kb1 (DV.c (DV.v (AV.i .i64 ii0)) (DV.c (DV.v (AV.ifc (nat_lit 237) (AV.i .i64 ii2))) DV.n)) H1) (wrp .i64 (imul n2 ii10) fun n5 => wrp .i64 n4 fun n6 => wrp .i64 (iadd n5 n6) fun n7 => wrp .i64 (iadd n1 ii1) fun n8 => Kc1 (DV.v (AV.i .i64 n7)) (DV.v (AV.i .i64 n8)) H1)) (jF [(6 , .int .i64)] (fun d1 H2 => onV d1 fun v1 => isI .i64 v1 fun n3 => Kb1 (DV.c (DV.v (AV.i .i64 n3)) (DV.c (DV.v AV.ni) DV.n)) H2) fun Kb2 => rng ii0 (leni x1) <| getI nn0 x1 fun n3 => asI n3 fun n4 => frcB (ieq n4 ii45) fun t2 => br t2 (wrp .i64 (isub ii0 n2) fun n5 => Kb2 (DV.v (AV.i .i64 n5)) H1) (Kb2 (DV.v (AV.i .i64 n2)) H1))
def g62x2 := jn (fun d2 H2 => pickK t1 (DV.v (AV.b true)) d2 fun d3 => onV d3 fun v1 => isB v1 fun t2 => br t2 (must (Nat.ble nn1 (leni x1)) <| must (Nat.ble (leni x1) (leni x1)) <| takeI (Nat.sub (leni x1) nn1) (dropI nn1 x1) fun x2 => asI (Int.ofNat (leni x2)) fun n1 => frcB (ilt n1 ii1) fun t3 => br t3 (Kb1 (DV.c (DV.v (AV.i .i64 ii0)) (DV.c (DV.v (AV.ifc (nat_lit 237) (AV.i .i64 ii2))) DV.n)) H2) (Kb2 (DV.v (AV.g x2)) H2)) (Kb2 (DV.v (AV.g x1)) H2)) fun Kb3 => br t1 (Kb3 DV.n H1) (onV d1 fun v1 => isI .u8 v1 fun n1 => frcB (ieq n1 ii43) fun t2 => Kb3 (DV.v (AV.b t2)) H1)
def g62x3 := jF [(0 , .str)] (fun d1 H2 => onV d1 fun v1 => isG v1 fun x2 => mkU (nat_lit 1) H2 (byteA x2) (leni x2) fun s1 H3 => lenA s1 fun m1 => lpR (failF [(6 , .int .i64), (49 , .int .i64)]) (fun Kc1 => fun d2 d3 H4 => onV d2 fun v2 => isI .i64 v2 fun n1 => onV d3 fun v3 => isI .i64 v3 fun n2 => frcB (ilt n2 (Int.ofNat m1)) fun t1 => g62x1 n2 n1 t1 s1 H4 x1 Kb1 Kc1) (nat_lit 100000) (DV.v (AV.i .i64 ii0)) (DV.v (AV.i .i64 ii0)) H3) fun Kb2 => rng ii0 (leni x1) <| getI nn0 x1 fun n1 => asI n1 fun n2 => frcB (ieq n2 ii45) fun t1 => jn (fun d1 H2 => jn (fun d2 H3 => g62x2 d2 t1 H3 x1 Kb1 Kb2) fun Kb3 => br t1 (Kb3 DV.n H2) (onV d1 fun v1 => isG v1 fun x2 => rng ii0 (leni x2) <| getI nn0 x2 fun n3 => asI n3 fun n4 => Kb3 (DV.v (AV.i .u8 n4)) H2)) fun Kb3 => br t1 (Kb3 DV.n H1) (Kb3 (DV.v (AV.g x1)) H1)
def g62x4 := jn (fun d4 H2 => jn (fun d5 H3 => jn (fun d6 H4 => onV d6 fun v1 => isB v1 fun t1 => br t1 (g62x3 H4 x1 Kb1) (none)) fun Kb2 => onV d1 fun v1 => isB v1 fun t1 => pickK t1 d5 (DV.v (AV.b false)) fun d6 => onV d6 fun v2 => isB v2 fun t2 => Kb2 (DV.v (AV.b t2)) H3) fun Kb2 => grd d1 true (onV d2 fun v1 => isB v1 fun t1 => pickK t1 d4 (DV.v (AV.b false)) fun d5 => onV d5 fun v2 => isB v2 fun t2 => Kb2 (DV.v (AV.b t2)) H2) (Kb2 DV.n H2)) fun Kb2 => grd d2 true (onV d3 fun v1 => isI .i64 v1 fun n1 => frcB (ilt n1 ii19) fun t1 => Kb2 (DV.v (AV.b t1)) H1) (Kb2 DV.n H1)
def g62x5 := jn (fun d1 H2 => jn (fun d2 H3 => jn (fun d3 H4 => jn (fun d4 H5 => jn (fun d5 H6 => g62x4 d1 d4 d5 H6 x1 Kb1) fun Kb2 => grd d4 true (Kb2 (DV.v (AV.i .i64 n1)) H5) (Kb2 DV.n H5)) fun Kb2 => grd d1 true (Kb2 d3 H4) (Kb2 DV.n H4)) fun Kb2 => grd d1 true (onV d2 fun v1 => isI .i64 v1 fun n2 => frcB (ilt ii0 n2) fun t1 => Kb2 (DV.v (AV.b t1)) H3) (Kb2 DV.n H3)) fun Kb2 => grd d1 true (Kb2 (DV.v (AV.i .i64 n1)) H2) (Kb2 DV.n H2)) fun Kb2 => Kb2 (DV.v (AV.b true)) H1
def g62x6 := asI (Int.ofNat (leni x1)) fun n1 => jn (fun d1 H2 => jn (fun d2 H3 => jn (fun d3 H4 => jn (fun d4 H5 => jn (fun d5 H6 => jn (fun d6 H7 => g62x5 n1 H7 x1 Kb1) fun Kb2 => Kb2 DV.n H6) fun Kb2 => grd d3 true (onV d4 fun v1 => isI .i64 v1 fun n2 => frcB (ilt n2 ii10) fun t1 => Kb2 (DV.v (AV.b t1)) H5) (Kb2 DV.n H5)) fun Kb2 => grd d3 true (Kb2 (DV.v (AV.i .i64 n1)) H4) (Kb2 DV.n H4)) fun Kb2 => Kb2 DV.n H3) fun Kb2 => Kb2 DV.n H2) fun Kb2 => Kb2 DV.n H1
/-- internal/strconv.Atoi -/
def g62 : G DV := fun R1 H1 Kb1 => lc R1 fun d1 R2 => onV d1 fun v1 => isG v1 fun x1 => ln R2 <| g62x6 H1 x1 Kb1
def G62 : G DV := g62

/-- strconv.Atoi -/
def g30 : G DV := fun R1 H1 Kb1 => lc R1 fun d1 R2 => onV d1 fun v1 => isG v1 fun x1 => ln R2 <| c1 [(DV.v (AV.g x1))] H1 fun d2 H2 => onC d2 fun d3 d4 => onV d3 fun v2 => isI .i64 v2 fun n1 => onC d4 fun d5 d6 => onV d5 fun v3 => onN d6 <| ifA true true v3 AV.ni fun t1 => frcB (bnot t1) fun t2 => br t2 (none) (Kb1 (DV.c (DV.v (AV.i .i64 n1)) (DV.c (DV.v AV.ni) DV.n)) H2)
def G30 : G DV := g30 G62

def g17x1 := jn (fun d2 H2 => pickK t1 (DV.v (AV.b true)) d2 fun d3 => onV d3 fun v1 => isB v1 fun t2 => br t2 (Kb1 (DV.c (DV.v (AV.i .i64 ii0)) (DV.c (DV.v (AV.b false)) DV.n)) H2) (c1 [(DV.v (AV.g x1))] H2 fun d4 H3 => onC d4 fun d5 d6 => onV d5 fun v2 => isI .i64 v2 fun n1 => onC d6 fun d7 d8 => onV d7 fun v3 => onN d8 <| ifA false true v3 AV.ni fun t3 => Kb1 (DV.c (DV.v (AV.i .i64 n1)) (DV.c (DV.v (AV.b t3)) DV.n)) H3)) fun Kb2 => br t1 (Kb2 DV.n H1) (onV d1 fun v1 => isG v1 fun x2 => frcB (bnot (leqI x2 List.nil)) fun t2 => Kb2 (DV.v (AV.b t2)) H1)
def g17x2 := jn (fun d3 H2 => pickK t1 (DV.v (AV.b true)) d3 fun d4 => onV d4 fun v1 => isB v1 fun t2 => jn (fun d5 H3 => jn (fun d6 H4 => g17x1 d6 t2 H4 x1 c1 Kb1) fun Kb2 => br t2 (Kb2 DV.n H3) (c2 [d5, (DV.v (AV.g ss12))] H3 fun d6 H4 => onV d6 fun v2 => isG v2 fun x2 => Kb2 (DV.v (AV.g x2)) H4)) fun Kb2 => br t2 (Kb2 DV.n H2) (Kb2 (DV.v (AV.g x1)) H2)) fun Kb2 => br t1 (Kb2 DV.n H1) (onV d1 fun v1 => isB v1 fun t2 => pickK t2 d2 (DV.v (AV.b false)) fun d3 => onV d3 fun v2 => isB v2 fun t3 => Kb2 (DV.v (AV.b t3)) H1)
def g17x3 := jn (fun d2 H2 => jn (fun d3 H3 => jn (fun d4 H4 => g17x2 d1 d4 t1 H4 x1 c1 c2 Kb1) fun Kb2 => grd d1 true (onV d3 fun v1 => isI .u8 v1 fun n1 => frcB (ieq n1 ii48) fun t2 => Kb2 (DV.v (AV.b t2)) H3) (Kb2 DV.n H3)) fun Kb2 => grd d1 true (onV d2 fun v1 => isG v1 fun x2 => rng ii0 (leni x2) <| getI nn0 x2 fun n1 => asI n1 fun n2 => Kb2 (DV.v (AV.i .u8 n2)) H2) (Kb2 DV.n H2)) fun Kb2 => grd d1 true (Kb2 (DV.v (AV.g x1)) H1) (Kb2 DV.n H1)
def g17x4 := jn (fun d1 H2 => jn (fun d2 H3 => jn (fun d3 H4 => jn (fun d4 H5 => g17x3 d4 t1 H5 x1 c1 c2 Kb1) fun Kb2 => br t1 (Kb2 DV.n H4) (Kb2 d3 H4)) fun Kb2 => br t1 (Kb2 DV.n H3) (onV d2 fun v1 => isI .i64 v1 fun n1 => frcB (ilt ii1 n1) fun t2 => Kb2 (DV.v (AV.b t2)) H3)) fun Kb2 => br t1 (Kb2 DV.n H2) (onV d1 fun v1 => isG v1 fun x2 => asI (Int.ofNat (leni x2)) fun n1 => Kb2 (DV.v (AV.i .i64 n1)) H2)) fun Kb2 => br t1 (Kb2 DV.n H1) (Kb2 (DV.v (AV.g x1)) H1)
def g17x5 := jn (fun d1 H2 => jn (fun d2 H3 => jn (fun d3 H4 => pickK t1 (DV.v (AV.b true)) d3 fun d4 => onV d4 fun v1 => isB v1 fun t2 => g17x4 t2 H4 x1 c1 c2 Kb1) fun Kb2 => br t1 (Kb2 DV.n H3) (onV d2 fun v1 => isI .i64 v1 fun n1 => frcB (ilt ii9 n1) fun t2 => Kb2 (DV.v (AV.b t2)) H3)) fun Kb2 => br t1 (Kb2 DV.n H2) (onV d1 fun v1 => isG v1 fun x2 => asI (Int.ofNat (leni x2)) fun n1 => Kb2 (DV.v (AV.i .i64 n1)) H2)) fun Kb2 => br t1 (Kb2 DV.n H1) (Kb2 (DV.v (AV.g x1)) H1)
/-- desk.number -/
def g17 : G DV := fun R1 H1 Kb1 => lc R1 fun d1 R2 => onV d1 fun v1 => isG v1 fun x1 => ln R2 <| asI (Int.ofNat (leni x1)) fun n1 => frcB (ilt n1 ii1) fun t1 => g17x5 t1 H1 x1 c2 c1 Kb1
def G17 : G DV := g17 G29 G30

def g196x1 := br t1 (Kb1 (DV.c (DV.v (AV.i .i64 ii7)) (DV.c (DV.v (AV.i .i64 ii4)) (DV.c (DV.v (AV.i .i64 ii1)) DV.n))) H1) (frcB (ieq n1 ii3) fun t2 => br t2 (Kb1 (DV.c (DV.v (AV.i .i64 ii9)) (DV.c (DV.v (AV.i .i64 ii8)) (DV.c (DV.v (AV.i .i64 ii1)) DV.n))) H1) (frcB (ieq n1 ii4) fun t3 => br t3 (Kb1 (DV.c (DV.v (AV.i .i64 ii11)) (DV.c (DV.v (AV.i .i64 ii8)) (DV.c (DV.v (AV.i .i64 ii2)) DV.n))) H1) (Kb1 (DV.c (DV.v (AV.i .i64 im1)) (DV.c (DV.v (AV.i .i64 ii0)) (DV.c (DV.v (AV.i .i64 im1)) DV.n))) H1)))
/-- rate.tops -/
def g196 : G DV := fun R1 H1 Kb1 => lc R1 fun d1 R2 => onV d1 fun v1 => isI .i64 v1 fun n1 => ln R2 <| frcB (ieq n1 ii1) fun t1 => br t1 (Kb1 (DV.c (DV.v (AV.i .i64 ii7)) (DV.c (DV.v (AV.i .i64 ii1)) (DV.c (DV.v (AV.i .i64 ii0)) DV.n))) H1) (frcB (ieq n1 ii2) fun t2 => g196x1 n1 t2 H1 Kb1)
def G196 : G DV := g196

def g276x1 := lenA s1 fun m1 => lpR (failF [(8 , .int .i64)]) (fun Kb2 => fun d1 H2 => onV d1 fun v1 => isI .i64 v1 fun n2 => frcB (ilt n2 (Int.ofNat m1)) fun t1 => br t1 (ixA s1 n2 (fun x => x) fun b1 m2 => rdK H2 b1 m2 fun v2 => isI .i64 v2 fun n3 => frcB (ieq n1 n3) fun t2 => br t2 (Kb1 (DV.v (AV.i .i64 n2)) H2) (wrp .i64 (iadd n2 ii1) fun n4 => Kb2 (DV.v (AV.i .i64 n4)) H2)) (Kb1 (DV.v (AV.i .i64 im1)) H2)) (nat_lit 100000) (DV.v (AV.i .i64 ii0)) H1
/-- slices.Index[[]int,int] -/
def g276 : G DV := fun R1 H1 Kb1 => lc R1 fun d1 R2 => onV d1 fun v1 => isS v1 fun s1 => lc R2 fun d2 R3 => onV d2 fun v2 => isI .i64 v2 fun n1 => ln R3 <| g276x1 n1 s1 H1 Kb1
def G276 : G DV := g276

/-- slices.Contains[[]int,int] -/
def g197 : G DV := fun R1 H1 Kb1 => lc R1 fun d1 R2 => onV d1 fun v1 => isS v1 fun s1 => lc R2 fun d2 R3 => onV d2 fun v2 => isI .i64 v2 fun n1 => ln R3 <| c1 [(DV.v (AV.s s1)), (DV.v (AV.i .i64 n1))] H1 fun d3 H2 => onV d3 fun v3 => isI .i64 v3 fun n2 => frcB (ile ii0 n2) fun t1 => Kb1 (DV.v (AV.b t1)) H2
def G197 : G DV := g197 G276

def z5 : T4 AV := (@T4.n AV yy7 (@T4.n AV yy8 te te te te) (@T4.n AV yy9 te te te te) (@T4.n AV yy10 te te te te) te)
def g198x1 := br t1 (alB H1 (@T4.n AV yy7 (@T4.n AV yy8 te te te te) te te te) nn2 nn0 fun b1 H2 => Kb1 (DV.v (AV.s (AS.sl b1 nn0 nn2 nn2))) H2) (jF [(10 , .bool)] (fun d1 H2 => onV d1 fun v1 => isB v1 fun t2 => br t2 (alB H2 z5 nn4 nn0 fun b1 H3 => Kb1 (DV.v (AV.s (AS.sl b1 nn0 nn4 nn4))) H3) (Kb1 (DV.v (AV.s AS.nil)) H2)) fun Kb2 => frcB (ieq n1 ii3) fun t2 => br t2 (Kb2 (DV.v (AV.b t2)) H1) (frcB (ieq n1 ii4) fun t3 => Kb2 (DV.v (AV.b t3)) H1))
/-- rate.widths -/
def g198 : G DV := fun R1 H1 Kb1 => lc R1 fun d1 R2 => onV d1 fun v1 => isI .i64 v1 fun n1 => ln R2 <| frcB (ieq n1 ii1) fun t1 => br t1 (alB H1 (@T4.n AV yy7 te te te te) nn1 nn0 fun b1 H2 => Kb1 (DV.v (AV.s (AS.sl b1 nn0 nn1 nn1))) H2) (frcB (ieq n1 ii2) fun t2 => g198x1 n1 t2 H1 Kb1)
def G198 : G DV := g198

def g127x1 := must (aveq (AV.i .i64 n1) v1) <| c1 [(DV.v (AV.s s1)), (DV.v (AV.i .i64 n2))] H1 fun d1 H2 => onV d1 fun v2 => isB v2 fun t1 => rdK H2 b1 nn4 fun v3 => must (aveq (AV.i .i64 n3) v3) <| rdK H2 b1 nn2 fun v4 => must (aveq (AV.i .i64 n4) v4) <| rdK H2 b1 nn2 fun v5 => must (aveq (AV.i .i64 n5) v5) <| rdK H2 b1 nn1 fun v6 => must (aveq (AV.i .i64 n6) v6) <| rdK H2 b1 nn1 fun v7 => must (aveq (AV.i .i64 n1) v7) <| Kb1 (DV.v (AV.b t1)) H2
def g127x2 := c1 [(DV.v (AV.i .i64 n1))] H1 fun d1 H2 => onV d1 fun v1 => isS v1 fun s1 => rdK H2 b1 nn3 fun v2 => must (aveq (AV.i .i64 n2) v2) <| rdK H2 b1 nn4 fun v3 => must (aveq (AV.i .i64 n3) v3) <| rdK H2 b1 nn2 fun v4 => must (aveq (AV.i .i64 n4) v4) <| rdK H2 b1 nn2 fun v5 => must (aveq (AV.i .i64 n5) v5) <| rdK H2 b1 nn1 fun v6 => must (aveq (AV.i .i64 n6) v6) <| rdK H2 b1 nn1 fun v7 => g127x1 v7 n7 n2 n3 n4 n5 n6 b1 s1 H2 c2 Kb1
def g127x3 := frcB (ile n1 n2) fun t1 => br t1 (rdK H1 b1 nn4 fun v1 => isI .i64 v1 fun n7 => frcB (ile ii0 n7) fun t2 => br t2 (rdK H1 b1 nn4 fun v2 => isI .i64 v2 fun n8 => frcB (ile n8 n3) fun t3 => br t3 (rdK H1 b1 nn0 fun v3 => isI .i64 v3 fun n9 => rdK H1 b1 nn3 fun v4 => isI .i64 v4 fun n10 => g127x2 n9 n10 n7 n1 n4 n5 n6 b1 H1 c1 c2 Kb1) (Kb1 (DV.v (AV.b false)) H1)) (Kb1 (DV.v (AV.b false)) H1)) (Kb1 (DV.v (AV.b false)) H1)
def g127x4 := rdK H1 b1 nn1 fun v1 => isI .i64 v1 fun n4 => frcB (ile ii0 n4) fun t1 => br t1 (rdK H1 b1 nn1 fun v2 => isI .i64 v2 fun n5 => frcB (ile n5 n1) fun t2 => br t2 (rdK H1 b1 nn2 fun v3 => isI .i64 v3 fun n6 => frcB (ile ii1 n6) fun t3 => br t3 (rdK H1 b1 nn2 fun v4 => isI .i64 v4 fun n7 => g127x3 n7 n2 n3 n6 n5 n4 b1 H1 c1 c2 Kb1) (Kb1 (DV.v (AV.b false)) H1)) (Kb1 (DV.v (AV.b false)) H1)) (Kb1 (DV.v (AV.b false)) H1)
/-- rate.Valid -/
def g127 : G DV := fun R1 H1 Kb1 => lc R1 fun d1 R2 => ln R2 <| cellsD d1 fun l1 => alK H1 l1 fun b1 H2 => rdK H2 b1 nn0 fun v1 => isI .i64 v1 fun n1 => c1 [(DV.v (AV.i .i64 n1))] H2 fun d2 H3 => onC d2 fun d3 d4 => onV d3 fun v2 => isI .i64 v2 fun n2 => onC d4 fun d5 d6 => onV d5 fun v3 => isI .i64 v3 fun n3 => onC d6 fun d7 d8 => onV d7 fun v4 => isI .i64 v4 fun n4 => onN d8 <| g127x4 n2 n3 n4 b1 H3 c3 c2 Kb1
def G127 : G DV := pure1 (g127 G196 G197 G198)

def z6 : T4 AV := (@T4.n AV yy2 (@T4.n AV yy6 (@T4.n AV yy6 te te te te) te te te) (@T4.n AV yy6 (@T4.n AV yy6 te te te te) te te te) (@T4.n AV yy6 (@T4.n AV yy0 te te te te) te te te) (@T4.n AV yy6 te te te te))
def g160x1 := jn (fun d3 H2 => pickK t1 d3 (DV.v (AV.b false)) fun d4 => onV d4 fun v1 => isB v1 fun t2 => br t2 (wrp .i64 (iadd n1 ii1) fun n2 => Kb1 (DV.c (DV.v (AV.i .i64 n2)) (DV.c (DV.v (AV.b true)) DV.n)) H2) (wrp .i64 (iadd n1 ii1) fun n2 => Kb2 (DV.v (AV.i .i64 n2)) H2)) fun Kb3 => br t1 (onL d1 fun l1 => onL d2 fun l2 => intsK .u8 l1 fun x1 => intsK .u8 l2 fun x2 => must (Nat.beq (leni x1) nn6) <| must (Nat.beq (leni x2) nn6) <| frcB (leqI x1 x2) fun t2 => Kb3 (DV.v (AV.b t2)) H1) (Kb3 DV.n H1)
def g160x2 := wrL H1 b1 nn0 (ltake (nat_lit 8) (ldrop (Nat.mul (itn n1) nn8) l1)) fun H2 => rdK H2 b1 nn0 fun v1 => isB v1 fun t1 => jn (fun d1 H3 => jn (fun d2 H4 => jn (fun d3 H5 => g160x1 d2 d3 n1 t1 H5 Kb1 Kb2) fun Kb3 => br t1 (rdR H4 b2 nn0 nn6 fun l2 => Kb3 (DV.a l2) H4) (Kb3 DV.n H4)) fun Kb3 => br t1 (onV d1 fun v2 => isP v2 fun p1 => onA p1 fun b3 m1 => rdR H3 b3 m1 nn6 fun l2 => Kb3 (DV.a l2) H3) (Kb3 DV.n H3)) fun Kb3 => br t1 (Kb3 (DV.v (AV.p (AP.at b1 nn1))) H2) (Kb3 DV.n H2)
def g160x3 := onA p1 fun b2 m1 => rdR H1 b2 m1 nn128 fun l1 => lpR (failF [(12 , .int .i64)]) (fun Kb2 => fun d1 H2 => onV d1 fun v1 => isI .i64 v1 fun n1 => frcB (ilt n1 ii16) fun t1 => br t1 (rng n1 nn16 <| alB H2 z6 nn8 nn0 fun b3 H3 => must (Nat.beq (llen (ltake (nat_lit 8) (ldrop (Nat.mul (itn n1) nn8) l1))) nn8) <| g160x2 l1 n1 b3 b1 H3 Kb1 Kb2) (Kb1 (DV.c (DV.v (AV.i .i64 ii0)) (DV.c (DV.v (AV.b false)) DV.n)) H2)) (nat_lit 100000) (DV.v (AV.i .i64 ii0)) H1
/-- (*sta.Table).Find -/
def g160 : G DV := fun R1 H1 Kb1 => lc R1 fun d1 R2 => onV d1 fun v1 => isP v1 fun p1 => lc R2 fun d2 R3 => ln R3 <| cellsD d2 fun l1 => alK H1 l1 fun b1 H2 => g160x3 p1 b1 H2 Kb1
def G160 : G DV := g160

def g128x1 := rdR H1 b1 nn0 nn6 fun l2 => must (aleq l1 l2) <| must (Nat.beq (llen l1) nn6) <| wrL H1 b2 (Nat.add (Nat.add m1 (Nat.mul (itn n1) nn8)) nn1) l1 fun H2 => rdK H2 b2 (Nat.add (Nat.add m1 (Nat.mul (itn n1) nn8)) nn7) fun v1 => isI .i64 v1 fun n2 => wrp .i64 (iadd n2 ii1) fun n3 => wrK H2 b2 (Nat.add (Nat.add m1 (Nat.mul (itn n1) nn8)) nn7) (AV.i .i64 n3) fun H3 => wrp .i64 (iadd n1 ii1) fun n4 => Kb1 (DV.c (DV.v (AV.i .i64 n4)) (DV.c (DV.v AV.ni) DV.n)) H3
def g128x2 := frcB (ilt n1 ii16) fun t1 => br t1 (onA p1 fun b2 m1 => rng n1 nn16 <| rdK H1 b2 (Nat.add m1 (Nat.mul (itn n1) nn8)) fun v1 => isB v1 fun t2 => frcB (bnot t2) fun t3 => br t3 (rdR H1 b1 nn0 nn6 fun l1 => wrK H1 b2 (Nat.add m1 (Nat.mul (itn n1) nn8)) (AV.b true) fun H2 => g128x1 l1 n1 m1 b1 b2 H2 Kb1) (wrp .i64 (iadd n1 ii1) fun n2 => Kb2 (DV.v (AV.i .i64 n2)) H1)) (Kb1 (DV.c (DV.v (AV.i .i64 ii0)) (DV.c (DV.v (AV.er (nat_lit 8))) DV.n)) H1)
def g128x3 := rdR H1 b1 nn0 nn6 fun l1 => c1 [(DV.v (AV.p p1)), (DV.a l1)] H1 fun d1 H2 => onC d1 fun d2 d3 => onV d2 fun v1 => isI .i64 v1 fun n1 => onC d3 fun d4 d5 => onV d4 fun v2 => isB v2 fun t1 => onN d5 <| br t1 (Kb1 (DV.c (DV.v (AV.i .i64 ii0)) (DV.c (DV.v (AV.er (nat_lit 7))) DV.n)) H2) (lpR (failF [(22 , .int .i64)]) (fun Kb2 => fun d6 H3 => onV d6 fun v3 => isI .i64 v3 fun n2 => g128x2 n2 p1 b1 H3 Kb1 Kb2) (nat_lit 100000) (DV.v (AV.i .i64 ii0)) H2)
/-- (*sta.Table).Add -/
def g128 : G DV := fun R1 H1 Kb1 => lc R1 fun d1 R2 => onV d1 fun v1 => isP v1 fun p1 => lc R2 fun d2 R3 => ln R3 <| cellsD d2 fun l1 => alK H1 l1 fun b1 H2 => rdR H2 b1 nn0 nn6 fun l2 => c1 [(DV.a l2)] H2 fun d3 H3 => onV d3 fun v2 => isB v2 fun t1 => frcB (bnot t1) fun t2 => br t2 (Kb1 (DV.c (DV.v (AV.i .i64 ii0)) (DV.c (DV.v (AV.er (nat_lit 2))) DV.n)) H3) (g128x3 p1 b1 H3 c2 Kb1)
def G128 : G DV := g128 G50 G160

/-- sched.there -/
def g199 : G DV := fun R1 H1 Kb1 => lc R1 fun d1 R2 => onV d1 fun v1 => isI .i64 v1 fun n1 => ln R2 <| frcB (ile ii1 n1) fun t1 => jn (fun d2 H2 => jn (fun d3 H3 => pickK t1 d3 (DV.v (AV.b false)) fun d4 => onV d4 fun v2 => isB v2 fun t2 => Kb1 (DV.v (AV.b t2)) H3) fun Kb2 => br t1 (onV d2 fun v2 => isI .i64 v2 fun n2 => frcB (ile n2 ii16) fun t2 => Kb2 (DV.v (AV.b t2)) H2) (Kb2 DV.n H2)) fun Kb2 => br t1 (Kb2 (DV.v (AV.i .i64 n1)) H1) (Kb2 DV.n H1)
def G199 : G DV := g199

/-- sched.fair -/
def g200 : G DV := fun R1 H1 Kb1 => lc R1 fun d1 R2 => onV d1 fun v1 => isI .i64 v1 fun n1 => ln R2 <| frcB (ile ii1 n1) fun t1 => jn (fun d2 H2 => jn (fun d3 H3 => pickK t1 d3 (DV.v (AV.b false)) fun d4 => onV d4 fun v2 => isB v2 fun t2 => Kb1 (DV.v (AV.b t2)) H3) fun Kb2 => br t1 (onV d2 fun v2 => isI .i64 v2 fun n2 => frcB (ile n2 ii100) fun t2 => Kb2 (DV.v (AV.b t2)) H2) (Kb2 DV.n H2)) fun Kb2 => br t1 (Kb2 (DV.v (AV.i .i64 n1)) H1) (Kb2 DV.n H1)
def G200 : G DV := g200

/-- (*sched.Sched).of -/
def g201 : G DV := fun R1 H1 Kb1 => lc R1 fun d1 R2 => onV d1 fun v1 => isP v1 fun p1 => lc R2 fun d2 R3 => onV d2 fun v2 => isI .i64 v2 fun n1 => ln R3 <| c1 [(DV.v (AV.i .i64 n1))] H1 fun d3 H2 => onV d3 fun v3 => isB v3 fun t1 => frcB (bnot t1) fun t2 => br t2 (Kb1 (DV.v (AV.p AP.nil)) H2) (wrp .i64 (isub n1 ii1) fun n2 => onA p1 fun b1 m1 => rng n2 nn16 <| rdK H2 b1 (Nat.add m1 (itn n2)) fun v4 => isP v4 fun p2 => Kb1 (DV.v (AV.p p2)) H2)
def G201 : G DV := g201 G199

def g129x1 := frcB (bnot (isNilA p1)) fun t1 => br t1 (Kb1 (DV.v (AV.er (nat_lit 7))) H1) (wrp .i64 (isub n1 ii1) fun n3 => alB H1 (@T4.n AV (AV.i .i64 n1) (@T4.n AV (AV.i .i64 n2) te te te te) (@T4.n AV yy0 te te te te) (@T4.n AV yy2 te te te te) (@T4.n AV yy0 te te te te)) nn5 nn0 fun b1 H2 => onA p2 fun b2 m1 => rng n3 nn16 <| wrK H2 b2 (Nat.add m1 (itn n3)) (AV.p (AP.at b1 nn0)) fun H3 => Kb1 (DV.v AV.ni) H3)
def g129x2 := jn (fun d2 H2 => jn (fun d3 H3 => pickK t1 (DV.v (AV.b true)) d3 fun d4 => onV d4 fun v1 => isB v1 fun t2 => br t2 (Kb1 (DV.v (AV.er (nat_lit 2))) H3) (c1 [(DV.v (AV.p p1)), (DV.v (AV.i .i64 n1))] H3 fun d5 H4 => onV d5 fun v2 => isP v2 fun p2 => g129x1 n1 n2 p2 p1 H4 Kb1)) fun Kb2 => br t1 (Kb2 DV.n H2) (onV d2 fun v1 => isB v1 fun t2 => frcB (bnot t2) fun t3 => Kb2 (DV.v (AV.b t3)) H2)) fun Kb2 => br t1 (Kb2 DV.n H1) (c2 [d1] H1 fun d2 H2 => onV d2 fun v1 => isB v1 fun t2 => Kb2 (DV.v (AV.b t2)) H2)
/-- (*sched.Sched).Add -/
def g129 : G DV := fun R1 H1 Kb1 => lc R1 fun d1 R2 => onV d1 fun v1 => isP v1 fun p1 => lc R2 fun d2 R3 => onV d2 fun v2 => isI .i64 v2 fun n1 => lc R3 fun d3 R4 => onV d3 fun v3 => isI .i64 v3 fun n2 => ln R4 <| c1 [(DV.v (AV.i .i64 n1))] H1 fun d4 H2 => onV d4 fun v4 => isB v4 fun t1 => frcB (bnot t1) fun t2 => jn (fun d5 H3 => g129x2 d5 n1 n2 t2 p1 H3 c3 c2 Kb1) fun Kb2 => br t2 (Kb2 DV.n H2) (Kb2 (DV.v (AV.i .i64 n2)) H2)
def G129 : G DV := g129 G199 G200 G201

def g123x1 := jn (fun d2 H2 => jn (fun d3 H3 => pickK t1 (DV.v (AV.b true)) d3 fun d4 => onV d4 fun v1 => isB v1 fun t2 => br t2 (Kb1 (DV.v (AV.p AP.nil)) H3) (wrp .i64 (isub n1 ii1) fun n2 => onA p1 fun b1 m1 => rng n2 nn16 <| Kb1 (DV.v (AV.p (AP.at b1 (Nat.add m1 (Nat.mul (itn n2) nn10))))) H3)) fun Kb2 => br t1 (Kb2 DV.n H2) (onV d2 fun v1 => isB v1 fun t2 => frcB (bnot t2) fun t3 => Kb2 (DV.v (AV.b t3)) H2)) fun Kb2 => br t1 (Kb2 DV.n H1) (onV d1 fun v1 => isP v1 fun p2 => onA p2 fun b1 m1 => rdK H1 b1 m1 fun v2 => isB v2 fun t2 => Kb2 (DV.v (AV.b t2)) H1)
def g123x2 := jn (fun d3 H2 => jn (fun d4 H3 => jn (fun d5 H4 => g123x1 d5 n1 t1 p1 H4 Kb1) fun Kb2 => br t1 (Kb2 DV.n H3) (onV d4 fun v1 => isP v1 fun p2 => onA p2 fun b1 m1 => Kb2 (DV.v (AV.p (AP.at b1 m1))) H3)) fun Kb2 => br t1 (Kb2 DV.n H2) (onV d1 fun v1 => isJ v1 fun n2 => onV d3 fun v2 => isP v2 fun p2 => onA p2 fun b1 m1 => rng n2 nn16 <| Kb2 (DV.v (AV.p (AP.at b1 (Nat.add m1 (Nat.mul (itn n2) nn10))))) H2)) fun Kb2 => br t1 (Kb2 DV.n H1) (onV d2 fun v1 => isP v1 fun p2 => onA p2 fun b1 m1 => Kb2 (DV.v (AV.p (AP.at b1 m1))) H1)
def g123x3 := jn (fun d1 H2 => jn (fun d2 H3 => jn (fun d3 H4 => jn (fun d4 H5 => g123x2 d3 d4 n1 t1 p1 H5 Kb1) fun Kb2 => br t1 (Kb2 DV.n H4) (onV d1 fun v1 => isP v1 fun p2 => onA p2 fun b1 m1 => Kb2 (DV.v (AV.p (AP.at b1 m1))) H4)) fun Kb2 => br t1 (Kb2 DV.n H3) (onV d2 fun v1 => isI .i64 v1 fun n2 => wrp .i64 (isub n2 ii1) fun n3 => Kb2 (DV.v (AV.i .i64 n3)) H3)) fun Kb2 => br t1 (Kb2 DV.n H2) (Kb2 (DV.v (AV.i .i64 n1)) H2)) fun Kb2 => br t1 (Kb2 DV.n H1) (Kb2 (DV.v (AV.p p1)) H1)
def g123x4 := isP v1 fun p1 => lc R1 fun d1 R2 => onV d1 fun v2 => isI .i64 v2 fun n1 => ln R2 <| frcB (ilt n1 ii1) fun t1 => jn (fun d2 H2 => jn (fun d3 H3 => pickK t1 (DV.v (AV.b true)) d3 fun d4 => onV d4 fun v3 => isB v3 fun t2 => g123x3 n1 t2 p1 H3 Kb1) fun Kb2 => br t1 (Kb2 DV.n H2) (onV d2 fun v3 => isI .i64 v3 fun n2 => frcB (ilt ii16 n2) fun t2 => Kb2 (DV.v (AV.b t2)) H2)) fun Kb2 => br t1 (Kb2 DV.n H1) (Kb2 (DV.v (AV.i .i64 n1)) H1)
/-- (*ps.Power).of -/
def g123 : G DV := fun R1 H1 Kb1 => lc R1 fun d1 R2 => onV d1 fun v1 => g123x4 v1 R2 H1 Kb1
def G123 : G DV := g123

def g130x1 := rdR H1 b1 nn0 nn4 fun l1 => must (Nat.beq (llen l1) nn4) <| onA p1 fun b2 m1 => rng n1 nn16 <| must (Nat.beq (llen ((AV.b true) :: ((AV.b false) :: ((AV.b false) :: ((AV.b false) :: (lapp l1 ((AV.i .i64 n2) :: ((AV.i .i64 ii0) :: [])))))))) nn10) <| wrL H1 b2 (Nat.add m1 (Nat.mul (itn n1) nn10)) ((AV.b true) :: ((AV.b false) :: ((AV.b false) :: ((AV.b false) :: (lapp l1 ((AV.i .i64 n2) :: ((AV.i .i64 ii0) :: []))))))) fun H2 => Kb1 (DV.v AV.ni) H2
def g130x2 := jn (fun d2 H2 => pickK t1 (DV.v (AV.b true)) d2 fun d3 => onV d3 fun v1 => isB v1 fun t2 => br t2 (Kb1 (DV.v (AV.er (nat_lit 2))) H2) (c1 [(DV.v (AV.p p1)), (DV.v (AV.i .i64 n1))] H2 fun d4 H3 => onV d4 fun v2 => isP v2 fun p2 => frcB (bnot (isNilA p2)) fun t3 => br t3 (Kb1 (DV.v (AV.er (nat_lit 7))) H3) (wrp .i64 (isub n1 ii1) fun n3 => g130x1 n3 n2 p1 b1 H3 Kb1))) fun Kb2 => br t1 (Kb2 DV.n H1) (onV d1 fun v1 => isI .i64 v1 fun n3 => frcB (ilt ii8 n3) fun t2 => Kb2 (DV.v (AV.b t2)) H1)
def g130x3 := isB v1 fun t1 => jn (fun d1 H2 => jn (fun d2 H3 => pickK t1 (DV.v (AV.b true)) d2 fun d3 => onV d3 fun v2 => isB v2 fun t2 => jn (fun d4 H4 => g130x2 d4 n1 n2 t2 p1 b1 H4 c1 Kb1) fun Kb2 => br t2 (Kb2 DV.n H3) (Kb2 (DV.v (AV.i .i64 n2)) H3)) fun Kb2 => br t1 (Kb2 DV.n H2) (onV d1 fun v2 => isI .i64 v2 fun n3 => frcB (ilt n3 ii0) fun t2 => Kb2 (DV.v (AV.b t2)) H2)) fun Kb2 => br t1 (Kb2 DV.n H1) (Kb2 (DV.v (AV.i .i64 n2)) H1)
def g130x4 := onV d1 fun v1 => isI .i64 v1 fun n2 => ln R1 <| cellsD d2 fun l1 => alK H1 l1 fun b1 H2 => frcB (ilt n1 ii1) fun t1 => jn (fun d3 H3 => jn (fun d4 H4 => pickK t1 (DV.v (AV.b true)) d4 fun d5 => onV d5 fun v2 => g130x3 v2 n1 n2 p1 b1 H4 c1 Kb1) fun Kb2 => br t1 (Kb2 DV.n H3) (onV d3 fun v2 => isI .i64 v2 fun n3 => frcB (ilt ii16 n3) fun t2 => Kb2 (DV.v (AV.b t2)) H3)) fun Kb2 => br t1 (Kb2 DV.n H2) (Kb2 (DV.v (AV.i .i64 n1)) H2)
/-- (*ps.Power).Add -/
def g130 : G DV := fun R1 H1 Kb1 => lc R1 fun d1 R2 => onV d1 fun v1 => isP v1 fun p1 => lc R2 fun d2 R3 => onV d2 fun v2 => isI .i64 v2 fun n1 => lc R3 fun d3 R4 => lc R4 fun d4 R5 => g130x4 d4 d3 R5 n1 p1 H1 c1 Kb1
def G130 : G DV := g130 G123

def z7 : List AV := [(AV.i .i64 ii0), (AV.i .i64 ii0), (AV.i .i64 ii0), (AV.i .i64 ii0)]
def g77x1 := c1 [(DV.v (AV.i .i64 n1)), (DV.v (AV.i .i64 n2)), (DV.v (AV.i .i64 n3))] H1 fun d1 H2 => onC d1 fun d2 d3 => onV d2 fun v1 => isP v1 fun p1 => onC d3 fun d4 d5 => onV d4 fun v2 => onN d5 <| rng n4 nn8 <| wrK H2 b1 (Nat.add nn6 (Nat.mul (itn n4) nn5)) (AV.p p1) fun H3 => ifA true true v2 AV.ni fun t1 => frcB (bnot t1) fun t2 => br t2 (Kb1 (DV.c (DV.v (AV.i .i64 ii0)) (DV.c (DV.v v2) DV.n)) H3) (wrp .i64 (iadd n4 ii1) fun n5 => Kb2 (DV.v (AV.i .i64 n5)) H3)
def g77x2 := c1 [(DV.v (AV.p (AP.at b1 (Nat.add m1 nn150)))), (DV.v (AV.i .i64 n1)), (DV.a l1), (DV.v (AV.i .i64 n2))] H1 fun d1 H2 => onV d1 fun v1 => ifA true true v1 AV.ni fun t1 => frcB (bnot t1) fun t2 => br t2 (Kb1 (DV.c (DV.v (AV.i .i64 ii0)) (DV.c (DV.v v1) DV.n)) H2) (wrp .i64 (isub n1 ii1) fun n3 => onA p1 fun b3 m2 => rng n3 nn16 <| wrK H2 b3 (Nat.add (Nat.add m2 nn329) (itn n3)) (AV.p (AP.at b2 nn0)) fun H3 => Kb1 (DV.c (DV.v (AV.i .i64 n1)) (DV.c (DV.v AV.ni) DV.n)) H3)
def g77x3 := br t1 (rng n1 nn4 <| lgetK (itn n1) l1 fun v1 => isP v1 fun p2 => c1 [(DV.v (AV.p p2)), (DV.v (AV.i .i64 n2)), (DV.v (AV.i .i64 n3))] H1 fun d1 H2 => onV d1 fun v2 => ifA true true v2 AV.ni fun t2 => frcB (bnot t2) fun t3 => br t3 (Kb1 (DV.c (DV.v (AV.i .i64 ii0)) (DV.c (DV.v v2) DV.n)) H2) (wrp .i64 (iadd n1 ii1) fun n5 => Kb2 (DV.v (AV.i .i64 n5)) H2)) (onA p1 fun b3 m1 => rdR H1 b1 nn0 nn4 fun l2 => g77x2 l2 n2 n4 m1 p1 b3 b2 H1 c2 Kb1)
def g77x4 := br t1 (onA p1 fun b3 m1 => rdK H1 b3 (Nat.add m1 nn11) fun v1 => isI .i64 v1 fun n5 => onA p1 fun b4 m2 => rdK H1 b4 (Nat.add m2 nn12) fun v2 => isI .i64 v2 fun n6 => onA p1 fun b5 m3 => rdK H1 b5 (Nat.add m3 nn13) fun v3 => isI .i64 v3 fun n7 => g77x1 n5 n6 n7 n1 b1 H1 c1 Kb1 Kb2) (onA p1 fun b3 m1 => rdR H1 b3 (Nat.add m1 nn313) nn4 fun l1 => lpR (failF [(107 , .int .i64)]) (fun Kb3 => fun d1 H2 => onV d1 fun v1 => isI .i64 v1 fun n5 => frcB (ilt n5 ii4) fun t2 => g77x3 l1 n5 n2 n3 n4 t2 p1 b2 b1 H2 c2 c3 Kb1 Kb3) (nat_lit 100000) (DV.v (AV.i .i64 ii0)) H1)
def g77x5 := alK H1 (lapp l1 ((AV.i .i64 ii0) :: ((AV.p AP.nil) :: ((AV.i .i64 ii0) :: ((AV.b false) :: ((AV.b false) :: ((AV.b false) :: ((AV.p AP.nil) :: ((AV.i .i64 ii0) :: ((AV.b false) :: ((AV.b false) :: ((AV.b false) :: ((AV.p AP.nil) :: ((AV.i .i64 ii0) :: ((AV.b false) :: ((AV.b false) :: ((AV.b false) :: ((AV.p AP.nil) :: ((AV.i .i64 ii0) :: ((AV.b false) :: ((AV.b false) :: ((AV.b false) :: ((AV.p AP.nil) :: ((AV.i .i64 ii0) :: ((AV.b false) :: ((AV.b false) :: ((AV.b false) :: ((AV.p AP.nil) :: ((AV.i .i64 ii0) :: ((AV.b false) :: ((AV.b false) :: ((AV.b false) :: ((AV.p AP.nil) :: ((AV.i .i64 ii0) :: ((AV.b false) :: ((AV.b false) :: ((AV.b false) :: ((AV.p AP.nil) :: ((AV.i .i64 ii0) :: ((AV.b false) :: ((AV.b false) :: ((AV.b false) :: z7)))))))))))))))))))))))))))))))))))))))))) fun b2 H2 => lpR (failF [(71 , .int .i64)]) (fun Kb2 => fun d1 H3 => onV d1 fun v1 => isI .i64 v1 fun n4 => frcB (ilt n4 ii8) fun t1 => g77x4 n4 n1 n2 n3 t1 p1 b2 b1 H3 c1 c2 c3 Kb1 Kb2) (nat_lit 100000) (DV.v (AV.i .i64 ii0)) H2
def g77x6 := rdR H1 b1 nn0 nn6 fun l1 => c1 [(DV.v (AV.p (AP.at b2 (Nat.add m1 nn22)))), (DV.a l1)] H1 fun d1 H2 => onC d1 fun d2 d3 => onV d2 fun v1 => isI .i64 v1 fun n3 => onC d3 fun d4 d5 => onV d4 fun v2 => onN d5 <| ifA true true v2 AV.ni fun t1 => frcB (bnot t1) fun t2 => br t2 (Kb1 (DV.c (DV.v (AV.i .i64 ii0)) (DV.c (DV.v v2) DV.n)) H2) (rdR H2 b3 nn0 nn5 fun l2 => must (Nat.beq (llen l2) nn5) <| g77x5 l2 n3 n1 n2 p1 b4 H2 c2 c3 c4 Kb1)
def g77x7 := jn (fun d1 H2 => jn (fun d2 H3 => pickK t1 (DV.v (AV.b true)) d2 fun d3 => onV d3 fun v1 => isB v1 fun t2 => br t2 (Kb1 (DV.c (DV.v (AV.i .i64 ii0)) (DV.c (DV.v (AV.er (nat_lit 2))) DV.n)) H3) (onA p1 fun b4 m1 => g77x6 n1 n2 m1 p1 b1 b4 b2 b3 H3 c1 c2 c3 c4 Kb1)) fun Kb2 => br t1 (Kb2 DV.n H2) (onV d1 fun v1 => isI .i64 v1 fun n3 => frcB (ilt ii8 n3) fun t2 => Kb2 (DV.v (AV.b t2)) H2)) fun Kb2 => br t1 (Kb2 DV.n H1) (Kb2 (DV.v (AV.i .i64 n2)) H1)
def g77x8 := pickK t1 (DV.v (AV.b true)) d1 fun d2 => onV d2 fun v1 => isB v1 fun t2 => jn (fun d3 H2 => jn (fun d4 H3 => pickK t2 (DV.v (AV.b true)) d4 fun d5 => onV d5 fun v2 => isB v2 fun t3 => g77x7 n1 n2 t3 p1 b1 b2 b3 H3 c1 c2 c3 c4 Kb1) fun Kb2 => br t2 (Kb2 DV.n H2) (onV d3 fun v2 => isI .i64 v2 fun n3 => frcB (ilt n3 ii0) fun t3 => Kb2 (DV.v (AV.b t3)) H2)) fun Kb2 => br t2 (Kb2 DV.n H1) (Kb2 (DV.v (AV.i .i64 n2)) H1)
def g77x9 := jn (fun d2 H2 => pickK t1 (DV.v (AV.b true)) d2 fun d3 => onV d3 fun v1 => isB v1 fun t2 => jn (fun d4 H3 => jn (fun d5 H4 => g77x8 d5 n1 n2 t2 p1 b1 b2 b3 H4 c1 c2 c3 c4 Kb1) fun Kb2 => br t2 (Kb2 DV.n H3) (onV d4 fun v2 => isI .i64 v2 fun n3 => frcB (ilt ii100 n3) fun t3 => Kb2 (DV.v (AV.b t3)) H3)) fun Kb2 => br t2 (Kb2 DV.n H2) (Kb2 (DV.v (AV.i .i64 n1)) H2)) fun Kb2 => br t1 (Kb2 DV.n H1) (onV d1 fun v1 => isI .i64 v1 fun n3 => frcB (ilt n3 ii1) fun t2 => Kb2 (DV.v (AV.b t2)) H1)
def g77x10 := must (Nat.beq (leni x1) nn6) <| must (Nat.beq (leni x2) nn6) <| frcB (leqI x1 x2) fun t1 => br t1 (Kb1 (DV.c (DV.v (AV.i .i64 ii0)) (DV.c (DV.v (AV.er (nat_lit 7))) DV.n)) H1) (rdR H1 b1 nn0 nn5 fun l1 => c1 [(DV.a l1)] H1 fun d1 H2 => onV d1 fun v1 => isB v1 fun t2 => frcB (bnot t2) fun t3 => jn (fun d2 H3 => g77x9 d2 n1 n2 t3 p1 b2 b1 b3 H3 c2 c3 c4 c5 Kb1) fun Kb2 => br t3 (Kb2 DV.n H2) (Kb2 (DV.v (AV.i .i64 n1)) H2))
def g77x11 := alK H1 l1 fun b3 H2 => rdR H2 b1 nn0 nn6 fun l2 => c1 [(DV.a l2)] H2 fun d1 H3 => onV d1 fun v1 => isB v1 fun t1 => frcB (bnot t1) fun t2 => br t2 (Kb1 (DV.c (DV.v (AV.i .i64 ii0)) (DV.c (DV.v (AV.er (nat_lit 2))) DV.n)) H3) (rdR H3 b1 nn0 nn6 fun l3 => onA p1 fun b4 m1 => rdR H3 b4 m1 nn6 fun l4 => intsK .u8 l3 fun x1 => intsK .u8 l4 fun x2 => g77x10 n1 n2 p1 b2 b1 b3 H3 x1 x2 c2 c3 c4 c5 c6 Kb1)
/-- (*ap.AP).Join -/
def g77 : G DV := fun R1 H1 Kb1 => lc R1 fun d1 R2 => onV d1 fun v1 => isP v1 fun p1 => lc R2 fun d2 R3 => lc R3 fun d3 R4 => lc R4 fun d4 R5 => onV d4 fun v2 => isI .i64 v2 fun n1 => lc R5 fun d5 R6 => lc R6 fun d6 R7 => onV d6 fun v3 => isI .i64 v3 fun n2 => ln R7 <| cellsD d2 fun l1 => alK H1 l1 fun b1 H2 => cellsD d3 fun l2 => alK H2 l2 fun b2 H3 => cellsD d5 fun l3 => g77x11 l3 n1 n2 p1 b1 b2 H3 c2 c3 c4 c1 c5 c6 Kb1
def G77 : G DV := g77 G46 G50 G127 G128 G129 G130

def z8 : T4 AV := (@T4.n AV yy2 (@T4.n AV yy2 te te te te) (@T4.n AV yy2 te te te te) (@T4.n AV yy2 te te te te) te)
def z9 : T4 AV := (@T4.n AV yy5 (@T4.n AV yy11 te te te te) (@T4.n AV yy12 te te te te) (@T4.n AV yy13 te te te te) te)
def z10 : List AV := [(AV.i .i64 ii1), (AV.i .i64 ii4), (AV.i .i64 ii1), (AV.i .i64 ii20), (AV.i .i64 ii0)]
def g40x1 := rdR H1 b1 m1 nn6 fun l3 => must (aleq l1 l3) <| c1 [(DV.a l2), (DV.a l1), (DV.v (AV.i .i64 n1))] H1 fun d1 H2 => onC d1 fun d2 d3 => onV d2 fun v1 => isP v1 fun p2 => onC d3 fun d4 d5 => onV d4 fun v2 => onN d5 <| ifA true true v2 AV.ni fun t1 => frcB (bnot t1) fun t2 => br t2 (Kb1 (DV.v v2) H2) (onA p1 fun b2 m2 => wrL H2 b2 m2 [(AV.i .i64 n2), (AV.p p2), (AV.s AS.nil), (AV.s AS.nil)] fun H3 => Kb1 (DV.v AV.ni) H3)
def g40x2 := ifA true true v1 AV.ni fun t1 => frcB (bnot t1) fun t2 => br t2 (Kb1 d1 H1) (rdK H1 b1 nn1 fun v2 => isI .i64 v2 fun n2 => onA p1 fun b2 m1 => rdR H1 b2 m1 nn6 fun l1 => onA p1 fun b3 m2 => rdK H1 b3 (Nat.add m2 nn21) fun v3 => isI .i64 v3 fun n3 => c1 [(DV.v (AV.i .i64 n2))] H1 fun d2 H2 => onL d2 fun l2 => rdK H2 b3 (Nat.add m2 nn21) fun v4 => must (aveq (AV.i .i64 n3) v4) <| g40x1 l1 l2 n3 n1 m1 p2 b2 H2 c2 Kb1)
def g40x3 := must (aveq (AV.p p1) v1) <| alB H1 z9 nn4 nn0 fun b1 H2 => ixA (AS.sl b1 nn0 nn4 nn4) n1 (fun x => x) fun b2 m1 => rdK H2 b2 m1 fun v2 => isI .i64 v2 fun n2 => c1 [(DV.v (AV.p p1)), (DV.a l1), (DV.a z10), (DV.v (AV.i .i64 n2)), (DV.a l2), (DV.v (AV.i .i64 ii2))] H2 fun d1 H3 => onC d1 fun d2 d3 => onV d2 fun v3 => isI .i64 v3 fun n3 => onC d3 fun d4 d5 => onV d4 fun v4 => onN d5 <| Kc1 (DV.v (AV.i .i64 n3)) (DV.v v4) H3
def g40x4 := rdR H1 b1 nn0 nn4 fun l3 => must (aleq l1 l3) <| rdK H1 b2 nn3 fun v1 => must (aveq (AV.i .i64 n1) v1) <| rdK H1 b3 (Nat.add m1 nn22) fun v2 => must (aveq (AV.p p1) v2) <| c1 [(DV.v (AV.p p1)), (DV.a l2), (DV.a z10), (DV.v (AV.i .i64 n2)), (DV.a l1), (DV.v (AV.i .i64 ii2))] H1 fun d1 H2 => onC d1 fun d2 d3 => onV d2 fun v3 => isI .i64 v3 fun n3 => onC d3 fun d4 d5 => onV d4 fun v4 => onN d5 <| Kc1 (DV.v (AV.i .i64 n3)) (DV.v v4) H2
def g40x5 := andK deq (c1 [(DV.v (AV.i .i64 n1))] H1 fun d1 H2 => onL d1 fun l2 => rdR H2 b1 nn0 nn4 fun l3 => must (aleq l1 l3) <| rdK H2 b2 nn3 fun v1 => must (aveq (AV.i .i64 n2) v1) <| rdK H2 b3 (Nat.add m1 nn22) fun v2 => g40x3 v2 l2 l1 n2 p1 H2 c2 Kc1) (alB H1 z9 nn4 nn0 fun b4 H2 => ixA (AS.sl b4 nn0 nn4 nn4) n2 (fun x => x) fun b5 m2 => rdK H2 b5 m2 fun v1 => isI .i64 v1 fun n3 => c1 [(DV.v (AV.i .i64 n1))] H2 fun d1 H3 => onL d1 fun l2 => rdK H3 b5 m2 fun v2 => must (aveq (AV.i .i64 n3) v2) <| g40x4 l1 l2 n2 n3 m1 p1 b1 b2 b3 H3 c2 Kc1)
def g40x6 := jF [(9 , .int .i64), (10 , .any)] (fun d1 d2 H2 => onV d1 fun v1 => isI .i64 v1 fun n1 => onV d2 fun v2 => g40x2 v2 d2 n1 p1 p2 b1 H2 c1 c2 Kb1) fun Kc1 => onA p1 fun b3 m1 => rdK H1 b3 (Nat.add m1 nn22) fun v1 => isP v1 fun p3 => rdK H1 b1 nn1 fun v2 => isI .i64 v2 fun n1 => rdK H1 b1 nn3 fun v3 => isI .i64 v3 fun n2 => rdR H1 b2 nn0 nn4 fun l1 => g40x5 l1 n1 n2 m1 p3 b2 b1 b3 H1 c1 c3 Kc1
def g40x7 := lpR (failF [(29 , .int .i64)]) (fun Kb2 => fun d1 H2 => onV d1 fun v1 => isI .i64 v1 fun n1 => frcB (ilt n1 ii4) fun t1 => br t1 (rdK H2 b1 nn2 fun v2 => isI .i64 v2 fun n2 => asI (bits .and .i64 n2 ii1) fun n3 => frcB (ieq n3 ii1) fun t2 => rng n1 nn4 <| wrK H2 b2 (Nat.add nn0 (itn n1)) (AV.b t2) fun H3 => wrp .i64 (iadd n1 ii1) fun n4 => Kb2 (DV.v (AV.i .i64 n4)) H3) (g40x6 p1 p2 b1 b2 H2 c1 c2 c3 Kb1)) (nat_lit 100000) (DV.v (AV.i .i64 ii0)) H1
def g40x8 := jn (fun d2 H2 => jn (fun d3 H3 => pickK t1 (DV.v (AV.b true)) d3 fun d4 => onV d4 fun v1 => isB v1 fun t2 => br t2 (Kb1 (DV.v (AV.er (nat_lit 2))) H3) (alB H3 z8 nn4 nn0 fun b2 H4 => g40x7 p1 p2 b1 b2 H4 c1 c2 c3 Kb1)) fun Kb2 => br t1 (Kb2 DV.n H2) (onV d2 fun v1 => isI .i64 v1 fun n1 => frcB (ile ii4 n1) fun t2 => Kb2 (DV.v (AV.b t2)) H2)) fun Kb2 => br t1 (Kb2 DV.n H1) (onV d1 fun v1 => isP v1 fun p3 => onA p3 fun b2 m1 => rdK H1 b2 m1 fun v2 => isI .i64 v2 fun n1 => Kb2 (DV.v (AV.i .i64 n1)) H1)
def g40x9 := lc R1 fun d1 R2 => ln R2 <| cellsD d1 fun l1 => alK H1 l1 fun b1 H2 => onA p1 fun b2 m1 => rdK H2 b2 m1 fun v1 => isI .i64 v1 fun n1 => frcB (bnot (ieq n1 ii0)) fun t1 => br t1 (Kb1 (DV.v (AV.er (nat_lit 7))) H2) (rdK H2 b1 nn3 fun v2 => isI .i64 v2 fun n2 => frcB (ilt n2 ii0) fun t2 => jn (fun d2 H3 => g40x8 d2 t2 p2 p1 b1 H3 c1 c2 c3 Kb1) fun Kb2 => br t2 (Kb2 DV.n H2) (Kb2 (DV.v (AV.p (AP.at b1 nn3))) H2))
/-- (*lab.Lab).join -/
def g40 : G DV := fun R1 H1 Kb1 => lc R1 fun d1 R2 => onV d1 fun v1 => isP v1 fun p1 => lc R2 fun d2 R3 => onV d2 fun v2 => isP v2 fun p2 => g40x9 R3 p2 p1 H1 c2 c1 c3 Kb1
def G40 : G DV := g40 G24 G25 G77

def g88x1 := jF [(9 , .bool)] (fun d1 H2 => onV d1 fun v1 => isB v1 fun t1 => br t1 (ixA s1 ii0 (fun x => x) fun b1 m1 => rdK H2 b1 m1 fun v2 => isI .u8 v2 fun n2 => wrp .i64 n2 fun n3 => Kb1 (DV.v (AV.i .i64 n3)) H2) (Kb1 (DV.v (AV.i .i64 ii0)) H2)) fun Kb2 => frcB (ieq n1 ii132) fun t1 => br t1 (Kb2 (DV.v (AV.b t1)) H1) (frcB (ieq n1 ii148) fun t2 => br t2 (Kb2 (DV.v (AV.b t2)) H1) (frcB (ieq n1 ii164) fun t3 => br t3 (Kb2 (DV.v (AV.b t3)) H1) (frcB (ieq n1 ii136) fun t4 => br t4 (Kb2 (DV.v (AV.b t4)) H1) (frcB (ieq n1 ii208) fun t5 => Kb2 (DV.v (AV.b t5)) H1))))
/-- ctl.Kind -/
def g88 : G DV := fun R1 H1 Kb1 => lc R1 fun d1 R2 => onV d1 fun v1 => isS v1 fun s1 => ln R2 <| lenA s1 fun m1 => frcB (ieq (Int.ofNat m1) ii0) fun t1 => br t1 (Kb1 (DV.v (AV.i .i64 ii0)) H1) (ixA s1 ii0 (fun x => x) fun b1 m2 => rdK H1 b1 m2 fun v2 => isI .u8 v2 fun n1 => g88x1 n1 s1 H1 Kb1)
def G88 : G DV := g88

def g290x1 := jn (fun d1 H2 => jn (fun d2 H3 => jn (fun d3 H4 => pickK t1 d3 (DV.v (AV.b false)) fun d4 => onV d4 fun v1 => isB v1 fun t2 => Kb1 (DV.v (AV.b t2)) H4) fun Kb2 => br t1 (onV d1 fun v1 => onV d2 fun v2 => isI .i64 v1 fun n3 => isI .i64 v2 fun n4 => frcB (ile n3 n4) fun t2 => Kb2 (DV.v (AV.b t2)) H3) (Kb2 DV.n H3)) fun Kb2 => br t1 (Kb2 (DV.v (AV.i .i64 n1)) H2) (Kb2 DV.n H2)) fun Kb2 => br t1 (Kb2 (DV.v (AV.i .i64 n2)) H1) (Kb2 DV.n H1)
/-- act.top -/
def g290 : G DV := fun R1 H1 Kb1 => lc R1 fun d1 R2 => onV d1 fun v1 => isI .i64 v1 fun n1 => lc R2 fun d2 R3 => onV d2 fun v2 => isI .i64 v2 fun n2 => ln R3 <| frcB (ile ii0 n1) fun t1 => g290x1 n2 n1 t1 H1 Kb1
def G290 : G DV := g290

def z11 : T4 AV := (@T4.n AV yy14 (@T4.n AV yy6 te te te te) (@T4.n AV yy6 te te te te) (@T4.n AV yy6 te te te te) te)
def g291x1 := br t1 (ixA (AS.sl b1 nn0 nn3 nn3) n1 (fun x => Nat.mul x nn6) fun b2 m1 => rdR H1 b2 m1 nn6 fun l1 => alB H1 z2 nn6 nn0 fun b3 H2 => must (Nat.beq (llen l1) nn6) <| wrL H2 b3 nn0 l1 fun H3 => appD nn1 nn1 s1 (AS.sl b3 nn0 nn6 nn6) H3 fun s2 H4 => wrp .i64 (iadd n1 ii1) fun n3 => Kc1 (DV.v (AV.s s2)) (DV.v (AV.i .i64 n3)) H4) (alB H1 (@T4.n AV yy6 (@T4.n AV yy6 te te te te) (@T4.n AV yy15 te te te te) (@T4.n AV (AV.i .u8 n2) te te te te) te) nn4 nn0 fun b2 H2 => appD nn1 nn1 s1 (AS.sl b2 nn0 nn4 nn4) H2 fun s2 H3 => Kb1 (DV.v (AV.s s2)) H3)
def g291x2 := must (Nat.beq (llen l1) nn6) <| must (Nat.beq (llen l2) nn6) <| alK H1 (lapp l3 (lapp l1 (lapp l2 []))) fun b2 H2 => lenA (AS.sl b2 nn0 nn3 nn3) fun m1 => lpR (failF [(9 , .slice), (18 , .int .i64)]) (fun Kc1 => fun d1 d2 H3 => onV d1 fun v1 => isS v1 fun s1 => onV d2 fun v2 => isI .i64 v2 fun n2 => frcB (ilt n2 (Int.ofNat m1)) fun t1 => g291x1 n2 n1 t1 b2 s1 H3 Kb1 Kc1) (nat_lit 100000) (DV.v (AV.s (AS.sl b1 nn0 nn4 nn4))) (DV.v (AV.i .i64 ii0)) H2
def g291x3 := lc R1 fun d2 R2 => lc R2 fun d3 R3 => lc R3 fun d4 R4 => onV d4 fun v1 => isI .u8 v1 fun n1 => ln R4 <| cellsD d1 fun l1 => alK H1 l1 fun b1 H2 => cellsD d2 fun l2 => alK H2 l2 fun b2 H3 => cellsD d3 fun l3 => alK H3 l3 fun b3 H4 => alB H4 z11 nn4 nn0 fun b4 H5 => rdR H5 b1 nn0 nn6 fun l4 => rdR H5 b2 nn0 nn6 fun l5 => rdR H5 b3 nn0 nn6 fun l6 => must (Nat.beq (llen l4) nn6) <| g291x2 l5 l6 l4 n1 b4 H5 Kb1
/-- act.front -/
def g291 : G DV := fun R1 H1 Kb1 => lc R1 fun d1 R2 => g291x3 d1 R2 H1 Kb1
def G291 : G DV := g291

/-- act.two -/
def g292 : G DV := fun R1 H1 Kb1 => lc R1 fun d1 R2 => onV d1 fun v1 => isI .i64 v1 fun n1 => ln R2 <| wrp .u8 n1 fun n2 => asI (idiv n1 (ip2 ii8)) fun n3 => wrp .u8 n3 fun n4 => alB H1 (@T4.n AV (AV.i .u8 n2) (@T4.n AV (AV.i .u8 n4) te te te te) te te te) nn2 nn0 fun b1 H2 => Kb1 (DV.v (AV.s (AS.sl b1 nn0 nn2 nn2))) H2
def G292 : G DV := g292

def g224x1 := jF [(5 , .slice)] (fun d1 H2 => onV d1 fun v1 => isS v1 fun s2 => Kb1 (DV.c (DV.v (AV.s s2)) (DV.c (DV.v AV.ni) DV.n)) H2) fun Kb2 => rdK H1 b1 nn18 fun v1 => isB v1 fun t1 => frcB (bnot t1) fun t2 => br t2 (rdK H1 b1 nn23 fun v2 => isI .i64 v2 fun n1 => wrp .i64 (imul n1 ii16) fun n2 => c1 [(DV.v (AV.i .i64 n2))] H1 fun d1 H2 => onV d1 fun v3 => isS v3 fun s2 => appD nn1 nn1 s1 s2 H2 fun s3 H3 => Kb2 (DV.v (AV.s s3)) H3) (Kb2 (DV.v (AV.s s1)) H1)
def g224x2 := rdK H1 b1 nn21 fun v1 => isI .i64 v1 fun n2 => wrp .i64 (imul n2 ii64) fun n3 => wrp .i64 (iadd n1 n3) fun n4 => c1 [(DV.v (AV.i .i64 n4))] H1 fun d1 H2 => onV d1 fun v2 => isS v2 fun s2 => appD nn1 nn1 s1 s2 H2 fun s3 H3 => rdK H3 b1 nn22 fun v3 => isI .i64 v3 fun n5 => c1 [(DV.v (AV.i .i64 n5))] H3 fun d2 H4 => onV d2 fun v4 => isS v4 fun s4 => appD nn1 nn1 s3 s4 H4 fun s5 H5 => g224x1 b1 s5 H5 c1 Kb1
def g224x3 := jF [(5 , .slice)] (fun d1 H2 => onV d1 fun v1 => isS v1 fun s2 => rdK H2 b1 nn20 fun v2 => isI .i64 v2 fun n1 => wrp .i64 (imul n1 ii4) fun n2 => wrp .i64 (iadd ii2 n2) fun n3 => g224x2 n3 b1 s2 H2 c1 Kb1) fun Kb2 => rdK H1 b1 nn18 fun v1 => isB v1 fun t1 => br t1 (rdK H1 b1 nn24 fun v2 => isI .i64 v2 fun n1 => c1 [(DV.v (AV.i .i64 n1))] H1 fun d1 H2 => onV d1 fun v3 => isS v3 fun s2 => appD nn1 nn1 s1 s2 H2 fun s3 H3 => Kb2 (DV.v (AV.s s3)) H3) (Kb2 (DV.v (AV.s s1)) H1)
def g224x4 := rdR H1 b1 nn12 nn6 fun l3 => rdK H1 b1 nn19 fun v1 => isI .i64 v1 fun n2 => wrp .u8 n2 fun n3 => c1 [(DV.a l1), (DV.a l2), (DV.a l3), (DV.v (AV.i .u8 n1))] H1 fun d1 H2 => onV d1 fun v2 => isS v2 fun s1 => rdK H2 b1 nn19 fun v3 => must (aveq (AV.i .i64 n2) v3) <| alB H2 (@T4.n AV (AV.i .u8 n3) te te te te) nn1 nn0 fun b2 H3 => appD nn1 nn1 s1 (AS.sl b2 nn0 nn1 nn1) H3 fun s2 H4 => g224x3 b1 s2 H4 c2 Kb1
def g224x5 := pickK t1 (DV.v (AV.b true)) d1 fun d2 => onV d2 fun v1 => isB v1 fun t2 => br t2 (Kb1 (DV.c (DV.v (AV.s AS.nil)) (DV.c (DV.v (AV.er (nat_lit 2))) DV.n)) H1) (jF [(4 , .int .u8)] (fun d3 H2 => onV d3 fun v2 => isI .u8 v2 fun n1 => rdR H2 b1 nn0 nn6 fun l1 => rdR H2 b1 nn6 nn6 fun l2 => g224x4 l1 l2 n1 b1 H2 c1 c2 Kb1) fun Kb2 => rdK H1 b1 nn18 fun v2 => isB v2 fun t3 => br t3 (Kb2 (DV.v (AV.i .u8 ii1)) H1) (Kb2 (DV.v (AV.i .u8 ii0)) H1))
def g224x6 := jn (fun d3 H2 => jn (fun d4 H3 => jn (fun d5 H4 => g224x5 d5 t1 b1 H4 c1 c2 Kb1) fun Kb2 => br t1 (Kb2 DV.n H3) (onV d1 fun v1 => isB v1 fun t2 => pickK t2 d4 (DV.v (AV.b false)) fun d5 => onV d5 fun v2 => isB v2 fun t3 => Kb2 (DV.v (AV.b t3)) H3)) fun Kb2 => grd d1 true (onV d3 fun v1 => isI .i64 v1 fun n1 => frcB (bnot (ieq n1 ii0)) fun t2 => Kb2 (DV.v (AV.b t2)) H2) (Kb2 DV.n H2)) fun Kb2 => grd d1 true (onV d2 fun v1 => isP v1 fun p1 => onA p1 fun b2 m1 => rdK H1 b2 m1 fun v2 => isI .i64 v2 fun n1 => Kb2 (DV.v (AV.i .i64 n1)) H1) (Kb2 DV.n H1)
def g224x7 := jn (fun d1 H2 => jn (fun d2 H3 => jn (fun d3 H4 => jn (fun d4 H5 => g224x6 d3 d4 t1 b1 H5 c1 c2 Kb1) fun Kb2 => grd d3 true (Kb2 (DV.v (AV.p (AP.at b1 nn23))) H4) (Kb2 DV.n H4)) fun Kb2 => br t1 (Kb2 DV.n H3) (Kb2 d2 H3)) fun Kb2 => br t1 (Kb2 DV.n H2) (onV d1 fun v1 => isP v1 fun p1 => onA p1 fun b2 m1 => rdK H2 b2 m1 fun v2 => isB v2 fun t2 => Kb2 (DV.v (AV.b t2)) H2)) fun Kb2 => br t1 (Kb2 DV.n H1) (Kb2 (DV.v (AV.p (AP.at b1 nn18))) H1)
def g224x8 := jn (fun d3 H2 => jn (fun d4 H3 => pickK t1 (DV.v (AV.b true)) d4 fun d5 => onV d5 fun v1 => isB v1 fun t2 => g224x7 t2 b1 H3 c1 c2 Kb1) fun Kb2 => br t1 (Kb2 DV.n H2) (onV d1 fun v1 => isB v1 fun t2 => pickK t2 d3 (DV.v (AV.b false)) fun d4 => onV d4 fun v2 => isB v2 fun t3 => Kb2 (DV.v (AV.b t3)) H2)) fun Kb2 => grd d1 true (onV d2 fun v1 => isI .i64 v1 fun n1 => frcB (bnot (ieq n1 ii0)) fun t2 => Kb2 (DV.v (AV.b t2)) H1) (Kb2 DV.n H1)
def g224x9 := jn (fun d2 H2 => jn (fun d3 H3 => jn (fun d4 H4 => jn (fun d5 H5 => g224x8 d3 d5 t1 b1 H5 c1 c2 Kb1) fun Kb2 => grd d3 true (onV d4 fun v1 => isP v1 fun p1 => onA p1 fun b2 m1 => rdK H4 b2 m1 fun v2 => isI .i64 v2 fun n1 => Kb2 (DV.v (AV.i .i64 n1)) H4) (Kb2 DV.n H4)) fun Kb2 => grd d3 true (Kb2 (DV.v (AV.p (AP.at b1 nn24))) H3) (Kb2 DV.n H3)) fun Kb2 => br t1 (Kb2 DV.n H2) (Kb2 d2 H2)) fun Kb2 => br t1 (Kb2 DV.n H1) (onV d1 fun v1 => isB v1 fun t2 => frcB (bnot t2) fun t3 => Kb2 (DV.v (AV.b t3)) H1)
def g224x10 := jn (fun d2 H2 => pickK t1 (DV.v (AV.b true)) d2 fun d3 => onV d3 fun v1 => isB v1 fun t2 => jn (fun d4 H3 => jn (fun d5 H4 => g224x9 d5 t2 b1 H4 c1 c2 Kb1) fun Kb2 => br t2 (Kb2 DV.n H3) (onV d4 fun v2 => isP v2 fun p1 => onA p1 fun b2 m1 => rdK H3 b2 m1 fun v3 => isB v3 fun t3 => Kb2 (DV.v (AV.b t3)) H3)) fun Kb2 => br t2 (Kb2 DV.n H2) (Kb2 (DV.v (AV.p (AP.at b1 nn18))) H2)) fun Kb2 => br t1 (Kb2 DV.n H1) (onV d1 fun v1 => isB v1 fun t2 => frcB (bnot t2) fun t3 => Kb2 (DV.v (AV.b t3)) H1)
def g224x11 := jn (fun d1 H2 => jn (fun d2 H3 => jn (fun d3 H4 => g224x10 d3 t1 b1 H4 c1 c2 Kb1) fun Kb2 => br t1 (Kb2 DV.n H3) (c3 [d2, (DV.v (AV.i .i64 ii4095))] H3 fun d3 H4 => onV d3 fun v1 => isB v1 fun t2 => Kb2 (DV.v (AV.b t2)) H4)) fun Kb2 => br t1 (Kb2 DV.n H2) (onV d1 fun v1 => isP v1 fun p1 => onA p1 fun b2 m1 => rdK H2 b2 m1 fun v2 => isI .i64 v2 fun n1 => Kb2 (DV.v (AV.i .i64 n1)) H2)) fun Kb2 => br t1 (Kb2 DV.n H1) (Kb2 (DV.v (AV.p (AP.at b1 nn23))) H1)
def g224x12 := jn (fun d2 H2 => jn (fun d3 H3 => jn (fun d4 H4 => pickK t1 (DV.v (AV.b true)) d4 fun d5 => onV d5 fun v1 => isB v1 fun t2 => g224x11 t2 b1 H4 c1 c2 c3 Kb1) fun Kb2 => br t1 (Kb2 DV.n H3) (onV d3 fun v1 => isB v1 fun t2 => frcB (bnot t2) fun t3 => Kb2 (DV.v (AV.b t3)) H3)) fun Kb2 => br t1 (Kb2 DV.n H2) (c3 [d2, (DV.v (AV.i .i64 ii65535))] H2 fun d3 H3 => onV d3 fun v1 => isB v1 fun t2 => Kb2 (DV.v (AV.b t2)) H3)) fun Kb2 => br t1 (Kb2 DV.n H1) (onV d1 fun v1 => isP v1 fun p1 => onA p1 fun b2 m1 => rdK H1 b2 m1 fun v2 => isI .i64 v2 fun n1 => Kb2 (DV.v (AV.i .i64 n1)) H1)
def g224x13 := jn (fun d2 H2 => jn (fun d3 H3 => pickK t1 (DV.v (AV.b true)) d3 fun d4 => onV d4 fun v1 => isB v1 fun t2 => jn (fun d5 H4 => g224x12 d5 t2 b1 H4 c1 c2 c3 Kb1) fun Kb2 => br t2 (Kb2 DV.n H3) (Kb2 (DV.v (AV.p (AP.at b1 nn24))) H3)) fun Kb2 => br t1 (Kb2 DV.n H2) (onV d2 fun v1 => isB v1 fun t2 => frcB (bnot t2) fun t3 => Kb2 (DV.v (AV.b t3)) H2)) fun Kb2 => br t1 (Kb2 DV.n H1) (c3 [d1, (DV.v (AV.i .i64 ii65535))] H1 fun d2 H2 => onV d2 fun v1 => isB v1 fun t2 => Kb2 (DV.v (AV.b t2)) H2)
def g224x14 := jn (fun d2 H2 => pickK t1 (DV.v (AV.b true)) d2 fun d3 => onV d3 fun v1 => isB v1 fun t2 => jn (fun d4 H3 => jn (fun d5 H4 => g224x13 d5 t2 b1 H4 c1 c2 c3 Kb1) fun Kb2 => br t2 (Kb2 DV.n H3) (onV d4 fun v2 => isP v2 fun p1 => onA p1 fun b2 m1 => rdK H3 b2 m1 fun v3 => isI .i64 v3 fun n1 => Kb2 (DV.v (AV.i .i64 n1)) H3)) fun Kb2 => br t2 (Kb2 DV.n H2) (Kb2 (DV.v (AV.p (AP.at b1 nn22))) H2)) fun Kb2 => br t1 (Kb2 DV.n H1) (onV d1 fun v1 => isB v1 fun t2 => frcB (bnot t2) fun t3 => Kb2 (DV.v (AV.b t3)) H1)
def g224x15 := jn (fun d1 H2 => jn (fun d2 H3 => jn (fun d3 H4 => g224x14 d3 t1 b1 H4 c1 c2 c3 Kb1) fun Kb2 => br t1 (Kb2 DV.n H3) (c3 [d2, (DV.v (AV.i .i64 ii1023))] H3 fun d3 H4 => onV d3 fun v1 => isB v1 fun t2 => Kb2 (DV.v (AV.b t2)) H4)) fun Kb2 => br t1 (Kb2 DV.n H2) (onV d1 fun v1 => isP v1 fun p1 => onA p1 fun b2 m1 => rdK H2 b2 m1 fun v2 => isI .i64 v2 fun n1 => Kb2 (DV.v (AV.i .i64 n1)) H2)) fun Kb2 => br t1 (Kb2 DV.n H1) (Kb2 (DV.v (AV.p (AP.at b1 nn21))) H1)
def g224x16 := jn (fun d2 H2 => jn (fun d3 H3 => jn (fun d4 H4 => pickK t1 (DV.v (AV.b true)) d4 fun d5 => onV d5 fun v1 => isB v1 fun t2 => g224x15 t2 b1 H4 c1 c2 c3 Kb1) fun Kb2 => br t1 (Kb2 DV.n H3) (onV d3 fun v1 => isB v1 fun t2 => frcB (bnot t2) fun t3 => Kb2 (DV.v (AV.b t3)) H3)) fun Kb2 => br t1 (Kb2 DV.n H2) (c3 [d2, (DV.v (AV.i .i64 ii7))] H2 fun d3 H3 => onV d3 fun v1 => isB v1 fun t2 => Kb2 (DV.v (AV.b t2)) H3)) fun Kb2 => br t1 (Kb2 DV.n H1) (onV d1 fun v1 => isP v1 fun p1 => onA p1 fun b2 m1 => rdK H1 b2 m1 fun v2 => isI .i64 v2 fun n1 => Kb2 (DV.v (AV.i .i64 n1)) H1)
/-- act.AddBytes -/
def g224 : G DV := fun R1 H1 Kb1 => lc R1 fun d1 R2 => ln R2 <| cellsD d1 fun l1 => alK H1 l1 fun b1 H2 => rdK H2 b1 nn19 fun v1 => isI .i64 v1 fun n1 => c1 [(DV.v (AV.i .i64 n1)), (DV.v (AV.i .i64 ii255))] H2 fun d2 H3 => onV d2 fun v2 => isB v2 fun t1 => frcB (bnot t1) fun t2 => jn (fun d3 H4 => g224x16 d3 t2 b1 H4 c2 c3 c1 Kb1) fun Kb2 => br t2 (Kb2 DV.n H3) (Kb2 (DV.v (AV.p (AP.at b1 nn20))) H3)
def G224 : G DV := g224 G290 G291 G292

def g243x1 := jn (fun d2 H2 => pickK t1 (DV.v (AV.b true)) d2 fun d3 => onV d3 fun v1 => isB v1 fun t2 => br t2 (Kb1 (DV.v (AV.er (nat_lit 4))) H2) (lenA s1 fun m1 => frcB (ilt (Int.ofNat m1) n1) fun t3 => br t3 (Kb1 (DV.v (AV.er (nat_lit 0))) H2) (lenA s1 fun m2 => frcB (ilt n1 (Int.ofNat m2)) fun t4 => br t4 (Kb1 (DV.v (AV.er (nat_lit 1))) H2) (Kb1 (DV.v AV.ni) H2)))) fun Kb2 => br t1 (Kb2 DV.n H1) (onV d1 fun v1 => isI .i64 v1 fun n2 => frcB (ilt n2 ii0) fun t2 => Kb2 (DV.v (AV.b t2)) H1)
def g243x2 := jn (fun d3 H2 => jn (fun d4 H3 => jn (fun d5 H4 => g243x1 d5 n1 t1 s1 H4 Kb1) fun Kb2 => br t1 (Kb2 DV.n H3) (c1 [d1, d4] H3 fun d5 H4 => onV d5 fun v1 => isI .i64 v1 fun n2 => Kb2 (DV.v (AV.i .i64 n2)) H4)) fun Kb2 => br t1 (Kb2 DV.n H2) (onV d3 fun v1 => isP v1 fun p1 => onA p1 fun b1 m1 => rdK H2 b1 m1 fun v2 => isI .u8 v2 fun n2 => Kb2 (DV.v (AV.i .u8 n2)) H2)) fun Kb2 => br t1 (Kb2 DV.n H1) (onV d2 fun v1 => isS v1 fun s2 => ixA s2 ii25 (fun x => x) fun b1 m1 => Kb2 (DV.v (AV.p (AP.at b1 m1))) H1)
def g243x3 := jn (fun d2 H2 => jn (fun d3 H3 => pickK t1 (DV.v (AV.b true)) d3 fun d4 => onV d4 fun v1 => isB v1 fun t2 => jn (fun d5 H4 => jn (fun d6 H5 => g243x2 d5 d6 n1 t2 s1 H5 c1 Kb1) fun Kb2 => br t2 (Kb2 DV.n H4) (Kb2 (DV.v (AV.s s1)) H4)) fun Kb2 => br t2 (Kb2 DV.n H3) (Kb2 (DV.v (AV.s s2)) H3)) fun Kb2 => br t1 (Kb2 DV.n H2) (onV d2 fun v1 => isI .u8 v1 fun n2 => frcB (bnot (ieq n2 ii3)) fun t2 => Kb2 (DV.v (AV.b t2)) H2)) fun Kb2 => br t1 (Kb2 DV.n H1) (onV d1 fun v1 => isP v1 fun p1 => onA p1 fun b1 m1 => rdK H1 b1 m1 fun v2 => isI .u8 v2 fun n2 => Kb2 (DV.v (AV.i .u8 n2)) H1)
def g243x4 := br t1 (Kb1 (DV.v (AV.er (nat_lit 0))) H1) (ixA s1 ii0 (fun x => x) fun b1 m1 => rdK H1 b1 m1 fun v1 => isI .u8 v1 fun n2 => frcB (bnot (ieq n2 ii208)) fun t2 => jn (fun d1 H2 => jn (fun d2 H3 => g243x3 d2 n1 t2 s1 s2 H3 c1 Kb1) fun Kb2 => br t2 (Kb2 DV.n H2) (onV d1 fun v2 => isS v2 fun s3 => ixA s3 ii24 (fun x => x) fun b2 m2 => Kb2 (DV.v (AV.p (AP.at b2 m2))) H2)) fun Kb2 => br t2 (Kb2 DV.n H1) (Kb2 (DV.v (AV.s s1)) H1))
/-- act.long -/
def g243 : G DV := fun R1 H1 Kb1 => lc R1 fun d1 R2 => onV d1 fun v1 => isS v1 fun s1 => lc R2 fun d2 R3 => onV d2 fun v2 => isI .i64 v2 fun n1 => lc R3 fun d3 R4 => onV d3 fun v3 => isS v3 fun s2 => ln R4 <| lenA s1 fun m1 => frcB (ilt (Int.ofNat m1) ii26) fun t1 => g243x4 n1 t1 s1 s2 H1 c1 Kb1
def G243 : G DV := g243 gIndexByte.G

def z12 : T4 AV := (@T4.n AV yy6 (@T4.n AV yy6 (@T4.n AV yy6 te te te te) (@T4.n AV yy6 te te te te) (@T4.n AV yy6 te te te te) (@T4.n AV yy6 te te te te)) (@T4.n AV yy6 (@T4.n AV yy6 te te te te) (@T4.n AV yy6 te te te te) (@T4.n AV yy6 te te te te) te) (@T4.n AV yy6 (@T4.n AV yy6 te te te te) (@T4.n AV yy6 te te te te) (@T4.n AV yy6 te te te te) te) (@T4.n AV yy6 (@T4.n AV yy6 te te te te) (@T4.n AV yy6 te te te te) (@T4.n AV yy6 te te te te) te))
def g244x1 := rdR H1 b1 nn12 nn6 fun l3 => must (aleq l1 l3) <| rdR H1 b1 nn6 nn6 fun l4 => must (aleq l2 l4) <| must (Nat.beq (llen l2) nn6) <| wrL H1 b2 nn0 l2 fun H2 => rdR H2 b1 nn12 nn6 fun l5 => must (aleq l1 l5) <| must (Nat.beq (llen l1) nn6) <| wrL H2 b3 nn0 l1 fun H3 => rdR H3 b4 nn0 nn6 fun l6 => rdR H3 b2 nn0 nn6 fun l7 => rdR H3 b3 nn0 nn6 fun l8 => Kb1 (DV.c (DV.a l6) (DV.c (DV.a l7) (DV.c (DV.a l8) DV.n))) H3
def g244x2 := br t1 (rng n1 nn3 <| wrp .i64 (imul n1 ii6) fun n2 => wrp .i64 (iadd ii4 n2) fun n3 => natK n3 fun m1 => lenA s1 fun m2 => slA s1 m1 m2 (fun x => x) fun s2 => copyD (nat_lit 1) (AS.sl b1 (Nat.add nn0 (Nat.mul (itn n1) nn6)) nn6 nn6) s2 H1 fun d1 H2 => wrp .i64 (iadd n1 ii1) fun n4 => Kb1 (DV.v (AV.i .i64 n4)) H2) (rdR H1 b1 nn0 nn6 fun l1 => rdR H1 b1 nn6 nn6 fun l2 => rdR H1 b1 nn12 nn6 fun l3 => must (Nat.beq (llen l1) nn6) <| wrL H1 b2 nn0 l1 fun H2 => g244x1 l3 l2 b1 b3 b4 b2 H2 Kb2)
/-- act.addrs -/
def g244 : G DV := fun R1 H1 Kb1 => lc R1 fun d1 R2 => onV d1 fun v1 => isS v1 fun s1 => ln R2 <| alB H1 z2 nn6 nn0 fun b1 H2 => alB H2 z2 nn6 nn0 fun b2 H3 => alB H3 z2 nn6 nn0 fun b3 H4 => alB H4 z12 nn18 nn0 fun b4 H5 => lpR (failF [(7 , .int .i64)]) (fun Kb2 => fun d2 H6 => onV d2 fun v2 => isI .i64 v2 fun n1 => frcB (ilt n1 ii3) fun t1 => g244x2 n1 t1 b4 b1 b2 b3 s1 H6 Kb2 Kb1) (nat_lit 100000) (DV.v (AV.i .i64 ii0)) H5
def G244 : G DV := g244

/-- act.number -/
def g245 : G DV := fun R1 H1 Kb1 => lc R1 fun d1 R2 => onV d1 fun v1 => isS v1 fun s1 => ln R2 <| ixA s1 ii0 (fun x => x) fun b1 m1 => rdK H1 b1 m1 fun v2 => isI .u8 v2 fun n1 => wrp .i64 n1 fun n2 => ixA s1 ii1 (fun x => x) fun b2 m2 => rdK H1 b2 m2 fun v3 => isI .u8 v3 fun n3 => wrp .i64 n3 fun n4 => wrp .i64 (imul n4 (ip2 ii8)) fun n5 => asI (bits .or .i64 n2 n5) fun n6 => Kb1 (DV.v (AV.i .i64 n6)) H1
def G245 : G DV := g245

def z13 : T4 AV := (@T4.n AV yy6 (@T4.n AV yy6 (@T4.n AV yy6 (@T4.n AV yy0 te te te te) te te te) (@T4.n AV yy6 te te te te) (@T4.n AV yy6 te te te te) (@T4.n AV yy6 te te te te)) (@T4.n AV yy6 (@T4.n AV yy6 (@T4.n AV yy0 te te te te) te te te) (@T4.n AV yy6 te te te te) (@T4.n AV yy6 te te te te) (@T4.n AV yy2 te te te te)) (@T4.n AV yy6 (@T4.n AV yy6 (@T4.n AV yy0 te te te te) te te te) (@T4.n AV yy6 te te te te) (@T4.n AV yy6 te te te te) (@T4.n AV yy0 te te te te)) (@T4.n AV yy6 (@T4.n AV yy6 (@T4.n AV yy0 te te te te) te te te) (@T4.n AV yy6 te te te te) (@T4.n AV yy6 te te te te) (@T4.n AV yy0 te te te te)))
def z14 : List AV := [(AV.i .u8 ii0), (AV.i .u8 ii0), (AV.i .u8 ii0), (AV.i .u8 ii0), (AV.i .u8 ii0), (AV.i .u8 ii0), (AV.i .u8 ii0), (AV.i .u8 ii0), (AV.i .u8 ii0), (AV.i .u8 ii0), (AV.i .u8 ii0), (AV.i .u8 ii0), (AV.i .u8 ii0), (AV.i .u8 ii0), (AV.i .u8 ii0), (AV.i .u8 ii0), (AV.i .u8 ii0), (AV.i .u8 ii0), (AV.b false), (AV.i .i64 ii0), (AV.i .i64 ii0), (AV.i .i64 ii0), (AV.i .i64 ii0), (AV.i .i64 ii0), (AV.i .i64 ii0)]
def g143x1 := jn (fun d2 H2 => pickK t1 (DV.v (AV.b true)) d2 fun d3 => onV d3 fun v1 => isB v1 fun t2 => br t2 (wrL H2 b1 nn0 z14 fun H3 => rdR H3 b1 nn0 nn25 fun l1 => Kb1 (DV.c (DV.a l1) (DV.c (DV.v (AV.er (nat_lit 1))) DV.n)) H3) (rdR H2 b2 nn0 nn25 fun l1 => must (Nat.beq (llen l1) nn25) <| wrL H2 b1 nn0 l1 fun H3 => rdR H3 b1 nn0 nn25 fun l2 => Kb1 (DV.c (DV.a l2) (DV.c (DV.v AV.ni) DV.n)) H3)) fun Kb2 => br t1 (Kb2 DV.n H1) (onV d1 fun v1 => isB v1 fun t2 => frcB (bnot t2) fun t3 => Kb2 (DV.v (AV.b t3)) H1)
def g143x2 := onC d1 fun d2 d3 => onV d2 fun v1 => onN d3 <| ifA true true v1 AV.ni fun t1 => frcB (bnot t1) fun t2 => jn (fun d4 H2 => jn (fun d5 H3 => jn (fun d6 H4 => g143x1 d6 t2 b1 b2 H4 Kb1) fun Kb2 => br t2 (Kb2 DV.n H3) (c1 [d4, d5] H3 fun d6 H4 => onV d6 fun v2 => isB v2 fun t3 => Kb2 (DV.v (AV.b t3)) H4)) fun Kb2 => br t2 (Kb2 DV.n H2) (Kb2 (DV.v (AV.s s1)) H2)) fun Kb2 => br t2 (Kb2 DV.n H1) (Kb2 (DV.v (AV.s s2)) H1)
def g143x3 := jF [] (fun H2 => rdR H2 b1 nn0 nn25 fun l1 => c1 [(DV.a l1)] H2 fun d1 H3 => onC d1 fun d2 d3 => onV d2 fun v1 => isS v1 fun s3 => g143x2 d3 b2 b1 s1 s3 H3 c2 Kb1) fun Ka1 => rdK H1 b1 nn18 fun v1 => isB v1 fun t1 => frcB (bnot t1) fun t2 => br t2 (lenA s2 fun m1 => slA s2 nn4 m1 (fun x => x) fun s3 => c3 [(DV.v (AV.s s3))] H1 fun d1 H2 => onV d1 fun v2 => isI .i64 v2 fun n1 => must (bnot (ieq ii16 ii0)) <| wrp .i64 (iquo n1 ii16) fun n2 => wrK H2 b1 nn23 (AV.i .i64 n2) fun H3 => Ka1 H3) (Ka1 H1)
def g143x4 := must (bnot (ieq ii4 ii0)) <| wrp .i64 (iquo n1 ii4) fun n3 => must (bnot (ieq ii64 ii0)) <| wrp .i64 (iquo n2 ii64) fun n4 => lenA s1 fun m1 => slA s1 nn2 m1 (fun x => x) fun s3 => c1 [(DV.v (AV.s s3))] H1 fun d1 H2 => onV d1 fun v1 => isI .i64 v1 fun n5 => wrK H2 b1 nn20 (AV.i .i64 n3) fun H3 => wrK H3 b1 nn21 (AV.i .i64 n4) fun H4 => wrK H4 b1 nn22 (AV.i .i64 n5) fun H5 => g143x3 b1 b2 s2 s1 H5 c2 c3 c1 Kb1
def g143x5 := jF [(6 , .slice)] (fun d1 H2 => onV d1 fun v1 => isS v1 fun s3 => c1 [(DV.v (AV.s s3))] H2 fun d2 H3 => onV d2 fun v2 => isI .i64 v2 fun n1 => must (bnot (ieq ii64 ii0)) <| asI (irem n1 ii64) fun n2 => g143x4 n2 n1 b1 b2 s3 s1 H3 c1 c2 c3 Kb1) fun Kb2 => rdK H1 b1 nn18 fun v1 => isB v1 fun t1 => br t1 (c1 [(DV.v (AV.s s2))] H1 fun d1 H2 => onV d1 fun v2 => isI .i64 v2 fun n1 => wrK H2 b1 nn24 (AV.i .i64 n1) fun H3 => lenA s2 fun m1 => slA s2 nn2 m1 (fun x => x) fun s3 => Kb2 (DV.v (AV.s s3)) H3) (Kb2 (DV.v (AV.s s2)) H1)
def g143x6 := c1 [(DV.v (AV.s s1))] H1 fun d1 H2 => onC d1 fun d2 d3 => onL d2 fun l1 => onC d3 fun d4 d5 => onL d4 fun l2 => onC d5 fun d6 d7 => onL d6 fun l3 => onN d7 <| must (Nat.beq (llen l1) nn6) <| wrL H2 b1 nn0 l1 fun H3 => must (Nat.beq (llen l2) nn6) <| wrL H3 b1 nn6 l2 fun H4 => must (Nat.beq (llen l3) nn6) <| wrL H4 b1 nn12 l3 fun H5 => lenA s1 fun m1 => slA s1 nn27 m1 (fun x => x) fun s2 => g143x5 b1 b2 s1 s2 H5 c2 c3 c4 Kb1
def g143x7 := wrL H1 b1 nn0 [(AV.i .u8 ii0), (AV.i .u8 ii0), (AV.i .u8 ii0), (AV.i .u8 ii0), (AV.i .u8 ii0), (AV.i .u8 ii0), (AV.i .u8 ii0), (AV.i .u8 ii0), (AV.i .u8 ii0), (AV.i .u8 ii0), (AV.i .u8 ii0), (AV.i .u8 ii0), (AV.i .u8 ii0), (AV.i .u8 ii0), (AV.i .u8 ii0), (AV.i .u8 ii0), (AV.i .u8 ii0), (AV.i .u8 ii0), (AV.b t1), (AV.i .i64 n1), (AV.i .i64 ii0), (AV.i .i64 ii0), (AV.i .i64 ii0), (AV.i .i64 ii0), (AV.i .i64 ii0)] fun H2 => g143x6 b1 b2 s1 H2 c1 c2 c3 c4 Kb1
def g143x8 := br t1 (wrL H1 b1 nn0 z14 fun H2 => rdR H2 b1 nn0 nn25 fun l1 => Kb1 (DV.c (DV.a l1) (DV.c (DV.v v1) DV.n)) H2) (ixA s1 ii25 (fun x => x) fun b2 m1 => rdK H1 b2 m1 fun v2 => isI .u8 v2 fun n1 => frcB (ieq n1 ii1) fun t2 => ixA s1 ii26 (fun x => x) fun b3 m2 => rdK H1 b3 m2 fun v3 => isI .u8 v3 fun n2 => wrp .i64 n2 fun n3 => alB H1 z13 nn25 nn0 fun b4 H2 => g143x7 n3 t2 b4 b1 s1 H2 c1 c2 c3 c4 Kb1)
def g143x9 := lc R1 fun d1 R2 => onV d1 fun v1 => isS v1 fun s1 => ln R2 <| alB H1 z13 nn25 nn0 fun b1 H2 => alB H2 (@T4.n AV yy6 (@T4.n AV yy16 te te te te) te te te) nn2 nn0 fun b2 H3 => c1 [(DV.v (AV.s s1)), (DV.v (AV.i .i64 ii33)), (DV.v (AV.s (AS.sl b2 nn0 nn2 nn2)))] H3 fun d2 H4 => onV d2 fun v2 => ifA true true v2 AV.ni fun t1 => frcB (bnot t1) fun t2 => g143x8 v2 t2 b1 s1 H4 c2 c3 c4 c5 Kb1
/-- act.ReadAdd -/
def g143 : G DV := fun R1 H1 Kb1 => g143x9 R1 H1 c3 c4 c5 c2 c1 Kb1
def G143 : G DV := g143 gEqual.G G224 G243 G244 G245

def g124x1 := jn (fun d1 H2 => jn (fun d2 H3 => pickK t1 (DV.v (AV.b true)) d2 fun d3 => onV d3 fun v1 => isB v1 fun t2 => br t2 (Kb1 (DV.v (AV.p AP.nil)) H3) (wrp .i64 (isub n1 ii1) fun n2 => onA p1 fun b1 m1 => rng n2 nn16 <| rdK H3 b1 (Nat.add (Nat.add m1 nn329) (itn n2)) fun v2 => isP v2 fun p2 => Kb1 (DV.v (AV.p p2)) H3)) fun Kb2 => br t1 (Kb2 DV.n H2) (onV d1 fun v1 => isI .i64 v1 fun n2 => frcB (ilt ii16 n2) fun t2 => Kb2 (DV.v (AV.b t2)) H2)) fun Kb2 => br t1 (Kb2 DV.n H1) (Kb2 (DV.v (AV.i .i64 n1)) H1)
/-- (*ap.AP).of -/
def g124 : G DV := fun R1 H1 Kb1 => lc R1 fun d1 R2 => onV d1 fun v1 => isP v1 fun p1 => lc R2 fun d2 R3 => onV d2 fun v2 => isI .i64 v2 fun n1 => ln R3 <| frcB (ilt n1 ii1) fun t1 => g124x1 n1 t1 p1 H1 Kb1
def G124 : G DV := g124

def g162x1 := onV d1 fun v1 => isI .i64 v1 fun n2 => onC d2 fun d3 d4 => onV d3 fun v2 => isB v2 fun t1 => onN d4 <| frcB (bnot t1) fun t2 => br t2 (Kb1 (DV.c (DV.v (AV.p AP.nil)) (DV.c (DV.v (AV.er (nat_lit 6))) DV.n)) H1) (c1 [(DV.v (AV.p p1)), (DV.v (AV.i .i64 n2))] H1 fun d5 H2 => onV d5 fun v3 => isP v3 fun p2 => onA p2 fun b1 m1 => rng n1 nn8 <| Kb1 (DV.c (DV.v (AV.p (AP.at b1 (Nat.add (Nat.add m1 nn6) (Nat.mul (itn n1) nn5))))) (DV.c (DV.v AV.ni) DV.n)) H2)
def g162x2 := rdR H1 b1 m1 nn6 fun l2 => intsK .u8 l1 fun x1 => intsK .u8 l2 fun x2 => must (Nat.beq (leni x1) nn6) <| must (Nat.beq (leni x2) nn6) <| frcB (bnot (leqI x1 x2)) fun t1 => br t1 (Kb1 (DV.v (AV.b true)) H1) (rdR H1 b2 nn0 nn6 fun l3 => onA p1 fun b3 m2 => rdR H1 b3 m2 nn6 fun l4 => intsK .u8 l3 fun x3 => intsK .u8 l4 fun x4 => must (Nat.beq (leni x3) nn6) <| must (Nat.beq (leni x4) nn6) <| frcB (bnot (leqI x3 x4)) fun t2 => Kb1 (DV.v (AV.b t2)) H1)
def g162x3 := jF [(29 , .bool)] (fun d1 H2 => onV d1 fun v1 => isB v1 fun t1 => br t1 (Kb1 (DV.c (DV.v (AV.p AP.nil)) (DV.c (DV.v (AV.er (nat_lit 4))) DV.n)) H2) (onA p1 fun b4 m1 => rdR H2 b1 nn0 nn6 fun l1 => c1 [(DV.v (AV.p (AP.at b4 (Nat.add m1 nn22)))), (DV.a l1)] H2 fun d2 H3 => onC d2 fun d3 d4 => g162x1 d3 d4 n1 p1 H3 c2 Kb1)) fun Kb2 => rdR H1 b2 nn0 nn6 fun l1 => onA p1 fun b4 m1 => g162x2 l1 m1 p1 b4 b3 H1 Kb2
/-- (*ap.AP).line -/
def g162 : G DV := fun R1 H1 Kb1 => lc R1 fun d1 R2 => onV d1 fun v1 => isP v1 fun p1 => lc R2 fun d2 R3 => lc R3 fun d3 R4 => lc R4 fun d4 R5 => lc R5 fun d5 R6 => onV d5 fun v2 => isI .i64 v2 fun n1 => ln R6 <| cellsD d2 fun l1 => alK H1 l1 fun b1 H2 => cellsD d3 fun l2 => alK H2 l2 fun b2 H3 => cellsD d4 fun l3 => alK H3 l3 fun b3 H4 => g162x3 n1 p1 b3 b1 b2 H4 c2 c1 Kb1
def G162 : G DV := g162 G124 G160

def g260x1 := jn (fun d2 H2 => pickK t1 (DV.v (AV.b true)) d2 fun d3 => onV d3 fun v1 => isB v1 fun t2 => br t2 (Kb1 (DV.v (AV.er (nat_lit 2))) H2) (onA p1 fun b1 m1 => rdK H2 b1 (Nat.add m1 nn3) fun v2 => isS v2 fun s1 => lenA s1 fun m2 => frcB (ilt ii0 (Int.ofNat m2)) fun t3 => br t3 (Kb1 (DV.v (AV.er (nat_lit 9))) H2) (onA p1 fun b2 m3 => wrK H2 b2 (Nat.add m3 nn2) (AV.i .i64 n1) fun H3 => Kb1 (DV.v AV.ni) H3))) fun Kb2 => br t1 (Kb2 DV.n H1) (onV d1 fun v1 => isI .i64 v1 fun n2 => frcB (ilt ii64 n2) fun t2 => Kb2 (DV.v (AV.b t2)) H1)
/-- (*win.Win).Resize -/
def g260 : G DV := fun R1 H1 Kb1 => lc R1 fun d1 R2 => onV d1 fun v1 => isP v1 fun p1 => lc R2 fun d2 R3 => onV d2 fun v2 => isI .i64 v2 fun n1 => ln R3 <| frcB (ilt n1 ii1) fun t1 => jn (fun d3 H2 => g260x1 d3 n1 t1 p1 H2 Kb1) fun Kb2 => br t1 (Kb2 DV.n H1) (Kb2 (DV.v (AV.i .i64 n1)) H1)
def G260 : G DV := g260

def g163x1 := jF [(9 , .int .i64)] (fun d1 H2 => onV d1 fun v1 => isI .i64 v1 fun n3 => onA p1 fun b1 m1 => rdK H2 b1 m1 fun v2 => isP v2 fun p2 => c1 [(DV.v (AV.p p2)), (DV.v (AV.i .i64 n3))] H2 fun d2 H3 => onV d2 fun v3 => ifA true true v3 AV.ni fun t1 => frcB (bnot t1) fun t2 => br t2 (Kb1 (DV.v v3) H3) (onA p1 fun b2 m2 => wrK H3 b2 (Nat.add m2 nn4) (AV.i .i64 ii3) fun H4 => Kb1 (DV.v AV.ni) H4)) fun Kb2 => frcB (ilt ii0 n1) fun t1 => br t1 (asI (imin n2 n1) fun n3 => Kb2 (DV.v (AV.i .i64 n3)) H1) (Kb2 (DV.v (AV.i .i64 n2)) H1)
def g163x2 := jn (fun d1 H2 => jn (fun d2 H3 => pickK t1 (DV.v (AV.b true)) d2 fun d3 => onV d3 fun v1 => isB v1 fun t2 => br t2 (Kb1 (DV.v (AV.er (nat_lit 2))) H3) (onA p1 fun b1 m1 => rdK H3 b1 (Nat.add m1 nn1) fun v2 => isI .i64 v2 fun n2 => g163x1 n1 n2 p1 H3 c1 Kb1)) fun Kb2 => br t1 (Kb2 DV.n H2) (onV d1 fun v1 => isI .i64 v1 fun n2 => frcB (ile ii1024 n2) fun t2 => Kb2 (DV.v (AV.b t2)) H2)) fun Kb2 => br t1 (Kb2 DV.n H1) (Kb2 (DV.v (AV.i .i64 n1)) H1)
def g163x3 := jn (fun d3 H2 => pickK t1 (DV.v (AV.b true)) d3 fun d4 => onV d4 fun v1 => isB v1 fun t2 => br t2 (Kb1 (DV.v (AV.er (nat_lit 9))) H2) (frcB (bnot (ieq n1 ii0)) fun t3 => br t3 (onA p1 fun b1 m1 => wrK H2 b1 (Nat.add m1 nn4) (AV.i .i64 ii1) fun H3 => Kb1 (DV.v AV.ni) H3) (frcB (ilt n2 ii0) fun t4 => g163x2 n2 t4 p1 H2 c1 Kb1))) fun Kb2 => br t1 (Kb2 DV.n H1) (onV d1 fun v1 => onV d2 fun v2 => isI .i64 v1 fun n3 => isI .i64 v2 fun n4 => frcB (bnot (ieq n3 n4)) fun t2 => Kb2 (DV.v (AV.b t2)) H1)
def g163x4 := jn (fun d3 H2 => jn (fun d4 H3 => jn (fun d5 H4 => g163x3 d1 d5 n1 n2 t1 p1 H4 c1 Kb1) fun Kb2 => br t1 (Kb2 DV.n H3) (onV d4 fun v1 => isP v1 fun p2 => onA p2 fun b1 m1 => rdK H3 b1 m1 fun v2 => isI .i64 v2 fun n3 => Kb2 (DV.v (AV.i .i64 n3)) H3)) fun Kb2 => br t1 (Kb2 DV.n H2) (onV d3 fun v1 => isP v1 fun p2 => onA p2 fun b1 m1 => Kb2 (DV.v (AV.p (AP.at b1 (Nat.add m1 nn5)))) H2)) fun Kb2 => br t1 (Kb2 DV.n H1) (onV d2 fun v1 => isP v1 fun p2 => onA p2 fun b1 m1 => Kb2 (DV.v (AV.p (AP.at b1 m1))) H1)
def g163x5 := lc R1 fun d1 R2 => onV d1 fun v1 => isI .i64 v1 fun n2 => lc R2 fun d2 R3 => onV d2 fun v2 => isI .i64 v2 fun n3 => ln R3 <| onA p1 fun b1 m1 => rdK H1 b1 (Nat.add m1 nn4) fun v3 => isI .i64 v3 fun n4 => frcB (bnot (ieq n4 ii2)) fun t1 => jn (fun d3 H2 => jn (fun d4 H3 => g163x4 d3 d4 n2 n3 t1 p1 H3 c1 Kb1) fun Kb2 => br t1 (Kb2 DV.n H2) (Kb2 (DV.v (AV.p p1)) H2)) fun Kb2 => br t1 (Kb2 DV.n H1) (Kb2 (DV.v (AV.i .i64 n1)) H1)
/-- (*ba.Session).Answer -/
def g163 : G DV := fun R1 H1 Kb1 => lc R1 fun d1 R2 => onV d1 fun v1 => isP v1 fun p1 => lc R2 fun d2 R3 => onV d2 fun v2 => isI .i64 v2 fun n1 => g163x5 R3 n1 p1 H1 c1 Kb1
def G163 : G DV := g163 G260

/-- (*ba.Session).State -/
def g164 : G DV := fun R1 H1 Kb1 => lc R1 fun d1 R2 => onV d1 fun v1 => isP v1 fun p1 => ln R2 <| onA p1 fun b1 m1 => rdK H1 b1 (Nat.add m1 nn4) fun v2 => isI .i64 v2 fun n1 => Kb1 (DV.v (AV.i .i64 n1)) H1
def G164 : G DV := g164

def g90x1 := pickK t1 (DV.v (AV.b true)) d1 fun d2 => onV d2 fun v1 => isB v1 fun t2 => onA p1 fun b1 m1 => wrK H1 b1 (Nat.add m1 nn2) (AV.b t2) fun H2 => jF [] (fun H3 => Kb1 (DV.v AV.ni) H3) fun Ka1 => onA p1 fun b2 m2 => rdK H2 b2 m2 fun v2 => isP v2 fun p2 => c1 [(DV.v (AV.p p2))] H2 fun d3 H3 => onV d3 fun v3 => isI .i64 v3 fun n1 => frcB (ieq n1 ii3) fun t3 => br t3 (onA p1 fun b3 m3 => wrK H3 b3 (Nat.add m3 nn1) (AV.i .i64 ii0) fun H4 => Ka1 H4) (Ka1 H3)
def g90x2 := jn (fun d1 H2 => jn (fun d2 H3 => jn (fun d3 H4 => g90x1 d3 t1 p1 H4 c1 Kb1) fun Kb2 => br t1 (Kb2 DV.n H3) (onV d2 fun v1 => isI .i64 v1 fun n1 => frcB (bnot (ieq n1 ii0)) fun t2 => Kb2 (DV.v (AV.b t2)) H3)) fun Kb2 => br t1 (Kb2 DV.n H2) (onV d1 fun v1 => isP v1 fun p2 => onA p2 fun b2 m1 => rdK H2 b2 m1 fun v2 => isI .i64 v2 fun n1 => Kb2 (DV.v (AV.i .i64 n1)) H2)) fun Kb2 => br t1 (Kb2 DV.n H1) (Kb2 (DV.v (AV.p (AP.at b1 nn24))) H1)
def g90x3 := isI .i64 v1 fun n1 => rdK H1 b1 nn24 fun v2 => isI .i64 v2 fun n2 => rdK H1 b1 nn21 fun v3 => isI .i64 v3 fun n3 => c1 [(DV.v (AV.p p1)), (DV.v (AV.i .i64 n1)), (DV.v (AV.i .i64 n2)), (DV.v (AV.i .i64 n3))] H1 fun d1 H2 => onV d1 fun v4 => ifA true true v4 AV.ni fun t1 => frcB (bnot t1) fun t2 => br t2 (Kb1 (DV.v v4) H2) (onA p2 fun b2 m1 => rdK H2 b2 (Nat.add m1 nn2) fun v5 => isB v5 fun t3 => g90x2 t3 p2 b1 H2 c2 Kb1)
def g90x4 := isI .i64 v1 fun n1 => c1 [(DV.v (AV.p p1)), (DV.a l1), (DV.a l2), (DV.a l3), (DV.v (AV.i .i64 n1))] H1 fun d1 H2 => onC d1 fun d2 d3 => onV d2 fun v2 => isP v2 fun p2 => onC d3 fun d4 d5 => onV d4 fun v3 => onN d5 <| ifA true true v3 AV.ni fun t1 => frcB (bnot t1) fun t2 => br t2 (Kb1 (DV.v v3) H2) (onA p2 fun b2 m1 => rdK H2 b2 m1 fun v4 => isP v4 fun p3 => rdK H2 b1 nn19 fun v5 => g90x3 v5 p3 p2 b1 H2 c2 c3 Kb1)
def g90x5 := must (Nat.beq (llen l1) nn25) <| wrL H1 b1 nn0 l1 fun H2 => ifA true true v1 AV.ni fun t1 => frcB (bnot t1) fun t2 => br t2 (Kb1 (DV.v v1) H2) (rdK H2 b1 nn18 fun v2 => isB v2 fun t3 => frcB (bnot t3) fun t4 => br t4 (Kb1 (DV.v (AV.er (nat_lit 4))) H2) (rdR H2 b1 nn0 nn6 fun l2 => rdR H2 b1 nn12 nn6 fun l3 => rdR H2 b1 nn6 nn6 fun l4 => rdK H2 b1 nn20 fun v3 => g90x4 v3 l2 l3 l4 p1 b1 H2 c1 c2 c3 Kb1))
/-- (*ap.AP).add -/
def g90 : G DV := fun R1 H1 Kb1 => lc R1 fun d1 R2 => onV d1 fun v1 => isP v1 fun p1 => lc R2 fun d2 R3 => onV d2 fun v2 => isS v2 fun s1 => ln R3 <| c1 [(DV.v (AV.s s1))] H1 fun d3 H2 => onC d3 fun d4 d5 => onL d4 fun l1 => onC d5 fun d6 d7 => onV d6 fun v3 => onN d7 <| alB H2 z13 nn25 nn0 fun b1 H3 => g90x5 v3 l1 p1 b1 H3 c2 c3 c4 Kb1
def G90 : G DV := g90 G143 G162 G163 G164

def g42x1 := jn (fun d2 H2 => jn (fun d3 H3 => pickK t1 d3 (DV.v (AV.b false)) fun d4 => onV d4 fun v1 => isB v1 fun t2 => br t2 (Kb1 (DV.v (AV.fn (nat_lit 91) [])) H3) (Kb1 (DV.v (AV.fn (nat_lit 90) [])) H3)) fun Kb2 => br t1 (onV d2 fun v1 => isI .u8 v1 fun n1 => frcB (ieq n1 ii2) fun t2 => Kb2 (DV.v (AV.b t2)) H2) (Kb2 DV.n H2)) fun Kb2 => br t1 (onV d1 fun v1 => isP v1 fun p1 => onA p1 fun b1 m1 => rdK H1 b1 m1 fun v2 => isI .u8 v2 fun n1 => Kb2 (DV.v (AV.i .u8 n1)) H1) (Kb2 DV.n H1)
def g42x2 := jn (fun d2 H2 => pickK t1 d2 (DV.v (AV.b false)) fun d3 => onV d3 fun v1 => isB v1 fun t2 => jn (fun d4 H3 => jn (fun d5 H4 => g42x1 d5 t2 H4 Kb1) fun Kb2 => br t2 (onV d4 fun v2 => isS v2 fun s2 => ixA s2 ii25 (fun x => x) fun b1 m1 => Kb2 (DV.v (AV.p (AP.at b1 m1))) H3) (Kb2 DV.n H3)) fun Kb2 => br t2 (Kb2 (DV.v (AV.s s1)) H2) (Kb2 DV.n H2)) fun Kb2 => br t1 (onV d1 fun v1 => isI .u8 v1 fun n1 => frcB (ieq n1 ii3) fun t2 => Kb2 (DV.v (AV.b t2)) H1) (Kb2 DV.n H1)
def g42x3 := jn (fun d1 H2 => jn (fun d2 H3 => jn (fun d3 H4 => g42x2 d3 t1 s1 H4 Kb1) fun Kb2 => br t1 (onV d2 fun v1 => isP v1 fun p1 => onA p1 fun b1 m1 => rdK H3 b1 m1 fun v2 => isI .u8 v2 fun n1 => Kb2 (DV.v (AV.i .u8 n1)) H3) (Kb2 DV.n H3)) fun Kb2 => br t1 (onV d1 fun v1 => isS v1 fun s2 => ixA s2 ii24 (fun x => x) fun b1 m1 => Kb2 (DV.v (AV.p (AP.at b1 m1))) H2) (Kb2 DV.n H2)) fun Kb2 => br t1 (Kb2 (DV.v (AV.s s1)) H1) (Kb2 DV.n H1)
def g42x4 := jF [(5 , .any)] (fun d1 H2 => onV d1 fun v1 => fnK v1 fun m1 L1 L2 => lookD [((nat_lit 88) , c1), ((nat_lit 90) , c2)] m1 (appA (mapP L1) (appA [(DV.v (AV.p p1)), (DV.v (AV.s s1))] (mapP L2))) H2 fun d2 H3 => onV d2 fun v2 => Kb1 (DV.v v2) H3) fun Kb2 => c1 [(DV.v (AV.s s1))] H1 fun d1 H2 => onV d1 fun v1 => isI .i64 v1 fun n1 => frcB (ieq n1 ii164) fun t1 => br t1 (Kb2 (DV.v (AV.fn (nat_lit 89) [])) H2) (frcB (ieq n1 ii208) fun t2 => br t2 (lenA s1 fun m1 => frcB (ile ii26 (Int.ofNat m1)) fun t3 => g42x3 t3 s1 H2 Kb2) (Kb2 (DV.v (AV.fn (nat_lit 87) [])) H2))
/-- (*ap.AP).Handle -/
def g42 : G DV := fun R1 H1 Kb1 => lc R1 fun d1 R2 => onV d1 fun v1 => isP v1 fun p1 => lc R2 fun d2 R3 => onV d2 fun v2 => isS v2 fun s1 => ln R3 <| g42x4 p1 s1 H1 c1 c2 Kb1
def G42 : G DV := g42 G88 G90

def g71x1 := alB H1 z6 nn8 nn0 fun b1 H2 => must (Nat.beq (llen (ltake (nat_lit 8) (ldrop (Nat.mul (itn n1) nn8) l1))) nn8) <| wrL H2 b1 nn0 (ltake (nat_lit 8) (ldrop (Nat.mul (itn n1) nn8) l1)) fun H3 => rdK H3 b1 nn0 fun v1 => isB v1 fun t1 => br t1 (wrp .i64 (iadd n1 ii1) fun n2 => alB H3 (@T4.n AV (AV.i .i64 n2) te te te te) nn1 nn0 fun b2 H4 => appD nn1 nn8 s1 (AS.sl b2 nn0 nn1 nn1) H4 fun s2 H5 => Kb1 (DV.v (AV.s s2)) H5) (Kb1 (DV.v (AV.s s1)) H3)
def g71x2 := lpR (failF [(3 , .slice), (10 , .int .i64)]) (fun Kc1 => fun d1 d2 H2 => onV d1 fun v1 => isS v1 fun s1 => onV d2 fun v2 => isI .i64 v2 fun n1 => frcB (ilt n1 ii16) fun t1 => br t1 (jF [(3 , .slice)] (fun d3 H3 => onV d3 fun v3 => isS v3 fun s2 => wrp .i64 (iadd n1 ii1) fun n2 => Kc1 (DV.v (AV.s s2)) (DV.v (AV.i .i64 n2)) H3) fun Kb2 => rng n1 nn16 <| g71x1 l1 n1 s1 H2 Kb2) (Kb1 (DV.v (AV.s s1)) H2)) (nat_lit 100000) (DV.v (AV.s AS.nil)) (DV.v (AV.i .i64 ii0)) H1
/-- (*sta.Table).All -/
def g71 : G DV := fun R1 H1 Kb1 => lc R1 fun d1 R2 => onV d1 fun v1 => isP v1 fun p1 => ln R2 <| onA p1 fun b1 m1 => rdR H1 b1 m1 nn128 fun l1 => g71x2 l1 H1 Kb1
def G71 : G DV := g71

/-- (*ba.Session).Out$1 -/
def g193 : G DV := fun R1 H1 Kb1 => lc R1 fun d1 R2 => ln R2 <| cellsD d1 fun l1 => alK H1 l1 fun b1 H2 => Kb1 (DV.v (AV.b true)) H2
def G193 : G DV := g193

/-- slices.Clone[[]byte,byte] -/
def g64 : G DV := fun R1 H1 Kb1 => lc R1 fun d1 R2 => onV d1 fun v1 => isS v1 fun s1 => ln R2 <| frcB (isNilS s1) fun t1 => br t1 (Kb1 (DV.v (AV.s AS.nil)) H1) (alB H1 te nn0 nn0 fun b1 H2 => appD nn1 nn1 (AS.sl b1 nn0 nn0 nn0) s1 H2 fun s2 H3 => Kb1 (DV.v (AV.s s2)) H3)
def G64 : G DV := g64

def z15 : T4 AV := (@T4.n AV yy0 (@T4.n AV yy1 (@T4.n AV yy0 te te te te) te te te) (@T4.n AV yy0 (@T4.n AV yy0 te te te te) te te te) (@T4.n AV yy0 (@T4.n AV yy0 te te te te) te te te) (@T4.n AV yy3 te te te te))
/-- ba.own -/
def g275 : G DV := fun R1 H1 Kb1 => lc R1 fun d1 R2 => ln R2 <| cellsD d1 fun l1 => alK H1 l1 fun b1 H2 => alB H2 z15 nn8 nn0 fun b2 H3 => rdK H3 b1 nn4 fun v1 => isS v1 fun s1 => c1 [(DV.v (AV.s s1))] H3 fun d2 H4 => onV d2 fun v2 => isS v2 fun s2 => wrK H4 b1 nn4 (AV.s s2) fun H5 => rdR H5 b1 nn0 nn8 fun l2 => must (Nat.beq (llen l2) nn8) <| wrL H5 b2 nn0 l2 fun H6 => rdR H6 b2 nn0 nn8 fun l3 => Kb1 (DV.a l3) H6
def G275 : G DV := g275 G64

/-- seq.mod -/
def g303 : G DV := fun R1 H1 Kb1 => lc R1 fun d1 R2 => onV d1 fun v1 => isI .i64 v1 fun n1 => ln R2 <| must (bnot (ieq ii4096 ii0)) <| asI (irem n1 ii4096) fun n2 => wrp .i64 (iadd n2 ii4096) fun n3 => must (bnot (ieq ii4096 ii0)) <| asI (irem n3 ii4096) fun n4 => Kb1 (DV.v (AV.i .i64 n4)) H1
def G303 : G DV := g303

def g239x1 := lc R1 fun d1 R2 => onV d1 fun v1 => isI .i64 v1 fun n1 => lc R2 fun d2 R3 => onV d2 fun v2 => isI .i64 v2 fun n2 => ln R3 <| c1 [(DV.v (AV.i .i64 n2))] H1 fun d3 H2 => onV d3 fun v3 => isI .i64 v3 fun n3 => c1 [(DV.v (AV.i .i64 n1))] H2 fun d4 H3 => onV d4 fun v4 => isI .i64 v4 fun n4 => wrp .i64 (isub n3 n4) fun n5 => c1 [(DV.v (AV.i .i64 n5))] H3 fun d5 H4 => onV d5 fun v5 => isI .i64 v5 fun n6 => Kb1 (DV.v (AV.i .i64 n6)) H4
/-- seq.Dist -/
def g239 : G DV := fun R1 H1 Kb1 => g239x1 R1 H1 c1 Kb1
def G239 : G DV := g239 G303

def g308x1 := jn (fun d3 H2 => jn (fun d4 H3 => jn (fun d5 H4 => pickK t1 d5 (DV.v (AV.b false)) fun d6 => onV d6 fun v1 => isB v1 fun t2 => Kb1 (DV.v (AV.b t2)) H4) fun Kb2 => br t1 (onV d4 fun v1 => isI .i64 v1 fun n1 => frcB (ilt n1 ii64) fun t2 => Kb2 (DV.v (AV.b t2)) H3) (Kb2 DV.n H3)) fun Kb2 => br t1 (c1 [d1, d3] H2 fun d4 H3 => onV d4 fun v1 => isI .i64 v1 fun n1 => Kb2 (DV.v (AV.i .i64 n1)) H3) (Kb2 DV.n H2)) fun Kb2 => br t1 (onV d2 fun v1 => isP v1 fun p1 => onA p1 fun b1 m1 => rdK H1 b1 m1 fun v2 => isI .i64 v2 fun n1 => Kb2 (DV.v (AV.i .i64 n1)) H1) (Kb2 DV.n H1)
def g308x2 := jn (fun d2 H2 => jn (fun d3 H3 => jn (fun d4 H4 => g308x1 d2 d4 t1 H4 c1 Kb1) fun Kb2 => br t1 (onV d3 fun v1 => isP v1 fun p1 => onA p1 fun b2 m1 => Kb2 (DV.v (AV.p (AP.at b2 (Nat.add m1 nn5)))) H3) (Kb2 DV.n H3)) fun Kb2 => br t1 (Kb2 (DV.v (AV.p (AP.at b1 nn0))) H2) (Kb2 DV.n H2)) fun Kb2 => br t1 (onV d1 fun v1 => isP v1 fun p1 => onA p1 fun b2 m1 => rdK H1 b2 m1 fun v2 => isI .i64 v2 fun n1 => Kb2 (DV.v (AV.i .i64 n1)) H1) (Kb2 DV.n H1)
/-- (*ba.Session).Heard$1 -/
def g308 : G DV := fun R1 H1 Kb1 => lc R1 fun d1 R2 => lc R2 fun d2 R3 => onV d2 fun v1 => isP v1 fun p1 => ln R3 <| cellsD d1 fun l1 => alK H1 l1 fun b1 H2 => rdK H2 b1 nn8 fun v2 => isB v2 fun t1 => jn (fun d3 H3 => g308x2 d3 t1 b1 H3 c1 Kb1) fun Kb2 => br t1 (onA p1 fun b2 m1 => Kb2 (DV.v (AV.p (AP.at b2 (Nat.add m1 nn13)))) H2) (Kb2 DV.n H2)
def G308 : G DV := g308 G239

def g311x1 := rdK H1 b1 (Nat.add m1 nn13) fun v1 => isI .i64 v1 fun n2 => rdK H1 b2 nn5 fun v2 => isI .i64 v2 fun n3 => c1 [(DV.v (AV.i .i64 n2)), (DV.v (AV.i .i64 n3))] H1 fun d1 H2 => onV d1 fun v3 => isI .i64 v3 fun n4 => rdK H2 b3 (Nat.add m2 nn14) fun v4 => must (aveq (AV.i .u64 n1) v4) <| must (ile ii0 n4) <| must (ile n4 ii64) <| asI (idiv n1 (ip2 n4)) fun n5 => asI (bits .and .u64 n5 ii1) fun n6 => frcB (ilt ii0 n6) fun t1 => Kb1 (DV.v (AV.b t1)) H2
def g311x2 := rdK H1 b1 m1 fun v1 => rdR H1 b2 nn0 nn9 fun l1 => fnK v1 fun m2 L1 L2 => lookD [((nat_lit 239) , c1), ((nat_lit 308) , c2)] m2 (appA (mapP L1) (appA [(DV.a l1)] (mapP L2))) H1 fun d1 H2 => onV d1 fun v2 => isB v2 fun t1 => br t1 (onA p1 fun b3 m3 => rdK H2 b3 (Nat.add m3 nn14) fun v3 => isI .u64 v3 fun n1 => onA p1 fun b4 m4 => g311x1 n1 m4 m3 b4 b2 b3 H2 c1 Kb1) (Kb1 (DV.v (AV.b false)) H2)
/-- (*ba.Session).Heard$2 -/
def g311 : G DV := fun R1 H1 Kb1 => lc R1 fun d1 R2 => lc R2 fun d2 R3 => onV d2 fun v1 => isP v1 fun p1 => lc R3 fun d3 R4 => onV d3 fun v2 => isP v2 fun p2 => ln R4 <| cellsD d1 fun l1 => alK H1 l1 fun b1 H2 => onA p1 fun b2 m1 => g311x2 m1 p2 b2 b1 H2 c1 c2 Kb1
def G311 : G DV := g311 G239 G308

def z16 : T4 AV := (@T4.n AV yy0 (@T4.n AV yy1 (@T4.n AV yy0 te te te te) te te te) (@T4.n AV yy0 (@T4.n AV yy0 te te te te) te te te) (@T4.n AV yy0 (@T4.n AV yy0 te te te te) te te te) (@T4.n AV yy3 (@T4.n AV yy2 te te te te) te te te))
def g192x1 := lookD [((nat_lit 193) , c1), ((nat_lit 275) , c2), ((nat_lit 311) , c3)] m1 (appA (mapP L1) (appA [(DV.a l1)] (mapP L2))) H1 fun d1 H2 => onV d1 fun v1 => isB v1 fun t1 => br t1 (rdR H2 b1 nn0 nn8 fun l2 => c2 [(DV.a l2)] H2 fun d2 H3 => onL d2 fun l3 => must (Nat.beq (llen l3) nn8) <| alK H3 (lapp l3 []) fun b2 H4 => appD nn8 nn80 s1 (AS.sl b2 nn0 nn1 nn1) H4 fun s2 H5 => Kb1 (DV.v (AV.s s2)) H5) (Kb1 (DV.v (AV.s s1)) H2)
def g192x2 := jF [(5 , .slice)] (fun d2 H2 => onV d2 fun v1 => isS v1 fun s3 => wrp .i64 (iadd n1 ii1) fun n2 => Kc1 (DV.v (AV.s s3)) (DV.v (AV.i .i64 n2)) H2) fun Kb1 => ixA s1 n1 (fun x => Nat.mul x nn9) fun b1 m1 => rdR H1 b1 m1 nn9 fun l1 => alB H1 z16 nn9 nn0 fun b2 H2 => must (Nat.beq (llen l1) nn9) <| wrL H2 b2 nn0 l1 fun H3 => rdR H3 b2 nn0 nn9 fun l2 => onV d1 fun v1 => fnK v1 fun m2 L1 L2 => g192x1 l2 L1 L2 m2 b2 s2 H3 c1 c2 c3 Kb1
def g192x3 := lc R1 fun d1 R2 => ln R2 <| onA p1 fun b1 m1 => rdK H1 b1 (Nat.add m1 nn6) fun v1 => isS v1 fun s1 => lenA s1 fun m2 => lpR (failF [(5 , .slice), (13 , .int .i64)]) (fun Kc1 => fun d2 d3 H2 => onV d2 fun v2 => isS v2 fun s2 => onV d3 fun v3 => isI .i64 v3 fun n1 => frcB (ilt n1 (Int.ofNat m2)) fun t1 => br t1 (g192x2 d1 n1 s1 s2 H2 c1 c2 c3 Kc1) (Kb1 (DV.v (AV.s s2)) H2)) (nat_lit 100000) (DV.v (AV.s AS.nil)) (DV.v (AV.i .i64 ii0)) H1
/-- (*ba.Session).list -/
def g192 : G DV := fun R1 H1 Kb1 => lc R1 fun d1 R2 => onV d1 fun v1 => isP v1 fun p1 => g192x3 R2 p1 H1 c1 c2 c3 Kb1
def G192 : G DV := g192 G193 G275 G311

/-- (*ba.Session).Out -/
def g125 : G DV := fun R1 H1 Kb1 => lc R1 fun d1 R2 => onV d1 fun v1 => isP v1 fun p1 => ln R2 <| c1 [(DV.v (AV.p p1)), (DV.v (AV.fn (nat_lit 193) []))] H1 fun d2 H2 => onV d2 fun v2 => isS v2 fun s1 => Kb1 (DV.v (AV.s s1)) H2
def G125 : G DV := g125 G192

def z17 : T4 AV := (@T4.n AV yy0 (@T4.n AV yy1 te te te te) (@T4.n AV yy0 te te te te) (@T4.n AV yy0 te te te te) (@T4.n AV yy3 te te te te))
def g166x1 := lpR (failF [(10 , .int .i64)]) (fun Kb2 => fun d1 H2 => onV d1 fun v1 => isI .i64 v1 fun n1 => frcB (ilt n1 (Int.ofNat m1)) fun t1 => br t1 (ixA s1 n1 (fun x => Nat.mul x nn5) fun b1 m2 => rdR H2 b1 m2 nn5 fun l1 => alB H2 z17 nn5 nn0 fun b2 H3 => must (Nat.beq (llen l1) nn5) <| wrL H3 b2 nn0 l1 fun H4 => onA p1 fun b3 m3 => rdK H4 b2 nn0 fun v2 => isI .i64 v2 fun n2 => none) (Kb1 DV.n H2)) (nat_lit 100000) (DV.v (AV.i .i64 ii0)) H1
/-- (*ap.AP).drop -/
def g166 : G DV := fun R1 H1 Kb1 => lc R1 fun d1 R2 => onV d1 fun v1 => isP v1 fun p1 => lc R2 fun d2 R3 => onV d2 fun v2 => isI .i64 v2 fun n1 => lc R3 fun d3 R4 => onV d3 fun v3 => isS v3 fun s1 => ln R4 <| lenA s1 fun m1 => g166x1 m1 p1 s1 H1 Kb1
def G166 : G DV := g166

def g333x1 := jn (fun d2 H2 => jn (fun d3 H3 => jn (fun d4 H4 => pickK t1 d4 (DV.v (AV.b false)) fun d5 => onV d5 fun v1 => isB v1 fun t2 => Kb1 (DV.v (AV.b t2)) H4) fun Kb2 => br t1 (onV d2 fun v1 => onV d3 fun v2 => isI .i64 v1 fun n1 => isI .i64 v2 fun n2 => frcB (ieq n1 n2) fun t2 => Kb2 (DV.v (AV.b t2)) H3) (Kb2 DV.n H3)) fun Kb2 => br t1 (onA p1 fun b1 m1 => rdK H2 b1 m1 fun v1 => isI .i64 v1 fun n1 => Kb2 (DV.v (AV.i .i64 n1)) H2) (Kb2 DV.n H2)) fun Kb2 => br t1 (onV d1 fun v1 => isP v1 fun p2 => onA p2 fun b1 m1 => rdK H1 b1 m1 fun v2 => isI .i64 v2 fun n1 => Kb2 (DV.v (AV.i .i64 n1)) H1) (Kb2 DV.n H1)
def g333x2 := lc R1 fun d2 R2 => onV d2 fun v1 => isP v1 fun p1 => ln R2 <| cellsD d1 fun l1 => alK H1 l1 fun b1 H2 => rdK H2 b1 nn8 fun v2 => isB v2 fun t1 => frcB (bnot t1) fun t2 => jn (fun d3 H3 => jn (fun d4 H4 => g333x1 d4 t2 p1 H4 Kb1) fun Kb2 => br t2 (onV d3 fun v3 => isP v3 fun p2 => onA p2 fun b2 m1 => Kb2 (DV.v (AV.p (AP.at b2 (Nat.add m1 nn5)))) H3) (Kb2 DV.n H3)) fun Kb2 => br t2 (Kb2 (DV.v (AV.p (AP.at b1 nn0))) H2) (Kb2 DV.n H2)
/-- (*ba.Session).Went$1 -/
def g333 : G DV := fun R1 H1 Kb1 => lc R1 fun d1 R2 => g333x2 d1 R2 H1 Kb1
def G333 : G DV := g333

/-- (*ba.Session).flies$1 -/
def g341 : G DV := fun R1 H1 Kb1 => lc R1 fun d1 R2 => ln R2 <| cellsD d1 fun l1 => alK H1 l1 fun b1 H2 => rdK H2 b1 nn8 fun v1 => isB v1 fun t1 => Kb1 (DV.v (AV.b t1)) H2
def G341 : G DV := g341

def g342x1 := br t1 (ixA s1 n1 (fun x => Nat.mul x nn9) fun b1 m1 => rdR H1 b1 m1 nn9 fun l1 => onV d1 fun v1 => fnK v1 fun m2 L1 L2 => lookD [((nat_lit 308) , c1), ((nat_lit 311) , c2), ((nat_lit 333) , c3), ((nat_lit 341) , c4)] m2 (appA (mapP L1) (appA [(DV.a l1)] (mapP L2))) H1 fun d2 H2 => onV d2 fun v2 => isB v2 fun t2 => br t2 (Kb1 (DV.v (AV.i .i64 n1)) H2) (wrp .i64 (iadd n1 ii1) fun n2 => Kb2 (DV.v (AV.i .i64 n2)) H2)) (Kb1 (DV.v (AV.i .i64 im1)) H1)
/-- slices.IndexFunc[[]ba.frame,ba.frame] -/
def g342 : G DV := fun R1 H1 Kb1 => lc R1 fun d1 R2 => onV d1 fun v1 => isS v1 fun s1 => lc R2 fun d2 R3 => ln R3 <| lenA s1 fun m1 => lpR (failF [(8 , .int .i64)]) (fun Kb2 => fun d3 H2 => onV d3 fun v2 => isI .i64 v2 fun n1 => frcB (ilt n1 (Int.ofNat m1)) fun t1 => g342x1 d2 n1 t1 s1 H2 c1 c2 c3 c4 Kb1 Kb2) (nat_lit 100000) (DV.v (AV.i .i64 ii0)) H1
def G342 : G DV := g342 G308 G311 G333 G341

def z18 : List AV := [(AV.i .i64 ii0), (AV.i .u32 ii0), (AV.i .i64 ii0), (AV.i .i64 ii0), (AV.s AS.nil), (AV.i .i64 ii0), (AV.i .i64 ii0), (AV.i .i64 ii0), (AV.b false)]
def g324x1 := fnK v1 fun m1 L1 L2 => lookD [((nat_lit 311) , c1), ((nat_lit 342) , c2)] m1 (appA (mapP L1) (appA [(DV.a l1)] (mapP L2))) H1 fun d1 H2 => onV d1 fun v2 => isB v2 fun t1 => frcB (bnot t1) fun t2 => br t2 (rdR H2 b1 nn0 nn9 fun l2 => ixA s1 n1 (fun x => Nat.mul x nn9) fun b2 m2 => must (Nat.beq (llen l2) nn9) <| wrL H2 b2 m2 l2 fun H3 => wrp .i64 (iadd n1 ii1) fun n2 => Kb1 (DV.v (AV.i .i64 n2)) H3) (Kb1 (DV.v (AV.i .i64 n1)) H2)
def g324x2 := jF [(5 , .int .i64)] (fun d2 H2 => onV d2 fun v1 => isI .i64 v1 fun n3 => wrp .i64 (iadd n1 ii1) fun n4 => Kc1 (DV.v (AV.i .i64 n3)) (DV.v (AV.i .i64 n4)) H2) fun Kb1 => ixA s1 n1 (fun x => Nat.mul x nn9) fun b1 m1 => rdR H1 b1 m1 nn9 fun l1 => alB H1 z16 nn9 nn0 fun b2 H2 => must (Nat.beq (llen l1) nn9) <| wrL H2 b2 nn0 l1 fun H3 => rdR H3 b2 nn0 nn9 fun l2 => onV d1 fun v1 => g324x1 v1 l2 n2 b2 s1 H3 c1 c2 Kb1
def g324x3 := lpR (failF [(5 , .int .i64), (6 , .int .i64)]) (fun Kc1 => fun d2 d3 H2 => onV d2 fun v1 => isI .i64 v1 fun n3 => onV d3 fun v2 => isI .i64 v2 fun n4 => lenA s1 fun m1 => frcB (ilt n4 (Int.ofNat m1)) fun t1 => br t1 (g324x2 d1 n4 n3 s1 H2 c1 c2 Kc1) (natK n3 fun m2 => lenA s1 fun m3 => slA s1 m2 m3 (fun x => Nat.mul x nn9) fun s2 => clrD z18 s2 H2 fun H3 => natK n3 fun m4 => slA s1 nn0 m4 (fun x => Nat.mul x nn9) fun s3 => Kb1 (DV.v (AV.s s3)) H3)) (nat_lit 100000) (DV.v (AV.i .i64 n1)) (DV.v (AV.i .i64 n2)) H1
/-- slices.DeleteFunc[[]ba.frame,ba.frame] -/
def g324 : G DV := fun R1 H1 Kb1 => lc R1 fun d1 R2 => onV d1 fun v1 => isS v1 fun s1 => lc R2 fun d2 R3 => ln R3 <| c2 [(DV.v (AV.s s1)), d2] H1 fun d3 H2 => onV d3 fun v2 => isI .i64 v2 fun n1 => frcB (ieq n1 im1) fun t1 => br t1 (Kb1 (DV.v (AV.s s1)) H2) (wrp .i64 (iadd n1 ii1) fun n2 => g324x3 d2 n1 n2 s1 H2 c1 c2 Kb1)
def G324 : G DV := g324 G311 G342

/-- slices.Clone[[]ba.frame,ba.frame] -/
def g325 : G DV := fun R1 H1 Kb1 => lc R1 fun d1 R2 => onV d1 fun v1 => isS v1 fun s1 => ln R2 <| frcB (isNilS s1) fun t1 => br t1 (Kb1 (DV.v (AV.s AS.nil)) H1) (alB H1 te nn0 nn0 fun b1 H2 => appD nn9 nn88 (AS.sl b1 nn0 nn0 nn0) s1 H2 fun s2 H3 => Kb1 (DV.v (AV.s s2)) H3)
def G325 : G DV := g325

def g346x1 := slA3 s1 m1 m2 m3 (fun x => x) fun s2 => frcB (ieq n1 n2) fun t1 => br t1 (Kb1 (DV.v (AV.s s1)) H1) (lenA s1 fun m4 => natK n1 fun m5 => slA s1 nn0 m5 (fun x => x) fun s3 => natK n2 fun m6 => lenA s1 fun m7 => slA s1 m6 m7 (fun x => x) fun s4 => appD nn1 nn8 s3 s4 H1 fun s5 H2 => lenA s5 fun m8 => natK (Int.ofNat m8) fun m9 => natK (Int.ofNat m4) fun m10 => slA s5 m9 m10 (fun x => x) fun s6 => clrD [(AV.i .i64 ii0)] s6 H2 fun H3 => Kb1 (DV.v (AV.s s5)) H3)
/-- slices.Delete[[]int,int] -/
def g346 : G DV := fun R1 H1 Kb1 => lc R1 fun d1 R2 => onV d1 fun v1 => isS v1 fun s1 => lc R2 fun d2 R3 => onV d2 fun v2 => isI .i64 v2 fun n1 => lc R3 fun d3 R4 => onV d3 fun v3 => isI .i64 v3 fun n2 => ln R4 <| lenA s1 fun m1 => natK n1 fun m2 => natK n2 fun m3 => natK (Int.ofNat m1) fun m4 => g346x1 n1 n2 m2 m3 m4 s1 H1 Kb1
def G346 : G DV := g346

/-- slices.Clone[[]int,int] -/
def g347 : G DV := fun R1 H1 Kb1 => lc R1 fun d1 R2 => onV d1 fun v1 => isS v1 fun s1 => ln R2 <| frcB (isNilS s1) fun t1 => br t1 (Kb1 (DV.v (AV.s AS.nil)) H1) (alB H1 te nn0 nn0 fun b1 H2 => appD nn1 nn8 (AS.sl b1 nn0 nn0 nn0) s1 H2 fun s2 H3 => Kb1 (DV.v (AV.s s2)) H3)
def G347 : G DV := g347

def g326x1 := wrK H1 b1 m1 (AV.i .i64 n1) fun H2 => jF [] (fun H3 => Kb1 (DV.v AV.ni) H3) fun Ka1 => onA p1 fun b2 m2 => rdK H2 b2 (Nat.add m2 nn3) fun v1 => isS v1 fun s1 => lenA s1 fun m3 => frcB (ilt ii0 (Int.ofNat m3)) fun t1 => br t1 (onA p1 fun b3 m4 => rdK H2 b3 (Nat.add m4 nn3) fun v2 => isS v2 fun s2 => ixA s2 ii0 (fun x => x) fun b4 m5 => rdK H2 b4 m5 fun v3 => isI .i64 v3 fun n2 => onA p1 fun b5 m6 => wrK H2 b5 m6 (AV.i .i64 n2) fun H3 => Ka1 H3) (Ka1 H2)
def g326x2 := c1 [(DV.v (AV.s s1))] H1 fun d1 H2 => onV d1 fun v1 => isS v1 fun s2 => wrp .i64 (iadd n1 ii1) fun n2 => c2 [(DV.v (AV.s s2)), (DV.v (AV.i .i64 n1)), (DV.v (AV.i .i64 n2))] H2 fun d2 H3 => onV d2 fun v2 => isS v2 fun s3 => onA p1 fun b1 m1 => wrK H3 b1 (Nat.add m1 nn3) (AV.s s3) fun H4 => onA p1 fun b2 m2 => rdK H4 b2 (Nat.add m2 nn1) fun v3 => isI .i64 v3 fun n3 => onA p1 fun b3 m3 => g326x1 n3 m3 p1 b3 H4 Kb1
def g326x3 := lc R1 fun d1 R2 => onV d1 fun v1 => isI .i64 v1 fun n1 => ln R2 <| onA p1 fun b1 m1 => rdK H1 b1 (Nat.add m1 nn3) fun v2 => isS v2 fun s1 => c1 [(DV.v (AV.s s1)), (DV.v (AV.i .i64 n1))] H1 fun d2 H2 => onV d2 fun v3 => isI .i64 v3 fun n2 => frcB (ilt n2 ii0) fun t1 => br t1 (Kb1 (DV.v (AV.er (nat_lit 6))) H2) (onA p1 fun b2 m2 => rdK H2 b2 (Nat.add m2 nn3) fun v4 => isS v4 fun s2 => g326x2 n2 p1 s2 H2 c2 c3 Kb1)
/-- (*win.Win).Done -/
def g326 : G DV := fun R1 H1 Kb1 => lc R1 fun d1 R2 => onV d1 fun v1 => isP v1 fun p1 => g326x3 R2 p1 H1 c1 c3 c2 Kb1
def G326 : G DV := g326 G276 G346 G347

def g278x1 := ixA s1 n1 (fun x => Nat.mul x nn8) fun b1 m1 => rdR H1 b1 m1 nn8 fun l1 => alB H1 z15 nn8 nn0 fun b2 H2 => must (Nat.beq (llen l1) nn8) <| wrL H2 b2 nn0 l1 fun H3 => onA p1 fun b3 m2 => rdK H3 b3 m2 fun v1 => isP v1 fun p2 => rdK H3 b2 nn5 fun v2 => isI .i64 v2 fun n2 => c1 [(DV.v (AV.p p2)), (DV.v (AV.i .i64 n2))] H3 fun d1 H4 => onV d1 fun v3 => ifA false true v3 AV.ni fun t1 => frcB (bnot t1) fun t2 => br t2 (Ka1 H4) (Ka1 H4)
def g278x2 := onV d1 fun v1 => isS v1 fun s2 => onA p1 fun b1 m1 => wrK H1 b1 (Nat.add m1 nn6) (AV.s s2) fun H2 => lenA s1 fun m2 => lpR (failF [(23 , .int .i64)]) (fun Kb2 => fun d2 H3 => onV d2 fun v2 => isI .i64 v2 fun n1 => frcB (ilt n1 (Int.ofNat m2)) fun t1 => br t1 (jF [] (fun H4 => wrp .i64 (iadd n1 ii1) fun n2 => Kb2 (DV.v (AV.i .i64 n2)) H4) fun Ka1 => g278x1 n1 p1 s1 H3 c1 Ka1) (Kb1 (DV.v (AV.s s1)) H3)) (nat_lit 100000) (DV.v (AV.i .i64 ii0)) H2
/-- (*ba.Session).take -/
def g278 : G DV := fun R1 H1 Kb1 => lc R1 fun d1 R2 => onV d1 fun v1 => isP v1 fun p1 => lc R2 fun d2 R3 => ln R3 <| c1 [(DV.v (AV.p p1)), d2] H1 fun d3 H2 => onV d3 fun v2 => isS v2 fun s1 => onA p1 fun b1 m1 => rdK H2 b1 (Nat.add m1 nn6) fun v3 => isS v3 fun s2 => c3 [(DV.v (AV.s s2))] H2 fun d4 H3 => onV d4 fun v4 => isS v4 fun s3 => c2 [(DV.v (AV.s s3)), d2] H3 fun d5 H4 => g278x2 d5 p1 s1 H4 c4 Kb1
def G278 : G DV := g278 G192 G324 G325 G326

def g202x1 := rdR H1 b1 nn0 nn9 fun l1 => fnK v1 fun m1 L1 L2 => lookD [((nat_lit 278) , c1)] m1 (appA (mapP L1) (appA [(DV.a l1)] (mapP L2))) H1 fun d1 H2 => onV d1 fun v2 => isI .i64 v2 fun n1 => frcB (bnot (ieq n1 ii0)) fun t1 => br t1 (alB H2 (@T4.n AV (AV.i .i64 n1) te te te te) nn1 nn0 fun b2 H3 => appD nn1 nn8 s1 (AS.sl b2 nn0 nn1 nn1) H3 fun s2 H4 => Kb1 (DV.v (AV.s s2)) H4) (Kb1 (DV.v (AV.s s1)) H2)
def g202x2 := jn (fun d2 H2 => pickK t1 d2 (DV.v (AV.b false)) fun d3 => onV d3 fun v1 => isB v1 fun t2 => br t2 (rdK H2 b1 nn0 fun v2 => isP v2 fun p1 => rdK H2 b1 nn0 fun v3 => isP v3 fun p2 => onA p1 fun b2 m1 => wrK H2 b2 (Nat.add m1 nn7) (AV.b true) fun H3 => rdK H3 b1 nn0 fun v4 => must (aveq (AV.p p2) v4) <| onA p2 fun b3 m2 => wrK H3 b3 (Nat.add m2 nn8) (AV.i .i64 ii0) fun H4 => Ka1 H4) (Ka1 H2)) fun Kb1 => br t1 (onV d1 fun v1 => isB v1 fun t2 => frcB (bnot t2) fun t3 => Kb1 (DV.v (AV.b t3)) H1) (Kb1 DV.n H1)
def g202x3 := jn (fun d2 H2 => jn (fun d3 H3 => jn (fun d4 H4 => g202x2 d4 t1 b1 H4 Ka1) fun Kb1 => br t1 (onV d3 fun v1 => isP v1 fun p1 => onA p1 fun b2 m1 => rdK H3 b2 m1 fun v2 => isB v2 fun t2 => Kb1 (DV.v (AV.b t2)) H3) (Kb1 DV.n H3)) fun Kb1 => br t1 (onV d2 fun v1 => isP v1 fun p1 => onA p1 fun b2 m1 => Kb1 (DV.v (AV.p (AP.at b2 (Nat.add m1 nn7)))) H2) (Kb1 DV.n H2)) fun Kb1 => br t1 (onV d1 fun v1 => isP v1 fun p1 => onA p1 fun b2 m1 => Kb1 (DV.v (AV.p (AP.at b2 m1))) H1) (Kb1 DV.n H1)
def g202x4 := jn (fun d2 H2 => jn (fun d3 H3 => pickK t1 d3 (DV.v (AV.b false)) fun d4 => onV d4 fun v1 => isB v1 fun t2 => jn (fun d5 H4 => g202x3 d5 t2 b1 H4 Ka1) fun Kb1 => br t2 (rdK H3 b1 nn0 fun v2 => isP v2 fun p1 => Kb1 (DV.v (AV.p p1)) H3) (Kb1 DV.n H3)) fun Kb1 => br t1 (onV d2 fun v1 => isI .i64 v1 fun n1 => frcB (ieq n1 ii3) fun t2 => Kb1 (DV.v (AV.b t2)) H2) (Kb1 DV.n H2)) fun Kb1 => br t1 (onV d1 fun v1 => isP v1 fun p1 => onA p1 fun b2 m1 => rdK H1 b2 m1 fun v2 => isI .i64 v2 fun n1 => Kb1 (DV.v (AV.i .i64 n1)) H1) (Kb1 DV.n H1)
def g202x5 := jn (fun d1 H2 => jn (fun d2 H3 => jn (fun d3 H4 => g202x4 d3 t1 b1 H4 Ka1) fun Kb1 => br t1 (onV d2 fun v1 => isP v1 fun p1 => onA p1 fun b2 m1 => Kb1 (DV.v (AV.p (AP.at b2 (Nat.add m1 nn4)))) H3) (Kb1 DV.n H3)) fun Kb1 => br t1 (onV d1 fun v1 => isP v1 fun p1 => onA p1 fun b2 m1 => Kb1 (DV.v (AV.p (AP.at b2 m1))) H2) (Kb1 DV.n H2)) fun Kb1 => br t1 (rdK H1 b1 nn0 fun v1 => isP v1 fun p1 => Kb1 (DV.v (AV.p p1)) H1) (Kb1 DV.n H1)
def g202x6 := br t1 (jF [(7 , .slice)] (fun d1 H2 => onV d1 fun v1 => isS v1 fun s3 => wrp .i64 (iadd n1 ii1) fun n2 => Kc1 (DV.v (AV.s s3)) (DV.v (AV.i .i64 n2)) H2) fun Kb2 => ixA s1 n1 (fun x => Nat.mul x nn9) fun b3 m1 => rdR H1 b3 m1 nn9 fun l1 => alB H1 z16 nn9 nn0 fun b4 H2 => must (Nat.beq (llen l1) nn9) <| wrL H2 b4 nn0 l1 fun H3 => rdK H3 b1 nn0 fun v1 => g202x1 v1 b4 s2 H3 c1 Kb2) (rdK H1 b2 nn0 fun v1 => isP v1 fun p1 => c1 [(DV.v (AV.p p1)), (DV.v (AV.fn (nat_lit 279) [(AP.at b1 nn0)]))] H1 fun d1 H2 => onV d1 fun v2 => isS v2 fun s3 => jF [] (fun H3 => Kb1 (DV.c (DV.v (AV.s s3)) (DV.c (DV.v (AV.s s2)) DV.n)) H3) fun Ka1 => lenA s3 fun m1 => frcB (ilt ii0 (Int.ofNat m1)) fun t2 => g202x5 t2 b2 H2 Ka1)
def g202x7 := wrK H1 b1 nn0 (AV.fn (nat_lit 277) [(AP.at b2 nn0), (AP.at b3 nn0)]) fun H2 => rdK H2 b2 nn0 fun v1 => isP v1 fun p1 => onA p1 fun b4 m1 => rdK H2 b4 (Nat.add m1 nn6) fun v2 => isS v2 fun s1 => lenA s1 fun m2 => lpR (failF [(7 , .slice), (18 , .int .i64)]) (fun Kc1 => fun d1 d2 H3 => onV d1 fun v3 => isS v3 fun s2 => onV d2 fun v4 => isI .i64 v4 fun n1 => frcB (ilt n1 (Int.ofNat m2)) fun t1 => g202x6 n1 t1 b1 b2 s1 s2 H3 c1 Kb1 Kc1) (nat_lit 100000) (DV.v (AV.s AS.nil)) (DV.v (AV.i .i64 ii0)) H2
/-- (*ba.Session).Sweep -/
def g202 : G DV := fun R1 H1 Kb1 => lc R1 fun d1 R2 => onV d1 fun v1 => isP v1 fun p1 => lc R2 fun d2 R3 => onV d2 fun v2 => isI .i64 v2 fun n1 => ln R3 <| alB H1 (@T4.n AV (AV.p p1) te te te te) nn1 nn0 fun b1 H2 => alB H2 (@T4.n AV (AV.i .i64 n1) te te te te) nn1 nn0 fun b2 H3 => alB H3 (@T4.n AV yy17 te te te te) nn1 nn0 fun b3 H4 => g202x7 b3 b1 b2 H4 c1 Kb1
def G202 : G DV := g202 G278

def g131x1 := alB H1 z15 nn8 nn0 fun b1 H2 => must (Nat.beq (llen l1) nn8) <| wrL H2 b1 nn0 l1 fun H3 => ixA s1 n1 (fun x => x) fun b2 m1 => rdK H3 b2 m1 fun v1 => isI .i64 v1 fun n2 => rdR H3 b1 nn0 nn5 fun l2 => must (Nat.beq (llen l2) nn5) <| alK H3 (lapp l2 []) fun b3 H4 => c1 [(DV.v (AV.p p1)), (DV.v (AV.i .i64 n2)), (DV.v (AV.s (AS.sl b3 nn0 nn1 nn1)))] H4 fun d1 H5 => wrp .i64 (iadd n1 ii1) fun n3 => Kb1 (DV.v (AV.i .i64 n3)) H5
def g131x2 := jn (fun d2 H2 => jn (fun d3 H3 => pickK t1 d3 (DV.v (AV.b false)) fun d4 => onV d4 fun v1 => isB v1 fun t2 => br t2 (onA p1 fun b1 m1 => wrK H3 b1 (Nat.add m1 nn3) (AV.b false) fun H4 => onA p1 fun b2 m2 => rdK H4 b2 m2 fun v2 => isP v2 fun p2 => none) (Kb1 DV.n H3)) fun Kb2 => br t1 (onV d2 fun v1 => isI .i64 v1 fun n1 => frcB (ieq n1 ii0) fun t2 => Kb2 (DV.v (AV.b t2)) H2) (Kb2 DV.n H2)) fun Kb2 => br t1 (onV d1 fun v1 => isS v1 fun s1 => lenA s1 fun m1 => Kb2 (DV.v (AV.i .i64 (Int.ofNat m1))) H1) (Kb2 DV.n H1)
def g131x3 := jn (fun d2 H2 => jn (fun d3 H3 => jn (fun d4 H4 => g131x2 d4 t1 p1 H4 Kb1) fun Kb2 => br t1 (c1 [d3] H3 fun d4 H4 => onV d4 fun v1 => isS v1 fun s1 => Kb2 (DV.v (AV.s s1)) H4) (Kb2 DV.n H3)) fun Kb2 => br t1 (onV d2 fun v1 => isP v1 fun p2 => onA p2 fun b1 m1 => rdK H2 b1 m1 fun v2 => isP v2 fun p3 => Kb2 (DV.v (AV.p p3)) H2) (Kb2 DV.n H2)) fun Kb2 => br t1 (onV d1 fun v1 => isP v1 fun p2 => onA p2 fun b1 m1 => Kb2 (DV.v (AV.p (AP.at b1 m1))) H1) (Kb2 DV.n H1)
def g131x4 := br t1 (ixA s1 n1 (fun x => Nat.mul x nn8) fun b1 m1 => rdR H1 b1 m1 nn8 fun l1 => g131x1 l1 n1 p1 s2 H1 c1 Kb1) (onA p2 fun b1 m1 => rdK H1 b1 (Nat.add m1 nn3) fun v1 => isB v1 fun t2 => jn (fun d1 H2 => jn (fun d2 H3 => g131x3 d2 t2 p2 H3 c2 Kb2) fun Kb3 => br t2 (onV d1 fun v2 => isP v2 fun p3 => onA p3 fun b2 m2 => Kb3 (DV.v (AV.p (AP.at b2 m2))) H2) (Kb3 DV.n H2)) fun Kb3 => br t2 (Kb3 (DV.v (AV.p p2)) H1) (Kb3 DV.n H1))
def g131x5 := isI .i64 v1 fun n1 => c1 [(DV.v (AV.p p1)), (DV.v (AV.i .i64 n1))] H1 fun d1 H2 => onC d1 fun d2 d3 => onV d2 fun v2 => isS v2 fun s1 => onC d3 fun d4 d5 => onV d4 fun v3 => isS v3 fun s2 => onN d5 <| lenA s1 fun m1 => lpR (failF [(22 , .int .i64)]) (fun Kb2 => fun d6 H3 => onV d6 fun v4 => isI .i64 v4 fun n2 => frcB (ilt n2 (Int.ofNat m1)) fun t1 => g131x4 n2 t1 p2 p3 s1 s2 H3 c2 c3 Kb2 Kb1) (nat_lit 100000) (DV.v (AV.i .i64 ii0)) H2
/-- (*ap.AP).sweep -/
def g131 : G DV := fun R1 H1 Kb1 => lc R1 fun d1 R2 => onV d1 fun v1 => isP v1 fun p1 => lc R2 fun d2 R3 => onV d2 fun v2 => isP v2 fun p2 => ln R3 <| onA p2 fun b1 m1 => rdK H1 b1 m1 fun v3 => isP v3 fun p3 => onA p1 fun b2 m2 => rdK H1 b2 (Nat.add m2 nn21) fun v4 => g131x5 v4 p3 p1 p2 H1 c3 c2 c1 Kb1
def G131 : G DV := g131 G125 G166 G202

/-- edca.fair -/
def g258 : G DV := fun R1 H1 Kb1 => lc R1 fun d1 R2 => onV d1 fun v1 => isI .i64 v1 fun n1 => ln R2 <| frcB (ile ii0 n1) fun t1 => jn (fun d2 H2 => jn (fun d3 H3 => pickK t1 d3 (DV.v (AV.b false)) fun d4 => onV d4 fun v2 => isB v2 fun t2 => Kb1 (DV.v (AV.b t2)) H3) fun Kb2 => br t1 (onV d2 fun v2 => isI .i64 v2 fun n2 => frcB (ilt n2 ii4) fun t2 => Kb2 (DV.v (AV.b t2)) H2) (Kb2 DV.n H2)) fun Kb2 => br t1 (Kb2 (DV.v (AV.i .i64 n1)) H1) (Kb2 DV.n H1)
def G258 : G DV := g258

def z19 : T4 AV := (@T4.n AV yy18 (@T4.n AV yy18 te te te te) (@T4.n AV yy19 te te te te) (@T4.n AV yy20 te te te te) te)
/-- edca.first -/
def g280 : G DV := fun R1 H1 Kb1 => lc R1 fun d1 R2 => onV d1 fun v1 => isI .i64 v1 fun n1 => ln R2 <| alB H1 z19 nn4 nn0 fun b1 H2 => ixA (AS.sl b1 nn0 nn4 nn4) n1 (fun x => x) fun b2 m1 => rdK H2 b2 m1 fun v2 => isI .i64 v2 fun n2 => Kb1 (DV.v (AV.i .i64 n2)) H2
def G280 : G DV := g280

def g203x1 := frcB (bnot t1) fun t2 => br t2 (Kb1 (DV.v (AV.i .i64 ii0)) H1) (onA p1 fun b1 m1 => rng n1 nn4 <| rdK H1 b1 (Nat.add (Nat.add m1 (Nat.mul (itn n1) nn3)) nn2) fun v1 => isI .i64 v1 fun n2 => c1 [(DV.v (AV.i .i64 n1))] H1 fun d1 H2 => onV d1 fun v2 => isI .i64 v2 fun n3 => rdK H2 b1 (Nat.add (Nat.add m1 (Nat.mul (itn n1) nn3)) nn2) fun v3 => must (aveq (AV.i .i64 n2) v3) <| wrp .i64 (iadd n3 n2) fun n4 => Kb1 (DV.v (AV.i .i64 n4)) H2)
/-- (*edca.Edca).Window -/
def g203 : G DV := fun R1 H1 Kb1 => lc R1 fun d1 R2 => onV d1 fun v1 => isP v1 fun p1 => lc R2 fun d2 R3 => onV d2 fun v2 => isI .i64 v2 fun n1 => ln R3 <| c1 [(DV.v (AV.i .i64 n1))] H1 fun d3 H2 => onV d3 fun v3 => isB v3 fun t1 => g203x1 n1 t1 p1 H2 c2 Kb1
def G203 : G DV := g203 G258 G280

def z20 : T4 AV := (@T4.n AV yy19 (@T4.n AV yy20 te te te te) (@T4.n AV yy21 te te te te) (@T4.n AV yy21 te te te te) te)
/-- edca.wait -/
def g204 : G DV := fun R1 H1 Kb1 => lc R1 fun d1 R2 => onV d1 fun v1 => isI .i64 v1 fun n1 => ln R2 <| alB H1 z20 nn4 nn0 fun b1 H2 => ixA (AS.sl b1 nn0 nn4 nn4) n1 (fun x => x) fun b2 m1 => rdK H2 b2 m1 fun v2 => isI .i64 v2 fun n2 => Kb1 (DV.v (AV.i .i64 n2)) H2
def G204 : G DV := g204

def g132x1 := jn (fun d2 H2 => jn (fun d3 H3 => pickK t1 (DV.v (AV.b true)) d3 fun d4 => onV d4 fun v1 => isB v1 fun t2 => br t2 (Kc1 (DV.v (AV.i .i64 n1)) (DV.v (AV.i .i64 n2)) H3) (Kc1 (DV.v (AV.i .i64 n3)) (DV.v (AV.i .i64 n4)) H3)) fun Kb1 => br t1 (Kb1 DV.n H2) (onV d1 fun v1 => onV d2 fun v2 => isI .i64 v1 fun n5 => isI .i64 v2 fun n6 => frcB (ile n5 n6) fun t2 => Kb1 (DV.v (AV.b t2)) H2)) fun Kb1 => br t1 (Kb1 DV.n H1) (Kb1 (DV.v (AV.i .i64 n4)) H1)
def g132x2 := rdK H1 b1 (Nat.add (Nat.add m1 (Nat.mul (itn n1) nn3)) nn1) fun v1 => isI .i64 v1 fun n4 => c1 [(DV.v (AV.i .i64 n1))] H1 fun d1 H2 => onV d1 fun v2 => isI .i64 v2 fun n5 => rdK H2 b1 (Nat.add (Nat.add m1 (Nat.mul (itn n1) nn3)) nn1) fun v3 => must (aveq (AV.i .i64 n4) v3) <| wrp .i64 (iadd n5 n4) fun n6 => frcB (ilt n2 ii0) fun t1 => jn (fun d2 H3 => g132x1 d2 n1 n6 n2 n3 t1 H3 Kc1) fun Kb1 => br t1 (Kb1 DV.n H2) (Kb1 (DV.v (AV.i .i64 n6)) H2)
def g132x3 := rdK H1 b1 (Nat.add nn0 (itn n1)) fun v1 => must (aveq (AV.i .u32 n2) v1) <| wrp .i64 (iadd n3 ii1) fun n4 => wrp .u32 n4 fun n5 => must (bnot (ieq n5 ii0)) <| asI (irem n2 n5) fun n6 => wrp .i64 n6 fun n7 => wrK H1 b2 (Nat.add m1 (Nat.mul (itn n1) nn3)) (AV.b true) fun H2 => rdK H2 b1 (Nat.add nn0 (itn n1)) fun v2 => must (aveq (AV.i .u32 n2) v2) <| wrK H2 b2 (Nat.add (Nat.add m1 (Nat.mul (itn n1) nn3)) nn1) (AV.i .i64 n7) fun H3 => Ka1 H3
def g132x4 := jF [] (fun H2 => onA p1 fun b2 m1 => rng n1 nn4 <| g132x2 n1 n2 n3 m1 b2 H2 c1 Kc1) fun Ka1 => onA p1 fun b2 m1 => rng n1 nn4 <| rdK H1 b2 (Nat.add m1 (Nat.mul (itn n1) nn3)) fun v1 => isB v1 fun t1 => frcB (bnot t1) fun t2 => br t2 (rng n1 nn4 <| rdK H1 b1 (Nat.add nn0 (itn n1)) fun v2 => isI .u32 v2 fun n4 => c2 [(DV.v (AV.p p1)), (DV.v (AV.i .i64 n1))] H1 fun d1 H2 => onV d1 fun v3 => isI .i64 v3 fun n5 => g132x3 n1 n4 n5 m1 b1 b2 H2 Ka1) (Ka1 H1)
def g132x5 := jF [(9 , .int .i64), (10 , .int .i64)] (fun d1 d2 H2 => onV d1 fun v1 => isI .i64 v1 fun n4 => onV d2 fun v2 => isI .i64 v2 fun n5 => wrp .i64 (iadd n1 ii1) fun n6 => Kd1 (DV.v (AV.i .i64 n4)) (DV.v (AV.i .i64 n5)) (DV.v (AV.i .i64 n6)) H2) fun Kc1 => rng n1 nn4 <| rdK H1 b1 (Nat.add nn0 (itn n1)) fun v1 => isB v1 fun t1 => frcB (bnot t1) fun t2 => br t2 (Kc1 (DV.v (AV.i .i64 n2)) (DV.v (AV.i .i64 n3)) H1) (g132x4 n1 n2 n3 p1 b2 H1 c1 c2 Kc1)
def g132x6 := rdK H1 b1 (Nat.add (Nat.add m1 (Nat.mul (itn n1) nn3)) nn1) fun v1 => isI .i64 v1 fun n3 => c1 [(DV.v (AV.i .i64 n1))] H1 fun d1 H2 => onV d1 fun v2 => isI .i64 v2 fun n4 => rdK H2 b1 (Nat.add (Nat.add m1 (Nat.mul (itn n1) nn3)) nn1) fun v3 => must (aveq (AV.i .i64 n3) v3) <| wrp .i64 (isub n2 n4) fun n5 => asI (imax n5 ii0) fun n6 => wrp .i64 (isub n3 n6) fun n7 => asI (imax n7 ii0) fun n8 => wrK H2 b1 (Nat.add (Nat.add m1 (Nat.mul (itn n1) nn3)) nn1) (AV.i .i64 n8) fun H3 => Ka1 H3
def g132x7 := rdK H1 b1 (Nat.add (Nat.add m1 (Nat.mul (itn n1) nn3)) nn1) fun v1 => must (aveq (AV.i .i64 n2) v1) <| wrp .i64 (iadd n3 n2) fun n6 => frcB (ilt n4 n6) fun t1 => br t1 (g132x6 n1 n4 m1 b1 H1 c1 Ka1) (jF [] (fun H2 => wrK H2 b1 (Nat.add m1 (Nat.mul (itn n1) nn3)) (AV.b false) fun H3 => wrK H3 b1 (Nat.add (Nat.add m1 (Nat.mul (itn n1) nn3)) nn1) (AV.i .i64 ii0) fun H4 => Ka1 H4) fun Ka2 => frcB (bnot (ieq n1 n5)) fun t2 => br t2 (none) (Ka2 H1))
def g132x8 := jF [] (fun H2 => wrp .i64 (iadd n1 ii1) fun n4 => Kb1 (DV.v (AV.i .i64 n4)) H2) fun Ka1 => onA p1 fun b2 m1 => rng n1 nn4 <| rng n1 nn4 <| rdK H1 b1 (Nat.add nn0 (itn n1)) fun v1 => isB v1 fun t1 => frcB (bnot t1) fun t2 => br t2 (Ka1 H1) (rdK H1 b2 (Nat.add (Nat.add m1 (Nat.mul (itn n1) nn3)) nn1) fun v2 => isI .i64 v2 fun n4 => c1 [(DV.v (AV.i .i64 n1))] H1 fun d1 H2 => onV d1 fun v3 => isI .i64 v3 fun n5 => g132x7 n1 n4 n5 n2 n3 m1 b2 H2 c1 Ka1)
def g132x9 := frcB (ilt n1 ii0) fun t1 => br t1 (Kb1 (DV.c (DV.v (AV.i .i64 ii0)) (DV.c (DV.v (AV.i .i64 ii0)) (DV.c (DV.v (AV.b false)) DV.n))) H1) (lpR (failF [(71 , .int .i64)]) (fun Kb2 => fun d1 H2 => onV d1 fun v1 => isI .i64 v1 fun n3 => frcB (ilt n3 ii4) fun t2 => br t2 (g132x8 n3 n2 n1 p1 b1 H2 c1 Kb2) (Kb1 (DV.c (DV.v (AV.i .i64 n1)) (DV.c (DV.v (AV.i .i64 n2)) (DV.c (DV.v (AV.b true)) DV.n))) H2)) (nat_lit 100000) (DV.v (AV.i .i64 ii0)) H1)
def g132x10 := lpR (failF [(9 , .int .i64), (10 , .int .i64), (16 , .int .i64)]) (fun Kd1 => fun d1 d2 d3 H2 => onV d1 fun v1 => isI .i64 v1 fun n1 => onV d2 fun v2 => isI .i64 v2 fun n2 => onV d3 fun v3 => isI .i64 v3 fun n3 => frcB (ilt n3 ii4) fun t1 => br t1 (g132x5 n3 n1 n2 p1 b1 b2 H2 c1 c2 Kd1) (g132x9 n1 n2 p1 b1 H2 c1 Kb1)) (nat_lit 100000) (DV.v (AV.i .i64 im1)) (DV.v (AV.i .i64 ii0)) (DV.v (AV.i .i64 ii0)) H1
/-- (*edca.Edca).Contend -/
def g132 : G DV := fun R1 H1 Kb1 => lc R1 fun d1 R2 => onV d1 fun v1 => isP v1 fun p1 => lc R2 fun d2 R3 => lc R3 fun d3 R4 => ln R4 <| cellsD d2 fun l1 => alK H1 l1 fun b1 H2 => cellsD d3 fun l2 => alK H2 l2 fun b2 H3 => g132x10 p1 b1 b2 H3 c2 c1 Kb1
def G132 : G DV := g132 G203 G204

/-- aql.there -/
def g211 : G DV := fun R1 H1 Kb1 => lc R1 fun d1 R2 => onV d1 fun v1 => isI .i64 v1 fun n1 => ln R2 <| frcB (ile ii1 n1) fun t1 => jn (fun d2 H2 => jn (fun d3 H3 => pickK t1 d3 (DV.v (AV.b false)) fun d4 => onV d4 fun v2 => isB v2 fun t2 => Kb1 (DV.v (AV.b t2)) H3) fun Kb2 => br t1 (onV d2 fun v2 => isI .i64 v2 fun n2 => frcB (ile n2 ii16) fun t2 => Kb2 (DV.v (AV.b t2)) H2) (Kb2 DV.n H2)) fun Kb2 => br t1 (Kb2 (DV.v (AV.i .i64 n1)) H1) (Kb2 DV.n H1)
def G211 : G DV := g211

def g212x1 := lc R1 fun d1 R2 => onV d1 fun v1 => isP v1 fun p1 => lc R2 fun d2 R3 => onV d2 fun v2 => isI .i64 v2 fun n1 => ln R3 <| c1 [(DV.v (AV.i .i64 n1))] H1 fun d3 H2 => onV d3 fun v3 => isB v3 fun t1 => frcB (bnot t1) fun t2 => br t2 (Kb1 (DV.v (AV.i .i64 ii0)) H2) (wrp .i64 (isub n1 ii1) fun n2 => onA p1 fun b1 m1 => rng n2 nn16 <| rdK H2 b1 (Nat.add (Nat.add m1 nn2) (itn n2)) fun v4 => isI .i64 v4 fun n3 => Kb1 (DV.v (AV.i .i64 n3)) H2)
/-- (*aql.Limit).Of -/
def g212 : G DV := fun R1 H1 Kb1 => g212x1 R1 H1 c1 Kb1
def G212 : G DV := g212 G211

def g135x1 := frcB (ieq n1 ii0) fun t1 => br t1 (Kb1 (DV.v (AV.b true)) H1) (onA p1 fun b1 m1 => rdK H1 b1 m1 fun v1 => isI .i64 v1 fun n3 => c1 [(DV.v (AV.p p1)), (DV.v (AV.i .i64 n2))] H1 fun d1 H2 => onV d1 fun v2 => isI .i64 v2 fun n4 => rdK H2 b1 m1 fun v3 => must (aveq (AV.i .i64 n3) v3) <| frcB (ilt n4 n3) fun t2 => br t2 (onA p1 fun b2 m2 => rdK H2 b2 (Nat.add m2 nn1) fun v4 => isI .i64 v4 fun n5 => none) (Kb1 (DV.v (AV.b false)) H2))
/-- (*aql.Limit).May -/
def g135 : G DV := fun R1 H1 Kb1 => lc R1 fun d1 R2 => onV d1 fun v1 => isP v1 fun p1 => lc R2 fun d2 R3 => onV d2 fun v2 => isI .i64 v2 fun n1 => ln R3 <| c1 [(DV.v (AV.i .i64 n1))] H1 fun d3 H2 => onV d3 fun v3 => isB v3 fun t1 => frcB (bnot t1) fun t2 => br t2 (Kb1 (DV.v (AV.b false)) H2) (c2 [(DV.v (AV.p p1)), (DV.v (AV.i .i64 n1))] H2 fun d4 H3 => onV d4 fun v4 => isI .i64 v4 fun n2 => g135x1 n2 n1 p1 H3 c2 Kb1)
def G135 : G DV := g135 G211 G212

def z21 : T4 AV := (@T4.n AV yy5 (@T4.n AV yy0 (@T4.n AV yy21 te te te te) te te te) (@T4.n AV yy0 (@T4.n AV yy20 te te te te) te te te) (@T4.n AV yy5 (@T4.n AV yy20 te te te te) te te te) (@T4.n AV yy21 te te te te))
/-- ap.category -/
def g214 : G DV := fun R1 H1 Kb1 => lc R1 fun d1 R2 => onV d1 fun v1 => isI .i64 v1 fun n1 => ln R2 <| alB H1 z21 nn8 nn0 fun b1 H2 => ixA (AS.sl b1 nn0 nn8 nn8) n1 (fun x => x) fun b2 m1 => rdK H2 b2 m1 fun v2 => isI .i64 v2 fun n2 => Kb1 (DV.v (AV.i .i64 n2)) H2
def G214 : G DV := pure1 (g214)

def g194x1 := jn (fun d2 H2 => pickK t1 d2 (DV.v (AV.b false)) fun d3 => onV d3 fun v1 => isB v1 fun t2 => jn (fun d4 H3 => jn (fun d5 H4 => pickK t2 d5 (DV.v (AV.b false)) fun d6 => onV d6 fun v2 => isB v2 fun t3 => Kb1 (DV.v (AV.b t3)) H4) fun Kb2 => br t2 (onV d4 fun v2 => isI .i64 v2 fun n2 => frcB (ilt n2 ii8) fun t3 => Kb2 (DV.v (AV.b t3)) H3) (Kb2 DV.n H3)) fun Kb2 => br t2 (Kb2 (DV.v (AV.i .i64 n1)) H2) (Kb2 DV.n H2)) fun Kb2 => br t1 (onV d1 fun v1 => isI .i64 v1 fun n2 => frcB (ile ii0 n2) fun t2 => Kb2 (DV.v (AV.b t2)) H1) (Kb2 DV.n H1)
def g194x2 := ln R1 <| frcB (ile ii1 n1) fun t1 => jn (fun d1 H2 => jn (fun d2 H3 => pickK t1 d2 (DV.v (AV.b false)) fun d3 => onV d3 fun v1 => isB v1 fun t2 => jn (fun d4 H4 => g194x1 d4 n2 t2 H4 Kb1) fun Kb2 => br t2 (Kb2 (DV.v (AV.i .i64 n2)) H3) (Kb2 DV.n H3)) fun Kb2 => br t1 (onV d1 fun v1 => isI .i64 v1 fun n3 => frcB (ile n3 ii16) fun t2 => Kb2 (DV.v (AV.b t2)) H2) (Kb2 DV.n H2)) fun Kb2 => br t1 (Kb2 (DV.v (AV.i .i64 n1)) H1) (Kb2 DV.n H1)
/-- pool.there -/
def g194 : G DV := fun R1 H1 Kb1 => lc R1 fun d1 R2 => onV d1 fun v1 => isI .i64 v1 fun n1 => lc R2 fun d2 R3 => onV d2 fun v2 => isI .i64 v2 fun n2 => g194x2 R3 n1 n2 H1 Kb1
def G194 : G DV := g194

/-- (*fq.Queue).Len -/
def g195 : G DV := fun R1 H1 Kb1 => lc R1 fun d1 R2 => onV d1 fun v1 => isP v1 fun p1 => ln R2 <| onA p1 fun b1 m1 => rdK H1 b1 (Nat.add m1 nn133) fun v2 => isI .i64 v2 fun n1 => Kb1 (DV.v (AV.i .i64 n1)) H1
def G195 : G DV := g195

def g126x1 := jn (fun d2 H2 => jn (fun d3 H3 => jn (fun d4 H4 => pickK t1 d4 (DV.v (AV.b false)) fun d5 => onV d5 fun v1 => isB v1 fun t2 => Kb1 (DV.v (AV.b t2)) H4) fun Kb2 => br t1 (onV d3 fun v1 => isI .i64 v1 fun n1 => frcB (ilt ii0 n1) fun t2 => Kb2 (DV.v (AV.b t2)) H3) (Kb2 DV.n H3)) fun Kb2 => br t1 (c1 [d2] H2 fun d3 H3 => onV d3 fun v1 => isI .i64 v1 fun n1 => Kb2 (DV.v (AV.i .i64 n1)) H3) (Kb2 DV.n H2)) fun Kb2 => br t1 (onV d1 fun v1 => isP v1 fun p1 => onA p1 fun b1 m1 => rdK H1 b1 m1 fun v2 => isP v2 fun p2 => Kb2 (DV.v (AV.p p2)) H1) (Kb2 DV.n H1)
def g126x2 := jn (fun d4 H2 => jn (fun d5 H3 => g126x1 d5 t1 H3 c1 Kb1) fun Kb2 => br t1 (onV d1 fun v1 => isJ v1 fun n1 => onV d4 fun v2 => isP v2 fun p1 => onA p1 fun b1 m1 => rng n1 nn8 <| Kb2 (DV.v (AV.p (AP.at b1 (Nat.add m1 (itn n1))))) H2) (Kb2 DV.n H2)) fun Kb2 => br t1 (onV d2 fun v1 => isJ v1 fun n1 => onV d3 fun v2 => isP v2 fun p1 => onA p1 fun b1 m1 => rng n1 nn16 <| Kb2 (DV.v (AV.p (AP.at b1 (Nat.add m1 (Nat.mul (itn n1) nn8))))) H1) (Kb2 DV.n H1)
def g126x3 := jn (fun d3 H2 => jn (fun d4 H3 => jn (fun d5 H4 => jn (fun d6 H5 => g126x2 d4 d3 d6 t1 H5 c1 Kb1) fun Kb2 => br t1 (onV d5 fun v1 => isP v1 fun p1 => onA p1 fun b1 m1 => Kb2 (DV.v (AV.p (AP.at b1 (Nat.add m1 nn5)))) H4) (Kb2 DV.n H4)) fun Kb2 => br t1 (onV d1 fun v1 => isP v1 fun p1 => onA p1 fun b1 m1 => Kb2 (DV.v (AV.p (AP.at b1 m1))) H3) (Kb2 DV.n H3)) fun Kb2 => br t1 (Kb2 (DV.v (AV.i .i64 n1)) H2) (Kb2 DV.n H2)) fun Kb2 => br t1 (onV d2 fun v1 => isI .i64 v1 fun n2 => wrp .i64 (isub n2 ii1) fun n3 => Kb2 (DV.v (AV.i .i64 n3)) H1) (Kb2 DV.n H1)
def g126x4 := isP v1 fun p1 => lc R1 fun d1 R2 => onV d1 fun v2 => isI .i64 v2 fun n1 => lc R2 fun d2 R3 => onV d2 fun v3 => isI .i64 v3 fun n2 => ln R3 <| c1 [(DV.v (AV.i .i64 n1)), (DV.v (AV.i .i64 n2))] H1 fun d3 H2 => onV d3 fun v4 => isB v4 fun t1 => jn (fun d4 H3 => jn (fun d5 H4 => g126x3 d4 d5 n2 t1 H4 c2 Kb1) fun Kb2 => br t1 (Kb2 (DV.v (AV.i .i64 n1)) H3) (Kb2 DV.n H3)) fun Kb2 => br t1 (Kb2 (DV.v (AV.p p1)) H2) (Kb2 DV.n H2)
/-- (*pool.Pool).Has -/
def g126 : G DV := fun R1 H1 Kb1 => lc R1 fun d1 R2 => onV d1 fun v1 => g126x4 v1 R2 H1 c1 c2 Kb1
def G126 : G DV := g126 G194 G195

/-- (*win.Win).Start -/
def g285 : G DV := fun R1 H1 Kb1 => lc R1 fun d1 R2 => onV d1 fun v1 => isP v1 fun p1 => ln R2 <| onA p1 fun b1 m1 => rdK H1 b1 m1 fun v2 => isI .i64 v2 fun n1 => Kb1 (DV.v (AV.i .i64 n1)) H1
def G285 : G DV := g285

def g220x1 := lc R1 fun d1 R2 => onV d1 fun v1 => isP v1 fun p1 => ln R2 <| onA p1 fun b1 m1 => rdK H1 b1 (Nat.add m1 nn7) fun v2 => isB v2 fun t1 => frcB (bnot t1) fun t2 => br t2 (Kb1 (DV.c (DV.v (AV.i .i64 ii0)) (DV.c (DV.v (AV.b false)) DV.n)) H1) (onA p1 fun b2 m2 => rdK H1 b2 m2 fun v3 => isP v3 fun p2 => c1 [(DV.v (AV.p p2))] H1 fun d2 H2 => onV d2 fun v4 => isI .i64 v4 fun n1 => Kb1 (DV.c (DV.v (AV.i .i64 n1)) (DV.c (DV.v (AV.b true)) DV.n)) H2)
/-- (*ba.Session).Bar -/
def g220 : G DV := fun R1 H1 Kb1 => g220x1 R1 H1 c1 Kb1
def G220 : G DV := g220 G285

/-- (*ba.Session).Due -/
def g222 : G DV := fun R1 H1 Kb1 => lc R1 fun d1 R2 => onV d1 fun v1 => isP v1 fun p1 => ln R2 <| c1 [(DV.v (AV.p p1)), (DV.v (AV.fn (nat_lit 288) []))] H1 fun d2 H2 => onV d2 fun v2 => isS v2 fun s1 => Kb1 (DV.v (AV.s s1)) H2
def G222 : G DV := g222 G192

def g327x1 := isI .i64 v1 fun n1 => onA p1 fun b2 m2 => rdK H1 b2 m2 fun v2 => isI .i64 v2 fun n2 => onA p1 fun b3 m3 => rdK H1 b3 (Nat.add m3 nn1) fun v3 => isI .i64 v3 fun n3 => c1 [(DV.v (AV.i .i64 n2)), (DV.v (AV.i .i64 n3))] H1 fun d1 H2 => onV d1 fun v4 => isI .i64 v4 fun n4 => rdK H2 b1 (Nat.add m1 nn2) fun v5 => must (aveq (AV.i .i64 n1) v5) <| wrp .i64 (isub n1 n4) fun n5 => asI (imax n5 ii0) fun n6 => Kb1 (DV.v (AV.i .i64 n6)) H2
/-- (*win.Win).Room -/
def g327 : G DV := fun R1 H1 Kb1 => lc R1 fun d1 R2 => onV d1 fun v1 => isP v1 fun p1 => ln R2 <| onA p1 fun b1 m1 => rdK H1 b1 (Nat.add m1 nn2) fun v2 => g327x1 v2 m1 p1 b1 H1 c1 Kb1
def G327 : G DV := g327 G239

/-- (*ba.Session).Room -/
def g284 : G DV := fun R1 H1 Kb1 => lc R1 fun d1 R2 => onV d1 fun v1 => isP v1 fun p1 => ln R2 <| onA p1 fun b1 m1 => rdK H1 b1 m1 fun v2 => isP v2 fun p2 => c1 [(DV.v (AV.p p2))] H1 fun d2 H2 => onV d2 fun v3 => isI .i64 v3 fun n1 => Kb1 (DV.v (AV.i .i64 n1)) H2
def G284 : G DV := g284 G327

def g215x1 := jn (fun d3 H2 => jn (fun d4 H3 => jn (fun d5 H4 => pickK t1 d5 (DV.v (AV.b false)) fun d6 => onV d6 fun v1 => isB v1 fun t2 => Kb1 (DV.v (AV.b t2)) H4) fun Kb2 => br t1 (onV d1 fun v1 => isB v1 fun t2 => pickK t2 (DV.v (AV.b true)) d4 fun d5 => onV d5 fun v2 => isB v2 fun t3 => Kb2 (DV.v (AV.b t3)) H3) (Kb2 DV.n H3)) fun Kb2 => grd d1 false (onV d3 fun v1 => isI .i64 v1 fun n1 => frcB (ieq n1 ii1) fun t2 => Kb2 (DV.v (AV.b t2)) H2) (Kb2 DV.n H2)) fun Kb2 => grd d1 false (c1 [d2] H1 fun d3 H2 => onV d3 fun v1 => isI .i64 v1 fun n1 => Kb2 (DV.v (AV.i .i64 n1)) H2) (Kb2 DV.n H1)
def g215x2 := jn (fun d3 H2 => jn (fun d4 H3 => jn (fun d5 H4 => g215x1 d1 d5 t1 H4 c1 Kb1) fun Kb2 => grd d1 false (onV d4 fun v1 => isP v1 fun p1 => onA p1 fun b1 m1 => rdK H3 b1 m1 fun v2 => isP v2 fun p2 => Kb2 (DV.v (AV.p p2)) H3) (Kb2 DV.n H3)) fun Kb2 => grd d1 false (onV d3 fun v1 => isP v1 fun p1 => onA p1 fun b1 m1 => Kb2 (DV.v (AV.p (AP.at b1 m1))) H2) (Kb2 DV.n H2)) fun Kb2 => grd d1 false (onV d2 fun v1 => isP v1 fun p1 => onA p1 fun b1 m1 => Kb2 (DV.v (AV.p (AP.at b1 m1))) H1) (Kb2 DV.n H1)
def g215x3 := jn (fun d2 H2 => jn (fun d3 H3 => jn (fun d4 H4 => jn (fun d5 H5 => g215x2 d4 d5 t1 H5 c1 Kb1) fun Kb2 => grd d4 false (Kb2 (DV.v (AV.p (AP.at b1 (Nat.add (Nat.add m1 nn6) (Nat.mul (itn n1) nn5))))) H4) (Kb2 DV.n H4)) fun Kb2 => br t1 (Kb2 d3 H3) (Kb2 DV.n H3)) fun Kb2 => br t1 (onV d2 fun v1 => isI .i64 v1 fun n2 => frcB (ilt ii0 n2) fun t2 => Kb2 (DV.v (AV.b t2)) H2) (Kb2 DV.n H2)) fun Kb2 => br t1 (c2 [d1] H1 fun d2 H2 => onV d2 fun v1 => isI .i64 v1 fun n2 => Kb2 (DV.v (AV.i .i64 n2)) H2) (Kb2 DV.n H1)
def g215x4 := jn (fun d2 H2 => jn (fun d3 H3 => jn (fun d4 H4 => g215x3 d4 n1 m1 t1 b1 H4 c1 c2 Kb1) fun Kb2 => br t1 (onV d3 fun v1 => isP v1 fun p1 => onA p1 fun b2 m2 => rdK H3 b2 m2 fun v2 => isP v2 fun p2 => Kb2 (DV.v (AV.p p2)) H3) (Kb2 DV.n H3)) fun Kb2 => br t1 (onV d2 fun v1 => isP v1 fun p1 => onA p1 fun b2 m2 => Kb2 (DV.v (AV.p (AP.at b2 m2))) H2) (Kb2 DV.n H2)) fun Kb2 => br t1 (onV d1 fun v1 => isP v1 fun p1 => onA p1 fun b2 m2 => Kb2 (DV.v (AV.p (AP.at b2 m2))) H1) (Kb2 DV.n H1)
def g215x5 := onV d1 fun v1 => isB v1 fun t1 => br t1 (Kb1 (DV.v (AV.b true)) H1) (onA p1 fun b2 m2 => rdK H1 b2 (Nat.add m2 nn311) fun v2 => isP v2 fun p2 => c1 [(DV.v (AV.p p2)), (DV.v (AV.i .i64 n1)), (DV.v (AV.i .i64 n2))] H1 fun d2 H2 => onV d2 fun v3 => isB v3 fun t2 => jn (fun d3 H3 => g215x4 d3 n2 m1 t2 b1 H3 c2 c3 Kb1) fun Kb2 => br t2 (Kb2 (DV.v (AV.p (AP.at b1 (Nat.add (Nat.add m1 nn6) (Nat.mul (itn n2) nn5))))) H2) (Kb2 DV.n H2))
def g215x6 := jn (fun d2 H2 => jn (fun d3 H3 => jn (fun d4 H4 => pickK t1 (DV.v (AV.b true)) d4 fun d5 => g215x5 d5 n1 n2 m1 p1 b1 H4 c1 c2 c3 Kb1) fun Kb2 => br t1 (Kb2 DV.n H3) (onV d3 fun v1 => isI .i64 v1 fun n3 => frcB (ilt ii0 n3) fun t2 => Kb2 (DV.v (AV.b t2)) H3)) fun Kb2 => br t1 (Kb2 DV.n H2) (onV d2 fun v1 => isS v1 fun s1 => lenA s1 fun m2 => Kb2 (DV.v (AV.i .i64 (Int.ofNat m2))) H2)) fun Kb2 => br t1 (Kb2 DV.n H1) (c4 [d1] H1 fun d2 H2 => onV d2 fun v1 => isS v1 fun s1 => Kb2 (DV.v (AV.s s1)) H2)
def g215x7 := jn (fun d2 H2 => jn (fun d3 H3 => jn (fun d4 H4 => g215x6 d4 n1 n2 m1 t1 p1 b1 H4 c1 c2 c3 c4 Kb1) fun Kb2 => br t1 (Kb2 DV.n H3) (onV d3 fun v1 => isP v1 fun p2 => onA p2 fun b2 m2 => rdK H3 b2 m2 fun v2 => isP v2 fun p3 => Kb2 (DV.v (AV.p p3)) H3)) fun Kb2 => br t1 (Kb2 DV.n H2) (onV d2 fun v1 => isP v1 fun p2 => onA p2 fun b2 m2 => Kb2 (DV.v (AV.p (AP.at b2 m2))) H2)) fun Kb2 => br t1 (Kb2 DV.n H1) (onV d1 fun v1 => isP v1 fun p2 => onA p2 fun b2 m2 => Kb2 (DV.v (AV.p (AP.at b2 m2))) H1)
def g215x8 := rdK H1 b1 (Nat.add (Nat.add m1 nn6) (Nat.mul (itn n1) nn5)) fun v1 => isP v1 fun p2 => c1 [(DV.v (AV.p p2))] H1 fun d1 H2 => onC d1 fun d2 d3 => onV d2 fun v2 => isI .i64 v2 fun n3 => onC d3 fun d4 d5 => onV d4 fun v3 => isB v3 fun t1 => onN d5 <| jn (fun d6 H3 => g215x7 d6 n2 n1 m1 t1 p1 b1 H3 c2 c3 c4 c5 Kb1) fun Kb2 => br t1 (Kb2 DV.n H2) (Kb2 (DV.v (AV.p (AP.at b1 (Nat.add (Nat.add m1 nn6) (Nat.mul (itn n1) nn5))))) H2)
def g215x9 := onV d1 fun v1 => isI .i64 v1 fun n1 => lc R1 fun d2 R2 => onV d2 fun v2 => isI .i64 v2 fun n2 => ln R2 <| c1 [(DV.v (AV.p p1)), (DV.v (AV.i .i64 n1))] H1 fun d3 H2 => onV d3 fun v3 => isP v3 fun p2 => onA p2 fun b1 m1 => rng n2 nn8 <| rdK H2 b1 (Nat.add (Nat.add (Nat.add m1 nn6) (Nat.mul (itn n2) nn5)) nn4) fun v4 => isB v4 fun t1 => br t1 (Kb1 (DV.v (AV.b false)) H2) (g215x8 n2 n1 m1 p1 b1 H2 c2 c3 c4 c5 c6 Kb1)
/-- (*ap.AP).ready -/
def g215 : G DV := fun R1 H1 Kb1 => lc R1 fun d1 R2 => onV d1 fun v1 => isP v1 fun p1 => lc R2 fun d2 R3 => g215x9 d2 R3 p1 H1 c1 c4 c2 c3 c6 c5 Kb1
def G215 : G DV := g215 G124 G126 G164 G220 G222 G284

def g136x1 := jn (fun d3 H2 => jn (fun d4 H3 => pickK t1 d4 (DV.v (AV.b false)) fun d5 => onV d5 fun v1 => isB v1 fun t2 => br t2 (alB H3 (@T4.n AV (AV.i .i64 n1) te te te te) nn1 nn0 fun b1 H4 => appD nn1 nn8 s1 (AS.sl b1 nn0 nn1 nn1) H4 fun s2 H5 => Kb1 (DV.v (AV.s s2)) H5) (Kb1 (DV.v (AV.s s1)) H3)) fun Kb2 => br t1 (c1 [d1, d2, d3] H2 fun d4 H3 => onV d4 fun v1 => isB v1 fun t2 => Kb2 (DV.v (AV.b t2)) H3) (Kb2 DV.n H2)) fun Kb2 => br t1 (Kb2 (DV.v (AV.i .i64 n1)) H1) (Kb2 DV.n H1)
def g136x2 := jF [(7 , .slice)] (fun d1 H2 => onV d1 fun v1 => isS v1 fun s2 => wrp .i64 (iadd n1 ii1) fun n4 => Kc1 (DV.v (AV.s s2)) (DV.v (AV.i .i64 n4)) H2) fun Kb1 => c1 [(DV.v (AV.i .i64 n1))] H1 fun d1 H2 => onV d1 fun v1 => isI .i64 v1 fun n4 => frcB (ieq n4 n2) fun t1 => jn (fun d2 H3 => jn (fun d3 H4 => g136x1 d2 d3 n1 t1 s1 H4 c2 Kb1) fun Kb2 => br t1 (Kb2 (DV.v (AV.i .i64 n3)) H3) (Kb2 DV.n H3)) fun Kb2 => br t1 (Kb2 (DV.v (AV.p p1)) H2) (Kb2 DV.n H2)
def g136x3 := lc R1 fun d1 R2 => onV d1 fun v1 => isI .i64 v1 fun n1 => lc R2 fun d2 R3 => onV d2 fun v2 => isI .i64 v2 fun n2 => ln R3 <| lpR (failF [(7 , .slice), (9 , .int .i64)]) (fun Kc1 => fun d3 d4 H2 => onV d3 fun v3 => isS v3 fun s1 => onV d4 fun v4 => isI .i64 v4 fun n3 => frcB (ilt n3 ii8) fun t1 => br t1 (g136x2 n3 n2 n1 p1 s1 H2 c1 c2 Kc1) (Kb1 (DV.v (AV.s s1)) H2)) (nat_lit 100000) (DV.v (AV.s AS.nil)) (DV.v (AV.i .i64 ii0)) H1
/-- (*ap.AP).readies -/
def g136 : G DV := fun R1 H1 Kb1 => lc R1 fun d1 R2 => onV d1 fun v1 => isP v1 fun p1 => g136x3 R2 p1 H1 c1 c2 Kb1
def G136 : G DV := g136 G214 G215

/-- ps.fair -/
def g268 : G DV := fun R1 H1 Kb1 => lc R1 fun d1 R2 => onV d1 fun v1 => isI .i64 v1 fun n1 => ln R2 <| frcB (ile ii0 n1) fun t1 => jn (fun d2 H2 => jn (fun d3 H3 => pickK t1 d3 (DV.v (AV.b false)) fun d4 => onV d4 fun v2 => isB v2 fun t2 => Kb1 (DV.v (AV.b t2)) H3) fun Kb2 => br t1 (onV d2 fun v2 => isI .i64 v2 fun n2 => frcB (ilt n2 ii4) fun t2 => Kb2 (DV.v (AV.b t2)) H2) (Kb2 DV.n H2)) fun Kb2 => br t1 (Kb2 (DV.v (AV.i .i64 n1)) H1) (Kb2 DV.n H1)
def G268 : G DV := g268

def g206x1 := jn (fun d4 H2 => jn (fun d5 H3 => pickK t1 d5 (DV.v (AV.b false)) fun d6 => onV d6 fun v1 => isB v1 fun t2 => Kb1 (DV.v (AV.b t2)) H3) fun Kb2 => br t1 (onV d1 fun v1 => isB v1 fun t2 => pickK t2 (DV.v (AV.b true)) d4 fun d5 => onV d5 fun v2 => isB v2 fun t3 => Kb2 (DV.v (AV.b t3)) H2) (Kb2 DV.n H2)) fun Kb2 => grd d1 false (onV d2 fun v1 => isB v1 fun t2 => pickK t2 d3 (DV.v (AV.b false)) fun d4 => onV d4 fun v2 => isB v2 fun t3 => Kb2 (DV.v (AV.b t3)) H1) (Kb2 DV.n H1)
def g206x2 := jn (fun d5 H2 => jn (fun d6 H3 => jn (fun d7 H4 => g206x1 d1 d2 d7 t1 H4 Kb1) fun Kb2 => grd d2 true (onV d6 fun v1 => isP v1 fun p1 => onA p1 fun b1 m1 => rdK H3 b1 m1 fun v2 => isB v2 fun t2 => Kb2 (DV.v (AV.b t2)) H3) (Kb2 DV.n H3)) fun Kb2 => grd d2 true (onV d3 fun v1 => isJ v1 fun n1 => onV d5 fun v2 => isP v2 fun p1 => onA p1 fun b1 m1 => rng n1 nn4 <| Kb2 (DV.v (AV.p (AP.at b1 (Nat.add m1 (itn n1))))) H2) (Kb2 DV.n H2)) fun Kb2 => grd d2 true (onV d4 fun v1 => isP v1 fun p1 => onA p1 fun b1 m1 => Kb2 (DV.v (AV.p (AP.at b1 (Nat.add m1 nn4)))) H1) (Kb2 DV.n H1)
def g206x3 := jn (fun d3 H2 => jn (fun d4 H3 => jn (fun d5 H4 => jn (fun d6 H5 => jn (fun d7 H6 => g206x2 d1 d4 d6 d7 t1 H6 Kb1) fun Kb2 => grd d4 true (onV d5 fun v1 => isP v1 fun p2 => onA p2 fun b1 m1 => Kb2 (DV.v (AV.p (AP.at b1 m1))) H5) (Kb2 DV.n H5)) fun Kb2 => grd d4 true (Kb2 (DV.v (AV.i .i64 n1)) H4) (Kb2 DV.n H4)) fun Kb2 => grd d4 true (Kb2 (DV.v (AV.p p1)) H3) (Kb2 DV.n H3)) fun Kb2 => grd d1 false (Kb2 d3 H2) (Kb2 DV.n H2)) fun Kb2 => grd d1 false (onV d2 fun v1 => isP v1 fun p2 => onA p2 fun b1 m1 => rdK H1 b1 m1 fun v2 => isB v2 fun t2 => Kb2 (DV.v (AV.b t2)) H1) (Kb2 DV.n H1)
def g206x4 := jn (fun d2 H2 => jn (fun d3 H3 => jn (fun d4 H4 => jn (fun d5 H5 => g206x3 d2 d5 n1 t1 p1 H5 Kb1) fun Kb2 => grd d2 false (onV d4 fun v1 => isP v1 fun p2 => onA p2 fun b1 m1 => Kb2 (DV.v (AV.p (AP.at b1 (Nat.add m1 nn3)))) H4) (Kb2 DV.n H4)) fun Kb2 => grd d2 false (onV d3 fun v1 => isP v1 fun p2 => onA p2 fun b1 m1 => Kb2 (DV.v (AV.p (AP.at b1 m1))) H3) (Kb2 DV.n H3)) fun Kb2 => grd d2 false (Kb2 (DV.v (AV.p p1)) H2) (Kb2 DV.n H2)) fun Kb2 => br t1 (Kb2 d1 H1) (Kb2 DV.n H1)
def g206x5 := jn (fun d3 H2 => jn (fun d4 H3 => jn (fun d5 H4 => g206x4 d5 n1 t1 p1 H4 Kb1) fun Kb2 => br t1 (onV d1 fun v1 => isB v1 fun t2 => pickK t2 (DV.v (AV.b true)) d4 fun d5 => onV d5 fun v2 => isB v2 fun t3 => Kb2 (DV.v (AV.b t3)) H3) (Kb2 DV.n H3)) fun Kb2 => grd d1 false (onV d3 fun v1 => isP v1 fun p2 => onA p2 fun b1 m1 => rdK H2 b1 m1 fun v2 => isB v2 fun t2 => Kb2 (DV.v (AV.b t2)) H2) (Kb2 DV.n H2)) fun Kb2 => grd d1 false (onV d2 fun v1 => isP v1 fun p2 => onA p2 fun b1 m1 => Kb2 (DV.v (AV.p (AP.at b1 (Nat.add m1 nn2)))) H1) (Kb2 DV.n H1)
def g206x6 := jn (fun d2 H2 => jn (fun d3 H3 => jn (fun d4 H4 => jn (fun d5 H5 => g206x5 d3 d5 n1 t1 p1 H5 Kb1) fun Kb2 => grd d3 false (onV d4 fun v1 => isP v1 fun p2 => onA p2 fun b1 m1 => Kb2 (DV.v (AV.p (AP.at b1 m1))) H4) (Kb2 DV.n H4)) fun Kb2 => grd d3 false (Kb2 (DV.v (AV.p p1)) H3) (Kb2 DV.n H3)) fun Kb2 => br t1 (Kb2 d2 H2) (Kb2 DV.n H2)) fun Kb2 => br t1 (onV d1 fun v1 => isB v1 fun t2 => frcB (bnot t2) fun t3 => Kb2 (DV.v (AV.b t3)) H1) (Kb2 DV.n H1)
def g206x7 := jn (fun d2 H2 => jn (fun d3 H3 => jn (fun d4 H4 => g206x6 d4 n1 t1 p1 H4 Kb1) fun Kb2 => br t1 (onV d3 fun v1 => isP v1 fun p2 => onA p2 fun b1 m1 => rdK H3 b1 m1 fun v2 => isB v2 fun t2 => Kb2 (DV.v (AV.b t2)) H3) (Kb2 DV.n H3)) fun Kb2 => br t1 (onV d2 fun v1 => isP v1 fun p2 => onA p2 fun b1 m1 => Kb2 (DV.v (AV.p (AP.at b1 (Nat.add m1 nn1)))) H2) (Kb2 DV.n H2)) fun Kb2 => br t1 (onV d1 fun v1 => isP v1 fun p2 => onA p2 fun b1 m1 => Kb2 (DV.v (AV.p (AP.at b1 m1))) H1) (Kb2 DV.n H1)
def g206x8 := isP v1 fun p1 => frcB (bnot (isNilA p1)) fun t1 => jn (fun d1 H2 => jn (fun d2 H3 => pickK t1 d2 (DV.v (AV.b false)) fun d3 => onV d3 fun v2 => isB v2 fun t2 => jn (fun d4 H4 => g206x7 d4 n1 t2 p1 H4 Kb1) fun Kb2 => br t2 (Kb2 (DV.v (AV.p p1)) H3) (Kb2 DV.n H3)) fun Kb2 => br t1 (c1 [d1] H2 fun d2 H3 => onV d2 fun v2 => isB v2 fun t2 => Kb2 (DV.v (AV.b t2)) H3) (Kb2 DV.n H2)) fun Kb2 => br t1 (Kb2 (DV.v (AV.i .i64 n1)) H1) (Kb2 DV.n H1)
/-- (*ps.Power).May -/
def g206 : G DV := fun R1 H1 Kb1 => lc R1 fun d1 R2 => onV d1 fun v1 => isP v1 fun p1 => lc R2 fun d2 R3 => onV d2 fun v2 => isI .i64 v2 fun n1 => lc R3 fun d3 R4 => onV d3 fun v3 => isI .i64 v3 fun n2 => ln R4 <| c1 [(DV.v (AV.p p1)), (DV.v (AV.i .i64 n1))] H1 fun d4 H2 => onV d4 fun v4 => g206x8 v4 n2 H2 c2 Kb1
def G206 : G DV := g206 G123 G268

/-- (*sched.turns).Len -/
def g209 : G DV := fun R1 H1 Kb1 => lc R1 fun d1 R2 => onV d1 fun v1 => isP v1 fun p1 => ln R2 <| onA p1 fun b1 m1 => rdK H1 b1 m1 fun v2 => isS v2 fun s1 => lenA s1 fun m2 => Kb1 (DV.v (AV.i .i64 (Int.ofNat m2))) H1
def G209 : G DV := g209

def g282x1 := jn (fun d3 H2 => jn (fun d4 H3 => jn (fun d5 H4 => pickK t1 (DV.v (AV.b true)) d5 fun d6 => onV d6 fun v1 => isB v1 fun t2 => br t2 (Kb1 DV.n H4) (onV d1 fun v2 => isM v2 fun m1 v3 => br (Nat.beq (nat_lit 222) m1) (none) (none))) fun Kb2 => br t1 (Kb2 DV.n H3) (onV d4 fun v1 => isB v1 fun t2 => frcB (bnot t2) fun t3 => Kb2 (DV.v (AV.b t3)) H3)) fun Kb2 => br t1 (Kb2 DV.n H2) (onV d2 fun v1 => isM v1 fun m1 v2 => br (Nat.beq (nat_lit 222) m1) (none) (none))) fun Kb2 => br t1 (Kb2 DV.n H1) (Kb2 (DV.v (AV.i .i64 n1)) H1)
def g282x2 := ln R1 <| lpR (failF [(1 , .int .i64)]) (fun Kb2 => fun d2 H2 => onV d2 fun v1 => isI .i64 v1 fun n2 => wrp .i64 (isub n2 ii1) fun n3 => must (bnot (ieq ii2 ii0)) <| wrp .i64 (iquo n3 ii2) fun n4 => frcB (ieq n4 n2) fun t1 => jn (fun d3 H3 => jn (fun d4 H4 => g282x1 d1 d3 n4 t1 H4 Kb1) fun Kb3 => br t1 (Kb3 DV.n H3) (Kb3 (DV.v (AV.i .i64 n2)) H3)) fun Kb3 => br t1 (Kb3 DV.n H2) (Kb3 d1 H2)) (nat_lit 100000) (DV.v (AV.i .i64 n1)) H1
/-- container/heap.up -/
def g282 : G DV := fun R1 H1 Kb1 => lc R1 fun d1 R2 => lc R2 fun d2 R3 => onV d2 fun v1 => isI .i64 v1 fun n1 => g282x2 d1 R3 n1 H1 Kb1
def G282 : G DV := g282

def g407x1 := onA p1 fun b1 m1 => rdK H1 b1 m1 fun v1 => isS v1 fun s1 => lenA s1 fun m2 => onA p2 fun b2 m3 => wrK H1 b2 (Nat.add m3 nn4) (AV.i .i64 (Int.ofNat m2)) fun H2 => onA p1 fun b3 m4 => rdK H2 b3 m4 fun v2 => isS v2 fun s2 => alB H2 (@T4.n AV (AV.p p2) te te te te) nn1 nn0 fun b4 H3 => appD nn1 nn8 s2 (AS.sl b4 nn0 nn1 nn1) H3 fun s3 H4 => onA p1 fun b5 m5 => wrK H4 b5 m5 (AV.s s3) fun H5 => Kb1 DV.n H5
/-- (*sched.turns).Push -/
def g407 : G DV := fun R1 H1 Kb1 => lc R1 fun d1 R2 => onV d1 fun v1 => isP v1 fun p1 => lc R2 fun d2 R3 => ln R3 <| onV d2 fun v2 => asT (nat_lit 226) (AV.p AP.nil) v2 fun v3 t1 => isP v3 fun p2 => frcB (bnot t1) fun t2 => br t2 (Kb1 DV.n H1) (g407x1 p1 p2 H1 Kb1)
def G407 : G DV := g407

/-- container/heap.Push -/
def g208 : G DV := fun R1 H1 Kb1 => lc R1 fun d1 R2 => lc R2 fun d2 R3 => ln R3 <| onV d1 fun v1 => isM v1 fun m1 v2 => br (Nat.beq (nat_lit 222) m1) (c3 [(DV.v v2), d2] H1 fun d3 H2 => onV d1 fun v3 => isM v3 fun m2 v4 => br (Nat.beq (nat_lit 222) m2) (c1 [(DV.v v4)] H2 fun d4 H3 => onV d4 fun v5 => isI .i64 v5 fun n1 => wrp .i64 (isub n1 ii1) fun n2 => c2 [d1, (DV.v (AV.i .i64 n2))] H3 fun d5 H4 => Kb1 DV.n H4) (none)) (none)
def G208 : G DV := g208 G209 G282 G407

def g283x1 := jn (fun d2 H2 => jn (fun d3 H3 => jn (fun d4 H4 => jn (fun d5 H5 => pickK t1 d5 (DV.v (AV.b false)) fun d6 => onV d6 fun v1 => isB v1 fun t2 => br t2 (Kb1 (DV.v (AV.i .i64 n1)) H5) (Kb1 (DV.v (AV.i .i64 n2)) H5)) fun Kb2 => br t1 (onV d2 fun v1 => isM v1 fun m1 v2 => br (Nat.beq (nat_lit 222) m1) (none) (none)) (Kb2 DV.n H4)) fun Kb2 => br t1 (Kb2 (DV.v (AV.i .i64 n2)) H3) (Kb2 DV.n H3)) fun Kb2 => br t1 (Kb2 (DV.v (AV.i .i64 n1)) H2) (Kb2 DV.n H2)) fun Kb2 => br t1 (Kb2 d1 H1) (Kb2 DV.n H1)
def g283x2 := jn (fun d3 H2 => pickK t1 (DV.v (AV.b true)) d3 fun d4 => onV d4 fun v1 => isB v1 fun t2 => br t2 (Kb1 (DV.v (AV.i .i64 n1)) H2) (jF [(9 , .int .i64)] (fun d5 H3 => onV d5 fun v2 => isI .i64 v2 fun n4 => onV d1 fun v3 => isM v3 fun m1 v4 => br (Nat.beq (nat_lit 222) m1) (none) (none)) fun Kb2 => wrp .i64 (iadd n2 ii1) fun n4 => frcB (ilt n4 n3) fun t3 => g283x1 d1 n4 n2 t3 H2 Kb2)) fun Kb2 => br t1 (Kb2 DV.n H1) (onV d2 fun v1 => isI .i64 v1 fun n4 => frcB (ilt n4 ii0) fun t2 => Kb2 (DV.v (AV.b t2)) H1)
def g283x3 := jF [(7 , .int .i64)] (fun d2 H2 => onV d2 fun v1 => isI .i64 v1 fun n3 => frcB (ilt n1 n3) fun t1 => Kb1 (DV.v (AV.b t1)) H2) fun Kb2 => lpR (failF [(7 , .int .i64)]) (fun Kb3 => fun d2 H2 => onV d2 fun v1 => isI .i64 v1 fun n3 => wrp .i64 (imul ii2 n3) fun n4 => wrp .i64 (iadd n4 ii1) fun n5 => frcB (ile n2 n5) fun t1 => jn (fun d3 H3 => g283x2 d1 d3 n3 n5 n2 t1 H3 Kb2) fun Kb4 => br t1 (Kb4 DV.n H2) (Kb4 (DV.v (AV.i .i64 n5)) H2)) (nat_lit 100000) (DV.v (AV.i .i64 n1)) H1
/-- container/heap.down -/
def g283 : G DV := fun R1 H1 Kb1 => lc R1 fun d1 R2 => lc R2 fun d2 R3 => onV d2 fun v1 => isI .i64 v1 fun n1 => lc R3 fun d3 R4 => onV d3 fun v2 => isI .i64 v2 fun n2 => ln R4 <| g283x3 d1 n1 n2 H1 Kb1
def G283 : G DV := g283

def g406x1 := wrp .i64 (isub (Int.ofNat m1) ii1) fun n1 => ixA s1 n1 (fun x => x) fun b1 m2 => rdK H1 b1 m2 fun v1 => isP v1 fun p2 => onA p1 fun b2 m3 => rdK H1 b2 m3 fun v2 => isS v2 fun s2 => onA p1 fun b3 m4 => rdK H1 b3 m4 fun v3 => isS v3 fun s3 => lenA s3 fun m5 => wrp .i64 (isub (Int.ofNat m5) ii1) fun n2 => natK n2 fun m6 => slA s2 nn0 m6 (fun x => x) fun s4 => onA p1 fun b4 m7 => wrK H1 b4 m7 (AV.s s4) fun H2 => Kb1 (DV.v (AV.ifc (nat_lit 226) (AV.p p2))) H2
/-- (*sched.turns).Pop -/
def g406 : G DV := fun R1 H1 Kb1 => lc R1 fun d1 R2 => onV d1 fun v1 => isP v1 fun p1 => ln R2 <| onA p1 fun b1 m1 => rdK H1 b1 m1 fun v2 => isS v2 fun s1 => onA p1 fun b2 m2 => rdK H1 b2 m2 fun v3 => isS v3 fun s2 => lenA s2 fun m3 => g406x1 m3 p1 s1 H1 Kb1
def G406 : G DV := g406

def g210x1 := br (Nat.beq (nat_lit 222) m1) (c1 [(DV.v v1)] H1 fun d2 H2 => onV d2 fun v2 => isI .i64 v2 fun n2 => wrp .i64 (isub n2 ii1) fun n3 => jF [] (fun H3 => onV d1 fun v3 => isM v3 fun m2 v4 => br (Nat.beq (nat_lit 222) m2) (c2 [(DV.v v4)] H3 fun d3 H4 => onV d3 fun v5 => Kb1 (DV.v v5) H4) (none)) fun Ka1 => frcB (bnot (ieq n3 n1)) fun t1 => br t1 (onV d1 fun v3 => isM v3 fun m2 v4 => br (Nat.beq (nat_lit 222) m2) (none) (none)) (Ka1 H2)) (none)
/-- container/heap.Remove -/
def g210 : G DV := fun R1 H1 Kb1 => lc R1 fun d1 R2 => lc R2 fun d2 R3 => onV d2 fun v1 => isI .i64 v1 fun n1 => ln R3 <| onV d1 fun v2 => isM v2 fun m1 v3 => g210x1 v3 d1 n1 m1 H1 c1 c2 Kb1
def G210 : G DV := g210 G209 G406

def g207x1 := isI .i64 v1 fun n1 => onA p1 fun b1 m1 => rdK H1 b1 (Nat.add m1 nn16) fun v2 => isP v2 fun p3 => onA p3 fun b2 m2 => rdK H1 b2 m2 fun v3 => isS v3 fun s1 => ixA s1 ii0 (fun x => x) fun b3 m3 => rdK H1 b3 m3 fun v4 => isP v4 fun p4 => onA p4 fun b4 m4 => rdK H1 b4 (Nat.add m4 nn2) fun v5 => isI .i64 v5 fun n2 => asI (imax n1 n2) fun n3 => onA p2 fun b5 m5 => wrK H1 b5 (Nat.add m5 nn2) (AV.i .i64 n3) fun H2 => Ka1 H2
def g207x2 := jF [] (fun H2 => onA p1 fun b1 m1 => wrK H2 b1 (Nat.add m1 nn3) (AV.b true) fun H3 => onA p2 fun b2 m2 => rdK H3 b2 (Nat.add m2 nn16) fun v1 => isP v1 fun p3 => c1 [(DV.v (AV.ifc (nat_lit 222) (AV.p p3))), (DV.v (AV.ifc (nat_lit 226) (AV.p p1)))] H3 fun d1 H4 => Ka1 H4) fun Ka2 => onA p2 fun b1 m1 => rdK H1 b1 (Nat.add m1 nn16) fun v1 => isP v1 fun p3 => c2 [(DV.v (AV.p p3))] H1 fun d1 H2 => onV d1 fun v2 => isI .i64 v2 fun n1 => frcB (ilt ii0 n1) fun t1 => br t1 (onA p1 fun b2 m2 => rdK H2 b2 (Nat.add m2 nn2) fun v3 => g207x1 v3 p2 p1 H2 Ka2) (Ka2 H2)
def g207x3 := jn (fun d2 H2 => pickK t1 d2 (DV.v (AV.b false)) fun d3 => onV d3 fun v1 => isB v1 fun t2 => br t2 (onA p1 fun b1 m1 => wrK H2 b1 (Nat.add m1 nn3) (AV.b false) fun H3 => onA p2 fun b2 m2 => rdK H3 b2 (Nat.add m2 nn16) fun v2 => isP v2 fun p3 => onA p1 fun b3 m3 => rdK H3 b3 (Nat.add m3 nn4) fun v3 => isI .i64 v3 fun n1 => c1 [(DV.v (AV.ifc (nat_lit 222) (AV.p p3))), (DV.v (AV.i .i64 n1))] H3 fun d4 H4 => onV d4 fun v4 => Ka1 H4) (Ka1 H2)) fun Kb1 => br t1 (onV d1 fun v1 => isP v1 fun p3 => onA p3 fun b1 m1 => rdK H1 b1 m1 fun v2 => isB v2 fun t2 => Kb1 (DV.v (AV.b t2)) H1) (Kb1 DV.n H1)
def g207x4 := br t1 (g207x2 p1 p2 H1 c1 c2 Ka1) (frcB (bnot t2) fun t3 => jn (fun d1 H2 => jn (fun d2 H3 => jn (fun d3 H4 => g207x3 d3 t3 p1 p2 H4 c3 Ka1) fun Kb1 => br t3 (onV d2 fun v1 => isP v1 fun p3 => onA p3 fun b1 m1 => Kb1 (DV.v (AV.p (AP.at b1 (Nat.add m1 nn3)))) H3) (Kb1 DV.n H3)) fun Kb1 => br t3 (onV d1 fun v1 => isP v1 fun p3 => onA p3 fun b1 m1 => Kb1 (DV.v (AV.p (AP.at b1 m1))) H2) (Kb1 DV.n H2)) fun Kb1 => br t3 (Kb1 (DV.v (AV.p p1)) H1) (Kb1 DV.n H1))
def g207x5 := jn (fun d2 H2 => jn (fun d3 H3 => jn (fun d4 H4 => pickK t1 d4 (DV.v (AV.b false)) fun d5 => onV d5 fun v1 => isB v1 fun t2 => g207x4 t2 t1 p1 p2 H4 c1 c2 c3 Ka1) fun Kb1 => br t1 (onV d3 fun v1 => isB v1 fun t2 => frcB (bnot t2) fun t3 => Kb1 (DV.v (AV.b t3)) H3) (Kb1 DV.n H3)) fun Kb1 => br t1 (onV d2 fun v1 => isP v1 fun p3 => onA p3 fun b1 m1 => rdK H2 b1 m1 fun v2 => isB v2 fun t2 => Kb1 (DV.v (AV.b t2)) H2) (Kb1 DV.n H2)) fun Kb1 => br t1 (onV d1 fun v1 => isP v1 fun p3 => onA p3 fun b1 m1 => Kb1 (DV.v (AV.p (AP.at b1 (Nat.add m1 nn3)))) H1) (Kb1 DV.n H1)
def g207x6 := c1 [(DV.v (AV.p p1)), (DV.v (AV.i .i64 n1))] H1 fun d1 H2 => onV d1 fun v1 => isP v1 fun p2 => jF [] (fun H3 => Kb1 (DV.v AV.ni) H3) fun Ka1 => frcB (isNilA p2) fun t2 => br t2 (Kb1 (DV.v (AV.er (nat_lit 6))) H2) (jn (fun d2 H3 => jn (fun d3 H4 => g207x5 d3 t1 p2 p1 H4 c2 c3 c4 Ka1) fun Kb2 => br t1 (onV d2 fun v2 => isP v2 fun p3 => onA p3 fun b1 m1 => Kb2 (DV.v (AV.p (AP.at b1 m1))) H3) (Kb2 DV.n H3)) fun Kb2 => br t1 (Kb2 (DV.v (AV.p p2)) H2) (Kb2 DV.n H2))
/-- (*sched.Sched).Active -/
def g207 : G DV := fun R1 H1 Kb1 => lc R1 fun d1 R2 => onV d1 fun v1 => isP v1 fun p1 => lc R2 fun d2 R3 => onV d2 fun v2 => isI .i64 v2 fun n1 => lc R3 fun d3 R4 => onV d3 fun v3 => isB v3 fun t1 => ln R4 <| g207x6 n1 t1 p1 H1 c1 c2 c3 c4 Kb1
def G207 : G DV := g207 G201 G208 G209 G210

def g133x1 := jn (fun d2 H2 => jn (fun d3 H3 => jn (fun d4 H4 => pickK t1 (DV.v (AV.b true)) d4 fun d5 => onV d5 fun v1 => isB v1 fun t2 => rng n1 nn4 <| wrK H4 b1 (Nat.add nn0 (itn n1)) (AV.b t2) fun H5 => Kb1 (DV.v (AV.s s1)) H5) fun Kb2 => br t1 (Kb2 DV.n H3) (c1 [d2, d3] H3 fun d4 H4 => onV d4 fun v1 => isB v1 fun t2 => Kb2 (DV.v (AV.b t2)) H4)) fun Kb2 => br t1 (Kb2 DV.n H2) (Kb2 (DV.v (AV.i .i64 n2)) H2)) fun Kb2 => br t1 (Kb2 DV.n H1) (onV d1 fun v1 => isP v1 fun p1 => onA p1 fun b2 m1 => rdK H1 b2 m1 fun v2 => isP v2 fun p2 => Kb2 (DV.v (AV.p p2)) H1)
def g133x2 := isB v1 fun t1 => jn (fun d1 H2 => jn (fun d2 H3 => jn (fun d3 H4 => g133x1 d3 n1 n2 t1 b1 s1 H4 c1 Kb1) fun Kb2 => br t1 (Kb2 DV.n H3) (onV d2 fun v2 => isP v2 fun p2 => onA p2 fun b2 m1 => Kb2 (DV.v (AV.p (AP.at b2 (Nat.add m1 nn312)))) H3)) fun Kb2 => br t1 (Kb2 DV.n H2) (onV d1 fun v2 => isP v2 fun p2 => onA p2 fun b2 m1 => Kb2 (DV.v (AV.p (AP.at b2 m1))) H2)) fun Kb2 => br t1 (Kb2 DV.n H1) (Kb2 (DV.v (AV.p p1)) H1)
def g133x3 := pickK t1 d1 (DV.v (AV.b false)) fun d2 => onV d2 fun v1 => isB v1 fun t2 => br t2 (alB H1 (@T4.n AV (AV.i .i64 n1) te te te te) nn1 nn0 fun b2 H2 => appD nn1 nn8 s1 (AS.sl b2 nn0 nn1 nn1) H2 fun s2 H3 => rng n2 nn4 <| rdK H3 b1 (Nat.add nn0 (itn n2)) fun v2 => g133x2 v2 n2 n1 p1 b1 s2 H3 c1 Kb1) (c2 [(DV.v (AV.p p2)), (DV.v (AV.i .i64 n1)), (DV.v (AV.b false))] H1 fun d3 H2 => onV d3 fun v2 => Kb1 (DV.v (AV.s s1)) H2)
def g133x4 := jn (fun d4 H2 => jn (fun d5 H3 => jn (fun d6 H4 => g133x3 d6 n1 n2 t1 p1 p2 b1 s1 H4 c1 c2 Kb1) fun Kb2 => br t1 (onV d5 fun v1 => isI .i64 v1 fun n3 => frcB (ilt ii0 n3) fun t2 => Kb2 (DV.v (AV.b t2)) H3) (Kb2 DV.n H3)) fun Kb2 => br t1 (onV d4 fun v1 => isS v1 fun s2 => lenA s2 fun m1 => Kb2 (DV.v (AV.i .i64 (Int.ofNat m1))) H2) (Kb2 DV.n H2)) fun Kb2 => br t1 (c3 [d1, d2, d3] H1 fun d4 H2 => onV d4 fun v1 => isS v1 fun s2 => Kb2 (DV.v (AV.s s2)) H2) (Kb2 DV.n H1)
def g133x5 := c1 [(DV.v (AV.p (AP.at b1 (Nat.add m1 nn150)))), (DV.v (AV.i .i64 n1)), (DV.v (AV.i .i64 n2))] H1 fun d1 H2 => onV d1 fun v1 => isB v1 fun t1 => jn (fun d2 H3 => jn (fun d3 H4 => jn (fun d4 H5 => g133x4 d2 d3 d4 n1 n2 t1 p1 p2 b2 s1 H5 c2 c3 c4 Kb1) fun Kb2 => br t1 (Kb2 (DV.v (AV.i .i64 n2)) H4) (Kb2 DV.n H4)) fun Kb2 => br t1 (Kb2 (DV.v (AV.i .i64 n1)) H3) (Kb2 DV.n H3)) fun Kb2 => br t1 (Kb2 (DV.v (AV.p p1)) H2) (Kb2 DV.n H2)
def g133x6 := lpR (failF [(65 , .int .i64)]) (fun Kb2 => fun d1 H2 => onV d1 fun v1 => isI .i64 v1 fun n2 => frcB (ilt n2 (Int.ofNat m1)) fun t1 => br t1 (ixA s1 n2 (fun x => x) fun b1 m2 => rdK H2 b1 m2 fun v2 => isI .i64 v2 fun n3 => c1 [(DV.v (AV.p p1)), (DV.v (AV.i .i64 n3)), (DV.v (AV.b true))] H2 fun d2 H3 => onV d2 fun v3 => wrp .i64 (iadd n2 ii1) fun n4 => Kb2 (DV.v (AV.i .i64 n4)) H3) (wrp .i64 (iadd n1 ii1) fun n3 => Kb1 (DV.v (AV.i .i64 n3)) H2)) (nat_lit 100000) (DV.v (AV.i .i64 ii0)) H1
def g133x7 := frcB (ilt n1 (Int.ofNat m1)) fun t1 => br t1 (jF [(6 , .slice)] (fun d1 H2 => onV d1 fun v1 => isS v1 fun s3 => wrp .i64 (iadd n1 ii1) fun n3 => Kc1 (DV.v (AV.s s3)) (DV.v (AV.i .i64 n3)) H2) fun Kb2 => ixA s1 n1 (fun x => x) fun b2 m2 => rdK H1 b2 m2 fun v1 => isI .i64 v1 fun n3 => onA p1 fun b3 m3 => g133x5 n3 n2 m3 p1 p2 b3 b1 s2 H1 c1 c2 c3 c4 Kb2) (lenA s2 fun m2 => g133x6 n2 m2 p2 s2 H1 c3 Kb1)
def g133x8 := isP v1 fun p2 => onA p1 fun b2 m1 => c1 [(DV.v (AV.p (AP.at b2 (Nat.add m1 nn22))))] H1 fun d1 H2 => onV d1 fun v2 => isS v2 fun s1 => lenA s1 fun m2 => lpR (failF [(6 , .slice), (24 , .int .i64)]) (fun Kc1 => fun d2 d3 H3 => onV d2 fun v3 => isS v3 fun s2 => onV d3 fun v4 => isI .i64 v4 fun n2 => g133x7 n2 n1 m2 p1 p2 b1 s1 s2 H3 c2 c3 c4 c5 Kb1 Kc1) (nat_lit 100000) (DV.v (AV.s AS.nil)) (DV.v (AV.i .i64 ii0)) H2
def g133x9 := rdR H1 b1 (Nat.add m1 nn313) nn4 fun l1 => lpR (failF [(15 , .int .i64)]) (fun Kb2 => fun d1 H2 => onV d1 fun v1 => isI .i64 v1 fun n1 => frcB (ilt n1 ii4) fun t1 => br t1 (rng n1 nn4 <| lgetK (itn n1) l1 fun v2 => g133x8 v2 n1 p1 b2 H2 c1 c2 c3 c4 c5 Kb2) (rdR H2 b2 nn0 nn4 fun l2 => must (Nat.beq (llen l2) nn4) <| wrL H2 b3 nn0 l2 fun H3 => rdR H3 b3 nn0 nn4 fun l3 => Kb1 (DV.a l3) H3)) (nat_lit 100000) (DV.v (AV.i .i64 ii0)) H1
/-- (*ap.AP).actives -/
def g133 : G DV := fun R1 H1 Kb1 => lc R1 fun d1 R2 => onV d1 fun v1 => isP v1 fun p1 => ln R2 <| alB H1 z8 nn4 nn0 fun b1 H2 => alB H2 z8 nn4 nn0 fun b2 H3 => onA p1 fun b3 m1 => g133x9 m1 p1 b3 b2 b1 H3 c1 c4 c2 c5 c3 Kb1
def G133 : G DV := g133 G71 G135 G136 G206 G207

def z22 : T4 AV := (@T4.n AV yy0 (@T4.n AV yy0 te te te te) (@T4.n AV yy0 te te te te) (@T4.n AV yy2 te te te te) (@T4.n AV yy0 te te te te))
def g134x1 := isS v1 fun s2 => ixA s2 ii0 (fun x => x) fun b2 m1 => rdK H1 b2 m1 fun v2 => isP v2 fun p1 => onA p1 fun b3 m2 => rdK H1 b3 m2 fun v3 => isI .i64 v3 fun n1 => alB H1 (@T4.n AV (AV.i .i64 n1) te te te te) nn1 nn0 fun b4 H2 => appD nn1 nn8 s1 (AS.sl b4 nn0 nn1 nn1) H2 fun s3 H3 => c1 [(DV.v (AV.ifc (nat_lit 222) (AV.p (AP.at b1 nn0)))), (DV.v (AV.i .i64 ii0))] H3 fun d1 H4 => onV d1 fun v4 => Kb1 (DV.v (AV.s s3)) H4
def g134x2 := br t1 (ixA s1 n1 (fun x => x) fun b2 m1 => rdK H1 b2 m1 fun v1 => isP v1 fun p1 => onA p1 fun b3 m2 => rdR H1 b3 m2 nn5 fun l1 => alB H1 z22 nn5 nn0 fun b4 H2 => must (Nat.beq (llen l1) nn5) <| wrL H2 b4 nn0 l1 fun H3 => c1 [(DV.v (AV.ifc (nat_lit 222) (AV.p (AP.at b1 nn0)))), (DV.v (AV.ifc (nat_lit 226) (AV.p (AP.at b4 nn0))))] H3 fun d1 H4 => wrp .i64 (iadd n1 ii1) fun n2 => Kb1 (DV.v (AV.i .i64 n2)) H4) (lpR (failF [(7 , .slice)]) (fun Kb3 => fun d1 H2 => onV d1 fun v1 => isS v1 fun s2 => c2 [(DV.v (AV.p (AP.at b1 nn0)))] H2 fun d2 H3 => onV d2 fun v2 => isI .i64 v2 fun n2 => frcB (ilt ii0 n2) fun t2 => br t2 (rdK H3 b1 nn0 fun v3 => g134x1 v3 b1 s2 H3 c3 Kb3) (Kb2 (DV.v (AV.s s2)) H3)) (nat_lit 100000) (DV.v (AV.s AS.nil)) H1)
def g134x3 := alB H1 (@T4.n AV yy3 te te te te) nn1 nn0 fun b1 H2 => onA p1 fun b2 m1 => rdK H2 b2 (Nat.add m1 nn16) fun v1 => isP v1 fun p2 => onA p2 fun b3 m2 => rdK H2 b3 m2 fun v2 => isS v2 fun s1 => lenA s1 fun m3 => lpR (failF [(18 , .int .i64)]) (fun Kb2 => fun d1 H3 => onV d1 fun v3 => isI .i64 v3 fun n1 => frcB (ilt n1 (Int.ofNat m3)) fun t1 => g134x2 n1 t1 b1 s1 H3 c1 c2 c3 Kb2 Kb1) (nat_lit 100000) (DV.v (AV.i .i64 ii0)) H2
/-- (*sched.Sched).Order -/
def g134 : G DV := fun R1 H1 Kb1 => lc R1 fun d1 R2 => onV d1 fun v1 => isP v1 fun p1 => ln R2 <| g134x3 p1 H1 c1 c2 c3 Kb1
def G134 : G DV := g134 G208 G209 G210

def g73x1 := jn (fun d2 H2 => jn (fun d3 H3 => jn (fun d4 H4 => pickK t1 (DV.v (AV.b true)) d4 fun d5 => onV d5 fun v1 => isB v1 fun t2 => br t2 (Kb1 (DV.v (AV.b true)) H4) (wrp .i64 (iadd n1 ii1) fun n3 => Kb2 (DV.v (AV.i .i64 n3)) H4)) fun Kb3 => br t1 (Kb3 DV.n H3) (c1 [d1, d2, d3] H3 fun d4 H4 => onV d4 fun v1 => isB v1 fun t2 => Kb3 (DV.v (AV.b t2)) H4)) fun Kb3 => br t1 (Kb3 DV.n H2) (Kb3 (DV.v (AV.i .i64 n1)) H2)) fun Kb3 => br t1 (Kb3 DV.n H1) (Kb3 (DV.v (AV.i .i64 n2)) H1)
def g73x2 := jn (fun d2 H2 => jn (fun d3 H3 => jn (fun d4 H4 => g73x1 d4 n1 n2 t1 H4 c1 Kb1 Kb2) fun Kb3 => br t1 (Kb3 DV.n H3) (onV d3 fun v1 => isP v1 fun p1 => onA p1 fun b1 m1 => rdK H3 b1 m1 fun v2 => isP v2 fun p2 => Kb3 (DV.v (AV.p p2)) H3)) fun Kb3 => br t1 (Kb3 DV.n H2) (onV d2 fun v1 => isP v1 fun p1 => onA p1 fun b1 m1 => Kb3 (DV.v (AV.p (AP.at b1 (Nat.add m1 nn311)))) H2)) fun Kb3 => br t1 (Kb3 DV.n H1) (onV d1 fun v1 => isP v1 fun p1 => onA p1 fun b1 m1 => Kb3 (DV.v (AV.p (AP.at b1 m1))) H1)
def g73x3 := c1 [(DV.v (AV.p p1))] H1 fun d1 H2 => onV d1 fun v1 => isS v1 fun s1 => lenA s1 fun m1 => jF [(11 , .int .i64)] (fun d2 H3 => onV d2 fun v2 => isI .i64 v2 fun n5 => frcB (ilt ii0 n5) fun t1 => jn (fun d3 H4 => g73x2 d3 n1 n2 t1 H4 c2 Kb1 Kb2) fun Kb3 => br t1 (Kb3 DV.n H3) (Kb3 (DV.v (AV.p p2)) H3)) fun Kb3 => frcB (ieq n1 n3) fun t1 => br t1 (wrp .i64 (isub (Int.ofNat m1) n4) fun n5 => Kb3 (DV.v (AV.i .i64 n5)) H2) (Kb3 (DV.v (AV.i .i64 (Int.ofNat m1))) H2)
def g73x4 := c1 [(DV.v (AV.p p1)), (DV.v (AV.i .i64 n1))] H1 fun d1 H2 => onV d1 fun v1 => isP v1 fun p2 => lpR (failF [(15 , .int .i64)]) (fun Kb2 => fun d2 H3 => onV d2 fun v2 => isI .i64 v2 fun n4 => frcB (ilt n4 ii8) fun t1 => br t1 (onA p2 fun b1 m1 => rng n4 nn8 <| rdK H3 b1 (Nat.add (Nat.add m1 nn6) (Nat.mul (itn n4) nn5)) fun v3 => isP v3 fun p3 => g73x3 n4 n1 n2 n3 p3 p1 H3 c2 c3 Kb1 Kb2) (Kb1 (DV.v (AV.b false)) H3)) (nat_lit 100000) (DV.v (AV.i .i64 ii0)) H2
/-- (*ap.AP).has -/
def g73 : G DV := fun R1 H1 Kb1 => lc R1 fun d1 R2 => onV d1 fun v1 => isP v1 fun p1 => lc R2 fun d2 R3 => onV d2 fun v2 => isI .i64 v2 fun n1 => lc R3 fun d3 R4 => onV d3 fun v3 => isI .i64 v3 fun n2 => lc R4 fun d4 R5 => onV d4 fun v4 => isI .i64 v4 fun n3 => ln R5 <| g73x4 n1 n2 n3 p1 H1 c1 c2 c3 Kb1
def G73 : G DV := g73 G124 G125 G126

def g263x1 := jn (fun d2 H2 => jn (fun d3 H3 => pickK t1 (DV.v (AV.b true)) d3 fun d4 => onV d4 fun v1 => isB v1 fun t2 => br t2 (Kb1 (DV.v (AV.p AP.nil)) H3) (wrp .i64 (isub n1 ii1) fun n2 => onA p1 fun b1 m1 => rng n2 nn16 <| Kb1 (DV.v (AV.p (AP.at b1 (Nat.add m1 (Nat.mul (itn n2) nn8))))) H3)) fun Kb2 => br t1 (Kb2 DV.n H2) (onV d2 fun v1 => isB v1 fun t2 => frcB (bnot t2) fun t3 => Kb2 (DV.v (AV.b t3)) H2)) fun Kb2 => br t1 (Kb2 DV.n H1) (onV d1 fun v1 => isP v1 fun p2 => onA p2 fun b1 m1 => rdK H1 b1 m1 fun v2 => isB v2 fun t2 => Kb2 (DV.v (AV.b t2)) H1)
def g263x2 := jn (fun d3 H2 => jn (fun d4 H3 => jn (fun d5 H4 => g263x1 d5 n1 t1 p1 H4 Kb1) fun Kb2 => br t1 (Kb2 DV.n H3) (onV d4 fun v1 => isP v1 fun p2 => onA p2 fun b1 m1 => Kb2 (DV.v (AV.p (AP.at b1 m1))) H3)) fun Kb2 => br t1 (Kb2 DV.n H2) (onV d1 fun v1 => isJ v1 fun n2 => onV d3 fun v2 => isP v2 fun p2 => onA p2 fun b1 m1 => rng n2 nn16 <| Kb2 (DV.v (AV.p (AP.at b1 (Nat.add m1 (Nat.mul (itn n2) nn8))))) H2)) fun Kb2 => br t1 (Kb2 DV.n H1) (onV d2 fun v1 => isP v1 fun p2 => onA p2 fun b1 m1 => Kb2 (DV.v (AV.p (AP.at b1 m1))) H1)
def g263x3 := jn (fun d1 H2 => jn (fun d2 H3 => jn (fun d3 H4 => jn (fun d4 H5 => g263x2 d3 d4 n1 t1 p1 H5 Kb1) fun Kb2 => br t1 (Kb2 DV.n H4) (onV d1 fun v1 => isP v1 fun p2 => onA p2 fun b1 m1 => Kb2 (DV.v (AV.p (AP.at b1 m1))) H4)) fun Kb2 => br t1 (Kb2 DV.n H3) (onV d2 fun v1 => isI .i64 v1 fun n2 => wrp .i64 (isub n2 ii1) fun n3 => Kb2 (DV.v (AV.i .i64 n3)) H3)) fun Kb2 => br t1 (Kb2 DV.n H2) (Kb2 (DV.v (AV.i .i64 n1)) H2)) fun Kb2 => br t1 (Kb2 DV.n H1) (Kb2 (DV.v (AV.p p1)) H1)
def g263x4 := isP v1 fun p1 => lc R1 fun d1 R2 => onV d1 fun v2 => isI .i64 v2 fun n1 => ln R2 <| frcB (ilt n1 ii1) fun t1 => jn (fun d2 H2 => jn (fun d3 H3 => pickK t1 (DV.v (AV.b true)) d3 fun d4 => onV d4 fun v3 => isB v3 fun t2 => g263x3 n1 t2 p1 H3 Kb1) fun Kb2 => br t1 (Kb2 DV.n H2) (onV d2 fun v3 => isI .i64 v3 fun n2 => frcB (ilt ii16 n2) fun t2 => Kb2 (DV.v (AV.b t2)) H2)) fun Kb2 => br t1 (Kb2 DV.n H1) (Kb2 (DV.v (AV.i .i64 n1)) H1)
/-- (*sta.Table).of -/
def g263 : G DV := fun R1 H1 Kb1 => lc R1 fun d1 R2 => onV d1 fun v1 => g263x4 v1 R2 H1 Kb1
def G263 : G DV := g263

def g216x1 := c1 [(DV.v (AV.p p1)), (DV.v (AV.i .i64 n1))] H1 fun d1 H2 => onV d1 fun v1 => isP v1 fun p2 => frcB (isNilA p2) fun t1 => br t1 (wrL H2 b1 nn0 z0 fun H3 => rdR H3 b1 nn0 nn6 fun l1 => Kb1 (DV.c (DV.a l1) (DV.c (DV.v (AV.b false)) DV.n)) H3) (onA p2 fun b2 m1 => rdR H2 b2 (Nat.add m1 nn1) nn6 fun l1 => must (Nat.beq (llen l1) nn6) <| wrL H2 b1 nn0 l1 fun H3 => rdR H3 b1 nn0 nn6 fun l2 => Kb1 (DV.c (DV.a l2) (DV.c (DV.v (AV.b true)) DV.n)) H3)
/-- (*sta.Table).Addr -/
def g216 : G DV := fun R1 H1 Kb1 => lc R1 fun d1 R2 => onV d1 fun v1 => isP v1 fun p1 => lc R2 fun d2 R3 => onV d2 fun v2 => isI .i64 v2 fun n1 => ln R3 <| alB H1 z2 nn6 nn0 fun b1 H2 => g216x1 n1 p1 b1 H2 c1 Kb1
def G216 : G DV := g216 G263

def z23 : T4 AV := (@T4.n AV yy0 (@T4.n AV yy0 te te te te) (@T4.n AV yy0 te te te te) (@T4.n AV yy0 te te te te) (@T4.n AV yy0 te te te te))
/-- ap.slow -/
def g217 : G DV := fun R1 H1 Kb1 => ln R1 <| alB H1 z23 nn5 nn0 fun b1 H2 => wrL H2 b1 nn0 z10 fun H3 => rdR H3 b1 nn0 nn5 fun l1 => Kb1 (DV.a l1) H3
def G217 : G DV := g217

/-- (*ba.Session).Start -/
def g218 : G DV := fun R1 H1 Kb1 => lc R1 fun d1 R2 => onV d1 fun v1 => isP v1 fun p1 => ln R2 <| onA p1 fun b1 m1 => rdK H1 b1 m1 fun v2 => isP v2 fun p2 => c1 [(DV.v (AV.p p2))] H1 fun d2 H2 => onV d2 fun v3 => isI .i64 v3 fun n1 => Kb1 (DV.v (AV.i .i64 n1)) H2
def G218 : G DV := g218 G285

/-- (*win.Win).Size -/
def g286 : G DV := fun R1 H1 Kb1 => lc R1 fun d1 R2 => onV d1 fun v1 => isP v1 fun p1 => ln R2 <| onA p1 fun b1 m1 => rdK H1 b1 (Nat.add m1 nn2) fun v2 => isI .i64 v2 fun n1 => Kb1 (DV.v (AV.i .i64 n1)) H1
def G286 : G DV := g286

/-- (*ba.Session).Size -/
def g219 : G DV := fun R1 H1 Kb1 => lc R1 fun d1 R2 => onV d1 fun v1 => isP v1 fun p1 => ln R2 <| onA p1 fun b1 m1 => rdK H1 b1 m1 fun v2 => isP v2 fun p2 => c1 [(DV.v (AV.p p2))] H1 fun d2 H2 => onV d2 fun v3 => isI .i64 v3 fun n1 => Kb1 (DV.v (AV.i .i64 n1)) H2
def G219 : G DV := g219 G286

/-- (*win.Win).Ahead -/
def g289 : G DV := fun R1 H1 Kb1 => lc R1 fun d1 R2 => onV d1 fun v1 => isP v1 fun p1 => ln R2 <| onA p1 fun b1 m1 => rdK H1 b1 (Nat.add m1 nn1) fun v2 => isI .i64 v2 fun n1 => Kb1 (DV.v (AV.i .i64 n1)) H1
def G289 : G DV := g289

def g223x1 := br t1 (Kb1 (DV.c (DV.v (AV.i .i64 ii0)) (DV.c (DV.v (AV.er (nat_lit 9))) DV.n)) H1) (onA p1 fun b1 m1 => wrK H1 b1 (Nat.add m1 nn4) (AV.i .i64 ii2) fun H2 => onA p1 fun b2 m2 => wrK H2 b2 (Nat.add m2 nn5) (AV.i .i64 n1) fun H3 => onA p1 fun b3 m3 => rdK H3 b3 m3 fun v1 => isP v1 fun p2 => c1 [(DV.v (AV.p p2))] H3 fun d1 H4 => onV d1 fun v2 => isI .i64 v2 fun n2 => Kb1 (DV.c (DV.v (AV.i .i64 n2)) (DV.c (DV.v AV.ni) DV.n)) H4)
def g223x2 := jn (fun d2 H2 => jn (fun d3 H3 => jn (fun d4 H4 => pickK t1 (DV.v (AV.b true)) d4 fun d5 => onV d5 fun v1 => isB v1 fun t2 => g223x1 n1 t2 p1 H4 c1 Kb1) fun Kb2 => br t1 (Kb2 DV.n H3) (onV d3 fun v1 => isI .i64 v1 fun n2 => frcB (ilt ii0 n2) fun t2 => Kb2 (DV.v (AV.b t2)) H3)) fun Kb2 => br t1 (Kb2 DV.n H2) (onV d2 fun v1 => isS v1 fun s1 => lenA s1 fun m1 => Kb2 (DV.v (AV.i .i64 (Int.ofNat m1))) H2)) fun Kb2 => br t1 (Kb2 DV.n H1) (onV d1 fun v1 => isP v1 fun p2 => onA p2 fun b1 m1 => rdK H1 b1 m1 fun v2 => isS v2 fun s1 => Kb2 (DV.v (AV.s s1)) H1)
def g223x3 := frcB (bnot (ieq n1 ii1)) fun t1 => jn (fun d1 H2 => jn (fun d2 H3 => jn (fun d3 H4 => g223x2 d3 n2 t1 p1 H4 c1 Kb1) fun Kb2 => br t1 (Kb2 DV.n H3) (onV d2 fun v1 => isP v1 fun p2 => onA p2 fun b1 m1 => Kb2 (DV.v (AV.p (AP.at b1 (Nat.add m1 nn6)))) H3)) fun Kb2 => br t1 (Kb2 DV.n H2) (onV d1 fun v1 => isP v1 fun p2 => onA p2 fun b1 m1 => Kb2 (DV.v (AV.p (AP.at b1 m1))) H2)) fun Kb2 => br t1 (Kb2 DV.n H1) (Kb2 (DV.v (AV.p p1)) H1)
def g223x4 := jn (fun d1 H2 => jn (fun d2 H3 => pickK t1 (DV.v (AV.b true)) d2 fun d3 => onV d3 fun v1 => isB v1 fun t2 => br t2 (Kb1 (DV.c (DV.v (AV.i .i64 ii0)) (DV.c (DV.v (AV.er (nat_lit 2))) DV.n)) H3) (onA p1 fun b1 m1 => rdK H3 b1 (Nat.add m1 nn4) fun v2 => isI .i64 v2 fun n2 => g223x3 n2 n1 p1 H3 c1 Kb1)) fun Kb2 => br t1 (Kb2 DV.n H2) (onV d1 fun v1 => isI .i64 v1 fun n2 => frcB (ile ii256 n2) fun t2 => Kb2 (DV.v (AV.b t2)) H2)) fun Kb2 => br t1 (Kb2 DV.n H1) (Kb2 (DV.v (AV.i .i64 n1)) H1)
/-- (*ba.Session).Ask -/
def g223 : G DV := fun R1 H1 Kb1 => lc R1 fun d1 R2 => onV d1 fun v1 => isP v1 fun p1 => lc R2 fun d2 R3 => onV d2 fun v2 => isI .i64 v2 fun n1 => ln R3 <| frcB (ilt n1 ii0) fun t1 => g223x4 n1 t1 p1 H1 c1 Kb1
def G223 : G DV := g223 G289

/-- ampdu.up -/
def g232 : G DV := fun R1 H1 Kb1 => lc R1 fun d1 R2 => onV d1 fun v1 => isI .i64 v1 fun n1 => ln R2 <| wrp .i64 (iadd n1 ii4) fun n2 => wrp .i64 (isub n2 ii1) fun n3 => must (bnot (ieq ii4 ii0)) <| wrp .i64 (iquo n3 ii4) fun n4 => wrp .i64 (imul n4 ii4) fun n5 => Kb1 (DV.v (AV.i .i64 n5)) H1
def G232 : G DV := g232

def g235x1 := isI .i64 v1 fun n2 => frcB (ilt n2 (Int.ofNat m1)) fun t1 => br t1 (ixA s1 n2 (fun x => x) fun b1 m2 => rdK H1 b1 m2 fun v2 => isI .i64 v2 fun n3 => c1 [(DV.v (AV.i .i64 n1))] H1 fun d1 H2 => onV d1 fun v3 => isI .i64 v3 fun n4 => wrp .i64 (iadd n4 ii4) fun n5 => asI (imax n3 ii0) fun n6 => wrp .i64 (iadd n5 n6) fun n7 => wrp .i64 (iadd n2 ii1) fun n8 => Kc1 (DV.v (AV.i .i64 n7)) (DV.v (AV.i .i64 n8)) H2) (Kb1 (DV.v (AV.i .i64 n1)) H1)
/-- ampdu.Len -/
def g235 : G DV := fun R1 H1 Kb1 => lc R1 fun d1 R2 => onV d1 fun v1 => isS v1 fun s1 => ln R2 <| lenA s1 fun m1 => lpR (failF [(3 , .int .i64), (8 , .int .i64)]) (fun Kc1 => fun d2 d3 H2 => onV d2 fun v2 => isI .i64 v2 fun n1 => onV d3 fun v3 => g235x1 v3 n1 m1 s1 H2 c1 Kb1 Kc1) (nat_lit 100000) (DV.v (AV.i .i64 ii0)) (DV.v (AV.i .i64 ii0)) H1
def G235 : G DV := g235 G232

/-- math/bits.Reverse8 -/
def g337 : G DV := fun R1 H1 Kb1 => lc R1 fun d1 R2 => onV d1 fun v1 => isI .u8 v1 fun n1 => ln R2 <| rng n1 (leni ss13) <| getI (itn n1) ss13 fun n2 => asI n2 fun n3 => Kb1 (DV.v (AV.i .u8 n3)) H1
def G337 : G DV := g337

def g302x1 := asI (bits .xor .u8 n1 n2) fun n6 => wrp .u8 (imul n3 (ip2 ii1)) fun n7 => jF [(3 , .int .u8)] (fun d1 H2 => onV d1 fun v1 => isI .u8 v1 fun n8 => asI (idiv n4 (ip2 ii1)) fun n9 => wrp .i64 (iadd n5 ii1) fun n10 => Kd1 (DV.v (AV.i .u8 n8)) (DV.v (AV.i .u8 n9)) (DV.v (AV.i .i64 n10)) H2) fun Kb1 => frcB (ieq n6 ii1) fun t1 => br t1 (asI (bits .xor .u8 n7 ii7) fun n8 => Kb1 (DV.v (AV.i .u8 n8)) H1) (Kb1 (DV.v (AV.i .u8 n7)) H1)
def g302x2 := lpR (failF [(3 , .int .u8), (5 , .int .u8), (13 , .int .i64)]) (fun Kd1 => fun d1 d2 d3 H2 => onV d1 fun v1 => isI .u8 v1 fun n4 => onV d2 fun v2 => isI .u8 v2 fun n5 => onV d3 fun v3 => isI .i64 v3 fun n6 => frcB (ilt n6 ii8) fun t1 => br t1 (asI (idiv n4 (ip2 ii7)) fun n7 => asI (bits .and .u8 n5 ii1) fun n8 => g302x1 n7 n8 n4 n5 n6 H2 Kd1) (wrp .i64 (iadd n1 ii1) fun n7 => Kc1 (DV.v (AV.i .u8 n4)) (DV.v (AV.i .i64 n7)) H2)) (nat_lit 100000) (DV.v (AV.i .u8 n2)) (DV.v (AV.i .u8 n3)) (DV.v (AV.i .i64 ii0)) H1
def g302x3 := lpR (failF [(3 , .int .u8), (9 , .int .i64)]) (fun Kc1 => fun d1 d2 H2 => onV d1 fun v1 => isI .u8 v1 fun n1 => onV d2 fun v2 => isI .i64 v2 fun n2 => frcB (ilt n2 (Int.ofNat m1)) fun t1 => br t1 (ixA s1 n2 (fun x => x) fun b1 m2 => rdK H2 b1 m2 fun v3 => isI .u8 v3 fun n3 => g302x2 n2 n1 n3 H2 Kc1) (asI (bits .xor .u8 (if IntKind.signed .u8 then -1 else IntKind.max .u8) n1) fun n3 => c1 [(DV.v (AV.i .u8 n3))] H2 fun d3 H3 => onV d3 fun v3 => isI .u8 v3 fun n4 => Kb1 (DV.v (AV.i .u8 n4)) H3)) (nat_lit 100000) (DV.v (AV.i .u8 ii255)) (DV.v (AV.i .i64 ii0)) H1
/-- crc.Sum -/
def g302 : G DV := fun R1 H1 Kb1 => lc R1 fun d1 R2 => onV d1 fun v1 => isS v1 fun s1 => ln R2 <| lenA s1 fun m1 => g302x3 m1 s1 H1 c1 Kb1
def G302 : G DV := g302 G337

/-- crc.Seal -/
def g236 : G DV := fun R1 H1 Kb1 => lc R1 fun d1 R2 => onV d1 fun v1 => isS v1 fun s1 => ln R2 <| c1 [(DV.v (AV.s s1))] H1 fun d2 H2 => onV d2 fun v2 => isS v2 fun s2 => c2 [(DV.v (AV.s s1))] H2 fun d3 H3 => onV d3 fun v3 => isI .u8 v3 fun n1 => alB H3 (@T4.n AV (AV.i .u8 n1) te te te te) nn1 nn0 fun b1 H4 => appD nn1 nn1 s2 (AS.sl b1 nn0 nn1 nn1) H4 fun s3 H5 => Kb1 (DV.v (AV.s s3)) H5
def G236 : G DV := g236 G64 G302

def g140x1 := jn (fun d2 H2 => pickK t1 (DV.v (AV.b true)) d2 fun d3 => onV d3 fun v1 => isB v1 fun t2 => br t2 (Kb1 (DV.c (DV.v (AV.s AS.nil)) (DV.c (DV.v (AV.er (nat_lit 2))) DV.n)) H2) (lenA s1 fun m1 => alB H2 (@T4.n AV (AV.i .i64 (Int.ofNat m1)) te te te te) nn1 nn0 fun b1 H3 => appD nn1 nn8 s2 (AS.sl b1 nn0 nn1 nn1) H3 fun s3 H4 => wrp .i64 (iadd n1 ii1) fun n2 => Kc1 (DV.v (AV.s s3)) (DV.v (AV.i .i64 n2)) H4)) fun Kb2 => br t1 (Kb2 DV.n H1) (onV d1 fun v1 => isI .i64 v1 fun n2 => frcB (ilt ii4095 n2) fun t2 => Kb2 (DV.v (AV.b t2)) H1)
def g140x2 := alB H1 (@T4.n AV (AV.i .u8 n1) (@T4.n AV (AV.i .u8 n2) te te te te) te te te) nn2 nn0 fun b1 H2 => c1 [(DV.v (AV.s (AS.sl b1 nn0 nn2 nn2)))] H2 fun d1 H3 => onV d1 fun v1 => isS v1 fun s3 => appD nn1 nn1 s1 s3 H3 fun s4 H4 => alB H4 (@T4.n AV yy22 te te te te) nn1 nn0 fun b2 H5 => appD nn1 nn1 s4 (AS.sl b2 nn0 nn1 nn1) H5 fun s5 H6 => appD nn1 nn1 s5 s2 H6 fun s6 H7 => wrp .i64 (iadd n3 ii1) fun n4 => Kc1 (DV.v (AV.s s6)) (DV.v (AV.i .i64 n4)) H7
def g140x3 := isS v1 fun s2 => lenA s1 fun m1 => c1 [(DV.v (AV.i .i64 (Int.ofNat m1)))] H1 fun d1 H2 => onV d1 fun v2 => isI .i64 v2 fun n2 => lenA s1 fun m2 => wrp .i64 (isub n2 (Int.ofNat m2)) fun n3 => natK n3 fun m3 => appM (nat_lit 1) (nat_lit 1) [(AV.i .u8 ii0)] s1 m3 H2 fun s3 H3 => lenA s2 fun m4 => wrp .i64 (imul (Int.ofNat m4) ii16) fun n4 => wrp .u8 n4 fun n5 => asI (idiv n4 (ip2 ii8)) fun n6 => wrp .u8 n6 fun n7 => g140x2 n5 n7 n1 s3 s2 H3 c2 Kc1
def g140x4 := br t1 (Kb1 (DV.c (DV.v (AV.s AS.nil)) (DV.c (DV.v (AV.er (nat_lit 3))) DV.n)) H1) (lenA s1 fun m1 => lpR (failF [(7 , .slice), (49 , .int .i64)]) (fun Kc1 => fun d1 d2 H2 => onV d1 fun v1 => isS v1 fun s2 => onV d2 fun v2 => isI .i64 v2 fun n1 => frcB (ilt n1 (Int.ofNat m1)) fun t2 => br t2 (ixA s1 n1 (fun x => x) fun b1 m2 => rdK H2 b1 m2 fun v3 => g140x3 v3 n1 s2 H2 c1 c2 Kc1) (Kb1 (DV.c (DV.v (AV.s s2)) (DV.c (DV.v AV.ni) DV.n)) H2)) (nat_lit 100000) (DV.v (AV.s AS.nil)) (DV.v (AV.i .i64 ii0)) H1)
def g140x5 := jn (fun d1 H2 => jn (fun d2 H3 => jn (fun d3 H4 => pickK t1 (DV.v (AV.b true)) d3 fun d4 => onV d4 fun v1 => isB v1 fun t2 => g140x4 t2 s1 H4 c1 c2 Kb1) fun Kb2 => br t1 (Kb2 DV.n H3) (onV d2 fun v1 => isI .i64 v1 fun n1 => frcB (ilt ii65535 n1) fun t2 => Kb2 (DV.v (AV.b t2)) H3)) fun Kb2 => br t1 (Kb2 DV.n H2) (c3 [d1] H2 fun d2 H3 => onV d2 fun v1 => isI .i64 v1 fun n1 => Kb2 (DV.v (AV.i .i64 n1)) H3)) fun Kb2 => br t1 (Kb2 DV.n H1) (Kb2 (DV.v (AV.s s2)) H1)
def g140x6 := br t1 (ixA s1 n1 (fun x => x) fun b1 m1 => rdK H1 b1 m1 fun v1 => isS v1 fun s3 => lenA s3 fun m2 => frcB (ilt (Int.ofNat m2) ii1) fun t2 => jn (fun d1 H2 => jn (fun d2 H3 => g140x1 d2 n1 t2 s3 s2 H3 Kb1 Kc1) fun Kb2 => br t2 (Kb2 DV.n H2) (onV d1 fun v2 => isS v2 fun s4 => lenA s4 fun m3 => Kb2 (DV.v (AV.i .i64 (Int.ofNat m3))) H2)) fun Kb2 => br t2 (Kb2 DV.n H1) (Kb2 (DV.v (AV.s s3)) H1)) (lenA s1 fun m1 => frcB (ieq (Int.ofNat m1) ii0) fun t2 => br t2 (Kb1 (DV.c (DV.v (AV.s AS.nil)) (DV.c (DV.v (AV.er (nat_lit 2))) DV.n)) H1) (lenA s1 fun m2 => frcB (ilt ii64 (Int.ofNat m2)) fun t3 => g140x5 t3 s1 s2 H1 c1 c2 c3 Kb1))
/-- ampdu.Pack -/
def g140 : G DV := fun R1 H1 Kb1 => lc R1 fun d1 R2 => onV d1 fun v1 => isS v1 fun s1 => ln R2 <| lenA s1 fun m1 => lpR (failF [(4 , .slice), (13 , .int .i64)]) (fun Kc1 => fun d2 d3 H2 => onV d2 fun v2 => isS v2 fun s2 => onV d3 fun v3 => isI .i64 v3 fun n1 => frcB (ilt n1 (Int.ofNat m1)) fun t1 => g140x6 n1 t1 s1 s2 H2 c1 c3 c2 Kb1 Kc1) (nat_lit 100000) (DV.v (AV.s AS.nil)) (DV.v (AV.i .i64 ii0)) H1
def G140 : G DV := g140 G232 G235 G236

def g227x1 := jn (fun d2 H2 => pickK t1 (DV.v (AV.b true)) d2 fun d3 => onV d3 fun v1 => isB v1 fun t2 => br t2 (onA p1 fun b1 m1 => wrK H2 b1 (Nat.add m1 nn3) (AV.b false) fun H3 => onA p1 fun b2 m2 => wrK H3 b2 (Nat.add m2 nn9) (AV.i .i64 ii0) fun H4 => Kb1 (DV.c (DV.v (AV.b true)) (DV.c (DV.v AV.ni) DV.n)) H4) (Kb1 (DV.c (DV.v (AV.b false)) (DV.c (DV.v AV.ni) DV.n)) H2)) fun Kb2 => br t1 (Kb2 DV.n H1) (onV d1 fun v1 => isB v1 fun t2 => frcB (bnot t2) fun t3 => Kb2 (DV.v (AV.b t3)) H1)
def g227x2 := rdK H1 b1 (Nat.add m1 nn8) fun v1 => isI .i64 v1 fun n1 => frcB (ilt ii0 n1) fun t1 => br t1 (onA p1 fun b2 m2 => rdK H1 b2 (Nat.add m2 nn9) fun v2 => isI .i64 v2 fun n2 => wrp .i64 (isub n2 ii1) fun n3 => onA p1 fun b3 m3 => wrK H1 b3 (Nat.add m3 nn9) (AV.i .i64 n3) fun H2 => onA p1 fun b4 m4 => rdK H2 b4 (Nat.add m4 nn9) fun v3 => isI .i64 v3 fun n4 => frcB (ieq n4 ii0) fun t2 => Kb1 (DV.v (AV.b t2)) H2) (Kb1 (DV.v (AV.b false)) H1)
def g227x3 := onA p1 fun b1 m1 => rdK H1 b1 (Nat.add m1 nn2) fun v1 => isB v1 fun t2 => br t2 (onA p1 fun b2 m2 => wrK H1 b2 (Nat.add m2 nn2) (AV.b false) fun H2 => Kb1 (DV.c (DV.v (AV.b false)) (DV.c (DV.v AV.ni) DV.n)) H2) (jF [(11 , .bool)] (fun d1 H2 => onV d1 fun v2 => isB v2 fun t3 => jn (fun d2 H3 => g227x1 d2 t3 p1 H3 Kb1) fun Kb2 => br t3 (Kb2 DV.n H2) (Kb2 (DV.v (AV.b t1)) H2)) fun Kb2 => onA p1 fun b2 m2 => g227x2 m2 p1 b2 H1 Kb2)
def g227x4 := br t1 (Kb1 (DV.c (DV.v (AV.b false)) (DV.c (DV.v (AV.er (nat_lit 2))) DV.n)) H1) (c1 [(DV.v (AV.p p1)), (DV.v (AV.i .i64 n1)), (DV.v (AV.i .i64 n2))] H1 fun d1 H2 => onV d1 fun v1 => isB v1 fun t3 => frcB (bnot t3) fun t4 => br t4 (Kb1 (DV.c (DV.v (AV.b false)) (DV.c (DV.v (AV.er (nat_lit 9))) DV.n)) H2) (onA p2 fun b1 m1 => rdK H2 b1 (Nat.add m1 nn1) fun v2 => isB v2 fun t5 => frcB (bnot t5) fun t6 => br t6 (Kb1 (DV.c (DV.v (AV.b false)) (DV.c (DV.v AV.ni) DV.n)) H2) (g227x3 t2 p2 H2 Kb1)))
def g227x5 := isI .i64 v1 fun n2 => lc R1 fun d1 R2 => onV d1 fun v2 => isB v2 fun t1 => ln R2 <| c1 [(DV.v (AV.p p1)), (DV.v (AV.i .i64 n1))] H1 fun d2 H2 => onV d2 fun v3 => isP v3 fun p2 => frcB (isNilA p2) fun t2 => br t2 (Kb1 (DV.c (DV.v (AV.b false)) (DV.c (DV.v (AV.er (nat_lit 6))) DV.n)) H2) (c2 [(DV.v (AV.i .i64 n2))] H2 fun d3 H3 => onV d3 fun v4 => isB v4 fun t3 => frcB (bnot t3) fun t4 => g227x4 n1 n2 t4 t1 p1 p2 H3 c3 Kb1)
/-- (*ps.Power).Sent -/
def g227 : G DV := fun R1 H1 Kb1 => lc R1 fun d1 R2 => onV d1 fun v1 => isP v1 fun p1 => lc R2 fun d2 R3 => onV d2 fun v2 => isI .i64 v2 fun n1 => lc R3 fun d3 R4 => onV d3 fun v3 => g227x5 v3 R4 n1 p1 H1 c1 c3 c2 Kb1
def G227 : G DV := g227 G123 G206 G268

def g313x1 := jn (fun d3 H2 => pickK t1 (DV.v (AV.b true)) d3 fun d4 => onV d4 fun v1 => isB v1 fun t2 => br t2 (Kb1 (DV.c (DV.v (AV.p AP.nil)) (DV.c (DV.v (AV.er (nat_lit 6))) DV.n)) H2) (onA p1 fun b1 m1 => rdK H2 b1 m1 fun v2 => isS v2 fun s1 => wrp .i64 (isub n1 ii1) fun n2 => ixA s1 n2 (fun x => Nat.mul x nn2) fun b2 m2 => Kb1 (DV.c (DV.v (AV.p (AP.at b2 m2))) (DV.c (DV.v AV.ni) DV.n)) H2)) fun Kb2 => br t1 (Kb2 DV.n H1) (onV d1 fun v1 => onV d2 fun v2 => isI .i64 v1 fun n2 => isI .i64 v2 fun n3 => frcB (ilt n3 n2) fun t2 => Kb2 (DV.v (AV.b t2)) H1)
def g313x2 := jn (fun d3 H2 => jn (fun d4 H3 => jn (fun d5 H4 => g313x1 d1 d5 n1 t1 p1 H4 Kb1) fun Kb2 => br t1 (Kb2 DV.n H3) (onV d4 fun v1 => isS v1 fun s1 => lenA s1 fun m1 => Kb2 (DV.v (AV.i .i64 (Int.ofNat m1))) H3)) fun Kb2 => br t1 (Kb2 DV.n H2) (onV d3 fun v1 => isP v1 fun p2 => onA p2 fun b1 m1 => rdK H2 b1 m1 fun v2 => isS v2 fun s1 => Kb2 (DV.v (AV.s s1)) H2)) fun Kb2 => br t1 (Kb2 DV.n H1) (onV d2 fun v1 => isP v1 fun p2 => onA p2 fun b1 m1 => Kb2 (DV.v (AV.p (AP.at b1 m1))) H1)
def g313x3 := lc R1 fun d1 R2 => onV d1 fun v1 => isI .i64 v1 fun n1 => ln R2 <| frcB (ilt n1 ii1) fun t1 => jn (fun d2 H2 => jn (fun d3 H3 => jn (fun d4 H4 => g313x2 d2 d4 n1 t1 p1 H4 Kb1) fun Kb2 => br t1 (Kb2 DV.n H3) (onV d3 fun v2 => isP v2 fun p2 => onA p2 fun b1 m1 => Kb2 (DV.v (AV.p (AP.at b1 m1))) H3)) fun Kb2 => br t1 (Kb2 DV.n H2) (Kb2 (DV.v (AV.p p1)) H2)) fun Kb2 => br t1 (Kb2 DV.n H1) (Kb2 (DV.v (AV.i .i64 n1)) H1)
/-- (*count.Book).of -/
def g313 : G DV := fun R1 H1 Kb1 => lc R1 fun d1 R2 => onV d1 fun v1 => isP v1 fun p1 => g313x3 R2 p1 H1 Kb1
def G313 : G DV := g313

def g314x1 := jn (fun d2 H2 => jn (fun d3 H3 => jn (fun d4 H4 => pickK t1 (DV.v (AV.b true)) d4 fun d5 => onV d5 fun v1 => isB v1 fun t2 => Kb1 (DV.v (AV.b t2)) H4) fun Kb2 => br t1 (Kb2 DV.n H3) (onV d3 fun v1 => isI .i64 v1 fun n1 => frcB (ieq n1 ii4) fun t2 => Kb2 (DV.v (AV.b t2)) H3)) fun Kb2 => br t1 (Kb2 DV.n H2) (onV d2 fun v1 => isP v1 fun p1 => onA p1 fun b1 m1 => rdK H2 b1 m1 fun v2 => isI .i64 v2 fun n1 => Kb2 (DV.v (AV.i .i64 n1)) H2)) fun Kb2 => br t1 (Kb2 DV.n H1) (onV d1 fun v1 => isP v1 fun p1 => onA p1 fun b1 m1 => Kb2 (DV.v (AV.p (AP.at b1 m1))) H1)
/-- count.over -/
def g314 : G DV := fun R1 H1 Kb1 => lc R1 fun d1 R2 => onV d1 fun v1 => isP v1 fun p1 => ln R2 <| onA p1 fun b1 m1 => rdK H1 b1 m1 fun v2 => isI .i64 v2 fun n1 => frcB (ieq n1 ii3) fun t1 => jn (fun d2 H2 => jn (fun d3 H3 => g314x1 d3 t1 H3 Kb1) fun Kb2 => br t1 (Kb2 DV.n H2) (onV d2 fun v3 => isP v3 fun p2 => onA p2 fun b2 m2 => Kb2 (DV.v (AV.p (AP.at b2 m2))) H2)) fun Kb2 => br t1 (Kb2 DV.n H1) (Kb2 (DV.v (AV.p p1)) H1)
def G314 : G DV := g314

def g255x1 := jn (fun d3 H2 => jn (fun d4 H3 => pickK t1 (DV.v (AV.b true)) d4 fun d5 => onV d5 fun v1 => isB v1 fun t2 => br t2 (Kb1 (DV.v (AV.er (nat_lit 9))) H3) (onA p1 fun b1 m1 => wrK H3 b1 m1 (AV.i .i64 n1) fun H4 => Kb1 (DV.v AV.ni) H4)) fun Kb2 => br t1 (Kb2 DV.n H2) (onV d1 fun v1 => isB v1 fun t2 => pickK t2 d3 (DV.v (AV.b false)) fun d4 => onV d4 fun v2 => isB v2 fun t3 => Kb2 (DV.v (AV.b t3)) H2)) fun Kb2 => grd d1 true (onV d2 fun v1 => isI .i64 v1 fun n2 => frcB (ieq n2 ii1) fun t2 => Kb2 (DV.v (AV.b t2)) H1) (Kb2 DV.n H1)
def g255x2 := jn (fun d3 H2 => jn (fun d4 H3 => jn (fun d5 H4 => g255x1 d1 d5 n1 t1 p1 H4 Kb1) fun Kb2 => grd d1 true (onV d4 fun v1 => isP v1 fun p2 => onA p2 fun b1 m1 => rdK H3 b1 m1 fun v2 => isI .i64 v2 fun n2 => Kb2 (DV.v (AV.i .i64 n2)) H3) (Kb2 DV.n H3)) fun Kb2 => grd d1 true (onV d3 fun v1 => isP v1 fun p2 => onA p2 fun b1 m1 => Kb2 (DV.v (AV.p (AP.at b1 m1))) H2) (Kb2 DV.n H2)) fun Kb2 => grd d1 true (onV d2 fun v1 => isP v1 fun p2 => onA p2 fun b1 m1 => Kb2 (DV.v (AV.p (AP.at b1 m1))) H1) (Kb2 DV.n H1)
def g255x3 := onV d1 fun v1 => isB v1 fun t1 => jn (fun d2 H2 => jn (fun d3 H3 => jn (fun d4 H4 => jn (fun d5 H5 => g255x2 d4 d5 n1 t1 p1 H5 Kb1) fun Kb2 => grd d4 true (Kb2 (DV.v (AV.p p1)) H4) (Kb2 DV.n H4)) fun Kb2 => br t1 (Kb2 DV.n H3) (Kb2 d3 H3)) fun Kb2 => br t1 (Kb2 DV.n H2) (onV d2 fun v2 => isI .i64 v2 fun n2 => frcB (ieq n2 ii3) fun t2 => Kb2 (DV.v (AV.b t2)) H2)) fun Kb2 => br t1 (Kb2 DV.n H1) (Kb2 (DV.v (AV.i .i64 n1)) H1)
def g255x4 := onV d1 fun v1 => isB v1 fun t1 => br t1 (Kb1 (DV.v (AV.er (nat_lit 2))) H1) (c1 [(DV.v (AV.p p1))] H1 fun d2 H2 => onV d2 fun v2 => isB v2 fun t2 => jn (fun d3 H3 => jn (fun d4 H4 => pickK t2 (DV.v (AV.b true)) d4 fun d5 => g255x3 d5 n1 p1 H4 Kb1) fun Kb2 => br t2 (Kb2 DV.n H3) (onV d3 fun v3 => isI .i64 v3 fun n2 => frcB (ieq n2 ii1) fun t3 => Kb2 (DV.v (AV.b t3)) H3)) fun Kb2 => br t2 (Kb2 DV.n H2) (Kb2 (DV.v (AV.i .i64 n1)) H2))
def g255x5 := onV d1 fun v1 => onN d2 <| ifA true true v1 AV.ni fun t1 => frcB (bnot t1) fun t2 => br t2 (Kb1 (DV.v v1) H1) (frcB (ilt n1 ii1) fun t3 => jn (fun d3 H2 => jn (fun d4 H3 => pickK t3 (DV.v (AV.b true)) d4 fun d5 => g255x4 d5 n1 p1 H3 c1 Kb1) fun Kb2 => br t3 (Kb2 DV.n H2) (onV d3 fun v2 => isI .i64 v2 fun n2 => frcB (ilt ii3 n2) fun t4 => Kb2 (DV.v (AV.b t4)) H2)) fun Kb2 => br t3 (Kb2 DV.n H1) (Kb2 (DV.v (AV.i .i64 n1)) H1))
/-- (*count.Book).Move -/
def g255 : G DV := fun R1 H1 Kb1 => lc R1 fun d1 R2 => onV d1 fun v1 => isP v1 fun p1 => lc R2 fun d2 R3 => onV d2 fun v2 => isI .i64 v2 fun n1 => lc R3 fun d3 R4 => onV d3 fun v3 => isI .i64 v3 fun n2 => ln R4 <| c1 [(DV.v (AV.p p1)), (DV.v (AV.i .i64 n1))] H1 fun d4 H2 => onC d4 fun d5 d6 => onV d5 fun v4 => isP v4 fun p2 => onC d6 fun d7 d8 => g255x5 d7 d8 n2 p2 H2 c2 Kb1
def G255 : G DV := g255 G313 G314

/-- slices.Clone[[]api.Packet,api.Packet] -/
def g363 : G DV := fun R1 H1 Kb1 => lc R1 fun d1 R2 => onV d1 fun v1 => isS v1 fun s1 => ln R2 <| frcB (isNilS s1) fun t1 => br t1 (Kb1 (DV.v (AV.s AS.nil)) H1) (alB H1 te nn0 nn0 fun b1 H2 => appD nn5 nn56 (AS.sl b1 nn0 nn0 nn0) s1 H2 fun s2 H3 => Kb1 (DV.v (AV.s s2)) H3)
def G363 : G DV := g363

def g345x1 := wrK H1 b1 (Nat.add m1 nn133) (AV.i .i64 n1) fun H2 => onA p1 fun b4 m2 => rdK H2 b4 (Nat.add m2 nn134) fun v1 => isI .i64 v1 fun n2 => rdK H2 b2 nn4 fun v2 => isS v2 fun s1 => lenA s1 fun m3 => wrp .i64 (isub n2 (Int.ofNat m3)) fun n3 => onA p1 fun b5 m4 => wrK H2 b5 (Nat.add m4 nn134) (AV.i .i64 n3) fun H3 => rdR H3 b2 nn0 nn5 fun l1 => must (Nat.beq (llen l1) nn5) <| wrL H3 b3 nn0 l1 fun H4 => rdR H4 b3 nn0 nn5 fun l2 => Kb1 (DV.a l2) H4
def g345x2 := rdK H1 b1 (Nat.add (Nat.add (Nat.add m1 nn3) (Nat.mul (itn n1) nn8)) nn1) fun v1 => isI .i64 v1 fun n2 => rdK H1 b2 nn4 fun v2 => isS v2 fun s1 => lenA s1 fun m2 => wrp .i64 (isub n2 (Int.ofNat m2)) fun n3 => wrK H1 b1 (Nat.add (Nat.add (Nat.add m1 nn3) (Nat.mul (itn n1) nn8)) nn1) (AV.i .i64 n3) fun H2 => onA p1 fun b4 m3 => rdK H2 b4 (Nat.add m3 nn133) fun v3 => isI .i64 v3 fun n4 => wrp .i64 (isub n4 ii1) fun n5 => onA p1 fun b5 m4 => g345x1 n5 m4 p1 b5 b2 b3 H2 Kb1
def g345x3 := alB H1 z17 nn5 nn0 fun b3 H2 => must (Nat.beq (llen l1) nn5) <| wrL H2 b3 nn0 l1 fun H3 => rdK H3 b1 (Nat.add (Nat.add m1 nn3) (Nat.mul (itn n1) nn8)) fun v1 => isS v1 fun s1 => lenA s1 fun m2 => slA s1 nn1 m2 (fun x => Nat.mul x nn5) fun s2 => c1 [(DV.v (AV.s s2))] H3 fun d1 H4 => onV d1 fun v2 => isS v2 fun s3 => wrK H4 b1 (Nat.add (Nat.add m1 nn3) (Nat.mul (itn n1) nn8)) (AV.s s3) fun H5 => g345x2 n1 m1 p1 b1 b3 b2 H5 Kb1
/-- (*fq.Queue).shift -/
def g345 : G DV := fun R1 H1 Kb1 => lc R1 fun d1 R2 => onV d1 fun v1 => isP v1 fun p1 => lc R2 fun d2 R3 => onV d2 fun v2 => isI .i64 v2 fun n1 => ln R3 <| alB H1 z17 nn5 nn0 fun b1 H2 => onA p1 fun b2 m1 => rng n1 nn16 <| rdK H2 b2 (Nat.add (Nat.add m1 nn3) (Nat.mul (itn n1) nn8)) fun v3 => isS v3 fun s1 => ixA s1 ii0 (fun x => Nat.mul x nn5) fun b3 m2 => rdR H2 b3 m2 nn5 fun l1 => g345x3 l1 n1 m1 p1 b2 b1 H2 c1 Kb1
def G345 : G DV := g345 G363

def g376x1 := br t1 (onA p1 fun b1 m1 => rdK H1 b1 (Nat.add m1 nn5) fun v1 => isI .i64 v1 fun n1 => onA p1 fun b2 m2 => rdK H1 b2 (Nat.add m2 nn7) fun v2 => isI .i64 v2 fun n2 => wrp .i64 (iadd n1 n2) fun n3 => onA p1 fun b3 m3 => wrK H1 b3 m3 (AV.i .i64 n3) fun H2 => Kb1 (DV.c (DV.v (AV.b true)) (DV.c (DV.v (AV.b false)) DV.n)) H2) (onA p1 fun b1 m1 => rdK H1 b1 (Nat.add m1 nn5) fun v1 => isI .i64 v1 fun n1 => onA p1 fun b2 m2 => rdK H1 b2 m2 fun v2 => isI .i64 v2 fun n2 => frcB (ile n2 n1) fun t2 => Kb1 (DV.c (DV.v (AV.b true)) (DV.c (DV.v (AV.b t2)) DV.n)) H1)
def g376x2 := onA p1 fun b2 m1 => rdK H1 b2 (Nat.add m1 nn5) fun v1 => isI .i64 v1 fun n1 => rdK H1 b1 nn0 fun v2 => isI .i64 v2 fun n2 => wrp .i64 (isub n1 n2) fun n3 => onA p1 fun b3 m2 => rdK H1 b3 (Nat.add m2 nn6) fun v3 => isI .i64 v3 fun n4 => frcB (ilt n3 n4) fun t1 => br t1 (Kb1 (DV.v (AV.b true)) H1) (onA p1 fun b4 m3 => rdK H1 b4 (Nat.add m3 nn8) fun v4 => isI .i64 v4 fun n5 => frcB (ile n5 ii1514) fun t2 => Kb1 (DV.v (AV.b t2)) H1)
def g376x3 := onA p1 fun b2 m1 => wrK H1 b2 (Nat.add m1 nn8) (AV.i .i64 n1) fun H2 => jF [(39 , .bool)] (fun d1 H3 => onV d1 fun v1 => isB v1 fun t1 => br t1 (onA p1 fun b3 m2 => wrK H3 b3 m2 (AV.i .i64 ii0) fun H4 => Kb1 (DV.c (DV.v (AV.b true)) (DV.c (DV.v (AV.b false)) DV.n)) H4) (onA p1 fun b3 m2 => rdK H3 b3 m2 fun v2 => isI .i64 v2 fun n2 => frcB (ieq n2 ii0) fun t2 => g376x1 t2 p1 H3 Kb1)) fun Kb2 => g376x2 p1 b1 H2 Kb2
def g376x4 := ixA s1 n1 (fun x => Nat.mul x nn2) fun b1 m1 => rdR H1 b1 m1 nn2 fun l1 => alB H1 (@T4.n AV yy0 (@T4.n AV yy0 te te te te) te te te) nn2 nn0 fun b2 H2 => must (Nat.beq (llen l1) nn2) <| wrL H2 b2 nn0 l1 fun H3 => onA p1 fun b3 m2 => rdK H3 b3 (Nat.add m2 nn8) fun v1 => isI .i64 v1 fun n2 => rdK H3 b2 nn1 fun v2 => isI .i64 v2 fun n3 => asI (imax n3 ii0) fun n4 => wrp .i64 (isub n2 n4) fun n5 => g376x3 n5 p1 b2 H3 Kb1
def g376x5 := onA p1 fun b1 m1 => rdK H1 b1 (Nat.add m1 nn9) fun v1 => isS v1 fun s1 => lenA s1 fun m2 => frcB (ile (Int.ofNat m2) n1) fun t1 => br t1 (onA p1 fun b2 m3 => wrK H1 b2 m3 (AV.i .i64 ii0) fun H2 => Kb1 (DV.c (DV.v (AV.b false)) (DV.c (DV.v (AV.b false)) DV.n)) H2) (onA p1 fun b2 m3 => rdK H1 b2 (Nat.add m3 nn9) fun v2 => isS v2 fun s2 => onA p1 fun b3 m4 => rdK H1 b3 (Nat.add m4 nn10) fun v3 => isI .i64 v3 fun n2 => g376x4 n2 p1 s2 H1 Kb1)
/-- (*codel.state).look -/
def g376 : G DV := fun R1 H1 Kb1 => lc R1 fun d1 R2 => onV d1 fun v1 => isP v1 fun p1 => ln R2 <| onA p1 fun b1 m1 => rdK H1 b1 (Nat.add m1 nn10) fun v2 => isI .i64 v2 fun n1 => g376x5 n1 p1 H1 Kb1
def G376 : G DV := g376

def g375x1 := jn (fun d2 H2 => pickK t1 d2 (DV.v (AV.b false)) fun d3 => onV d3 fun v1 => isB v1 fun t3 => br t3 (onA p1 fun b1 m1 => wrK H2 b1 (Nat.add m1 nn4) (AV.b false) fun H3 => Kb1 (DV.v (AV.b true)) H3) (onA p1 fun b1 m1 => rdK H2 b1 (Nat.add m1 nn4) fun v2 => isB v2 fun t4 => br t4 (none) (br t2 (none) (Kb1 (DV.v (AV.b true)) H2)))) fun Kb2 => br t1 (onV d1 fun v1 => isB v1 fun t3 => frcB (bnot t3) fun t4 => Kb2 (DV.v (AV.b t4)) H1) (Kb2 DV.n H1)
def g375x2 := onC d1 fun d2 d3 => onV d2 fun v1 => isB v1 fun t1 => onC d3 fun d4 d5 => onV d4 fun v2 => isB v2 fun t2 => onN d5 <| frcB (bnot t1) fun t3 => br t3 (onA p1 fun b1 m1 => wrK H1 b1 (Nat.add m1 nn4) (AV.b false) fun H2 => Kb1 (DV.v (AV.b false)) H2) (onA p1 fun b1 m1 => rdK H1 b1 (Nat.add m1 nn4) fun v3 => isB v3 fun t4 => jn (fun d6 H2 => g375x1 d6 t4 t2 p1 H2 Kb1) fun Kb2 => br t4 (Kb2 (DV.v (AV.b t2)) H1) (Kb2 DV.n H1))
/-- (*codel.state).run -/
def g375 : G DV := fun R1 H1 Kb1 => lc R1 fun d1 R2 => onV d1 fun v1 => isP v1 fun p1 => ln R2 <| c1 [(DV.v (AV.p p1))] H1 fun d2 H2 => g375x2 d2 p1 H2 Kb1
def G375 : G DV := g375 G376

def z24 : T4 AV := (@T4.n AV yy0 (@T4.n AV yy0 te te te te) (@T4.n AV yy1 te te te te) (@T4.n AV yy1 te te te te) (@T4.n AV yy2 te te te te))
def g374x1 := alK H1 (lapp l1 ((AV.i .i64 n1) :: ((AV.i .i64 n2) :: ((AV.i .i64 n3) :: ((AV.i .i64 n4) :: ((AV.s s1) :: ((AV.i .i64 ii0) :: []))))))) fun b2 H2 => c1 [(DV.v (AV.p (AP.at b2 nn0)))] H2 fun d1 H3 => onV d1 fun v1 => isB v1 fun t1 => rdR H3 b2 nn0 nn5 fun l2 => rdK H3 b2 nn10 fun v2 => isI .i64 v2 fun n5 => must (Nat.beq (llen l2) nn5) <| wrL H3 b1 nn0 l2 fun H4 => rdK H4 b2 nn10 fun v3 => must (aveq (AV.i .i64 n5) v3) <| rdR H4 b1 nn0 nn5 fun l3 => Kb1 (DV.c (DV.a l3) (DV.c (DV.v (AV.i .i64 n5)) (DV.c (DV.v (AV.b t1)) DV.n))) H4
def g374x2 := isI .i64 v1 fun n3 => lc R1 fun d2 R2 => onV d2 fun v2 => isI .i64 v2 fun n4 => lc R2 fun d3 R3 => onV d3 fun v3 => isS v3 fun s1 => ln R3 <| cellsD d1 fun l1 => alK H1 l1 fun b1 H2 => alB H2 z24 nn5 nn0 fun b2 H3 => rdR H3 b1 nn0 nn5 fun l2 => asI (imax n1 ii0) fun n5 => asI (imin n5 ii1073741824) fun n6 => asI (imax n3 ii0) fun n7 => asI (imin n7 ii1073741824) fun n8 => must (Nat.beq (llen l2) nn5) <| g374x1 l2 n2 n6 n8 n4 b2 s1 H3 c1 Kb1
/-- (codel.Codel).Pull -/
def g374 : G DV := fun R1 H1 Kb1 => lc R1 fun d1 R2 => lc R2 fun d2 R3 => onV d2 fun v1 => isI .i64 v1 fun n1 => lc R3 fun d3 R4 => onV d3 fun v2 => isI .i64 v2 fun n2 => lc R4 fun d4 R5 => onV d4 fun v3 => g374x2 v3 d1 R5 n2 n1 H1 c1 Kb1
def G374 : G DV := g374 G375

def g372x1 := must (Nat.beq (llen l1) nn5) <| wrL H1 b1 nn0 l1 fun H2 => rdK H2 b1 nn3 fun v1 => isI .i64 v1 fun n2 => rdK H2 b1 nn4 fun v2 => isS v2 fun s2 => lenA s2 fun m1 => alB H2 (@T4.n AV (AV.i .i64 n2) (@T4.n AV (AV.i .i64 (Int.ofNat m1)) te te te te) te te te) nn2 nn0 fun b2 H3 => appD nn2 nn16 s1 (AS.sl b2 nn0 nn1 nn1) H3 fun s3 H4 => wrp .i64 (iadd n1 ii1) fun n3 => Kc1 (DV.v (AV.s s3)) (DV.v (AV.i .i64 n3)) H4
def g372x2 := isS v1 fun s1 => onV d1 fun v2 => isI .i64 v2 fun n3 => frcB (ilt n3 n1) fun t2 => br t2 (c1 [(DV.v (AV.p p1)), (DV.v (AV.i .i64 n2))] H1 fun d2 H2 => onL d2 fun l1 => must (Nat.beq (llen l1) nn5) <| alK H2 (lapp l1 []) fun b1 H3 => appD nn5 nn56 s1 (AS.sl b1 nn0 nn1 nn1) H3 fun s2 H4 => wrp .i64 (iadd n3 ii1) fun n4 => Kc1 (DV.v (AV.s s2)) (DV.v (AV.i .i64 n4)) H4) (Kb1 (DV.c (DV.v (AV.s s1)) (DV.c (DV.v (AV.b t1)) DV.n)) H1)
def g372x3 := alB H1 z24 nn5 nn0 fun b2 H2 => must (Nat.beq (llen l1) nn5) <| wrL H2 b2 nn0 l1 fun H3 => rdR H3 b2 nn0 nn5 fun l2 => must (Nat.beq (llen l2) nn5) <| wrL H3 b1 (Nat.add (Nat.add (Nat.add m1 nn3) (Nat.mul (itn n1) nn8)) nn3) l2 fun H4 => lpR (failF [(15 , .slice), (68 , .int .i64)]) (fun Kc1 => fun d1 d2 H5 => onV d1 fun v1 => g372x2 v1 d2 n2 n1 t1 p1 H5 c1 Kb1 Kc1) (nat_lit 100000) (DV.v (AV.s AS.nil)) (DV.v (AV.i .i64 ii0)) H4
def g372x4 := rdK H1 b1 (Nat.add (Nat.add (Nat.add m1 nn3) (Nat.mul (itn n1) nn8)) nn1) fun v1 => isI .i64 v1 fun n5 => c1 [(DV.a l1), (DV.v (AV.i .i64 n2)), (DV.v (AV.i .i64 n3)), (DV.v (AV.i .i64 n4)), (DV.v (AV.i .i64 n5)), (DV.v (AV.s s1))] H1 fun d1 H2 => onC d1 fun d2 d3 => onL d2 fun l2 => onC d3 fun d4 d5 => onV d4 fun v2 => isI .i64 v2 fun n6 => onC d5 fun d6 d7 => onV d6 fun v3 => isB v3 fun t1 => onN d7 <| g372x3 l2 n1 n6 m1 t1 p1 b1 H2 c2 Kb1
def g372x5 := br t1 (ixA s1 n1 (fun x => Nat.mul x nn5) fun b2 m2 => rdR H1 b2 m2 nn5 fun l1 => alB H1 z17 nn5 nn0 fun b3 H2 => g372x1 l1 n1 b3 s2 H2 Kc1) (rdR H1 b1 (Nat.add (Nat.add (Nat.add m1 nn3) (Nat.mul (itn n2) nn8)) nn3) nn5 fun l1 => onA p1 fun b2 m2 => rdK H1 b2 (Nat.add m2 nn1) fun v1 => isI .i64 v1 fun n4 => onA p1 fun b3 m3 => rdK H1 b3 (Nat.add m3 nn2) fun v2 => isI .i64 v2 fun n5 => g372x4 l1 n2 n3 n4 n5 m1 p1 b1 s2 H1 c1 c2 Kb1)
def g372x6 := onA p1 fun b1 m1 => rng n1 nn16 <| rdK H1 b1 (Nat.add (Nat.add m1 nn3) (Nat.mul (itn n1) nn8)) fun v1 => isS v1 fun s1 => lenA s1 fun m2 => lpR (failF [(9 , .slice), (26 , .int .i64)]) (fun Kc1 => fun d1 d2 H2 => onV d1 fun v2 => isS v2 fun s2 => onV d2 fun v3 => isI .i64 v3 fun n3 => frcB (ilt n3 (Int.ofNat m2)) fun t1 => g372x5 n3 n1 n2 m1 t1 p1 b1 s1 s2 H2 c1 c2 Kb1 Kc1) (nat_lit 100000) (DV.v (AV.s AS.nil)) (DV.v (AV.i .i64 ii0)) H1
/-- (*fq.Queue).pull -/
def g372 : G DV := fun R1 H1 Kb1 => lc R1 fun d1 R2 => onV d1 fun v1 => isP v1 fun p1 => lc R2 fun d2 R3 => onV d2 fun v2 => isI .i64 v2 fun n1 => lc R3 fun d3 R4 => onV d3 fun v3 => isI .i64 v3 fun n2 => ln R4 <| g372x6 n1 n2 p1 H1 c2 c1 Kb1
def G372 : G DV := g372 G345 G374

def z25 : List AV := [(AV.i .i64 ii0), (AV.i .u32 ii0), (AV.i .i64 ii0), (AV.i .i64 ii0), (AV.s AS.nil)]
def g364x1 := isS v1 fun s2 => lenA s2 fun m1 => slA s2 nn1 m1 (fun x => x) fun s3 => onA p1 fun b1 m2 => wrK H1 b1 m2 (AV.s s3) fun H2 => onA p2 fun b2 m3 => rdK H2 b2 (Nat.add m3 nn132) fun v2 => isS v2 fun s4 => alB H2 (@T4.n AV (AV.i .i64 n1) te te te te) nn1 nn0 fun b3 H3 => appD nn1 nn8 s4 (AS.sl b3 nn0 nn1 nn1) H3 fun s5 H4 => onA p2 fun b4 m4 => wrK H4 b4 (Nat.add m4 nn132) (AV.s s5) fun H5 => Kb1 (DV.v (AV.s s1)) H5
def g364x2 := rdK H1 b1 (Nat.add (Nat.add (Nat.add m1 nn3) (Nat.mul (itn n1) nn8)) nn2) fun v1 => isI .i64 v1 fun n2 => rdK H1 b2 nn4 fun v2 => isS v2 fun s2 => lenA s2 fun m2 => wrp .i64 (isub n2 (Int.ofNat m2)) fun n3 => wrK H1 b1 (Nat.add (Nat.add (Nat.add m1 nn3) (Nat.mul (itn n1) nn8)) nn2) (AV.i .i64 n3) fun H2 => rdR H2 b2 nn0 nn5 fun l1 => must (Nat.beq (llen l1) nn5) <| wrL H2 b3 nn0 l1 fun H3 => rdR H3 b3 nn0 nn5 fun l2 => Kb1 (DV.c (DV.a l2) (DV.c (DV.v (AV.s s1)) (DV.c (DV.v (AV.b true)) DV.n))) H3
def g364x3 := jn (fun d2 H2 => pickK t1 d2 (DV.v (AV.b false)) fun d3 => onV d3 fun v1 => isB v1 fun t2 => br t2 (onA p1 fun b1 m1 => rdK H2 b1 (Nat.add m1 nn132) fun v2 => isS v2 fun s2 => alB H2 (@T4.n AV (AV.i .i64 n1) te te te te) nn1 nn0 fun b2 H3 => appD nn1 nn8 s2 (AS.sl b2 nn0 nn1 nn1) H3 fun s3 H4 => onA p1 fun b3 m2 => wrK H4 b3 (Nat.add m2 nn132) (AV.s s3) fun H5 => Kb1 (DV.v (AV.s s1)) H5) (Kb1 (DV.v (AV.s s1)) H2)) fun Kb2 => br t1 (onV d1 fun v1 => isI .i64 v1 fun n2 => frcB (ilt ii0 n2) fun t2 => Kb2 (DV.v (AV.b t2)) H1) (Kb2 DV.n H1)
def g364x4 := jn (fun d2 H2 => jn (fun d3 H3 => jn (fun d4 H4 => g364x3 d4 n1 t1 p1 s1 H4 Kb1) fun Kb2 => br t1 (onV d3 fun v1 => isS v1 fun s2 => lenA s2 fun m1 => Kb2 (DV.v (AV.i .i64 (Int.ofNat m1))) H3) (Kb2 DV.n H3)) fun Kb2 => br t1 (onV d2 fun v1 => isP v1 fun p2 => onA p2 fun b1 m1 => rdK H2 b1 m1 fun v2 => isS v2 fun s2 => Kb2 (DV.v (AV.s s2)) H2) (Kb2 DV.n H2)) fun Kb2 => br t1 (onV d1 fun v1 => isP v1 fun p2 => onA p2 fun b1 m1 => Kb2 (DV.v (AV.p (AP.at b1 (Nat.add m1 nn132)))) H1) (Kb2 DV.n H1)
def g364x5 := onA p1 fun b1 m1 => rdK H1 b1 m1 fun v1 => isS v1 fun s2 => lenA s2 fun m2 => slA s2 nn1 m2 (fun x => x) fun s3 => onA p1 fun b2 m3 => wrK H1 b2 m3 (AV.s s3) fun H2 => jn (fun d1 H3 => jn (fun d2 H4 => g364x4 d2 n1 t1 p2 s1 H4 Kb1) fun Kb2 => br t1 (onV d1 fun v2 => isP v2 fun p3 => onA p3 fun b3 m4 => Kb2 (DV.v (AV.p (AP.at b3 m4))) H3) (Kb2 DV.n H3)) fun Kb2 => br t1 (Kb2 (DV.v (AV.p p2)) H2) (Kb2 DV.n H2)
def g364x6 := onC d1 fun d2 d3 => onV d2 fun v1 => isS v1 fun s2 => onC d3 fun d4 d5 => onV d4 fun v2 => isB v2 fun t2 => onN d5 <| appD nn5 nn56 s1 s2 H1 fun s3 H2 => br t2 (c1 [(DV.v (AV.p p1)), (DV.v (AV.i .i64 n1))] H2 fun d6 H3 => onL d6 fun l1 => alB H3 z17 nn5 nn0 fun b3 H4 => must (Nat.beq (llen l1) nn5) <| wrL H4 b3 nn0 l1 fun H5 => g364x2 n1 m1 b1 b3 b2 s3 H5 Kb1) (g364x5 n1 t1 p2 p1 s3 H2 Kb2)
def g364x7 := br t1 (rdK H1 b1 (Nat.add (Nat.add (Nat.add m1 nn3) (Nat.mul (itn n1) nn8)) nn2) fun v1 => isI .i64 v1 fun n3 => wrp .i64 (iadd n3 ii300) fun n4 => wrK H1 b1 (Nat.add (Nat.add (Nat.add m1 nn3) (Nat.mul (itn n1) nn8)) nn2) (AV.i .i64 n4) fun H2 => onA p1 fun b3 m2 => rdK H2 b3 m2 fun v2 => g364x1 v2 n1 p1 p2 s1 H2 Kb1) (c1 [(DV.v (AV.p p2)), (DV.v (AV.i .i64 n1)), (DV.v (AV.i .i64 n2))] H1 fun d1 H2 => g364x6 d1 n1 m1 t2 p2 p1 b1 b2 s1 H2 c2 Kb2 Kb1)
def g364x8 := br t1 (wrL H1 b1 nn0 z25 fun H2 => rdR H2 b1 nn0 nn5 fun l1 => Kb1 (DV.c (DV.a l1) (DV.c (DV.v (AV.s s1)) (DV.c (DV.v (AV.b false)) DV.n))) H2) (onA p1 fun b2 m1 => rdK H1 b2 m1 fun v1 => isS v1 fun s2 => ixA s2 ii0 (fun x => x) fun b3 m2 => rdK H1 b3 m2 fun v2 => isI .i64 v2 fun n2 => onA p2 fun b4 m3 => rng n2 nn16 <| rdK H1 b4 (Nat.add (Nat.add (Nat.add m3 nn3) (Nat.mul (itn n2) nn8)) nn2) fun v3 => isI .i64 v3 fun n3 => frcB (ile n3 ii0) fun t3 => g364x7 n2 n1 m3 t3 t2 p1 p2 b4 b1 s1 H1 c1 c2 Kb2 Kb1)
def g364x9 := jF [(8 , .ptr), (9 , .bool)] (fun d1 d2 H2 => onV d1 fun v1 => isP v1 fun p2 => onV d2 fun v2 => isB v2 fun t1 => onA p2 fun b3 m2 => rdK H2 b3 m2 fun v3 => isS v3 fun s2 => lenA s2 fun m3 => frcB (ieq (Int.ofNat m3) ii0) fun t2 => g364x8 n1 t2 t1 p2 p1 b1 s1 H2 c1 c2 Kb1 Kb2) fun Kc1 => onA p1 fun b3 m2 => rdK H1 b3 (Nat.add m2 nn131) fun v1 => isS v1 fun s2 => lenA s2 fun m3 => frcB (ieq (Int.ofNat m3) ii0) fun t1 => br t1 (onA p1 fun b4 m4 => Kc1 (DV.v (AV.p (AP.at b4 (Nat.add m4 nn132)))) (DV.v (AV.b false)) H1) (Kc1 (DV.v (AV.p (AP.at b2 (Nat.add m1 nn131)))) (DV.v (AV.b true)) H1)
/-- (*fq.Queue).Take -/
def g364 : G DV := fun R1 H1 Kb1 => lc R1 fun d1 R2 => onV d1 fun v1 => isP v1 fun p1 => lc R2 fun d2 R3 => onV d2 fun v2 => isI .i64 v2 fun n1 => ln R3 <| alB H1 z17 nn5 nn0 fun b1 H2 => lpR (failF [(7 , .slice)]) (fun Kb2 => fun d3 H3 => onV d3 fun v3 => isS v3 fun s1 => onA p1 fun b2 m1 => g364x9 n1 m1 p1 b1 b2 s1 H3 c2 c1 Kb1 Kb2) (nat_lit 100000) (DV.v (AV.s AS.nil)) H2
def G364 : G DV := g364 G345 G372

def g348x1 := rdK H1 b1 (Nat.add (Nat.add (Nat.add m1 nn5) (Nat.mul (itn n1) nn8)) (itn n2)) fun v1 => isP v1 fun p1 => c1 [(DV.v (AV.p p1)), (DV.v (AV.i .i64 n3))] H1 fun d1 H2 => onC d1 fun d2 d3 => onL d2 fun l1 => onC d3 fun d4 d5 => onV d4 fun v2 => isS v2 fun s1 => onC d5 fun d6 d7 => onV d6 fun v3 => isB v3 fun t1 => onN d7 <| must (Nat.beq (llen l1) nn5) <| wrL H2 b2 nn0 l1 fun H3 => rdR H3 b2 nn0 nn5 fun l2 => Kb1 (DV.c (DV.a l2) (DV.c (DV.v (AV.s s1)) (DV.c (DV.v (AV.b t1)) DV.n))) H3
def g348x2 := alB H1 z17 nn5 nn0 fun b1 H2 => c1 [(DV.v (AV.i .i64 n1)), (DV.v (AV.i .i64 n2))] H2 fun d1 H3 => onV d1 fun v1 => isB v1 fun t1 => frcB (bnot t1) fun t2 => br t2 (wrL H3 b1 nn0 z25 fun H4 => rdR H4 b1 nn0 nn5 fun l1 => Kb1 (DV.c (DV.a l1) (DV.c (DV.v (AV.s AS.nil)) (DV.c (DV.v (AV.b false)) DV.n))) H4) (wrp .i64 (isub n1 ii1) fun n4 => onA p1 fun b2 m1 => rng n4 nn16 <| rng n2 nn8 <| g348x1 n4 n2 n3 m1 b2 b1 H3 c2 Kb1)
/-- (*pool.Pool).Take -/
def g348 : G DV := fun R1 H1 Kb1 => lc R1 fun d1 R2 => onV d1 fun v1 => isP v1 fun p1 => lc R2 fun d2 R3 => onV d2 fun v2 => isI .i64 v2 fun n1 => lc R3 fun d3 R4 => onV d3 fun v3 => isI .i64 v3 fun n2 => lc R4 fun d4 R5 => onV d4 fun v4 => isI .i64 v4 fun n3 => ln R5 <| g348x2 n1 n2 n3 p1 H1 c1 c2 Kb1
def G348 : G DV := g348 G194 G364

def g249x1 := lc R1 fun d1 R2 => onV d1 fun v1 => isI .i64 v1 fun n1 => lc R2 fun d2 R3 => onV d2 fun v2 => isI .i64 v2 fun n2 => ln R3 <| c1 [(DV.v (AV.i .i64 n1))] H1 fun d3 H2 => onV d3 fun v3 => isI .i64 v3 fun n3 => c1 [(DV.v (AV.i .i64 n2))] H2 fun d4 H3 => onV d4 fun v4 => isI .i64 v4 fun n4 => wrp .i64 (iadd n3 n4) fun n5 => c1 [(DV.v (AV.i .i64 n5))] H3 fun d5 H4 => onV d5 fun v5 => isI .i64 v5 fun n6 => Kb1 (DV.v (AV.i .i64 n6)) H4
/-- seq.Add -/
def g249 : G DV := fun R1 H1 Kb1 => g249x1 R1 H1 c1 Kb1
def G249 : G DV := g249 G303

def g365x1 := isI .i64 v1 fun n2 => onA p1 fun b1 m1 => wrK H1 b1 (Nat.add m1 nn1) (AV.i .i64 n2) fun H2 => onA p1 fun b2 m2 => rdK H2 b2 (Nat.add m2 nn3) fun v2 => isS v2 fun s1 => alB H2 (@T4.n AV (AV.i .i64 n1) te te te te) nn1 nn0 fun b3 H3 => appD nn1 nn8 s1 (AS.sl b3 nn0 nn1 nn1) H3 fun s2 H4 => onA p1 fun b4 m3 => wrK H4 b4 (Nat.add m3 nn3) (AV.s s2) fun H5 => Kb1 (DV.c (DV.v (AV.i .i64 n1)) (DV.c (DV.v (AV.b true)) DV.n)) H5
def g365x2 := lc R1 fun d1 R2 => onV d1 fun v1 => isP v1 fun p1 => ln R2 <| c1 [(DV.v (AV.p p1))] H1 fun d2 H2 => onV d2 fun v2 => isI .i64 v2 fun n1 => frcB (ieq n1 ii0) fun t1 => br t1 (Kb1 (DV.c (DV.v (AV.i .i64 ii0)) (DV.c (DV.v (AV.b false)) DV.n)) H2) (onA p1 fun b1 m1 => rdK H2 b1 (Nat.add m1 nn1) fun v3 => isI .i64 v3 fun n2 => c2 [(DV.v (AV.i .i64 n2)), (DV.v (AV.i .i64 ii1))] H2 fun d3 H3 => onV d3 fun v4 => g365x1 v4 n2 p1 H3 Kb1)
/-- (*win.Win).Next -/
def g365 : G DV := fun R1 H1 Kb1 => g365x2 R1 H1 c2 c1 Kb1
def G365 : G DV := g365 G249 G327

def z26 : List AV := [(AV.i .i64 ii0), (AV.i .u32 ii0), (AV.i .i64 ii0), (AV.i .i64 ii0), (AV.s AS.nil), (AV.i .i64 ii0), (AV.i .i64 ii0), (AV.i .i64 ii0)]
def g349x1 := must (Nat.beq (llen (lapp l1 ((AV.b false) :: []))) nn9) <| alK H1 (lapp (lapp l1 ((AV.b false) :: [])) []) fun b3 H2 => appD nn9 nn88 s1 (AS.sl b3 nn0 nn1 nn1) H2 fun s2 H3 => onA p1 fun b4 m1 => wrK H3 b4 (Nat.add m1 nn6) (AV.s s2) fun H4 => rdR H4 b1 nn0 nn8 fun l2 => c1 [(DV.a l2)] H4 fun d1 H5 => onL d1 fun l3 => must (Nat.beq (llen l3) nn8) <| wrL H5 b2 nn0 l3 fun H6 => rdR H6 b2 nn0 nn8 fun l4 => Kb1 (DV.c (DV.a l4) (DV.c (DV.v AV.ni) DV.n)) H6
def g349x2 := must (Nat.beq (llen l1) nn5) <| c1 [(DV.a (lapp l1 ((AV.i .i64 n1) :: ((AV.i .i64 ii0) :: ((AV.i .i64 n2) :: [])))))] H1 fun d1 H2 => onL d1 fun l2 => alB H2 z15 nn8 nn0 fun b2 H3 => must (Nat.beq (llen l2) nn8) <| wrL H3 b2 nn0 l2 fun H4 => onA p1 fun b3 m1 => rdK H4 b3 (Nat.add m1 nn6) fun v1 => isS v1 fun s1 => rdR H4 b2 nn0 nn8 fun l3 => must (Nat.beq (llen l3) nn8) <| g349x1 l3 p1 b2 b1 s1 H4 c1 Kb1
def g349x3 := isI .i64 v1 fun n2 => onC d1 fun d2 d3 => onV d2 fun v2 => isB v2 fun t1 => onN d3 <| frcB (bnot t1) fun t2 => br t2 (wrL H1 b1 nn0 z26 fun H2 => rdR H2 b1 nn0 nn8 fun l1 => Kb1 (DV.c (DV.a l1) (DV.c (DV.v (AV.er (nat_lit 8))) DV.n)) H2) (rdR H1 b2 nn0 nn5 fun l1 => onA p1 fun b3 m1 => rdK H1 b3 (Nat.add m1 nn3) fun v3 => isI .i64 v3 fun n3 => wrp .i64 (iadd n1 n3) fun n4 => g349x2 l1 n2 n4 p1 b1 H1 c1 Kb1)
def g349x4 := br t1 (wrL H1 b1 nn0 z26 fun H2 => rdR H2 b1 nn0 nn8 fun l1 => Kb1 (DV.c (DV.a l1) (DV.c (DV.v (AV.er (nat_lit 9))) DV.n)) H2) (onA p1 fun b3 m1 => rdK H1 b3 (Nat.add m1 nn7) fun v1 => isB v1 fun t2 => br t2 (wrL H1 b1 nn0 z26 fun H2 => rdR H2 b1 nn0 nn8 fun l1 => Kb1 (DV.c (DV.a l1) (DV.c (DV.v (AV.er (nat_lit 8))) DV.n)) H2) (onA p1 fun b4 m2 => rdK H1 b4 m2 fun v2 => isP v2 fun p2 => c1 [(DV.v (AV.p p2))] H1 fun d1 H2 => onC d1 fun d2 d3 => onV d2 fun v3 => g349x3 v3 d3 n1 p1 b1 b2 H2 c2 Kb1))
/-- (*ba.Session).Fresh -/
def g349 : G DV := fun R1 H1 Kb1 => lc R1 fun d1 R2 => onV d1 fun v1 => isP v1 fun p1 => lc R2 fun d2 R3 => lc R3 fun d3 R4 => onV d3 fun v2 => isI .i64 v2 fun n1 => ln R4 <| cellsD d2 fun l1 => alK H1 l1 fun b1 H2 => alB H2 z15 nn8 nn0 fun b2 H3 => onA p1 fun b3 m1 => rdK H3 b3 (Nat.add m1 nn4) fun v3 => isI .i64 v3 fun n2 => frcB (ieq n2 ii2) fun t1 => g349x4 n1 t1 p1 b2 b1 H3 c2 c1 Kb1
def G349 : G DV := g349 G275 G365

def g328x1 := br t1 (wrL H1 b1 nn0 z26 fun H2 => rdR H2 b1 nn0 nn8 fun l1 => Kb1 (DV.c (DV.a l1) (DV.c (DV.v (AV.b false)) DV.n)) H2) (onA p1 fun b4 m1 => rdK H1 b2 nn0 fun v1 => isI .i64 v1 fun n1 => c1 [(DV.v (AV.p (AP.at b4 (Nat.add m1 nn310)))), (DV.v (AV.i .i64 n1)), (DV.v (AV.i .i64 ii2))] H1 fun d1 H2 => onV d1 fun v2 => rdR H2 b3 nn0 nn8 fun l1 => must (Nat.beq (llen l1) nn8) <| wrL H2 b1 nn0 l1 fun H3 => rdR H3 b1 nn0 nn8 fun l2 => Kb1 (DV.c (DV.a l2) (DV.c (DV.v (AV.b true)) DV.n)) H3)
def g328x2 := onA p1 fun b3 m1 => rdK H1 b3 (Nat.add m1 nn21) fun v1 => isI .i64 v1 fun n1 => c1 [(DV.v (AV.p p2)), (DV.a l1), (DV.v (AV.i .i64 n1))] H1 fun d1 H2 => onC d1 fun d2 d3 => onL d2 fun l2 => onC d3 fun d4 d5 => onV d4 fun v2 => onN d5 <| alB H2 z15 nn8 nn0 fun b4 H3 => must (Nat.beq (llen l2) nn8) <| wrL H3 b4 nn0 l2 fun H4 => ifA true true v2 AV.ni fun t1 => frcB (bnot t1) fun t2 => g328x1 t2 p1 b1 b2 b4 H4 c2 Kb1
def g328x3 := must (Nat.beq (llen l1) nn5) <| wrL H1 b1 nn0 l1 fun H2 => c1 [(DV.v (AV.p p1)), (DV.v (AV.i .i64 ii2)), (DV.v (AV.s s1))] H2 fun d1 H3 => frcB (bnot t1) fun t2 => br t2 (wrL H3 b2 nn0 z26 fun H4 => rdR H4 b2 nn0 nn8 fun l2 => Kb1 (DV.c (DV.a l2) (DV.c (DV.v (AV.b false)) DV.n)) H4) (onA p2 fun b3 m1 => rdK H3 b3 m1 fun v1 => isP v1 fun p3 => rdR H3 b1 nn0 nn5 fun l2 => g328x2 l2 p1 p3 b2 b1 H3 c2 c3 Kb1)
def g328x4 := onA p1 fun b2 m1 => rdK H1 b2 (Nat.add m1 nn21) fun v1 => isI .i64 v1 fun n3 => c1 [(DV.v (AV.p p2)), (DV.v (AV.i .i64 n1)), (DV.v (AV.i .i64 n2)), (DV.v (AV.i .i64 n3))] H1 fun d1 H2 => onC d1 fun d2 d3 => onL d2 fun l1 => onC d3 fun d4 d5 => onV d4 fun v2 => isS v2 fun s1 => onC d5 fun d6 d7 => onV d6 fun v3 => isB v3 fun t1 => onN d7 <| alB H2 z17 nn5 nn0 fun b3 H3 => g328x3 l1 t1 p1 p3 b3 b1 s1 H3 c2 c3 c4 Kb1
def g328x5 := onV d1 fun v1 => isP v1 fun p2 => lc R1 fun d2 R2 => onV d2 fun v2 => isP v2 fun p3 => ln R2 <| alB H1 z15 nn8 nn0 fun b1 H2 => onA p1 fun b2 m1 => rdK H2 b2 (Nat.add m1 nn311) fun v3 => isP v3 fun p4 => onA p2 fun b3 m2 => rdK H2 b3 (Nat.add m2 nn1) fun v4 => isI .i64 v4 fun n1 => onA p2 fun b4 m3 => rdK H2 b4 (Nat.add m3 nn2) fun v5 => isI .i64 v5 fun n2 => g328x4 n1 n2 p1 p4 p3 b1 H2 c1 c2 c3 c4 Kb1
/-- (*ap.AP).fresh -/
def g328 : G DV := fun R1 H1 Kb1 => lc R1 fun d1 R2 => onV d1 fun v1 => isP v1 fun p1 => lc R2 fun d2 R3 => g328x5 d2 R3 p1 H1 c3 c1 c4 c2 Kb1
def G328 : G DV := g328 G166 G255 G348 G349

def z27 : T4 AV := (@T4.n AV yy23 (@T4.n AV yy24 (@T4.n AV yy25 te te te te) te te te) (@T4.n AV yy26 (@T4.n AV yy27 te te te te) te te te) (@T4.n AV yy28 (@T4.n AV yy29 te te te te) te te te) (@T4.n AV yy30 te te te te))
def g334x1 := isB v1 fun t1 => frcB (bnot t1) fun t2 => br t2 (Kb1 (DV.v (AV.i .i64 ii0)) H1) (rdK H1 b1 nn0 fun v2 => isI .i64 v2 fun n1 => frcB (ieq n1 ii1) fun t3 => br t3 (alB H1 z27 nn8 nn0 fun b2 H2 => rdK H2 b1 nn1 fun v3 => isI .i64 v3 fun n2 => ixA (AS.sl b2 nn0 nn8 nn8) n2 (fun x => x) fun b3 m1 => rdK H2 b3 m1 fun v4 => isI .i64 v4 fun n3 => Kb1 (DV.v (AV.i .i64 n3)) H2) (rdK H1 b1 nn1 fun v3 => isI .i64 v3 fun n2 => none))
/-- rate.Bits -/
def g334 : G DV := fun R1 H1 Kb1 => lc R1 fun d1 R2 => ln R2 <| cellsD d1 fun l1 => alK H1 l1 fun b1 H2 => rdR H2 b1 nn0 nn5 fun l2 => c1 [(DV.a l2)] H2 fun d2 H3 => onV d2 fun v1 => g334x1 v1 b1 H3 Kb1
def G334 : G DV := g334 G127

def g335x1 := frcB (ieq n1 ii1) fun t1 => br t1 (Kb1 (DV.v (AV.i .i64 ii200)) H1) (frcB (ieq n1 ii2) fun t2 => br t2 (wrp .i64 (imul ii40 n2) fun n3 => wrp .i64 (iadd ii320 n3) fun n4 => Kb1 (DV.v (AV.i .i64 n4)) H1) (frcB (ieq n1 ii3) fun t3 => br t3 (wrp .i64 (imul ii40 n2) fun n3 => wrp .i64 (iadd ii360 n3) fun n4 => Kb1 (DV.v (AV.i .i64 n4)) H1) (wrp .i64 (imul ii80 n2) fun n3 => wrp .i64 (iadd ii360 n3) fun n4 => Kb1 (DV.v (AV.i .i64 n4)) H1)))
def g335x2 := br t1 (Kb1 (DV.v (AV.i .i64 ii0)) H1) (rdK H1 b1 nn2 fun v1 => isI .i64 v1 fun n1 => rdK H1 b1 nn2 fun v2 => isI .i64 v2 fun n2 => must (bnot (ieq ii2 ii0)) <| asI (irem n2 ii2) fun n3 => rdK H1 b1 nn2 fun v3 => isI .i64 v3 fun n4 => wrp .i64 (isub n4 ii1) fun n5 => asI (imin n5 ii1) fun n6 => wrp .i64 (imul n3 n6) fun n7 => wrp .i64 (iadd n1 n7) fun n8 => rdK H1 b1 nn0 fun v4 => isI .i64 v4 fun n9 => g335x1 n9 n8 H1 Kb1)
/-- rate.Preamble -/
def g335 : G DV := fun R1 H1 Kb1 => lc R1 fun d1 R2 => ln R2 <| cellsD d1 fun l1 => alK H1 l1 fun b1 H2 => rdR H2 b1 nn0 nn5 fun l2 => c1 [(DV.a l2)] H2 fun d2 H3 => onV d2 fun v1 => isB v1 fun t1 => frcB (bnot t1) fun t2 => g335x2 t2 b1 H3 Kb1
def G335 : G DV := g335 G127

def z28 : T4 AV := (@T4.n AV yy10 (@T4.n AV yy25 te te te te) (@T4.n AV yy31 te te te te) te te)
def g336x1 := isI .i64 v1 fun n1 => frcB (ieq n1 ii4) fun t1 => br t1 (alB H1 z28 nn3 nn0 fun b2 H2 => rdK H2 b1 nn4 fun v2 => isI .i64 v2 fun n2 => ixA (AS.sl b2 nn0 nn3 nn3) n2 (fun x => x) fun b3 m1 => rdK H2 b3 m1 fun v3 => isI .i64 v3 fun n3 => Kb1 (DV.v (AV.i .i64 n3)) H2) (rdK H1 b1 nn4 fun v2 => isI .i64 v2 fun n2 => frcB (ieq n2 ii1) fun t2 => br t2 (Kb1 (DV.v (AV.i .i64 ii36)) H1) (Kb1 (DV.v (AV.i .i64 ii40)) H1))
/-- rate.Symbol -/
def g336 : G DV := fun R1 H1 Kb1 => lc R1 fun d1 R2 => ln R2 <| cellsD d1 fun l1 => alK H1 l1 fun b1 H2 => rdR H2 b1 nn0 nn5 fun l2 => c1 [(DV.a l2)] H2 fun d2 H3 => onV d2 fun v1 => isB v1 fun t1 => frcB (bnot t1) fun t2 => br t2 (Kb1 (DV.v (AV.i .i64 ii0)) H3) (rdK H3 b1 nn0 fun v2 => g336x1 v2 b1 H3 Kb1)
def G336 : G DV := g336 G127

def g296x1 := wrp .i64 (isub n1 ii1) fun n3 => must (bnot (ieq n2 ii0)) <| wrp .i64 (iquo n3 n2) fun n4 => rdR H1 b1 nn0 nn5 fun l1 => rdR H1 b1 nn0 nn5 fun l2 => c1 [(DV.a l1)] H1 fun d1 H2 => onV d1 fun v1 => isI .i64 v1 fun n5 => rdR H2 b1 nn0 nn5 fun l3 => must (aleq l2 l3) <| c2 [(DV.a l2)] H2 fun d2 H3 => onV d2 fun v2 => isI .i64 v2 fun n6 => wrp .i64 (imul n4 n6) fun n7 => wrp .i64 (iadd n5 n7) fun n8 => Kb1 (DV.v (AV.i .i64 n8)) H3
def g296x2 := jn (fun d2 H2 => pickK t1 (DV.v (AV.b true)) d2 fun d3 => onV d3 fun v1 => isB v1 fun t2 => br t2 (Kb1 (DV.v (AV.i .i64 ii0)) H2) (rdR H2 b1 nn0 nn5 fun l1 => c1 [(DV.a l1)] H2 fun d4 H3 => onV d4 fun v2 => isI .i64 v2 fun n2 => wrp .i64 (imul ii8 n1) fun n3 => wrp .i64 (iadd ii22 n3) fun n4 => wrp .i64 (iadd n4 n2) fun n5 => g296x1 n5 n2 b1 H3 c2 c3 Kb1)) fun Kb2 => br t1 (Kb2 DV.n H1) (onV d1 fun v1 => isI .i64 v1 fun n2 => frcB (ilt ii1048576 n2) fun t2 => Kb2 (DV.v (AV.b t2)) H1)
def g296x3 := frcB (bnot t1) fun t2 => jn (fun d1 H2 => jn (fun d2 H3 => pickK t2 (DV.v (AV.b true)) d2 fun d3 => onV d3 fun v1 => isB v1 fun t3 => jn (fun d4 H4 => g296x2 d4 n1 t3 b1 H4 c1 c2 c3 Kb1) fun Kb2 => br t3 (Kb2 DV.n H3) (Kb2 (DV.v (AV.i .i64 n1)) H3)) fun Kb2 => br t2 (Kb2 DV.n H2) (onV d1 fun v1 => isI .i64 v1 fun n2 => frcB (ilt n2 ii0) fun t3 => Kb2 (DV.v (AV.b t3)) H2)) fun Kb2 => br t2 (Kb2 DV.n H1) (Kb2 (DV.v (AV.i .i64 n1)) H1)
/-- air.Ppdu -/
def g296 : G DV := fun R1 H1 Kb1 => lc R1 fun d1 R2 => lc R2 fun d2 R3 => onV d2 fun v1 => isI .i64 v1 fun n1 => ln R3 <| cellsD d1 fun l1 => alK H1 l1 fun b1 H2 => rdR H2 b1 nn0 nn5 fun l2 => c1 [(DV.a l2)] H2 fun d3 H3 => onV d3 fun v2 => isB v2 fun t1 => g296x3 n1 t1 b1 H3 c2 c3 c4 Kb1
def G296 : G DV := pure1 (g296 G127 G334 G335 G336)

/-- build.wrong -/
def g350 : G DV := fun R1 H1 Kb1 => lc R1 fun d1 R2 => onV d1 fun v1 => isI .i64 v1 fun n1 => ln R2 <| frcB (ilt n1 ii1) fun t1 => jn (fun d2 H2 => jn (fun d3 H3 => pickK t1 (DV.v (AV.b true)) d3 fun d4 => onV d4 fun v2 => isB v2 fun t2 => Kb1 (DV.v (AV.b t2)) H3) fun Kb2 => br t1 (Kb2 DV.n H2) (onV d2 fun v2 => isI .i64 v2 fun n2 => frcB (ilt ii4095 n2) fun t2 => Kb2 (DV.v (AV.b t2)) H2)) fun Kb2 => br t1 (Kb2 DV.n H1) (Kb2 (DV.v (AV.i .i64 n1)) H1)
def G350 : G DV := g350

def g366x1 := frcB (ilt n1 (Int.ofNat m1)) fun t1 => br t1 (ixA s1 n1 (fun x => x) fun b1 m2 => rdK H1 b1 m2 fun v1 => isI .i64 v1 fun n2 => onV d1 fun v2 => fnK v2 fun m3 L1 L2 => lookD [((nat_lit 350) , c1)] m3 (appA (mapP L1) (appA [(DV.v (AV.i .i64 n2))] (mapP L2))) H1 fun d2 H2 => onV d2 fun v3 => isB v3 fun t2 => br t2 (Kb1 (DV.v (AV.i .i64 n1)) H2) (wrp .i64 (iadd n1 ii1) fun n3 => Kb2 (DV.v (AV.i .i64 n3)) H2)) (Kb1 (DV.v (AV.i .i64 im1)) H1)
/-- slices.IndexFunc[[]int,int] -/
def g366 : G DV := fun R1 H1 Kb1 => lc R1 fun d1 R2 => onV d1 fun v1 => isS v1 fun s1 => lc R2 fun d2 R3 => ln R3 <| lenA s1 fun m1 => lpR (failF [(8 , .int .i64)]) (fun Kb2 => fun d3 H2 => onV d3 fun v2 => isI .i64 v2 fun n1 => g366x1 d2 n1 m1 s1 H2 c1 Kb1 Kb2) (nat_lit 100000) (DV.v (AV.i .i64 ii0)) H1
def G366 : G DV := g366 G350

/-- slices.ContainsFunc[[]int,int] -/
def g351 : G DV := fun R1 H1 Kb1 => lc R1 fun d1 R2 => onV d1 fun v1 => isS v1 fun s1 => lc R2 fun d2 R3 => ln R3 <| c1 [(DV.v (AV.s s1)), d2] H1 fun d3 H2 => onV d3 fun v2 => isI .i64 v2 fun n1 => frcB (ile ii0 n1) fun t1 => Kb1 (DV.v (AV.b t1)) H2
def G351 : G DV := g351 G366

def g331x1 := rdK H1 b1 nn1 fun v1 => isI .i64 v1 fun n2 => asI (imin n2 ii65535) fun n3 => frcB (ile n1 n3) fun t1 => br t1 (rdR H1 b2 nn0 nn5 fun l1 => rdK H1 b1 nn2 fun v2 => isI .i64 v2 fun n4 => asI (imin n4 ii54840) fun n5 => c1 [(DV.a l1), (DV.v (AV.i .i64 n1))] H1 fun d1 H2 => onV d1 fun v3 => isI .i64 v3 fun n6 => rdK H2 b1 nn2 fun v4 => must (aveq (AV.i .i64 n4) v4) <| frcB (ile n6 n5) fun t2 => Kb1 (DV.v (AV.b t2)) H2) (Kb1 (DV.v (AV.b false)) H1)
def g331x2 := jn (fun d3 H2 => jn (fun d4 H3 => pickK t1 (DV.v (AV.b true)) d4 fun d5 => onV d5 fun v1 => isB v1 fun t2 => br t2 (Kb1 (DV.v (AV.b false)) H3) (c1 [(DV.v (AV.s s1))] H3 fun d6 H4 => onV d6 fun v2 => isI .i64 v2 fun n1 => g331x1 n1 b1 b2 H4 c2 Kb1)) fun Kb2 => br t1 (Kb2 DV.n H2) (onV d1 fun v1 => onV d3 fun v2 => isI .i64 v1 fun n1 => isI .i64 v2 fun n2 => frcB (ilt n2 n1) fun t2 => Kb2 (DV.v (AV.b t2)) H2)) fun Kb2 => br t1 (Kb2 DV.n H1) (onV d2 fun v1 => isI .i64 v1 fun n1 => asI (imin n1 ii64) fun n2 => Kb2 (DV.v (AV.i .i64 n2)) H1)
def g331x3 := jn (fun d2 H2 => jn (fun d3 H3 => jn (fun d4 H4 => g331x2 d2 d4 t1 b1 b2 s1 H4 c1 c2 Kb1) fun Kb2 => br t1 (Kb2 DV.n H3) (onV d3 fun v1 => isP v1 fun p1 => onA p1 fun b3 m1 => rdK H3 b3 m1 fun v2 => isI .i64 v2 fun n1 => Kb2 (DV.v (AV.i .i64 n1)) H3)) fun Kb2 => br t1 (Kb2 DV.n H2) (Kb2 (DV.v (AV.p (AP.at b1 nn0))) H2)) fun Kb2 => br t1 (Kb2 DV.n H1) (onV d1 fun v1 => isS v1 fun s2 => lenA s2 fun m1 => Kb2 (DV.v (AV.i .i64 (Int.ofNat m1))) H1)
def g331x4 := jn (fun d1 H2 => jn (fun d2 H3 => pickK t1 (DV.v (AV.b true)) d2 fun d3 => onV d3 fun v1 => isB v1 fun t2 => jn (fun d4 H4 => g331x3 d4 t2 b1 b2 s1 H4 c1 c2 Kb1) fun Kb2 => br t2 (Kb2 DV.n H3) (Kb2 (DV.v (AV.s s1)) H3)) fun Kb2 => br t1 (Kb2 DV.n H2) (c3 [d1, (DV.v (AV.fn (nat_lit 350) []))] H2 fun d2 H3 => onV d2 fun v1 => isB v1 fun t2 => Kb2 (DV.v (AV.b t2)) H3)) fun Kb2 => br t1 (Kb2 DV.n H1) (Kb2 (DV.v (AV.s s1)) H1)
def g331x5 := jn (fun d1 H2 => jn (fun d2 H3 => jn (fun d3 H4 => pickK t1 (DV.v (AV.b true)) d3 fun d4 => onV d4 fun v1 => isB v1 fun t2 => g331x4 t2 b1 b2 s1 H4 c1 c2 c3 Kb1) fun Kb2 => br t1 (Kb2 DV.n H3) (onV d2 fun v1 => isI .i64 v1 fun n1 => frcB (ieq n1 ii0) fun t2 => Kb2 (DV.v (AV.b t2)) H3)) fun Kb2 => br t1 (Kb2 DV.n H2) (onV d1 fun v1 => isS v1 fun s2 => lenA s2 fun m1 => Kb2 (DV.v (AV.i .i64 (Int.ofNat m1))) H2)) fun Kb2 => br t1 (Kb2 DV.n H1) (Kb2 (DV.v (AV.s s1)) H1)
/-- build.Fits -/
def g331 : G DV := fun R1 H1 Kb1 => lc R1 fun d1 R2 => lc R2 fun d2 R3 => lc R3 fun d3 R4 => onV d3 fun v1 => isS v1 fun s1 => ln R4 <| cellsD d1 fun l1 => alK H1 l1 fun b1 H2 => cellsD d2 fun l2 => alK H2 l2 fun b2 H3 => rdR H3 b1 nn0 nn5 fun l3 => c1 [(DV.a l3)] H3 fun d4 H4 => onV d4 fun v2 => isB v2 fun t1 => frcB (bnot t1) fun t2 => g331x5 t2 b2 b1 s1 H4 c2 c3 c4 Kb1
def G331 : G DV := g331 G127 G235 G296 G351

def g329x1 := jn (fun d2 H2 => jn (fun d3 H3 => pickK t1 d3 (DV.v (AV.b false)) fun d4 => onV d4 fun v1 => isB v1 fun t2 => br t2 (Kb1 (DV.c (DV.v (AV.i .i64 ii1)) (DV.c (DV.v (AV.b false)) DV.n)) H3) (Kb1 (DV.c (DV.v (AV.i .i64 ii0)) (DV.c (DV.v (AV.b false)) DV.n)) H3)) fun Kb2 => br t1 (onV d2 fun v1 => isB v1 fun t2 => frcB (bnot t2) fun t3 => Kb2 (DV.v (AV.b t3)) H2) (Kb2 DV.n H2)) fun Kb2 => br t1 (c1 [d1] H1 fun d2 H2 => onV d2 fun v1 => isB v1 fun t2 => Kb2 (DV.v (AV.b t2)) H2) (Kb2 DV.n H1)
def g329x2 := jn (fun d1 H2 => jn (fun d2 H3 => jn (fun d3 H4 => g329x1 d3 t1 H4 c1 Kb1) fun Kb2 => br t1 (onV d2 fun v1 => isP v1 fun p1 => onA p1 fun b1 m1 => rdK H3 b1 m1 fun v2 => isI .i64 v2 fun n1 => Kb2 (DV.v (AV.i .i64 n1)) H3) (Kb2 DV.n H3)) fun Kb2 => br t1 (onV d1 fun v1 => isS v1 fun s2 => ixA s2 ii0 (fun x => x) fun b1 m1 => Kb2 (DV.v (AV.p (AP.at b1 m1))) H2) (Kb2 DV.n H2)) fun Kb2 => br t1 (Kb2 (DV.v (AV.s s1)) H1) (Kb2 DV.n H1)
def g329x3 := br t1 (rdR H1 b1 nn0 nn5 fun l1 => rdR H1 b2 nn0 nn3 fun l2 => natK n1 fun m1 => slA s1 nn0 m1 (fun x => x) fun s2 => c1 [(DV.a l1), (DV.a l2), (DV.v (AV.s s2))] H1 fun d1 H2 => onV d1 fun v1 => isB v1 fun t2 => br t2 (Kb1 (DV.c (DV.v (AV.i .i64 n1)) (DV.c (DV.v (AV.b true)) DV.n)) H2) (wrp .i64 (isub n1 ii1) fun n2 => Kb2 (DV.v (AV.i .i64 n2)) H2)) (lenA s1 fun m1 => frcB (ilt ii0 (Int.ofNat m1)) fun t2 => jn (fun d1 H2 => jn (fun d2 H3 => pickK t2 d2 (DV.v (AV.b false)) fun d3 => onV d3 fun v1 => isB v1 fun t3 => g329x2 t3 s1 H3 c2 Kb1) fun Kb3 => br t2 (c3 [d1] H2 fun d2 H3 => onV d2 fun v1 => isB v1 fun t3 => Kb3 (DV.v (AV.b t3)) H3) (Kb3 DV.n H2)) fun Kb3 => br t2 (rdR H1 b1 nn0 nn5 fun l1 => Kb3 (DV.a l1) H1) (Kb3 DV.n H1))
def g329x4 := lc R1 fun d2 R2 => lc R2 fun d3 R3 => onV d3 fun v1 => isS v1 fun s1 => ln R3 <| cellsD d1 fun l1 => alK H1 l1 fun b1 H2 => cellsD d2 fun l2 => alK H2 l2 fun b2 H3 => lenA s1 fun m1 => asI (imin (Int.ofNat m1) ii64) fun n1 => lpR (failF [(8 , .int .i64)]) (fun Kb2 => fun d4 H4 => onV d4 fun v2 => isI .i64 v2 fun n2 => frcB (ilt ii0 n2) fun t1 => g329x3 n2 t1 b1 b2 s1 H4 c1 c2 c3 Kb1 Kb2) (nat_lit 100000) (DV.v (AV.i .i64 n1)) H3
/-- build.Choose -/
def g329 : G DV := fun R1 H1 Kb1 => lc R1 fun d1 R2 => g329x4 d1 R2 H1 c2 c3 c1 Kb1
def G329 : G DV := g329 G127 G331 G350

/-- qos.Len -/
def g332 : G DV := fun R1 H1 Kb1 => lc R1 fun d1 R2 => onV d1 fun v1 => isI .i64 v1 fun n1 => ln R2 <| asI (imax n1 ii0) fun n2 => wrp .i64 (iadd ii26 n2) fun n3 => Kb1 (DV.v (AV.i .i64 n3)) H1
def G332 : G DV := g332

def g330x1 := must (Nat.beq (llen l1) nn8) <| wrL H1 b1 nn0 l1 fun H2 => rdK H2 b1 nn4 fun v1 => isS v1 fun s2 => lenA s2 fun m1 => c1 [(DV.v (AV.i .i64 (Int.ofNat m1)))] H2 fun d1 H3 => onV d1 fun v2 => isI .i64 v2 fun n2 => alB H3 (@T4.n AV (AV.i .i64 n2) te te te te) nn1 nn0 fun b2 H4 => appD nn1 nn8 s1 (AS.sl b2 nn0 nn1 nn1) H4 fun s3 H5 => wrp .i64 (iadd n1 ii1) fun n3 => Kc1 (DV.v (AV.s s3)) (DV.v (AV.i .i64 n3)) H5
def g330x2 := lenA s1 fun m1 => lpR (failF [(3 , .slice), (8 , .int .i64)]) (fun Kc1 => fun d1 d2 H2 => onV d1 fun v1 => isS v1 fun s2 => onV d2 fun v2 => isI .i64 v2 fun n1 => frcB (ilt n1 (Int.ofNat m1)) fun t1 => br t1 (ixA s1 n1 (fun x => Nat.mul x nn8) fun b1 m2 => rdR H2 b1 m2 nn8 fun l1 => alB H2 z15 nn8 nn0 fun b2 H3 => g330x1 l1 n1 b2 s2 H3 c1 Kc1) (Kb1 (DV.v (AV.s s2)) H2)) (nat_lit 100000) (DV.v (AV.s AS.nil)) (DV.v (AV.i .i64 ii0)) H1
/-- ap.lens -/
def g330 : G DV := fun R1 H1 Kb1 => lc R1 fun d1 R2 => onV d1 fun v1 => isS v1 fun s1 => ln R2 <| g330x2 s1 H1 c1 Kb1
def G330 : G DV := g330 G332
end
end Go.Proofs.YtgkpnfnkaplebaaGreatDoor
