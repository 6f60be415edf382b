/- Functions of the program on the abstract machine: written by a program (ggen) off the elaborated code. -/
import Derived.Test.YtdkopdoicepgmaaGreatDoorDk
set_option linter.unusedVariables false
set_option linter.constructorNameAsVariable false
set_option maxRecDepth 100000
namespace Go.Proofs.YtdkopdoicepgmaaGreatDoor
open Go.Vc Go.Ab
noncomputable section
variable (v1 v2 : AV) (l1 l2 l3 l4 : List AV) (L1 L2 : List AP) (d1 d2 d3 d4 : DV) (R1 : List DV) (n1 n2 n3 n4 n5 n6 n7 n8 : Int) (m1 m2 m3 m4 : Nat) (t1 t2 t3 t4 : Bool) (p1 p2 p3 p4 p5 : AP) (b1 b2 b3 b4 b5 : P4) (s1 s2 s3 : AS) (H1 : AH) (x1 x2 : List Int) (c1 c2 c3 c4 c5 c6 c7 c8 c9 c10 c11 c12 c13 c14 c15 : G DV) (Ka1 Ka2 : AH → Option DV) (Kb1 Kb2 : DV → AH → Option DV) (Kc1 Kc2 : DV → DV → AH → Option DV) (Kd1 : DV → DV → DV → AH → Option DV)
variable {ads : List Addr}
def ii0 : Int := Int.ofNat (nat_lit 0)
def ii1 : Int := Int.ofNat (nat_lit 1)
def ii10 : Int := Int.ofNat (nat_lit 10)
def ii100 : Int := Int.ofNat (nat_lit 100)
def ii10000 : Int := Int.ofNat (nat_lit 10000)
def ii100000 : Int := Int.ofNat (nat_lit 100000)
def ii1000000 : Int := Int.ofNat (nat_lit 1000000)
def ii10000000 : Int := Int.ofNat (nat_lit 10000000)
def ii101 : Int := Int.ofNat (nat_lit 101)
def ii102 : Int := Int.ofNat (nat_lit 102)
def ii1023 : Int := Int.ofNat (nat_lit 1023)
def ii1024 : Int := Int.ofNat (nat_lit 1024)
def ii103 : Int := Int.ofNat (nat_lit 103)
def ii104 : Int := Int.ofNat (nat_lit 104)
def ii1048576 : Int := Int.ofNat (nat_lit 1048576)
def ii105 : Int := Int.ofNat (nat_lit 105)
def ii106 : Int := Int.ofNat (nat_lit 106)
def ii107 : Int := Int.ofNat (nat_lit 107)
def ii1073741824 : Int := Int.ofNat (nat_lit 1073741824)
def ii108 : Int := Int.ofNat (nat_lit 108)
def ii109 : Int := Int.ofNat (nat_lit 109)
def ii1099511627776 : Int := Int.ofNat (nat_lit 1099511627776)
def ii11 : Int := Int.ofNat (nat_lit 11)
def ii110 : Int := Int.ofNat (nat_lit 110)
def ii111 : Int := Int.ofNat (nat_lit 111)
def ii112 : Int := Int.ofNat (nat_lit 112)
def ii113 : Int := Int.ofNat (nat_lit 113)
def ii114 : Int := Int.ofNat (nat_lit 114)
def ii115 : Int := Int.ofNat (nat_lit 115)
def ii1152921504606846976 : Int := Int.ofNat (nat_lit 1152921504606846976)
def ii116 : Int := Int.ofNat (nat_lit 116)
def ii117 : Int := Int.ofNat (nat_lit 117)
def ii118 : Int := Int.ofNat (nat_lit 118)
def ii119 : Int := Int.ofNat (nat_lit 119)
def ii12 : Int := Int.ofNat (nat_lit 12)
def ii120 : Int := Int.ofNat (nat_lit 120)
def ii121 : Int := Int.ofNat (nat_lit 121)
def ii122 : Int := Int.ofNat (nat_lit 122)
def ii123 : Int := Int.ofNat (nat_lit 123)
def ii124 : Int := Int.ofNat (nat_lit 124)
def ii125 : Int := Int.ofNat (nat_lit 125)
def ii126 : Int := Int.ofNat (nat_lit 126)
def ii127 : Int := Int.ofNat (nat_lit 127)
def ii128 : Int := Int.ofNat (nat_lit 128)
def ii129 : Int := Int.ofNat (nat_lit 129)
def ii13 : Int := Int.ofNat (nat_lit 13)
def ii130 : Int := Int.ofNat (nat_lit 130)
def ii131 : Int := Int.ofNat (nat_lit 131)
def ii132 : Int := Int.ofNat (nat_lit 132)
def ii133 : Int := Int.ofNat (nat_lit 133)
def ii134 : Int := Int.ofNat (nat_lit 134)
def ii135 : Int := Int.ofNat (nat_lit 135)
def ii136 : Int := Int.ofNat (nat_lit 136)
def ii137 : Int := Int.ofNat (nat_lit 137)
def ii138 : Int := Int.ofNat (nat_lit 138)
def ii139 : Int := Int.ofNat (nat_lit 139)
def ii14 : Int := Int.ofNat (nat_lit 14)
def ii140 : Int := Int.ofNat (nat_lit 140)
def ii141 : Int := Int.ofNat (nat_lit 141)
def ii142 : Int := Int.ofNat (nat_lit 142)
def ii143 : Int := Int.ofNat (nat_lit 143)
def ii144 : Int := Int.ofNat (nat_lit 144)
def ii145 : Int := Int.ofNat (nat_lit 145)
def ii146 : Int := Int.ofNat (nat_lit 146)
def ii147 : Int := Int.ofNat (nat_lit 147)
def ii148 : Int := Int.ofNat (nat_lit 148)
def ii149 : Int := Int.ofNat (nat_lit 149)
def ii15 : Int := Int.ofNat (nat_lit 15)
def ii150 : Int := Int.ofNat (nat_lit 150)
def ii1500 : Int := Int.ofNat (nat_lit 1500)
def ii151 : Int := Int.ofNat (nat_lit 151)
def ii1514 : Int := Int.ofNat (nat_lit 1514)
def ii152 : Int := Int.ofNat (nat_lit 152)
def ii153 : Int := Int.ofNat (nat_lit 153)
def ii154 : Int := Int.ofNat (nat_lit 154)
def ii155 : Int := Int.ofNat (nat_lit 155)
def ii156 : Int := Int.ofNat (nat_lit 156)
def ii157 : Int := Int.ofNat (nat_lit 157)
def ii158 : Int := Int.ofNat (nat_lit 158)
def ii159 : Int := Int.ofNat (nat_lit 159)
def ii16 : Int := Int.ofNat (nat_lit 16)
def ii160 : Int := Int.ofNat (nat_lit 160)
def ii161 : Int := Int.ofNat (nat_lit 161)
def ii162 : Int := Int.ofNat (nat_lit 162)
def ii163 : Int := Int.ofNat (nat_lit 163)
def ii164 : Int := Int.ofNat (nat_lit 164)
def ii165 : Int := Int.ofNat (nat_lit 165)
def ii166 : Int := Int.ofNat (nat_lit 166)
def ii167 : Int := Int.ofNat (nat_lit 167)
def ii168 : Int := Int.ofNat (nat_lit 168)
def ii169 : Int := Int.ofNat (nat_lit 169)
def ii17 : Int := Int.ofNat (nat_lit 17)
def ii170 : Int := Int.ofNat (nat_lit 170)
def ii171 : Int := Int.ofNat (nat_lit 171)
def ii172 : Int := Int.ofNat (nat_lit 172)
def ii173 : Int := Int.ofNat (nat_lit 173)
def ii174 : Int := Int.ofNat (nat_lit 174)
def ii175 : Int := Int.ofNat (nat_lit 175)
def ii176 : Int := Int.ofNat (nat_lit 176)
def ii177 : Int := Int.ofNat (nat_lit 177)
def ii178 : Int := Int.ofNat (nat_lit 178)
def ii179 : Int := Int.ofNat (nat_lit 179)
def ii18 : Int := Int.ofNat (nat_lit 18)
def ii180 : Int := Int.ofNat (nat_lit 180)
def ii181 : Int := Int.ofNat (nat_lit 181)
def ii182 : Int := Int.ofNat (nat_lit 182)
def ii183 : Int := Int.ofNat (nat_lit 183)
def ii184 : Int := Int.ofNat (nat_lit 184)
def ii185 : Int := Int.ofNat (nat_lit 185)
def ii186 : Int := Int.ofNat (nat_lit 186)
def ii187 : Int := Int.ofNat (nat_lit 187)
def ii188 : Int := Int.ofNat (nat_lit 188)
def ii189 : Int := Int.ofNat (nat_lit 189)
def ii19 : Int := Int.ofNat (nat_lit 19)
def ii190 : Int := Int.ofNat (nat_lit 190)
def ii191 : Int := Int.ofNat (nat_lit 191)
def ii192 : Int := Int.ofNat (nat_lit 192)
def ii193 : Int := Int.ofNat (nat_lit 193)
def ii194 : Int := Int.ofNat (nat_lit 194)
def ii195 : Int := Int.ofNat (nat_lit 195)
def ii196 : Int := Int.ofNat (nat_lit 196)
def ii197 : Int := Int.ofNat (nat_lit 197)
def ii198 : Int := Int.ofNat (nat_lit 198)
def ii199 : Int := Int.ofNat (nat_lit 199)
def ii2 : Int := Int.ofNat (nat_lit 2)
def ii20 : Int := Int.ofNat (nat_lit 20)
def ii200 : Int := Int.ofNat (nat_lit 200)
def ii20000 : Int := Int.ofNat (nat_lit 20000)
def ii200000 : Int := Int.ofNat (nat_lit 200000)
def ii201 : Int := Int.ofNat (nat_lit 201)
def ii202 : Int := Int.ofNat (nat_lit 202)
def ii203 : Int := Int.ofNat (nat_lit 203)
def ii204 : Int := Int.ofNat (nat_lit 204)
def ii2048 : Int := Int.ofNat (nat_lit 2048)
def ii205 : Int := Int.ofNat (nat_lit 205)
def ii206 : Int := Int.ofNat (nat_lit 206)
def ii207 : Int := Int.ofNat (nat_lit 207)
def ii208 : Int := Int.ofNat (nat_lit 208)
def ii209 : Int := Int.ofNat (nat_lit 209)
def ii21 : Int := Int.ofNat (nat_lit 21)
def ii210 : Int := Int.ofNat (nat_lit 210)
def ii211 : Int := Int.ofNat (nat_lit 211)
def ii212 : Int := Int.ofNat (nat_lit 212)
def ii213 : Int := Int.ofNat (nat_lit 213)
def ii214 : Int := Int.ofNat (nat_lit 214)
def ii215 : Int := Int.ofNat (nat_lit 215)
def ii216 : Int := Int.ofNat (nat_lit 216)
def ii217 : Int := Int.ofNat (nat_lit 217)
def ii218 : Int := Int.ofNat (nat_lit 218)
def ii219 : Int := Int.ofNat (nat_lit 219)
def ii22 : Int := Int.ofNat (nat_lit 22)
def ii220 : Int := Int.ofNat (nat_lit 220)
def ii221 : Int := Int.ofNat (nat_lit 221)
def ii222 : Int := Int.ofNat (nat_lit 222)
def ii223 : Int := Int.ofNat (nat_lit 223)
def ii224 : Int := Int.ofNat (nat_lit 224)
def ii225 : Int := Int.ofNat (nat_lit 225)
def ii226 : Int := Int.ofNat (nat_lit 226)
def ii227 : Int := Int.ofNat (nat_lit 227)
def ii228 : Int := Int.ofNat (nat_lit 228)
def ii229 : Int := Int.ofNat (nat_lit 229)
def ii23 : Int := Int.ofNat (nat_lit 23)
def ii230 : Int := Int.ofNat (nat_lit 230)
def ii231 : Int := Int.ofNat (nat_lit 231)
def ii232 : Int := Int.ofNat (nat_lit 232)
def ii233 : Int := Int.ofNat (nat_lit 233)
def ii234 : Int := Int.ofNat (nat_lit 234)
def ii235 : Int := Int.ofNat (nat_lit 235)
def ii236 : Int := Int.ofNat (nat_lit 236)
def ii237 : Int := Int.ofNat (nat_lit 237)
def ii238 : Int := Int.ofNat (nat_lit 238)
def ii239 : Int := Int.ofNat (nat_lit 239)
def ii24 : Int := Int.ofNat (nat_lit 24)
def ii240 : Int := Int.ofNat (nat_lit 240)
def ii241 : Int := Int.ofNat (nat_lit 241)
def ii242 : Int := Int.ofNat (nat_lit 242)
def ii243 : Int := Int.ofNat (nat_lit 243)
def ii244 : Int := Int.ofNat (nat_lit 244)
def ii245 : Int := Int.ofNat (nat_lit 245)
def ii246 : Int := Int.ofNat (nat_lit 246)
def ii247 : Int := Int.ofNat (nat_lit 247)
def ii248 : Int := Int.ofNat (nat_lit 248)
def ii249 : Int := Int.ofNat (nat_lit 249)
def ii25 : Int := Int.ofNat (nat_lit 25)
def ii250 : Int := Int.ofNat (nat_lit 250)
def ii251 : Int := Int.ofNat (nat_lit 251)
def ii252 : Int := Int.ofNat (nat_lit 252)
def ii253 : Int := Int.ofNat (nat_lit 253)
def ii254 : Int := Int.ofNat (nat_lit 254)
def ii255 : Int := Int.ofNat (nat_lit 255)
def ii256 : Int := Int.ofNat (nat_lit 256)
def ii26 : Int := Int.ofNat (nat_lit 26)
def ii27 : Int := Int.ofNat (nat_lit 27)
def ii28 : Int := Int.ofNat (nat_lit 28)
def ii29 : Int := Int.ofNat (nat_lit 29)
def ii3 : Int := Int.ofNat (nat_lit 3)
def ii30 : Int := Int.ofNat (nat_lit 30)
def ii300 : Int := Int.ofNat (nat_lit 300)
def ii31 : Int := Int.ofNat (nat_lit 31)
def ii32 : Int := Int.ofNat (nat_lit 32)
def ii320 : Int := Int.ofNat (nat_lit 320)
def ii33 : Int := Int.ofNat (nat_lit 33)
def ii34 : Int := Int.ofNat (nat_lit 34)
def ii35 : Int := Int.ofNat (nat_lit 35)
def ii36 : Int := Int.ofNat (nat_lit 36)
def ii360 : Int := Int.ofNat (nat_lit 360)
def ii37 : Int := Int.ofNat (nat_lit 37)
def ii38 : Int := Int.ofNat (nat_lit 38)
def ii39 : Int := Int.ofNat (nat_lit 39)
def ii4 : Int := Int.ofNat (nat_lit 4)
def ii40 : Int := Int.ofNat (nat_lit 40)
def ii4095 : Int := Int.ofNat (nat_lit 4095)
def ii4096 : Int := Int.ofNat (nat_lit 4096)
def ii41 : Int := Int.ofNat (nat_lit 41)
def ii42 : Int := Int.ofNat (nat_lit 42)
def ii4294967296 : Int := Int.ofNat (nat_lit 4294967296)
def ii43 : Int := Int.ofNat (nat_lit 43)
def ii44 : Int := Int.ofNat (nat_lit 44)
def ii45 : Int := Int.ofNat (nat_lit 45)
def ii46 : Int := Int.ofNat (nat_lit 46)
def ii47 : Int := Int.ofNat (nat_lit 47)
def ii48 : Int := Int.ofNat (nat_lit 48)
def ii49 : Int := Int.ofNat (nat_lit 49)
def ii5 : Int := Int.ofNat (nat_lit 5)
def ii50 : Int := Int.ofNat (nat_lit 50)
def ii50000 : Int := Int.ofNat (nat_lit 50000)
def ii51 : Int := Int.ofNat (nat_lit 51)
def ii512 : Int := Int.ofNat (nat_lit 512)
def ii52 : Int := Int.ofNat (nat_lit 52)
def ii53 : Int := Int.ofNat (nat_lit 53)
def ii54 : Int := Int.ofNat (nat_lit 54)
def ii54840 : Int := Int.ofNat (nat_lit 54840)
def ii55 : Int := Int.ofNat (nat_lit 55)
def ii56 : Int := Int.ofNat (nat_lit 56)
def ii57 : Int := Int.ofNat (nat_lit 57)
def ii58 : Int := Int.ofNat (nat_lit 58)
def ii59 : Int := Int.ofNat (nat_lit 59)
def ii6 : Int := Int.ofNat (nat_lit 6)
def ii60 : Int := Int.ofNat (nat_lit 60)
def ii61 : Int := Int.ofNat (nat_lit 61)
def ii62 : Int := Int.ofNat (nat_lit 62)
def ii63 : Int := Int.ofNat (nat_lit 63)
def ii64 : Int := Int.ofNat (nat_lit 64)
def ii65 : Int := Int.ofNat (nat_lit 65)
def ii65535 : Int := Int.ofNat (nat_lit 65535)
def ii65536 : Int := Int.ofNat (nat_lit 65536)
def ii66 : Int := Int.ofNat (nat_lit 66)
def ii67 : Int := Int.ofNat (nat_lit 67)
def ii68 : Int := Int.ofNat (nat_lit 68)
def ii69 : Int := Int.ofNat (nat_lit 69)
def ii7 : Int := Int.ofNat (nat_lit 7)
def ii70 : Int := Int.ofNat (nat_lit 70)
def ii71 : Int := Int.ofNat (nat_lit 71)
def ii72 : Int := Int.ofNat (nat_lit 72)
def ii73 : Int := Int.ofNat (nat_lit 73)
def ii73244475 : Int := Int.ofNat (nat_lit 73244475)
def ii74 : Int := Int.ofNat (nat_lit 74)
def ii75 : Int := Int.ofNat (nat_lit 75)
def ii76 : Int := Int.ofNat (nat_lit 76)
def ii77 : Int := Int.ofNat (nat_lit 77)
def ii78 : Int := Int.ofNat (nat_lit 78)
def ii79 : Int := Int.ofNat (nat_lit 79)
def ii8 : Int := Int.ofNat (nat_lit 8)
def ii80 : Int := Int.ofNat (nat_lit 80)
def ii81 : Int := Int.ofNat (nat_lit 81)
def ii82 : Int := Int.ofNat (nat_lit 82)
def ii83 : Int := Int.ofNat (nat_lit 83)
def ii84 : Int := Int.ofNat (nat_lit 84)
def ii85 : Int := Int.ofNat (nat_lit 85)
def ii86 : Int := Int.ofNat (nat_lit 86)
def ii87 : Int := Int.ofNat (nat_lit 87)
def ii88 : Int := Int.ofNat (nat_lit 88)
def ii89 : Int := Int.ofNat (nat_lit 89)
def ii9 : Int := Int.ofNat (nat_lit 9)
def ii90 : Int := Int.ofNat (nat_lit 90)
def ii91 : Int := Int.ofNat (nat_lit 91)
def ii92 : Int := Int.ofNat (nat_lit 92)
def ii93 : Int := Int.ofNat (nat_lit 93)
def ii94 : Int := Int.ofNat (nat_lit 94)
def ii95 : Int := Int.ofNat (nat_lit 95)
def ii96 : Int := Int.ofNat (nat_lit 96)
def ii97 : Int := Int.ofNat (nat_lit 97)
def ii98 : Int := Int.ofNat (nat_lit 98)
def ii99 : Int := Int.ofNat (nat_lit 99)
def im1 : Int := Int.negSucc (nat_lit 0)
def im63 : Int := Int.negSucc (nat_lit 62)
def nn0 : Nat := nat_lit 0
def nn1 : Nat := nat_lit 1
def nn10 : Nat := nat_lit 10
def nn104 : Nat := nat_lit 104
def nn106 : Nat := nat_lit 106
def nn107 : Nat := nat_lit 107
def nn108 : Nat := nat_lit 108
def nn109 : Nat := nat_lit 109
def nn11 : Nat := nat_lit 11
def nn117 : Nat := nat_lit 117
def nn12 : Nat := nat_lit 12
def nn125 : Nat := nat_lit 125
def nn126 : Nat := nat_lit 126
def nn128 : Nat := nat_lit 128
def nn13 : Nat := nat_lit 13
def nn130 : Nat := nat_lit 130
def nn131 : Nat := nat_lit 131
def nn132 : Nat := nat_lit 132
def nn133 : Nat := nat_lit 133
def nn134 : Nat := nat_lit 134
def nn135 : Nat := nat_lit 135
def nn136 : Nat := nat_lit 136
def nn137 : Nat := nat_lit 137
def nn138 : Nat := nat_lit 138
def nn139 : Nat := nat_lit 139
def nn14 : Nat := nat_lit 14
def nn140 : Nat := nat_lit 140
def nn141 : Nat := nat_lit 141
def nn142 : Nat := nat_lit 142
def nn143 : Nat := nat_lit 143
def nn144 : Nat := nat_lit 144
def nn145 : Nat := nat_lit 145
def nn146 : Nat := nat_lit 146
def nn147 : Nat := nat_lit 147
def nn148 : Nat := nat_lit 148
def nn15 : Nat := nat_lit 15
def nn150 : Nat := nat_lit 150
def nn151 : Nat := nat_lit 151
def nn153 : Nat := nat_lit 153
def nn154 : Nat := nat_lit 154
def nn155 : Nat := nat_lit 155
def nn156 : Nat := nat_lit 156
def nn157 : Nat := nat_lit 157
def nn158 : Nat := nat_lit 158
def nn159 : Nat := nat_lit 159
def nn16 : Nat := nat_lit 16
def nn160 : Nat := nat_lit 160
def nn161 : Nat := nat_lit 161
def nn162 : Nat := nat_lit 162
def nn164 : Nat := nat_lit 164
def nn165 : Nat := nat_lit 165
def nn167 : Nat := nat_lit 167
def nn169 : Nat := nat_lit 169
def nn17 : Nat := nat_lit 17
def nn170 : Nat := nat_lit 170
def nn171 : Nat := nat_lit 171
def nn173 : Nat := nat_lit 173
def nn18 : Nat := nat_lit 18
def nn180 : Nat := nat_lit 180
def nn181 : Nat := nat_lit 181
def nn183 : Nat := nat_lit 183
def nn185 : Nat := nat_lit 185
def nn186 : Nat := nat_lit 186
def nn187 : Nat := nat_lit 187
def nn19 : Nat := nat_lit 19
def nn197 : Nat := nat_lit 197
def nn2 : Nat := nat_lit 2
def nn20 : Nat := nat_lit 20
def nn201 : Nat := nat_lit 201
def nn202 : Nat := nat_lit 202
def nn203 : Nat := nat_lit 203
def nn204 : Nat := nat_lit 204
def nn205 : Nat := nat_lit 205
def nn206 : Nat := nat_lit 206
def nn207 : Nat := nat_lit 207
def nn208 : Nat := nat_lit 208
def nn209 : Nat := nat_lit 209
def nn21 : Nat := nat_lit 21
def nn210 : Nat := nat_lit 210
def nn211 : Nat := nat_lit 211
def nn212 : Nat := nat_lit 212
def nn213 : Nat := nat_lit 213
def nn215 : Nat := nat_lit 215
def nn216 : Nat := nat_lit 216
def nn217 : Nat := nat_lit 217
def nn218 : Nat := nat_lit 218
def nn219 : Nat := nat_lit 219
def nn22 : Nat := nat_lit 22
def nn220 : Nat := nat_lit 220
def nn221 : Nat := nat_lit 221
def nn223 : Nat := nat_lit 223
def nn224 : Nat := nat_lit 224
def nn225 : Nat := nat_lit 225
def nn226 : Nat := nat_lit 226
def nn227 : Nat := nat_lit 227
def nn228 : Nat := nat_lit 228
def nn229 : Nat := nat_lit 229
def nn23 : Nat := nat_lit 23
def nn231 : Nat := nat_lit 231
def nn232 : Nat := nat_lit 232
def nn233 : Nat := nat_lit 233
def nn234 : Nat := nat_lit 234
def nn235 : Nat := nat_lit 235
def nn236 : Nat := nat_lit 236
def nn237 : Nat := nat_lit 237
def nn238 : Nat := nat_lit 238
def nn239 : Nat := nat_lit 239
def nn24 : Nat := nat_lit 24
def nn240 : Nat := nat_lit 240
def nn241 : Nat := nat_lit 241
def nn242 : Nat := nat_lit 242
def nn244 : Nat := nat_lit 244
def nn245 : Nat := nat_lit 245
def nn246 : Nat := nat_lit 246
def nn247 : Nat := nat_lit 247
def nn248 : Nat := nat_lit 248
def nn25 : Nat := nat_lit 25
def nn250 : Nat := nat_lit 250
def nn252 : Nat := nat_lit 252
def nn253 : Nat := nat_lit 253
def nn254 : Nat := nat_lit 254
def nn256 : Nat := nat_lit 256
def nn257 : Nat := nat_lit 257
def nn258 : Nat := nat_lit 258
def nn259 : Nat := nat_lit 259
def nn26 : Nat := nat_lit 26
def nn260 : Nat := nat_lit 260
def nn261 : Nat := nat_lit 261
def nn262 : Nat := nat_lit 262
def nn263 : Nat := nat_lit 263
def nn264 : Nat := nat_lit 264
def nn267 : Nat := nat_lit 267
def nn268 : Nat := nat_lit 268
def nn269 : Nat := nat_lit 269
def nn27 : Nat := nat_lit 27
def nn272 : Nat := nat_lit 272
def nn273 : Nat := nat_lit 273
def nn274 : Nat := nat_lit 274
def nn275 : Nat := nat_lit 275
def nn277 : Nat := nat_lit 277
def nn28 : Nat := nat_lit 28
def nn284 : Nat := nat_lit 284
def nn285 : Nat := nat_lit 285
def nn287 : Nat := nat_lit 287
def nn289 : Nat := nat_lit 289
def nn29 : Nat := nat_lit 29
def nn291 : Nat := nat_lit 291
def nn292 : Nat := nat_lit 292
def nn293 : Nat := nat_lit 293
def nn294 : Nat := nat_lit 294
def nn295 : Nat := nat_lit 295
def nn296 : Nat := nat_lit 296
def nn298 : Nat := nat_lit 298
def nn299 : Nat := nat_lit 299
def nn3 : Nat := nat_lit 3
def nn30 : Nat := nat_lit 30
def nn300 : Nat := nat_lit 300
def nn301 : Nat := nat_lit 301
def nn302 : Nat := nat_lit 302
def nn303 : Nat := nat_lit 303
def nn304 : Nat := nat_lit 304
def nn305 : Nat := nat_lit 305
def nn306 : Nat := nat_lit 306
def nn307 : Nat := nat_lit 307
def nn308 : Nat := nat_lit 308
def nn309 : Nat := nat_lit 309
def nn31 : Nat := nat_lit 31
def nn310 : Nat := nat_lit 310
def nn311 : Nat := nat_lit 311
def nn312 : Nat := nat_lit 312
def nn313 : Nat := nat_lit 313
def nn314 : Nat := nat_lit 314
def nn316 : Nat := nat_lit 316
def nn317 : Nat := nat_lit 317
def nn318 : Nat := nat_lit 318
def nn319 : Nat := nat_lit 319
def nn32 : Nat := nat_lit 32
def nn320 : Nat := nat_lit 320
def nn321 : Nat := nat_lit 321
def nn322 : Nat := nat_lit 322
def nn323 : Nat := nat_lit 323
def nn325 : Nat := nat_lit 325
def nn329 : Nat := nat_lit 329
def nn33 : Nat := nat_lit 33
def nn333 : Nat := nat_lit 333
def nn334 : Nat := nat_lit 334
def nn335 : Nat := nat_lit 335
def nn336 : Nat := nat_lit 336
def nn337 : Nat := nat_lit 337
def nn338 : Nat := nat_lit 338
def nn339 : Nat := nat_lit 339
def nn34 : Nat := nat_lit 34
def nn340 : Nat := nat_lit 340
def nn341 : Nat := nat_lit 341
def nn342 : Nat := nat_lit 342
def nn343 : Nat := nat_lit 343
def nn344 : Nat := nat_lit 344
def nn345 : Nat := nat_lit 345
def nn346 : Nat := nat_lit 346
def nn348 : Nat := nat_lit 348
def nn349 : Nat := nat_lit 349
def nn35 : Nat := nat_lit 35
def nn350 : Nat := nat_lit 350
def nn351 : Nat := nat_lit 351
def nn352 : Nat := nat_lit 352
def nn354 : Nat := nat_lit 354
def nn355 : Nat := nat_lit 355
def nn356 : Nat := nat_lit 356
def nn357 : Nat := nat_lit 357
def nn358 : Nat := nat_lit 358
def nn359 : Nat := nat_lit 359
def nn36 : Nat := nat_lit 36
def nn360 : Nat := nat_lit 360
def nn363 : Nat := nat_lit 363
def nn37 : Nat := nat_lit 37
def nn372 : Nat := nat_lit 372
def nn373 : Nat := nat_lit 373
def nn374 : Nat := nat_lit 374
def nn375 : Nat := nat_lit 375
def nn381 : Nat := nat_lit 381
def nn383 : Nat := nat_lit 383
def nn384 : Nat := nat_lit 384
def nn385 : Nat := nat_lit 385
def nn4 : Nat := nat_lit 4
def nn40 : Nat := nat_lit 40
def nn415 : Nat := nat_lit 415
def nn416 : Nat := nat_lit 416
def nn42 : Nat := nat_lit 42
def nn43 : Nat := nat_lit 43
def nn44 : Nat := nat_lit 44
def nn45 : Nat := nat_lit 45
def nn46 : Nat := nat_lit 46
def nn47 : Nat := nat_lit 47
def nn48 : Nat := nat_lit 48
def nn49 : Nat := nat_lit 49
def nn5 : Nat := nat_lit 5
def nn50 : Nat := nat_lit 50
def nn51 : Nat := nat_lit 51
def nn52 : Nat := nat_lit 52
def nn53 : Nat := nat_lit 53
def nn54 : Nat := nat_lit 54
def nn56 : Nat := nat_lit 56
def nn6 : Nat := nat_lit 6
def nn60 : Nat := nat_lit 60
def nn61 : Nat := nat_lit 61
def nn62 : Nat := nat_lit 62
def nn65 : Nat := nat_lit 65
def nn67 : Nat := nat_lit 67
def nn68 : Nat := nat_lit 68
def nn69 : Nat := nat_lit 69
def nn7 : Nat := nat_lit 7
def nn70 : Nat := nat_lit 70
def nn71 : Nat := nat_lit 71
def nn72 : Nat := nat_lit 72
def nn74 : Nat := nat_lit 74
def nn75 : Nat := nat_lit 75
def nn77 : Nat := nat_lit 77
def nn8 : Nat := nat_lit 8
def nn80 : Nat := nat_lit 80
def nn81 : Nat := nat_lit 81
def nn82 : Nat := nat_lit 82
def nn83 : Nat := nat_lit 83
def nn84 : Nat := nat_lit 84
def nn85 : Nat := nat_lit 85
def nn86 : Nat := nat_lit 86
def nn87 : Nat := nat_lit 87
def nn88 : Nat := nat_lit 88
def nn89 : Nat := nat_lit 89
def nn9 : Nat := nat_lit 9
def nn90 : Nat := nat_lit 90
def nn92 : Nat := nat_lit 92
def nn9223372036854775807 : Nat := nat_lit 9223372036854775807
def nn94 : Nat := nat_lit 94
def nn98 : Nat := nat_lit 98
def ss0 : List Int := [ii111, ii102, ii102, ii101, ii114]
def ss1 : List Int := [ii99, ii111, ii117, ii110, ii116, ii115]
def ss2 : List Int := [ii116, ii105, ii109, ii101]
def ss3 : List Int := [ii98, ii101, ii97, ii99, ii111, ii110]
def ss4 : List Int := [ii108, ii101, ii97, ii118, ii101]
def ss5 : List Int := [ii112, ii111, ii108, ii108]
def ss6 : List Int := [ii117, ii112]
def ss7 : List Int := [ii106, ii111, ii105, ii110]
def ss8 : List Int := [ii100, ii111, ii122, ii101]
def ss9 : List Int := [ii116, ii114, ii105, ii103, ii103, ii101, ii114]
def ss10 : List Int := [ii114, ii97, ii116, ii101]
def ss11 : List Int := [ii115, ii101, ii110, ii100]
def ss12 : List Int := [ii48, ii49, ii50, ii51, ii52, ii53, ii54, ii55, ii56, ii57]
def ss13 : List Int := [ii0, ii128, ii64, ii192, ii32, ii160, ii96, ii224, ii16, ii144, ii80, ii208, ii48, ii176, ii112, ii240, ii8, ii136, ii72, ii200, ii40, ii168, ii104, ii232, ii24, ii152, ii88, ii216, ii56, ii184, ii120, ii248, ii4, ii132, ii68, ii196, ii36, ii164, ii100, ii228, ii20, ii148, ii84, ii212, ii52, ii180, ii116, ii244, ii12, ii140, ii76, ii204, ii44, ii172, ii108, ii236, ii28, ii156, ii92, ii220, ii60, ii188, ii124, ii252, ii2, ii130, ii66, ii194, ii34, ii162, ii98, ii226, ii18, ii146, ii82, ii210, ii50, ii178, ii114, ii242, ii10, ii138, ii74, ii202, ii42, ii170, ii106, ii234, ii26, ii154, ii90, ii218, ii58, ii186, ii122, ii250, ii6, ii134, ii70, ii198, ii38, ii166, ii102, ii230, ii22, ii150, ii86, ii214, ii54, ii182, ii118, ii246, ii14, ii142, ii78, ii206, ii46, ii174, ii110, ii238, ii30, ii158, ii94, ii222, ii62, ii190, ii126, ii254, ii1, ii129, ii65, ii193, ii33, ii161, ii97, ii225, ii17, ii145, ii81, ii209, ii49, ii177, ii113, ii241, ii9, ii137, ii73, ii201, ii41, ii169, ii105, ii233, ii25, ii153, ii89, ii217, ii57, ii185, ii121, ii249, ii5, ii133, ii69, ii197, ii37, ii165, ii101, ii229, ii21, ii149, ii85, ii213, ii53, ii181, ii117, ii245, ii13, ii141, ii77, ii205, ii45, ii173, ii109, ii237, ii29, ii157, ii93, ii221, ii61, ii189, ii125, ii253, ii3, ii131, ii67, ii195, ii35, ii163, ii99, ii227, ii19, ii147, ii83, ii211, ii51, ii179, ii115, ii243, ii11, ii139, ii75, ii203, ii43, ii171, ii107, ii235, ii27, ii155, ii91, ii219, ii59, ii187, ii123, ii251, ii7, ii135, ii71, ii199, ii39, ii167, ii103, ii231, ii23, ii151, ii87, ii215, ii55, ii183, ii119, ii247, ii15, ii143, ii79, ii207, ii47, ii175, ii111, ii239, ii31, ii159, ii95, ii223, ii63, ii191, ii127, ii255]
def ss14 : List Int := [ii0, ii1, ii2, ii2, ii3, ii3, ii3, ii3, ii4, ii4, ii4, ii4, ii4, ii4, ii4, ii4, ii5, ii5, ii5, ii5, ii5, ii5, ii5, ii5, ii5, ii5, ii5, ii5, ii5, ii5, ii5, ii5, ii6, ii6, ii6, ii6, ii6, ii6, ii6, ii6, ii6, ii6, ii6, ii6, ii6, ii6, ii6, ii6, ii6, ii6, ii6, ii6, ii6, ii6, ii6, ii6, ii6, ii6, ii6, ii6, ii6, ii6, ii6, ii6, ii7, ii7, ii7, ii7, ii7, ii7, ii7, ii7, ii7, ii7, ii7, ii7, ii7, ii7, ii7, ii7, ii7, ii7, ii7, ii7, ii7, ii7, ii7, ii7, ii7, ii7, ii7, ii7, ii7, ii7, ii7, ii7, ii7, ii7, ii7, ii7, ii7, ii7, ii7, ii7, ii7, ii7, ii7, ii7, ii7, ii7, ii7, ii7, ii7, ii7, ii7, ii7, ii7, ii7, ii7, ii7, ii7, ii7, ii7, ii7, ii7, ii7, ii7, ii7, ii8, ii8, ii8, ii8, ii8, ii8, ii8, ii8, ii8, ii8, ii8, ii8, ii8, ii8, ii8, ii8, ii8, ii8, ii8, ii8, ii8, ii8, ii8, ii8, ii8, ii8, ii8, ii8, ii8, ii8, ii8, ii8, ii8, ii8, ii8, ii8, ii8, ii8, ii8, ii8, ii8, ii8, ii8, ii8, ii8, ii8, ii8, ii8, ii8, ii8, ii8, ii8, ii8, ii8, ii8, ii8, ii8, ii8, ii8, ii8, ii8, ii8, ii8, ii8, ii8, ii8, ii8, ii8, ii8, ii8, ii8, ii8, ii8, ii8, ii8, ii8, ii8, ii8, ii8, ii8, ii8, ii8, ii8, ii8, ii8, ii8, ii8, ii8, ii8, ii8, ii8, ii8, ii8, ii8, ii8, ii8, ii8, ii8, ii8, ii8, ii8, ii8, ii8, ii8, ii8, ii8, ii8, ii8, ii8, ii8, ii8, ii8, ii8, ii8, ii8, ii8, ii8, ii8, ii8, ii8, ii8, ii8, ii8, ii8, ii8, ii8, ii8, ii8]
def ss15 : List Int := [ii48, ii49, ii50, ii51, ii52, ii53, ii54, ii55, ii56, ii57, ii97, ii98, ii99, ii100, ii101, ii102, ii103, ii104, ii105, ii106, ii107, ii108, ii109, ii110, ii111, ii112, ii113, ii114, ii115, ii116, ii117, ii118, ii119, ii120, ii121, ii122]
def ss16 : List Int := [ii48, ii48, ii48, ii49, ii48, ii50, ii48, ii51, ii48, ii52, ii48, ii53, ii48, ii54, ii48, ii55, ii48, ii56, ii48, ii57, ii49, ii48, ii49, ii49, ii49, ii50, ii49, ii51, ii49, ii52, ii49, ii53, ii49, ii54, ii49, ii55, ii49, ii56, ii49, ii57, ii50, ii48, ii50, ii49, ii50, ii50, ii50, ii51, ii50, ii52, ii50, ii53, ii50, ii54, ii50, ii55, ii50, ii56, ii50, ii57, ii51, ii48, ii51, ii49, ii51, ii50, ii51, ii51, ii51, ii52, ii51, ii53, ii51, ii54, ii51, ii55, ii51, ii56, ii51, ii57, ii52, ii48, ii52, ii49, ii52, ii50, ii52, ii51, ii52, ii52, ii52, ii53, ii52, ii54, ii52, ii55, ii52, ii56, ii52, ii57, ii53, ii48, ii53, ii49, ii53, ii50, ii53, ii51, ii53, ii52, ii53, ii53, ii53, ii54, ii53, ii55, ii53, ii56, ii53, ii57, ii54, ii48, ii54, ii49, ii54, ii50, ii54, ii51, ii54, ii52, ii54, ii53, ii54, ii54, ii54, ii55, ii54, ii56, ii54, ii57, ii55, ii48, ii55, ii49, ii55, ii50, ii55, ii51, ii55, ii52, ii55, ii53, ii55, ii54, ii55, ii55, ii55, ii56, ii55, ii57, ii56, ii48, ii56, ii49, ii56, ii50, ii56, ii51, ii56, ii52, ii56, ii53, ii56, ii54, ii56, ii55, ii56, ii56, ii56, ii57, ii57, ii48, ii57, ii49, ii57, ii50, ii57, ii51, ii57, ii52, ii57, ii53, ii57, ii54, ii57, ii55, ii57, ii56, ii57, ii57]
def ss17 : List Int := [ii110, ii111, ii110, ii101]
def ss18 : List Int := [ii100, ii97, ii116, ii97]
def ss19 : List Int := [ii98, ii97, ii114]
def ss20 : List Int := [ii97, ii100, ii100]
def ss21 : List Int := [ii32]
def ss22 : List Int := [ii113, ii117, ii101, ii117, ii101, ii100]
def ss23 : List Int := [ii102, ii108, ii121, ii105, ii110, ii103]
def ss24 : List Int := [ii97, ii99, ii107, ii101, ii100]
def ss25 : List Int := [ii100, ii114, ii111, ii112, ii112, ii101, ii100]
def ss26 : List Int := [ii10]
def ss27 : List Int := [ii106, ii111, ii105, ii110, ii32, ii48, ii32, ii49]
def ss28 : List Int := [ii111, ii102, ii102, ii101, ii114, ii32, ii48, ii32, ii48, ii32, ii49, ii32, ii104, ii101, ii108, ii108, ii111]
def ss29 : List Int := [ii115, ii101, ii110, ii100, ii32, ii48, ii32, ii48]
def ss30 : List Int := [ii48, ii32, ii104, ii101, ii108, ii108, ii111]
def ss31 : List Int := [ii117, ii112, ii32, ii48]
def yy0 : AV := (AV.i .i64 ii0)
def yy1 : AV := (AV.i .u32 ii0)
def yy10 : AV := (AV.i .i64 ii160)
def yy11 : AV := (AV.i .i64 ii10)
def yy12 : AV := (AV.i .i64 ii50)
def yy13 : AV := (AV.i .i64 ii100)
def yy14 : AV := (AV.i .u8 ii208)
def yy15 : AV := (AV.i .u8 ii3)
def yy16 : AV := (AV.i .u8 ii1)
def yy17 : AV := AV.nf
def yy18 : AV := (AV.i .i64 ii15)
def yy19 : AV := (AV.i .i64 ii7)
def yy2 : AV := (AV.b false)
def yy20 : AV := (AV.i .i64 ii3)
def yy21 : AV := (AV.i .i64 ii2)
def yy22 : AV := (AV.i .u8 ii78)
def yy23 : AV := (AV.i .i64 ii24)
def yy24 : AV := (AV.i .i64 ii36)
def yy25 : AV := (AV.i .i64 ii144)
def yy26 : AV := (AV.i .i64 ii48)
def yy27 : AV := (AV.i .i64 ii192)
def yy28 : AV := (AV.i .i64 ii72)
def yy29 : AV := (AV.i .i64 ii216)
def yy3 : AV := (AV.s AS.nil)
def yy30 : AV := (AV.i .i64 ii96)
def yy31 : AV := (AV.i .i64 ii136)
def yy32 : AV := (AV.i .u8 ii136)
def yy33 : AV := (AV.i .u64 ii0)
def yy34 : AV := (AV.g ss17)
def yy35 : AV := (AV.g List.nil)
def yy36 : AV := (AV.g ss18)
def yy37 : AV := (AV.g ss19)
def yy38 : AV := (AV.g ss20)
def yy39 : AV := (AV.g ss22)
def yy4 : AV := (AV.p AP.nil)
def yy40 : AV := (AV.g ss23)
def yy41 : AV := (AV.g ss24)
def yy42 : AV := (AV.g ss25)
def yy43 : AV := (AV.g ss27)
def yy44 : AV := (AV.g ss28)
def yy45 : AV := (AV.g ss29)
def yy46 : AV := (AV.g ss30)
def yy47 : AV := (AV.er (nat_lit 0))
def yy48 : AV := (AV.er (nat_lit 1))
def yy49 : AV := (AV.er (nat_lit 5))
def yy5 : AV := (AV.i .i64 ii1)
def yy50 : AV := (AV.er (nat_lit 9))
def yy51 : AV := (AV.er (nat_lit 13))
def yy52 : AV := (AV.er (nat_lit 2))
def yy53 : AV := (AV.er (nat_lit 6))
def yy54 : AV := (AV.er (nat_lit 10))
def yy55 : AV := (AV.er (nat_lit 3))
def yy56 : AV := (AV.er (nat_lit 7))
def yy57 : AV := (AV.er (nat_lit 11))
def yy58 : AV := (AV.er (nat_lit 4))
def yy59 : AV := (AV.er (nat_lit 8))
def yy6 : AV := (AV.i .u8 ii0)
def yy60 : AV := (AV.er (nat_lit 12))
def yy7 : AV := (AV.i .i64 ii20)
def yy8 : AV := (AV.i .i64 ii40)
def yy9 : AV := (AV.i .i64 ii80)
def g187x1 := alB H1 (@T4.n AV (AV.i .u32 n1) (@T4.n AV (AV.i .i64 n2) (@T4.n AV yy0 (@T4.n AV yy0 (@T4.n AV yy0 te te te te) te te te) (@T4.n AV yy0 (@T4.n AV yy0 te te te te) te te te) (@T4.n AV yy0 (@T4.n AV yy0 te te te te) te te te) (@T4.n AV yy0 (@T4.n AV yy0 te te te te) te te te)) (@T4.n AV yy1 (@T4.n AV yy1 (@T4.n AV yy1 te te te te) te te te) (@T4.n AV yy1 (@T4.n AV yy1 te te te te) te te te) (@T4.n AV yy1 (@T4.n AV yy1 te te te te) te te te) (@T4.n AV yy1 te te te te)) (@T4.n AV yy0 (@T4.n AV yy0 (@T4.n AV yy0 te te te te) te te te) (@T4.n AV yy0 (@T4.n AV yy0 te te te te) te te te) (@T4.n AV yy0 (@T4.n AV yy0 te te te te) te te te) (@T4.n AV yy0 te te te te)) (@T4.n AV yy1 (@T4.n AV yy1 (@T4.n AV yy1 te te te te) te te te) (@T4.n AV yy1 (@T4.n AV yy1 te te te te) te te te) (@T4.n AV yy1 (@T4.n AV yy1 te te te te) te te te) (@T4.n AV yy1 te te te te))) (@T4.n AV (AV.i .i64 n3) (@T4.n AV yy0 (@T4.n AV yy0 (@T4.n AV yy0 te te te te) te te te) (@T4.n AV yy0 (@T4.n AV yy0 te te te te) te te te) (@T4.n AV yy0 (@T4.n AV yy0 te te te te) te te te) (@T4.n AV yy0 (@T4.n AV yy0 te te te te) te te te)) (@T4.n AV yy2 (@T4.n AV yy2 (@T4.n AV yy2 te te te te) te te te) (@T4.n AV yy2 (@T4.n AV yy2 te te te te) te te te) (@T4.n AV yy2 (@T4.n AV yy2 te te te te) te te te) (@T4.n AV yy2 te te te te)) (@T4.n AV yy0 (@T4.n AV yy0 (@T4.n AV yy0 te te te te) te te te) (@T4.n AV yy0 (@T4.n AV yy0 te te te te) te te te) (@T4.n AV yy0 (@T4.n AV yy0 te te te te) te te te) (@T4.n AV yy0 te te te te)) (@T4.n AV yy2 (@T4.n AV yy2 (@T4.n AV yy2 te te te te) te te te) (@T4.n AV yy2 (@T4.n AV yy2 te te te te) te te te) (@T4.n AV yy2 (@T4.n AV yy2 te te te te) te te te) (@T4.n AV yy2 te te te te))) (@T4.n AV yy3 (@T4.n AV yy0 (@T4.n AV yy0 (@T4.n AV yy0 te te te te) te te te) (@T4.n AV yy0 (@T4.n AV yy0 te te te te) te te te) (@T4.n AV yy0 (@T4.n AV yy0 te te te te) te te te) (@T4.n AV yy0 te te te te)) (@T4.n AV yy3 (@T4.n AV yy3 (@T4.n AV yy3 te te te te) te te te) (@T4.n AV yy3 (@T4.n AV yy3 te te te te) te te te) (@T4.n AV yy3 (@T4.n AV yy3 te te te te) te te te) (@T4.n AV yy3 te te te te)) (@T4.n AV yy0 (@T4.n AV yy0 (@T4.n AV yy0 te te te te) te te te) (@T4.n AV yy0 (@T4.n AV yy0 te te te te) te te te) (@T4.n AV yy0 (@T4.n AV yy0 te te te te) te te te) (@T4.n AV yy0 te te te te)) (@T4.n AV yy3 (@T4.n AV yy3 (@T4.n AV yy3 te te te te) te te te) (@T4.n AV yy3 (@T4.n AV yy3 te te te te) te te te) (@T4.n AV yy3 (@T4.n AV yy3 te te te te) te te te) (@T4.n AV yy3 te te te te))) (@T4.n AV yy0 (@T4.n AV yy1 (@T4.n AV yy1 (@T4.n AV yy1 te te te te) te te te) (@T4.n AV yy1 (@T4.n AV yy1 te te te te) te te te) (@T4.n AV yy1 (@T4.n AV yy1 te te te te) te te te) (@T4.n AV yy1 te te te te)) (@T4.n AV yy0 (@T4.n AV yy0 (@T4.n AV yy0 te te te te) te te te) (@T4.n AV yy0 (@T4.n AV yy0 te te te te) te te te) (@T4.n AV yy0 (@T4.n AV yy0 te te te te) te te te) (@T4.n AV yy0 te te te te)) (@T4.n AV yy1 (@T4.n AV yy1 (@T4.n AV yy1 te te te te) te te te) (@T4.n AV yy1 (@T4.n AV yy1 te te te te) te te te) (@T4.n AV yy1 (@T4.n AV yy1 te te te te) te te te) (@T4.n AV yy1 te te te te)) (@T4.n AV yy0 (@T4.n AV yy0 (@T4.n AV yy0 te te te te) te te te) (@T4.n AV yy0 (@T4.n AV yy0 te te te te) te te te) (@T4.n AV yy0 (@T4.n AV yy3 te te te te) te te te) (@T4.n AV yy0 te te te te)))) nn135 nn0 fun b1 H2 => Kb1 (DV.v (AV.p (AP.at b1 nn0))) H2
/-- fq.New -/
def g187 : G DV := fun R1 H1 Kb1 => lc R1 fun d1 R2 => onV d1 fun v1 => isI .u32 v1 fun n1 => lc R2 fun d2 R3 => onV d2 fun v2 => isI .i64 v2 fun n2 => lc R3 fun d3 R4 => onV d3 fun v3 => isI .i64 v3 fun n3 => ln R4 <| g187x1 n1 n2 n3 H1 Kb1
def G187 : G DV := g187

def g106x1 := isI .i64 v1 fun n4 => onA p1 fun b1 m1 => rdK H1 b1 (Nat.add m1 nn2) fun v2 => isI .i64 v2 fun n5 => onA p1 fun b2 m2 => rng n1 nn16 <| c1 [(DV.v (AV.i .u32 n2)), (DV.v (AV.i .i64 n4)), (DV.v (AV.i .i64 n5))] H1 fun d1 H2 => onV d1 fun v3 => isP v3 fun p2 => rng n3 nn8 <| wrK H2 b2 (Nat.add (Nat.add (Nat.add m2 nn5) (Nat.mul (itn n1) nn8)) (itn n3)) (AV.p p2) fun H3 => wrp .i64 (iadd n3 ii1) fun n6 => Kb1 (DV.v (AV.i .i64 n6)) H3
def g106x2 := isP v1 fun p1 => lc R1 fun d1 R2 => onV d1 fun v2 => isI .i64 v2 fun n1 => ln R2 <| lpR (failF [(5 , .int .i64)]) (fun Kb2 => fun d2 H2 => onV d2 fun v3 => isI .i64 v3 fun n2 => frcB (ilt n2 ii8) fun t1 => br t1 (onA p1 fun b1 m1 => rdK H2 b1 m1 fun v4 => isI .u32 v4 fun n3 => onA p1 fun b2 m2 => rdK H2 b2 (Nat.add m2 nn1) fun v5 => g106x1 v5 n1 n3 n2 p1 H2 c1 Kb2) (Kb1 DV.n H2)) (nat_lit 100000) (DV.v (AV.i .i64 ii0)) H1
/-- (*pool.Pool).renew -/
def g106 : G DV := fun R1 H1 Kb1 => lc R1 fun d1 R2 => onV d1 fun v1 => g106x2 v1 R2 H1 c1 Kb1
def G106 : G DV := g106 G187

def g48x1 := alB H1 (@T4.n AV (AV.i .u32 n1) (@T4.n AV (AV.i .i64 n2) (@T4.n AV yy4 (@T4.n AV yy4 (@T4.n AV yy4 te te te te) te te te) (@T4.n AV yy4 (@T4.n AV yy4 te te te te) te te te) (@T4.n AV yy4 (@T4.n AV yy4 te te te te) te te te) (@T4.n AV yy4 te te te te)) (@T4.n AV yy4 (@T4.n AV yy4 (@T4.n AV yy4 te te te te) te te te) (@T4.n AV yy4 (@T4.n AV yy4 te te te te) te te te) (@T4.n AV yy4 (@T4.n AV yy4 te te te te) te te te) (@T4.n AV yy4 te te te te)) (@T4.n AV yy4 (@T4.n AV yy4 (@T4.n AV yy4 te te te te) te te te) (@T4.n AV yy4 (@T4.n AV yy4 te te te te) te te te) (@T4.n AV yy4 (@T4.n AV yy4 te te te te) te te te) (@T4.n AV yy4 te te te te)) (@T4.n AV yy4 (@T4.n AV yy4 (@T4.n AV yy4 te te te te) te te te) (@T4.n AV yy4 (@T4.n AV yy4 te te te te) te te te) (@T4.n AV yy4 (@T4.n AV yy4 te te te te) te te te) (@T4.n AV yy4 te te te te))) (@T4.n AV (AV.i .i64 n3) (@T4.n AV yy4 (@T4.n AV yy4 (@T4.n AV yy4 te te te te) te te te) (@T4.n AV yy4 (@T4.n AV yy4 te te te te) te te te) (@T4.n AV yy4 (@T4.n AV yy4 te te te te) te te te) (@T4.n AV yy4 te te te te)) (@T4.n AV yy4 (@T4.n AV yy4 (@T4.n AV yy4 te te te te) te te te) (@T4.n AV yy4 (@T4.n AV yy4 te te te te) te te te) (@T4.n AV yy4 (@T4.n AV yy4 te te te te) te te te) (@T4.n AV yy4 te te te te)) (@T4.n AV yy4 (@T4.n AV yy4 (@T4.n AV yy4 te te te te) te te te) (@T4.n AV yy4 (@T4.n AV yy4 te te te te) te te te) (@T4.n AV yy4 (@T4.n AV yy4 te te te te) te te te) (@T4.n AV yy4 te te te te)) (@T4.n AV yy4 (@T4.n AV yy4 (@T4.n AV yy4 te te te te) te te te) (@T4.n AV yy4 (@T4.n AV yy4 te te te te) te te te) (@T4.n AV yy4 (@T4.n AV yy4 te te te te) te te te) (@T4.n AV yy4 te te te te))) (@T4.n AV (AV.i .i64 n4) (@T4.n AV yy4 (@T4.n AV yy4 (@T4.n AV yy4 te te te te) te te te) (@T4.n AV yy4 (@T4.n AV yy4 te te te te) te te te) (@T4.n AV yy4 (@T4.n AV yy4 te te te te) te te te) (@T4.n AV yy4 te te te te)) (@T4.n AV yy4 (@T4.n AV yy4 (@T4.n AV yy4 te te te te) te te te) (@T4.n AV yy4 (@T4.n AV yy4 te te te te) te te te) (@T4.n AV yy4 (@T4.n AV yy4 te te te te) te te te) (@T4.n AV yy4 te te te te)) (@T4.n AV yy4 (@T4.n AV yy4 (@T4.n AV yy4 te te te te) te te te) (@T4.n AV yy4 (@T4.n AV yy4 te te te te) te te te) (@T4.n AV yy4 (@T4.n AV yy4 te te te te) te te te) (@T4.n AV yy4 te te te te)) (@T4.n AV yy4 (@T4.n AV yy4 (@T4.n AV yy4 te te te te) te te te) (@T4.n AV yy4 (@T4.n AV yy4 te te te te) te te te) (@T4.n AV yy4 (@T4.n AV yy4 te te te te) te te te) (@T4.n AV yy4 te te te te))) (@T4.n AV (AV.i .i64 n5) (@T4.n AV yy4 (@T4.n AV yy4 (@T4.n AV yy4 te te te te) te te te) (@T4.n AV yy4 (@T4.n AV yy4 te te te te) te te te) (@T4.n AV yy4 (@T4.n AV yy4 te te te te) te te te) (@T4.n AV yy4 te te te te)) (@T4.n AV yy4 (@T4.n AV yy4 (@T4.n AV yy4 te te te te) te te te) (@T4.n AV yy4 (@T4.n AV yy4 te te te te) te te te) (@T4.n AV yy4 (@T4.n AV yy4 te te te te) te te te) (@T4.n AV yy4 te te te te)) (@T4.n AV yy4 (@T4.n AV yy4 (@T4.n AV yy4 te te te te) te te te) (@T4.n AV yy4 (@T4.n AV yy4 te te te te) te te te) (@T4.n AV yy4 (@T4.n AV yy4 te te te te) te te te) (@T4.n AV yy4 te te te te)) (@T4.n AV yy4 (@T4.n AV yy4 (@T4.n AV yy4 te te te te) te te te) (@T4.n AV yy4 (@T4.n AV yy4 te te te te) te te te) (@T4.n AV yy4 (@T4.n AV yy4 te te te te) te te te) (@T4.n AV yy4 te te te te)))) nn133 nn0 fun b1 H2 => lpR (failF [(36 , .int .i64)]) (fun Kb2 => fun d1 H3 => onV d1 fun v1 => isI .i64 v1 fun n6 => frcB (ilt n6 ii16) fun t1 => br t1 (c1 [(DV.v (AV.p (AP.at b1 nn0))), (DV.v (AV.i .i64 n6))] H3 fun d2 H4 => wrp .i64 (iadd n6 ii1) fun n7 => Kb2 (DV.v (AV.i .i64 n7)) H4) (Kb1 (DV.c (DV.v (AV.p (AP.at b1 nn0))) (DV.c (DV.v AV.ni) DV.n)) H3)) (nat_lit 100000) (DV.v (AV.i .i64 ii0)) H2
def g48x2 := onV d1 fun v1 => isB v1 fun t1 => jn (fun d2 H2 => jn (fun d3 H3 => pickK t1 (DV.v (AV.b true)) d3 fun d4 => onV d4 fun v2 => isB v2 fun t2 => br t2 (Kb1 (DV.c (DV.v (AV.p AP.nil)) (DV.c (DV.v (AV.er (nat_lit 2))) DV.n)) H3) (g48x1 n1 n2 n3 n4 n5 H3 c1 Kb1)) fun Kb2 => br t1 (Kb2 DV.n H2) (onV d2 fun v2 => isI .i64 v2 fun n6 => frcB (ilt ii1048576 n6) fun t2 => Kb2 (DV.v (AV.b t2)) H2)) fun Kb2 => br t1 (Kb2 DV.n H1) (Kb2 (DV.v (AV.i .i64 n5)) H1)
def g48x3 := jn (fun d2 H2 => pickK t1 (DV.v (AV.b true)) d2 fun d3 => onV d3 fun v1 => isB v1 fun t2 => jn (fun d4 H3 => jn (fun d5 H4 => pickK t2 (DV.v (AV.b true)) d5 fun d6 => g48x2 d6 n1 n2 n3 n4 n5 H4 c1 Kb1) fun Kb2 => br t2 (Kb2 DV.n H3) (onV d4 fun v2 => isI .i64 v2 fun n6 => frcB (ilt n6 ii1) fun t3 => Kb2 (DV.v (AV.b t3)) H3)) fun Kb2 => br t2 (Kb2 DV.n H2) (Kb2 (DV.v (AV.i .i64 n5)) H2)) fun Kb2 => br t1 (Kb2 DV.n H1) (onV d1 fun v1 => isI .i64 v1 fun n6 => frcB (ilt ii512 n6) fun t2 => Kb2 (DV.v (AV.b t2)) H1)
def g48x4 := isI .u32 v1 fun n1 => lc R1 fun d1 R2 => onV d1 fun v2 => isI .i64 v2 fun n2 => lc R2 fun d2 R3 => onV d2 fun v3 => isI .i64 v3 fun n3 => lc R3 fun d3 R4 => onV d3 fun v4 => isI .i64 v4 fun n4 => lc R4 fun d4 R5 => onV d4 fun v5 => isI .i64 v5 fun n5 => ln R5 <| frcB (ilt n4 ii1) fun t1 => jn (fun d5 H2 => g48x3 d5 n1 n2 n3 n4 n5 t1 H2 c1 Kb1) fun Kb2 => br t1 (Kb2 DV.n H1) (Kb2 (DV.v (AV.i .i64 n4)) H1)
/-- pool.New -/
def g48 : G DV := fun R1 H1 Kb1 => lc R1 fun d1 R2 => onV d1 fun v1 => g48x4 v1 R2 H1 c1 Kb1
def G48 : G DV := g48 G106

def g107x1 := jn (fun d2 H2 => pickK t1 (DV.v (AV.b true)) d2 fun d3 => onV d3 fun v1 => isB v1 fun t2 => br t2 (Kb1 (DV.c (DV.v (AV.p AP.nil)) (DV.c (DV.v (AV.er (nat_lit 2))) DV.n)) H2) (alB H2 (@T4.n AV (AV.i .i64 n1) (@T4.n AV (AV.i .i64 n1) te te te te) (@T4.n AV (AV.i .i64 n2) te te te te) (@T4.n AV yy3 te te te te) te) nn4 nn0 fun b1 H3 => Kb1 (DV.c (DV.v (AV.p (AP.at b1 nn0))) (DV.c (DV.v AV.ni) DV.n)) H3)) fun Kb2 => br t1 (Kb2 DV.n H1) (onV d1 fun v1 => isI .i64 v1 fun n3 => frcB (ilt ii64 n3) fun t2 => Kb2 (DV.v (AV.b t2)) H1)
def g107x2 := onV d1 fun v1 => isB v1 fun t1 => jn (fun d2 H2 => jn (fun d3 H3 => pickK t1 (DV.v (AV.b true)) d3 fun d4 => onV d4 fun v2 => isB v2 fun t2 => jn (fun d5 H4 => g107x1 d5 n1 n2 t2 H4 Kb1) fun Kb2 => br t2 (Kb2 DV.n H3) (Kb2 (DV.v (AV.i .i64 n2)) H3)) fun Kb2 => br t1 (Kb2 DV.n H2) (onV d2 fun v2 => isI .i64 v2 fun n3 => frcB (ilt n3 ii1) fun t2 => Kb2 (DV.v (AV.b t2)) H2)) fun Kb2 => br t1 (Kb2 DV.n H1) (Kb2 (DV.v (AV.i .i64 n2)) H1)
def g107x3 := lc R1 fun d1 R2 => onV d1 fun v1 => isI .i64 v1 fun n1 => lc R2 fun d2 R3 => onV d2 fun v2 => isI .i64 v2 fun n2 => ln R3 <| frcB (ilt n1 ii0) fun t1 => jn (fun d3 H2 => jn (fun d4 H3 => pickK t1 (DV.v (AV.b true)) d4 fun d5 => g107x2 d5 n1 n2 H3 Kb1) fun Kb2 => br t1 (Kb2 DV.n H2) (onV d3 fun v3 => isI .i64 v3 fun n3 => frcB (ile ii4096 n3) fun t2 => Kb2 (DV.v (AV.b t2)) H2)) fun Kb2 => br t1 (Kb2 DV.n H1) (Kb2 (DV.v (AV.i .i64 n1)) H1)
/-- win.New -/
def g107 : G DV := fun R1 H1 Kb1 => g107x3 R1 H1 Kb1
def G107 : G DV := g107

def g49x1 := br t1 (Kb1 (DV.c (DV.v (AV.p AP.nil)) (DV.c (DV.v v1) DV.n)) H1) (alB H1 (@T4.n AV (AV.p p1) (@T4.n AV (AV.i .i64 n1) (@T4.n AV yy0 te te te te) te te te) (@T4.n AV (AV.i .i64 n2) (@T4.n AV yy3 te te te te) te te te) (@T4.n AV (AV.i .i64 n3) (@T4.n AV yy2 te te te te) te te te) (@T4.n AV yy5 (@T4.n AV yy0 te te te te) te te te)) nn9 nn0 fun b1 H2 => Kb1 (DV.c (DV.v (AV.p (AP.at b1 nn0))) (DV.c (DV.v AV.ni) DV.n)) H2)
def g49x2 := jn (fun d2 H2 => pickK t1 (DV.v (AV.b true)) d2 fun d3 => onV d3 fun v1 => isB v1 fun t2 => br t2 (Kb1 (DV.c (DV.v (AV.p AP.nil)) (DV.c (DV.v (AV.er (nat_lit 2))) DV.n)) H2) (c1 [(DV.v (AV.i .i64 ii0)), (DV.v (AV.i .i64 ii1))] H2 fun d4 H3 => onC d4 fun d5 d6 => onV d5 fun v2 => isP v2 fun p1 => onC d6 fun d7 d8 => onV d7 fun v3 => onN d8 <| ifA true true v3 AV.ni fun t3 => frcB (bnot t3) fun t4 => g49x1 v3 n1 n2 n3 t4 p1 H3 Kb1)) fun Kb2 => br t1 (Kb2 DV.n H1) (onV d1 fun v1 => isI .i64 v1 fun n4 => frcB (ilt ii1099511627776 n4) fun t2 => Kb2 (DV.v (AV.b t2)) H1)
def g49x3 := isB v1 fun t1 => jn (fun d1 H2 => jn (fun d2 H3 => pickK t1 (DV.v (AV.b true)) d2 fun d3 => onV d3 fun v2 => isB v2 fun t2 => jn (fun d4 H4 => g49x2 d4 n1 n2 n3 t2 H4 c1 Kb1) fun Kb2 => br t2 (Kb2 DV.n H3) (Kb2 (DV.v (AV.i .i64 n3)) H3)) fun Kb2 => br t1 (Kb2 DV.n H2) (onV d1 fun v2 => isI .i64 v2 fun n4 => frcB (ilt n4 ii1) fun t2 => Kb2 (DV.v (AV.b t2)) H2)) fun Kb2 => br t1 (Kb2 DV.n H1) (Kb2 (DV.v (AV.i .i64 n3)) H1)
def g49x4 := jn (fun d2 H2 => pickK t1 (DV.v (AV.b true)) d2 fun d3 => onV d3 fun v1 => isB v1 fun t2 => jn (fun d4 H3 => jn (fun d5 H4 => pickK t2 (DV.v (AV.b true)) d5 fun d6 => onV d6 fun v2 => g49x3 v2 n1 n2 n3 H4 c1 Kb1) fun Kb2 => br t2 (Kb2 DV.n H3) (onV d4 fun v2 => isI .i64 v2 fun n4 => frcB (ilt ii15 n4) fun t3 => Kb2 (DV.v (AV.b t3)) H3)) fun Kb2 => br t2 (Kb2 DV.n H2) (Kb2 (DV.v (AV.i .i64 n2)) H2)) fun Kb2 => br t1 (Kb2 DV.n H1) (onV d1 fun v1 => isI .i64 v1 fun n4 => frcB (ilt n4 ii0) fun t2 => Kb2 (DV.v (AV.b t2)) H1)
def g49x5 := frcB (ilt n1 ii1) fun t1 => jn (fun d1 H2 => jn (fun d2 H3 => pickK t1 (DV.v (AV.b true)) d2 fun d3 => onV d3 fun v1 => isB v1 fun t2 => jn (fun d4 H4 => g49x4 d4 n1 n2 n3 t2 H4 c1 Kb1) fun Kb2 => br t2 (Kb2 DV.n H3) (Kb2 (DV.v (AV.i .i64 n2)) H3)) fun Kb2 => br t1 (Kb2 DV.n H2) (onV d1 fun v1 => isI .i64 v1 fun n4 => frcB (ilt ii64 n4) fun t2 => Kb2 (DV.v (AV.b t2)) H2)) fun Kb2 => br t1 (Kb2 DV.n H1) (Kb2 (DV.v (AV.i .i64 n1)) H1)
/-- ba.New -/
def g49 : G DV := fun R1 H1 Kb1 => lc R1 fun d1 R2 => onV d1 fun v1 => isI .i64 v1 fun n1 => lc R2 fun d2 R3 => onV d2 fun v2 => isI .i64 v2 fun n2 => lc R3 fun d3 R4 => onV d3 fun v3 => isI .i64 v3 fun n3 => ln R4 <| g49x5 n1 n2 n3 H1 c1 Kb1
def G49 : G DV := g49 G107

/-- aql.fair -/
def g108 : G DV := fun R1 H1 Kb1 => lc R1 fun d1 R2 => onV d1 fun v1 => isI .i64 v1 fun n1 => ln R2 <| frcB (ile ii0 n1) fun t1 => jn (fun d2 H2 => jn (fun d3 H3 => pickK t1 d3 (DV.v (AV.b false)) fun d4 => onV d4 fun v2 => isB v2 fun t2 => Kb1 (DV.v (AV.b t2)) H3) fun Kb2 => br t1 (onV d2 fun v2 => isI .i64 v2 fun n2 => frcB (ile n2 ii1099511627776) fun t2 => Kb2 (DV.v (AV.b t2)) H2) (Kb2 DV.n H2)) fun Kb2 => br t1 (Kb2 (DV.v (AV.i .i64 n1)) H1) (Kb2 DV.n H1)
def G108 : G DV := g108

def g50x1 := alB H1 (@T4.n AV (AV.i .i64 n1) (@T4.n AV (AV.i .i64 n2) (@T4.n AV yy0 te te te te) (@T4.n AV yy0 te te te te) (@T4.n AV yy0 te te te te) (@T4.n AV yy0 te te te te)) (@T4.n AV yy0 (@T4.n AV yy0 te te te te) (@T4.n AV yy0 te te te te) (@T4.n AV yy0 te te te te) te) (@T4.n AV yy0 (@T4.n AV yy0 te te te te) (@T4.n AV yy0 te te te te) (@T4.n AV yy0 te te te te) te) (@T4.n AV yy0 (@T4.n AV yy0 te te te te) (@T4.n AV yy0 te te te te) (@T4.n AV yy0 te te te te) te)) nn18 nn0 fun b1 H2 => Kb1 (DV.c (DV.v (AV.p (AP.at b1 nn0))) (DV.c (DV.v AV.ni) DV.n)) H2
def g50x2 := jn (fun d2 H2 => jn (fun d3 H3 => pickK t1 (DV.v (AV.b true)) d3 fun d4 => onV d4 fun v1 => isB v1 fun t2 => br t2 (Kb1 (DV.c (DV.v (AV.p AP.nil)) (DV.c (DV.v (AV.er (nat_lit 2))) DV.n)) H3) (g50x1 n1 n2 H3 Kb1)) fun Kb2 => br t1 (Kb2 DV.n H2) (onV d2 fun v1 => isB v1 fun t2 => frcB (bnot t2) fun t3 => Kb2 (DV.v (AV.b t3)) H2)) fun Kb2 => br t1 (Kb2 DV.n H1) (c1 [d1] H1 fun d2 H2 => onV d2 fun v1 => isB v1 fun t2 => Kb2 (DV.v (AV.b t2)) H2)
/-- aql.New -/
def g50 : G DV := fun R1 H1 Kb1 => lc R1 fun d1 R2 => onV d1 fun v1 => isI .i64 v1 fun n1 => lc R2 fun d2 R3 => onV d2 fun v2 => isI .i64 v2 fun n2 => ln R3 <| c1 [(DV.v (AV.i .i64 n1))] H1 fun d3 H2 => onV d3 fun v3 => isB v3 fun t1 => frcB (bnot t1) fun t2 => jn (fun d4 H3 => g50x2 d4 n1 n2 t2 H3 c1 Kb1) fun Kb2 => br t2 (Kb2 DV.n H2) (Kb2 (DV.v (AV.i .i64 n2)) H2)
def G50 : G DV := g50 G108

/-- ap.New$1 -/
def g51 : G DV := fun R1 H1 Kb1 => lc R1 fun d1 R2 => onV d1 fun v1 => isI .i64 v1 fun n1 => ln R2 <| frcB (ilt n1 ii0) fun t1 => jn (fun d2 H2 => jn (fun d3 H3 => pickK t1 (DV.v (AV.b true)) d3 fun d4 => onV d4 fun v2 => isB v2 fun t2 => Kb1 (DV.v (AV.b t2)) H3) fun Kb2 => br t1 (Kb2 DV.n H2) (onV d2 fun v2 => isI .i64 v2 fun n2 => frcB (ilt ii54840 n2) fun t2 => Kb2 (DV.v (AV.b t2)) H2)) fun Kb2 => br t1 (Kb2 DV.n H1) (Kb2 (DV.v (AV.i .i64 n1)) H1)
def G51 : G DV := g51

def g109x1 := frcB (ilt n1 (Int.ofNat m1)) fun t1 => br t1 (ixA s1 n1 (fun x => x) fun b1 m2 => rdK H1 b1 m2 fun v1 => isI .i64 v1 fun n2 => onV d1 fun v2 => fnK v2 fun m3 L1 L2 => lookD [((nat_lit 51) , c1)] m3 (appA (mapP L1) (appA [(DV.v (AV.i .i64 n2))] (mapP L2))) H1 fun d2 H2 => onV d2 fun v3 => isB v3 fun t2 => br t2 (Kb1 (DV.v (AV.i .i64 n1)) H2) (wrp .i64 (iadd n1 ii1) fun n3 => Kb2 (DV.v (AV.i .i64 n3)) H2)) (Kb1 (DV.v (AV.i .i64 im1)) H1)
/-- slices.IndexFunc[[]int64,int64] -/
def g109 : G DV := fun R1 H1 Kb1 => lc R1 fun d1 R2 => onV d1 fun v1 => isS v1 fun s1 => lc R2 fun d2 R3 => ln R3 <| lenA s1 fun m1 => lpR (failF [(8 , .int .i64)]) (fun Kb2 => fun d3 H2 => onV d3 fun v2 => isI .i64 v2 fun n1 => g109x1 d2 n1 m1 s1 H2 c1 Kb1 Kb2) (nat_lit 100000) (DV.v (AV.i .i64 ii0)) H1
def G109 : G DV := g109 G51

/-- slices.ContainsFunc[[]int64,int64] -/
def g52 : G DV := fun R1 H1 Kb1 => lc R1 fun d1 R2 => onV d1 fun v1 => isS v1 fun s1 => lc R2 fun d2 R3 => ln R3 <| c1 [(DV.v (AV.s s1)), d2] H1 fun d3 H2 => onV d3 fun v2 => isI .i64 v2 fun n1 => frcB (ile ii0 n1) fun t1 => Kb1 (DV.v (AV.b t1)) H2
def G52 : G DV := g52 G109

def z0 : List AV := [(AV.i .u8 ii0), (AV.i .u8 ii0), (AV.i .u8 ii0), (AV.i .u8 ii0), (AV.i .u8 ii0), (AV.i .u8 ii0)]
def g53x1 := jn (fun d1 H2 => jn (fun d2 H3 => jn (fun d3 H4 => pickK t1 d3 (DV.v (AV.b false)) fun d4 => onV d4 fun v1 => isB v1 fun t2 => Kb1 (DV.v (AV.b t2)) H4) fun Kb2 => br t1 (onL d1 fun l1 => onL d2 fun l2 => intsK .u8 l1 fun x1 => intsK .u8 l2 fun x2 => must (Nat.beq (leni x1) nn6) <| must (Nat.beq (leni x2) nn6) <| frcB (bnot (leqI x1 x2)) fun t2 => Kb2 (DV.v (AV.b t2)) H3) (Kb2 DV.n H3)) fun Kb2 => br t1 (Kb2 (DV.a z0) H2) (Kb2 DV.n H2)) fun Kb2 => br t1 (rdR H1 b1 nn0 nn6 fun l1 => Kb2 (DV.a l1) H1) (Kb2 DV.n H1)
/-- sta.Fair -/
def g53 : G DV := fun R1 H1 Kb1 => lc R1 fun d1 R2 => ln R2 <| cellsD d1 fun l1 => alK H1 l1 fun b1 H2 => rdK H2 b1 nn0 fun v1 => isI .u8 v1 fun n1 => asI (bits .and .u8 n1 ii1) fun n2 => frcB (ieq n2 ii0) fun t1 => g53x1 t1 b1 H2 Kb1
def G53 : G DV := g53

def g54x1 := alB H1 (@T4.n AV yy4 (@T4.n AV yy4 (@T4.n AV yy4 te te te te) (@T4.n AV yy4 te te te te) (@T4.n AV yy4 te te te te) te) (@T4.n AV yy4 (@T4.n AV yy4 te te te te) (@T4.n AV yy4 te te te te) (@T4.n AV yy4 te te te te) te) (@T4.n AV yy4 (@T4.n AV yy4 te te te te) (@T4.n AV yy4 te te te te) (@T4.n AV yy4 te te te te) te) (@T4.n AV yy4 (@T4.n AV yy4 te te te te) (@T4.n AV yy4 te te te te) (@T4.n AV (AV.p (AP.at b1 nn0)) te te te te) te)) nn17 nn0 fun b2 H2 => Kb1 (DV.v (AV.p (AP.at b2 nn0))) H2
/-- sched.New -/
def g54 : G DV := fun R1 H1 Kb1 => ln R1 <| alB H1 (@T4.n AV yy3 te te te te) nn1 nn0 fun b1 H2 => g54x1 b1 H2 Kb1
def G54 : G DV := g54

def g24x1 := alK H1 (lapp l1 ((AV.i .i64 ii0) :: ((AV.b false) :: ((AV.i .u8 ii0) :: ((AV.i .u8 ii0) :: ((AV.i .u8 ii0) :: ((AV.i .u8 ii0) :: ((AV.i .u8 ii0) :: ((AV.i .u8 ii0) :: ((AV.i .i64 ii0) :: ((AV.b false) :: ((AV.i .u8 ii0) :: ((AV.i .u8 ii0) :: ((AV.i .u8 ii0) :: ((AV.i .u8 ii0) :: ((AV.i .u8 ii0) :: ((AV.i .u8 ii0) :: ((AV.i .i64 ii0) :: ((AV.b false) :: ((AV.i .u8 ii0) :: ((AV.i .u8 ii0) :: ((AV.i .u8 ii0) :: ((AV.i .u8 ii0) :: ((AV.i .u8 ii0) :: ((AV.i .u8 ii0) :: ((AV.i .i64 ii0) :: ((AV.b false) :: ((AV.i .u8 ii0) :: ((AV.i .u8 ii0) :: ((AV.i .u8 ii0) :: ((AV.i .u8 ii0) :: ((AV.i .u8 ii0) :: ((AV.i .u8 ii0) :: ((AV.i .i64 ii0) :: ((AV.b false) :: ((AV.i .u8 ii0) :: ((AV.i .u8 ii0) :: ((AV.i .u8 ii0) :: ((AV.i .u8 ii0) :: ((AV.i .u8 ii0) :: ((AV.i .u8 ii0) :: ((AV.i .i64 ii0) :: ((AV.b false) :: ((AV.i .u8 ii0) :: ((AV.i .u8 ii0) :: ((AV.i .u8 ii0) :: ((AV.i .u8 ii0) :: ((AV.i .u8 ii0) :: ((AV.i .u8 ii0) :: ((AV.i .i64 ii0) :: ((AV.b false) :: ((AV.i .u8 ii0) :: ((AV.i .u8 ii0) :: ((AV.i .u8 ii0) :: ((AV.i .u8 ii0) :: ((AV.i .u8 ii0) :: ((AV.i .u8 ii0) :: ((AV.i .i64 ii0) :: ((AV.b false) :: ((AV.i .u8 ii0) :: ((AV.i .u8 ii0) :: ((AV.i .u8 ii0) :: ((AV.i .u8 ii0) :: ((AV.i .u8 ii0) :: ((AV.i .u8 ii0) :: ((AV.i .i64 ii0) :: ((AV.b false) :: ((AV.i .u8 ii0) :: ((AV.i .u8 ii0) :: ((AV.i .u8 ii0) :: ((AV.i .u8 ii0) :: ((AV.i .u8 ii0) :: ((AV.i .u8 ii0) :: ((AV.i .i64 ii0) :: ((AV.b false) :: ((AV.i .u8 ii0) :: ((AV.i .u8 ii0) :: ((AV.i .u8 ii0) :: ((AV.i .u8 ii0) :: ((AV.i .u8 ii0) :: ((AV.i .u8 ii0) :: ((AV.i .i64 ii0) :: ((AV.b false) :: ((AV.i .u8 ii0) :: ((AV.i .u8 ii0) :: ((AV.i .u8 ii0) :: ((AV.i .u8 ii0) :: ((AV.i .u8 ii0) :: ((AV.i .u8 ii0) :: ((AV.i .i64 ii0) :: ((AV.b false) :: ((AV.i .u8 ii0) :: ((AV.i .u8 ii0) :: ((AV.i .u8 ii0) :: ((AV.i .u8 ii0) :: ((AV.i .u8 ii0) :: ((AV.i .u8 ii0) :: ((AV.i .i64 ii0) :: ((AV.b false) :: ((AV.i .u8 ii0) :: ((AV.i .u8 ii0) :: ((AV.i .u8 ii0) :: ((AV.i .u8 ii0) :: ((AV.i .u8 ii0) :: ((AV.i .u8 ii0) :: ((AV.i .i64 ii0) :: ((AV.b false) :: ((AV.i .u8 ii0) :: ((AV.i .u8 ii0) :: ((AV.i .u8 ii0) :: ((AV.i .u8 ii0) :: ((AV.i .u8 ii0) :: ((AV.i .u8 ii0) :: ((AV.i .i64 ii0) :: ((AV.b false) :: ((AV.i .u8 ii0) :: ((AV.i .u8 ii0) :: ((AV.i .u8 ii0) :: ((AV.i .u8 ii0) :: ((AV.i .u8 ii0) :: ((AV.i .u8 ii0) :: ((AV.i .i64 ii0) :: ((AV.b false) :: ((AV.i .u8 ii0) :: ((AV.i .u8 ii0) :: ((AV.i .u8 ii0) :: ((AV.i .u8 ii0) :: ((AV.i .u8 ii0) :: ((AV.i .u8 ii0) :: ((AV.i .i64 ii0) :: ((AV.b false) :: ((AV.b false) :: ((AV.b false) :: ((AV.b false) :: ((AV.b false) :: ((AV.b false) :: ((AV.b false) :: ((AV.b false) :: ((AV.i .i64 ii0) :: ((AV.i .i64 ii0) :: ((AV.b false) :: ((AV.b false) :: ((AV.b false) :: ((AV.b false) :: ((AV.b false) :: ((AV.b false) :: ((AV.b false) :: ((AV.b false) :: ((AV.i .i64 ii0) :: ((AV.i .i64 ii0) :: ((AV.b false) :: ((AV.b false) :: ((AV.b false) :: ((AV.b false) :: ((AV.b false) :: ((AV.b false) :: ((AV.b false) :: ((AV.b false) :: ((AV.i .i64 ii0) :: ((AV.i .i64 ii0) :: ((AV.b false) :: ((AV.b false) :: ((AV.b false) :: ((AV.b false) :: ((AV.b false) :: ((AV.b false) :: ((AV.b false) :: ((AV.b false) :: ((AV.i .i64 ii0) :: ((AV.i .i64 ii0) :: ((AV.b false) :: ((AV.b false) :: ((AV.b false) :: ((AV.b false) :: ((AV.b false) :: ((AV.b false) :: ((AV.b false) :: ((AV.b false) :: ((AV.i .i64 ii0) :: ((AV.i .i64 ii0) :: ((AV.b false) :: ((AV.b false) :: ((AV.b false) :: ((AV.b false) :: ((AV.b false) :: ((AV.b false) :: ((AV.b false) :: ((AV.b false) :: ((AV.i .i64 ii0) :: ((AV.i .i64 ii0) :: ((AV.b false) :: ((AV.b false) :: ((AV.b false) :: ((AV.b false) :: ((AV.b false) :: ((AV.b false) :: ((AV.b false) :: ((AV.b false) :: ((AV.i .i64 ii0) :: ((AV.i .i64 ii0) :: ((AV.b false) :: ((AV.b false) :: ((AV.b false) :: ((AV.b false) :: ((AV.b false) :: ((AV.b false) :: ((AV.b false) :: ((AV.b false) :: ((AV.i .i64 ii0) :: ((AV.i .i64 ii0) :: ((AV.b false) :: ((AV.b false) :: ((AV.b false) :: ((AV.b false) :: ((AV.b false) :: ((AV.b false) :: ((AV.b false) :: ((AV.b false) :: ((AV.i .i64 ii0) :: ((AV.i .i64 ii0) :: ((AV.b false) :: ((AV.b false) :: ((AV.b false) :: ((AV.b false) :: ((AV.b false) :: ((AV.b false) :: ((AV.b false) :: ((AV.b false) :: ((AV.i .i64 ii0) :: ((AV.i .i64 ii0) :: ((AV.b false) :: ((AV.b false) :: ((AV.b false) :: ((AV.b false) :: ((AV.b false) :: ((AV.b false) :: ((AV.b false) :: ((AV.b false) :: ((AV.i .i64 ii0) :: ((AV.i .i64 ii0) :: ((AV.b false) :: ((AV.b false) :: ((AV.b false) :: ((AV.b false) :: ((AV.b false) :: ((AV.b false) :: ((AV.b false) :: ((AV.b false) :: ((AV.i .i64 ii0) :: ((AV.i .i64 ii0) :: ((AV.b false) :: ((AV.b false) :: ((AV.b false) :: ((AV.b false) :: ((AV.b false) :: ((AV.b false) :: ((AV.b false) :: ((AV.b false) :: ((AV.i .i64 ii0) :: ((AV.i .i64 ii0) :: ((AV.b false) :: ((AV.b false) :: ((AV.b false) :: ((AV.b false) :: ((AV.b false) :: ((AV.b false) :: ((AV.b false) :: ((AV.b false) :: ((AV.i .i64 ii0) :: ((AV.i .i64 ii0) :: ((AV.b false) :: ((AV.b false) :: ((AV.b false) :: ((AV.b false) :: ((AV.b false) :: ((AV.b false) :: ((AV.b false) :: ((AV.b false) :: ((AV.i .i64 ii0) :: ((AV.i .i64 ii0) :: ((AV.b false) :: ((AV.b false) :: ((AV.b false) :: ((AV.b false) :: ((AV.b false) :: ((AV.b false) :: ((AV.b false) :: ((AV.b false) :: ((AV.i .i64 ii0) :: ((AV.i .i64 ii0) :: ((AV.s AS.nil) :: ((AV.p p1) :: ((AV.p p2) :: ((AV.p AP.nil) :: ((AV.p AP.nil) :: ((AV.p AP.nil) :: ((AV.p AP.nil) :: ((AV.b false) :: ((AV.i .i64 ii0) :: ((AV.i .i64 ii0) :: ((AV.b false) :: ((AV.i .i64 ii0) :: ((AV.i .i64 ii0) :: ((AV.b false) :: ((AV.i .i64 ii0) :: ((AV.i .i64 ii0) :: ((AV.b false) :: ((AV.i .i64 ii0) :: ((AV.i .i64 ii0) :: ((AV.p AP.nil) :: ((AV.p AP.nil) :: ((AV.p AP.nil) :: ((AV.p AP.nil) :: ((AV.p AP.nil) :: ((AV.p AP.nil) :: ((AV.p AP.nil) :: ((AV.p AP.nil) :: ((AV.p AP.nil) :: ((AV.p AP.nil) :: ((AV.p AP.nil) :: ((AV.p AP.nil) :: ((AV.p AP.nil) :: ((AV.p AP.nil) :: ((AV.p AP.nil) :: ((AV.p AP.nil) :: ((AV.i .i64 ii0) :: ((AV.s AS.nil) :: []))))))))))))))))))))))))))))))))))))))))))))))))))))))))))))))))))))))))))))))))))))))))))))))))))))))))))))))))))))))))))))))))))))))))))))))))))))))))))))))))))))))))))))))))))))))))))))))))))))))))))))))))))))))))))))))))))))))))))))))))))))))))))))))))))))))))))))))))))))))))))))))))))))))))))))))))))))))))))))))))))))))) fun b1 H2 => lpR (failF [(99 , .int .i64)]) (fun Kb2 => fun d1 H3 => onV d1 fun v1 => isI .i64 v1 fun n1 => frcB (ilt n1 ii4) fun t1 => br t1 (c1 [] H3 fun d2 H4 => onV d2 fun v2 => isP v2 fun p3 => rng n1 nn4 <| wrK H4 b1 (Nat.add nn313 (itn n1)) (AV.p p3) fun H5 => wrp .i64 (iadd n1 ii1) fun n2 => Kb2 (DV.v (AV.i .i64 n2)) H5) (Kb1 (DV.c (DV.v (AV.p (AP.at b1 nn0))) (DV.c (DV.v AV.ni) DV.n)) H3)) (nat_lit 100000) (DV.v (AV.i .i64 ii0)) H2
def g24x2 := jn (fun d2 H2 => jn (fun d3 H3 => pickK t1 (DV.v (AV.b true)) d3 fun d4 => onV d4 fun v1 => isB v1 fun t2 => br t2 (Kb1 (DV.c (DV.v (AV.p AP.nil)) (DV.c (DV.v (AV.er (nat_lit 2))) DV.n)) H3) (rdR H3 b1 nn0 nn21 fun l1 => must (Nat.beq (llen l1) nn21) <| g24x1 l1 p1 p2 H3 c1 Kb1)) fun Kb2 => br t1 (Kb2 DV.n H2) (onV d2 fun v1 => isB v1 fun t2 => frcB (bnot t2) fun t3 => Kb2 (DV.v (AV.b t3)) H2)) fun Kb2 => br t1 (Kb2 DV.n H1) (c2 [d1] H1 fun d2 H2 => onV d2 fun v1 => isB v1 fun t2 => Kb2 (DV.v (AV.b t2)) H2)
def g24x3 := jn (fun d3 H2 => pickK t1 (DV.v (AV.b true)) d3 fun d4 => onV d4 fun v1 => isB v1 fun t2 => jn (fun d5 H3 => jn (fun d6 H4 => g24x2 d6 t2 p1 p2 b1 H4 c1 c2 Kb1) fun Kb2 => br t2 (Kb2 DV.n H3) (onV d5 fun v2 => isP v2 fun p3 => onA p3 fun b2 m1 => rdR H3 b2 m1 nn6 fun l1 => Kb2 (DV.a l1) H3)) fun Kb2 => br t2 (Kb2 DV.n H2) (Kb2 (DV.v (AV.p (AP.at b1 nn0))) H2)) fun Kb2 => br t1 (Kb2 DV.n H1) (c3 [d1, d2] H1 fun d3 H2 => onV d3 fun v1 => isB v1 fun t2 => Kb2 (DV.v (AV.b t2)) H2)
def g24x4 := pickK t1 (DV.v (AV.b true)) d1 fun d2 => onV d2 fun v1 => isB v1 fun t2 => jn (fun d3 H2 => jn (fun d4 H3 => jn (fun d5 H4 => g24x3 d4 d5 t2 p1 p2 b1 H4 c1 c2 c3 Kb1) fun Kb2 => br t2 (Kb2 DV.n H3) (Kb2 (DV.v (AV.fn (nat_lit 51) [])) H3)) fun Kb2 => br t2 (Kb2 DV.n H2) (onV d3 fun v2 => isP v2 fun p3 => onA p3 fun b2 m1 => Kb2 (DV.v (AV.s (AS.sl b2 m1 nn4 nn4))) H2)) fun Kb2 => br t2 (Kb2 DV.n H1) (Kb2 (DV.v (AV.p (AP.at b1 nn15))) H1)
def g24x5 := jn (fun d1 H2 => jn (fun d2 H3 => jn (fun d3 H4 => g24x4 d3 t1 p1 p2 b1 H4 c1 c2 c3 Kb1) fun Kb2 => br t1 (Kb2 DV.n H3) (onV d2 fun v1 => isI .i64 v1 fun n1 => frcB (ilt ii65535 n1) fun t2 => Kb2 (DV.v (AV.b t2)) H3)) fun Kb2 => br t1 (Kb2 DV.n H2) (onV d1 fun v1 => isP v1 fun p3 => onA p3 fun b2 m1 => rdK H2 b2 m1 fun v2 => isI .i64 v2 fun n1 => Kb2 (DV.v (AV.i .i64 n1)) H2)) fun Kb2 => br t1 (Kb2 DV.n H1) (Kb2 (DV.v (AV.p (AP.at b1 nn14))) H1)
def g24x6 := jn (fun d2 H2 => jn (fun d3 H3 => pickK t1 (DV.v (AV.b true)) d3 fun d4 => onV d4 fun v1 => isB v1 fun t2 => g24x5 t2 p1 p2 b1 H3 c1 c2 c3 Kb1) fun Kb2 => br t1 (Kb2 DV.n H2) (onV d2 fun v1 => isI .i64 v1 fun n1 => frcB (ilt n1 ii1) fun t2 => Kb2 (DV.v (AV.b t2)) H2)) fun Kb2 => br t1 (Kb2 DV.n H1) (onV d1 fun v1 => isP v1 fun p3 => onA p3 fun b2 m1 => rdK H1 b2 m1 fun v2 => isI .i64 v2 fun n1 => Kb2 (DV.v (AV.i .i64 n1)) H1)
def g24x7 := jn (fun d2 H2 => jn (fun d3 H3 => pickK t1 (DV.v (AV.b true)) d3 fun d4 => onV d4 fun v1 => isB v1 fun t2 => jn (fun d5 H4 => g24x6 d5 t2 p1 p2 b1 H4 c1 c2 c3 Kb1) fun Kb2 => br t2 (Kb2 DV.n H3) (Kb2 (DV.v (AV.p (AP.at b1 nn14))) H3)) fun Kb2 => br t1 (Kb2 DV.n H2) (onV d2 fun v1 => isI .i64 v1 fun n1 => frcB (ilt ii1073741824 n1) fun t2 => Kb2 (DV.v (AV.b t2)) H2)) fun Kb2 => br t1 (Kb2 DV.n H1) (onV d1 fun v1 => isP v1 fun p3 => onA p3 fun b2 m1 => rdK H1 b2 m1 fun v2 => isI .i64 v2 fun n1 => Kb2 (DV.v (AV.i .i64 n1)) H1)
def g24x8 := jn (fun d2 H2 => jn (fun d3 H3 => pickK t1 (DV.v (AV.b true)) d3 fun d4 => onV d4 fun v1 => isB v1 fun t2 => jn (fun d5 H4 => g24x7 d5 t2 p1 p2 b1 H4 c1 c2 c3 Kb1) fun Kb2 => br t2 (Kb2 DV.n H3) (Kb2 (DV.v (AV.p (AP.at b1 nn10))) H3)) fun Kb2 => br t1 (Kb2 DV.n H2) (onV d2 fun v1 => isI .i64 v1 fun n1 => frcB (ilt n1 ii0) fun t2 => Kb2 (DV.v (AV.b t2)) H2)) fun Kb2 => br t1 (Kb2 DV.n H1) (onV d1 fun v1 => isP v1 fun p3 => onA p3 fun b2 m1 => rdK H1 b2 m1 fun v2 => isI .i64 v2 fun n1 => Kb2 (DV.v (AV.i .i64 n1)) H1)
def g24x9 := jn (fun d2 H2 => jn (fun d3 H3 => pickK t1 (DV.v (AV.b true)) d3 fun d4 => onV d4 fun v1 => isB v1 fun t2 => jn (fun d5 H4 => g24x8 d5 t2 p1 p2 b1 H4 c1 c2 c3 Kb1) fun Kb2 => br t2 (Kb2 DV.n H3) (Kb2 (DV.v (AV.p (AP.at b1 nn10))) H3)) fun Kb2 => br t1 (Kb2 DV.n H2) (onV d2 fun v1 => isI .i64 v1 fun n1 => frcB (ilt ii1073741824 n1) fun t2 => Kb2 (DV.v (AV.b t2)) H2)) fun Kb2 => br t1 (Kb2 DV.n H1) (onV d1 fun v1 => isP v1 fun p3 => onA p3 fun b2 m1 => rdK H1 b2 m1 fun v2 => isI .i64 v2 fun n1 => Kb2 (DV.v (AV.i .i64 n1)) H1)
def g24x10 := onC d1 fun d2 d3 => onV d2 fun v1 => isP v1 fun p2 => onC d3 fun d4 d5 => onV d4 fun v2 => onN d5 <| ifA true true v2 AV.ni fun t1 => frcB (bnot t1) fun t2 => br t2 (Kb1 (DV.c (DV.v (AV.p AP.nil)) (DV.c (DV.v v2) DV.n)) H1) (rdK H1 b1 nn9 fun v3 => isI .i64 v3 fun n1 => frcB (ilt n1 ii0) fun t3 => jn (fun d6 H2 => g24x9 d6 t3 p1 p2 b1 H2 c1 c2 c3 Kb1) fun Kb2 => br t3 (Kb2 DV.n H1) (Kb2 (DV.v (AV.p (AP.at b1 nn9))) H1))
def g24x11 := onC d1 fun d2 d3 => onV d2 fun v1 => isP v1 fun p2 => onC d3 fun d4 d5 => onV d4 fun v2 => onN d5 <| ifA true true v2 AV.ni fun t1 => frcB (bnot t1) fun t2 => br t2 (Kb1 (DV.c (DV.v (AV.p AP.nil)) (DV.c (DV.v v2) DV.n)) H1) (rdK H1 b1 nn19 fun v3 => isI .i64 v3 fun n1 => rdK H1 b1 nn20 fun v4 => isI .i64 v4 fun n2 => c1 [(DV.v (AV.i .i64 n1)), (DV.v (AV.i .i64 n2))] H1 fun d6 H2 => g24x10 d6 p1 b1 H2 c2 c3 c4 Kb1)
def g24x12 := onV d1 fun v1 => onN d2 <| ifA true true v1 AV.ni fun t1 => frcB (bnot t1) fun t2 => br t2 (Kb1 (DV.c (DV.v (AV.p AP.nil)) (DV.c (DV.v v1) DV.n)) H1) (rdK H1 b1 nn11 fun v2 => isI .i64 v2 fun n1 => rdK H1 b1 nn12 fun v3 => isI .i64 v3 fun n2 => rdK H1 b1 nn13 fun v4 => isI .i64 v4 fun n3 => c1 [(DV.v (AV.i .i64 n1)), (DV.v (AV.i .i64 n2)), (DV.v (AV.i .i64 n3))] H1 fun d3 H2 => g24x11 d3 p1 b1 H2 c2 c3 c4 c5 Kb1)
def g24x13 := isI .i64 v1 fun n2 => rdK H1 b1 nn10 fun v2 => isI .i64 v2 fun n3 => rdK H1 b1 nn7 fun v3 => isI .i64 v3 fun n4 => rdK H1 b1 nn8 fun v4 => isI .i64 v4 fun n5 => c1 [(DV.v (AV.i .u32 n1)), (DV.v (AV.i .i64 n2)), (DV.v (AV.i .i64 n3)), (DV.v (AV.i .i64 n4)), (DV.v (AV.i .i64 n5))] H1 fun d1 H2 => onC d1 fun d2 d3 => onV d2 fun v5 => isP v5 fun p1 => onC d3 fun d4 d5 => g24x12 d4 d5 p1 b1 H2 c2 c3 c4 c5 c6 Kb1
/-- ap.New -/
def g24 : G DV := fun R1 H1 Kb1 => lc R1 fun d1 R2 => ln R2 <| cellsD d1 fun l1 => alK H1 l1 fun b1 H2 => rdK H2 b1 nn6 fun v1 => isI .u32 v1 fun n1 => rdK H2 b1 nn9 fun v2 => g24x13 v2 n1 b1 H2 c1 c2 c3 c6 c5 c4 Kb1
def G24 : G DV := g24 G48 G49 G50 G52 G53 G54

def z1 : List AV := [(AV.b false), (AV.i .i64 ii0), (AV.i .i64 ii0), (AV.i .i64 ii0), (AV.i .u64 ii0), (AV.mp AP.nil), (AV.b false), (AV.i .i64 ii0), (AV.b false), (AV.i .i64 ii0), (AV.i .i64 ii0), (AV.i .i64 ii0), (AV.i .u64 ii0), (AV.mp AP.nil), (AV.b false), (AV.i .i64 ii0), (AV.b false), (AV.i .i64 ii0), (AV.i .i64 ii0), (AV.i .i64 ii0), (AV.i .u64 ii0), (AV.mp AP.nil), (AV.b false), (AV.i .i64 ii0), (AV.b false), (AV.i .i64 ii0), (AV.i .i64 ii0), (AV.i .i64 ii0), (AV.i .u64 ii0), (AV.mp AP.nil), (AV.b false), (AV.i .i64 ii0), (AV.b false), (AV.i .i64 ii0), (AV.i .i64 ii0), (AV.i .i64 ii0), (AV.i .u64 ii0), (AV.mp AP.nil), (AV.b false), (AV.i .i64 ii0), (AV.b false), (AV.i .i64 ii0), (AV.i .i64 ii0), (AV.i .i64 ii0), (AV.i .u64 ii0), (AV.mp AP.nil), (AV.b false), (AV.i .i64 ii0), (AV.b false), (AV.i .i64 ii0), (AV.i .i64 ii0), (AV.i .i64 ii0), (AV.i .u64 ii0), (AV.mp AP.nil), (AV.b false), (AV.i .i64 ii0), (AV.b false), (AV.i .i64 ii0), (AV.i .i64 ii0), (AV.i .i64 ii0), (AV.i .u64 ii0), (AV.mp AP.nil), (AV.b false), (AV.i .i64 ii0)]
def g25x1 := jn (fun d2 H2 => pickK t1 (DV.v (AV.b true)) d2 fun d3 => onV d3 fun v1 => isB v1 fun t2 => br t2 (Kb1 (DV.c (DV.v (AV.p AP.nil)) (DV.c (DV.v (AV.er (nat_lit 2))) DV.n)) H2) (rdR H2 b1 nn0 nn6 fun l1 => rdR H2 b2 nn0 nn6 fun l2 => must (Nat.beq (llen l1) nn6) <| must (Nat.beq (llen l2) nn6) <| alK H2 (lapp l1 (lapp l2 ((AV.i .i64 n1) :: z1))) fun b3 H3 => Kb1 (DV.c (DV.v (AV.p (AP.at b3 nn0))) (DV.c (DV.v AV.ni) DV.n)) H3)) fun Kb2 => br t1 (Kb2 DV.n H1) (onV d1 fun v1 => isI .i64 v1 fun n2 => frcB (ilt ii64 n2) fun t2 => Kb2 (DV.v (AV.b t2)) H1)
/-- recv.New -/
def g25 : G DV := fun R1 H1 Kb1 => lc R1 fun d1 R2 => lc R2 fun d2 R3 => lc R3 fun d3 R4 => onV d3 fun v1 => isI .i64 v1 fun n1 => ln R4 <| cellsD d1 fun l1 => alK H1 l1 fun b1 H2 => cellsD d2 fun l2 => alK H2 l2 fun b2 H3 => frcB (ilt n1 ii1) fun t1 => jn (fun d4 H4 => g25x1 d4 n1 t1 b1 b2 H4 Kb1) fun Kb2 => br t1 (Kb2 DV.n H3) (Kb2 (DV.v (AV.i .i64 n1)) H3)
def G25 : G DV := g25

def z2 : T4 AV := (@T4.n AV yy6 (@T4.n AV yy6 (@T4.n AV yy6 te te te te) te te te) (@T4.n AV yy6 te te te te) (@T4.n AV yy6 te te te te) (@T4.n AV yy6 te te te te))
/-- lab.addr -/
def g26 : G DV := fun R1 H1 Kb1 => lc R1 fun d1 R2 => onV d1 fun v1 => isI .i64 v1 fun n1 => ln R2 <| alB H1 z2 nn6 nn0 fun b1 H2 => wrp .u8 n1 fun n2 => wrL H2 b1 nn0 [(AV.i .u8 ii2), (AV.i .u8 ii0), (AV.i .u8 ii0), (AV.i .u8 ii0), (AV.i .u8 ii0), (AV.i .u8 n2)] fun H3 => rdR H3 b1 nn0 nn6 fun l1 => Kb1 (DV.a l1) H3
def G26 : G DV := g26

def g11x1 := alK H1 (lapp l1 ((AV.i .i64 n1) :: ((AV.p p1) :: ((AV.i .i64 ii0) :: ((AV.i .i64 ii0) :: ((AV.p AP.nil) :: ((AV.s AS.nil) :: ((AV.s AS.nil) :: ((AV.i .i64 ii0) :: ((AV.p AP.nil) :: ((AV.s AS.nil) :: ((AV.s AS.nil) :: ((AV.i .i64 ii0) :: ((AV.p AP.nil) :: ((AV.s AS.nil) :: ((AV.s AS.nil) :: ((AV.i .i64 ii0) :: ((AV.p AP.nil) :: ((AV.s AS.nil) :: ((AV.s AS.nil) :: ((AV.i .i64 ii0) :: ((AV.p AP.nil) :: ((AV.s AS.nil) :: ((AV.s AS.nil) :: ((AV.i .i64 ii0) :: ((AV.p AP.nil) :: ((AV.s AS.nil) :: ((AV.s AS.nil) :: ((AV.i .i64 ii0) :: ((AV.p AP.nil) :: ((AV.s AS.nil) :: ((AV.s AS.nil) :: ((AV.i .i64 ii0) :: ((AV.p AP.nil) :: ((AV.s AS.nil) :: ((AV.s AS.nil) :: ((AV.i .i64 ii0) :: ((AV.p AP.nil) :: ((AV.s AS.nil) :: ((AV.s AS.nil) :: ((AV.i .i64 ii0) :: ((AV.p AP.nil) :: ((AV.s AS.nil) :: ((AV.s AS.nil) :: ((AV.i .i64 ii0) :: ((AV.p AP.nil) :: ((AV.s AS.nil) :: ((AV.s AS.nil) :: ((AV.i .i64 ii0) :: ((AV.p AP.nil) :: ((AV.s AS.nil) :: ((AV.s AS.nil) :: ((AV.i .i64 ii0) :: ((AV.p AP.nil) :: ((AV.s AS.nil) :: ((AV.s AS.nil) :: ((AV.i .i64 ii0) :: ((AV.p AP.nil) :: ((AV.s AS.nil) :: ((AV.s AS.nil) :: ((AV.i .i64 ii0) :: ((AV.p AP.nil) :: ((AV.s AS.nil) :: ((AV.s AS.nil) :: ((AV.i .i64 ii0) :: ((AV.p AP.nil) :: ((AV.s AS.nil) :: ((AV.s AS.nil) :: ((AV.i .i64 ii0) :: ((AV.i .i64 ii0) :: ((AV.i .i64 ii0) :: ((AV.i .i64 ii0) :: ((AV.i .i64 ii0) :: ((AV.i .i64 ii0) :: ((AV.b false) :: ((AV.s AS.nil) :: ((AV.i .i64 ii0) :: ((AV.i .i64 ii0) :: ((AV.b false) :: []))))))))))))))))))))))))))))))))))))))))))))))))))))))))))))))))))))))))))))))) fun b1 H2 => Kb1 (DV.c (DV.v (AV.p (AP.at b1 nn0))) (DV.c (DV.v AV.ni) DV.n)) H2
def g11x2 := rdR H1 b1 nn0 nn6 fun l3 => must (aleq l1 l3) <| c1 [(DV.a l2), (DV.a l1), (DV.v (AV.i .i64 n1))] H1 fun d1 H2 => onC d1 fun d2 d3 => onV d2 fun v1 => isP v1 fun p2 => onC d3 fun d4 d5 => onV d4 fun v2 => onN d5 <| ifA true true v2 AV.ni fun t1 => frcB (bnot t1) fun t2 => br t2 (Kb1 (DV.c (DV.v (AV.p AP.nil)) (DV.c (DV.v v2) DV.n)) H2) (rdR H2 b1 nn0 nn21 fun l4 => must (Nat.beq (llen l4) nn21) <| g11x1 l4 n1 p1 H2 Kb1)
def g11x3 := rdR H1 b1 nn0 nn21 fun l1 => c1 [(DV.a l1)] H1 fun d1 H2 => onC d1 fun d2 d3 => onV d2 fun v1 => isP v1 fun p1 => onC d3 fun d4 d5 => onV d4 fun v2 => onN d5 <| ifA true true v2 AV.ni fun t1 => frcB (bnot t1) fun t2 => br t2 (Kb1 (DV.c (DV.v (AV.p AP.nil)) (DV.c (DV.v v2) DV.n)) H2) (rdR H2 b1 nn0 nn6 fun l2 => c2 [(DV.v (AV.i .i64 ii0))] H2 fun d6 H3 => onL d6 fun l3 => g11x2 l2 l3 n1 p1 b1 H3 c3 Kb1)
/-- lab.New -/
def g11 : G DV := fun R1 H1 Kb1 => lc R1 fun d1 R2 => lc R2 fun d2 R3 => onV d2 fun v1 => isI .i64 v1 fun n1 => ln R3 <| cellsD d1 fun l1 => alK H1 l1 fun b1 H2 => g11x3 n1 b1 H2 c1 c3 c2 Kb1
def G11 : G DV := g11 G24 G25 G26

def z3 : List AV := [(AV.i .u8 ii2), (AV.i .u8 ii0), (AV.i .u8 ii0), (AV.i .u8 ii0), (AV.i .u8 ii1), (AV.i .u8 ii0), (AV.i .u32 ii1), (AV.i .i64 ii64), (AV.i .i64 ii100000), (AV.i .i64 ii50000), (AV.i .i64 ii1000000), (AV.i .i64 ii16), (AV.i .i64 ii3), (AV.i .i64 ii10000000), (AV.i .i64 ii20000), (AV.i .i64 ii0), (AV.i .i64 ii0), (AV.i .i64 ii0), (AV.i .i64 ii0), (AV.i .i64 ii100000), (AV.i .i64 ii200000)]
/-- desk.New -/
def g5 : G DV := fun R1 H1 Kb1 => ln R1 <| c1 [(DV.a z3), (DV.v (AV.i .i64 ii16))] H1 fun d1 H2 => onC d1 fun d2 d3 => onV d2 fun v1 => isP v1 fun p1 => onC d3 fun d4 d5 => onV d4 fun v2 => onN d5 <| ifA true true v2 AV.ni fun t1 => frcB (bnot t1) fun t2 => br t2 (Kb1 (DV.v (AV.p AP.nil)) H2) (alB H2 (@T4.n AV (AV.p p1) te te te te) nn1 nn0 fun b1 H3 => Kb1 (DV.v (AV.p (AP.at b1 nn0))) H3)
def G5 : G DV := g5 G11

/-- (*desk.Desk).Line$1 -/
def g14 : G DV := fun R1 H1 Kb1 => lc R1 fun d1 R2 => onV d1 fun v1 => isG v1 fun x1 => ln R2 <| frcB (leqI x1 List.nil) fun t1 => Kb1 (DV.v (AV.b t1)) H1
def G14 : G DV := g14

def g27x1 := frcB (ilt n1 (Int.ofNat m1)) fun t1 => br t1 (ixA s1 n1 (fun x => x) fun b1 m2 => rdK H1 b1 m2 fun v1 => isG v1 fun x1 => onV d1 fun v2 => fnK v2 fun m3 L1 L2 => lookD [((nat_lit 14) , c1)] m3 (appA (mapP L1) (appA [(DV.v (AV.g x1))] (mapP L2))) H1 fun d2 H2 => onV d2 fun v3 => isB v3 fun t2 => br t2 (Kb1 (DV.v (AV.i .i64 n1)) H2) (wrp .i64 (iadd n1 ii1) fun n2 => Kb2 (DV.v (AV.i .i64 n2)) H2)) (Kb1 (DV.v (AV.i .i64 im1)) H1)
/-- slices.IndexFunc[[]string,string] -/
def g27 : G DV := fun R1 H1 Kb1 => lc R1 fun d1 R2 => onV d1 fun v1 => isS v1 fun s1 => lc R2 fun d2 R3 => ln R3 <| lenA s1 fun m1 => lpR (failF [(8 , .int .i64)]) (fun Kb2 => fun d3 H2 => onV d3 fun v2 => isI .i64 v2 fun n1 => g27x1 d2 n1 m1 s1 H2 c1 Kb1 Kb2) (nat_lit 100000) (DV.v (AV.i .i64 ii0)) H1
def G27 : G DV := g27 G14

def g12x1 := rdK H1 b1 m1 fun v1 => isG v1 fun x1 => onV d1 fun v2 => fnK v2 fun m2 L1 L2 => lookD [((nat_lit 14) , c1), ((nat_lit 27) , c2)] m2 (appA (mapP L1) (appA [(DV.v (AV.g x1))] (mapP L2))) H1 fun d2 H2 => onV d2 fun v3 => isB v3 fun t1 => frcB (bnot t1) fun t2 => br t2 (ixA s1 n1 (fun x => x) fun b2 m3 => wrK H2 b2 m3 (AV.g x1) fun H3 => wrp .i64 (iadd n1 ii1) fun n2 => Kb1 (DV.v (AV.i .i64 n2)) H3) (Kb1 (DV.v (AV.i .i64 n1)) H2)
def g12x2 := br t1 (jF [(5 , .int .i64)] (fun d2 H2 => onV d2 fun v1 => isI .i64 v1 fun n3 => wrp .i64 (iadd n1 ii1) fun n4 => Kc1 (DV.v (AV.i .i64 n3)) (DV.v (AV.i .i64 n4)) H2) fun Kb2 => ixA s1 n1 (fun x => x) fun b1 m1 => g12x1 d1 n2 m1 b1 s1 H1 c1 c2 Kb2) (natK n2 fun m1 => lenA s1 fun m2 => slA s1 m1 m2 (fun x => x) fun s2 => clrD [(AV.g List.nil)] s2 H1 fun H2 => natK n2 fun m3 => slA s1 nn0 m3 (fun x => x) fun s3 => Kb1 (DV.v (AV.s s3)) H2)
def g12x3 := isI .i64 v1 fun n1 => frcB (ieq n1 im1) fun t1 => br t1 (Kb1 (DV.v (AV.s s1)) H1) (wrp .i64 (iadd n1 ii1) fun n2 => lpR (failF [(5 , .int .i64), (6 , .int .i64)]) (fun Kc1 => fun d2 d3 H2 => onV d2 fun v2 => isI .i64 v2 fun n3 => onV d3 fun v3 => isI .i64 v3 fun n4 => lenA s1 fun m1 => frcB (ilt n4 (Int.ofNat m1)) fun t2 => g12x2 d1 n4 n3 t2 s1 H2 c1 c2 Kb1 Kc1) (nat_lit 100000) (DV.v (AV.i .i64 n1)) (DV.v (AV.i .i64 n2)) H1)
/-- slices.DeleteFunc[[]string,string] -/
def g12 : G DV := fun R1 H1 Kb1 => lc R1 fun d1 R2 => onV d1 fun v1 => isS v1 fun s1 => lc R2 fun d2 R3 => ln R3 <| c2 [(DV.v (AV.s s1)), d2] H1 fun d3 H2 => onV d3 fun v2 => g12x3 v2 d2 s1 H2 c1 c2 Kb1
def G12 : G DV := g12 G14 G27

def g28x1 := must (Nat.ble nn0 m1) <| must (Nat.ble m1 (leni x1)) <| takeI (Nat.sub m1 nn0) (dropI nn0 x1) fun x3 => ixA (AS.sl b1 nn0 m2 m3) n1 (fun x => x) fun b2 m4 => wrK H1 b2 m4 (AV.g x3) fun H2 => asI (Int.ofNat (leni x2)) fun n3 => wrp .i64 (iadd n2 n3) fun n4 => natK n4 fun m5 => must (Nat.ble m5 (leni x1)) <| must (Nat.ble (leni x1) (leni x1)) <| takeI (Nat.sub (leni x1) m5) (dropI m5 x1) fun x4 => wrp .i64 (iadd n1 ii1) fun n5 => Kc1 (DV.v (AV.g x4)) (DV.v (AV.i .i64 n5)) H2
def g28x2 := onV d1 fun v1 => isG v1 fun x2 => onV d2 fun v2 => isI .i64 v2 fun n3 => frcB (ilt n3 n1) fun t1 => br t1 (c1 [(DV.v (AV.g x2)), (DV.v (AV.g x1))] H1 fun d3 H2 => onV d3 fun v3 => isI .i64 v3 fun n4 => frcB (ilt n4 ii0) fun t2 => br t2 (Kc1 (DV.v (AV.g x2)) (DV.v (AV.i .i64 n3)) H2) (wrp .i64 (iadd n4 n2) fun n5 => natK n5 fun m3 => g28x1 n3 n4 m3 m1 m2 b1 H2 x2 x1 Kc2)) (Kc1 (DV.v (AV.g x2)) (DV.v (AV.i .i64 n3)) H1)
def g28x3 := jF [(0 , .str), (10 , .int .i64)] (fun d1 d2 H2 => onV d1 fun v1 => isG v1 fun x3 => onV d2 fun v2 => isI .i64 v2 fun n3 => ixA (AS.sl b1 nn0 m1 m2) n3 (fun x => x) fun b2 m3 => wrK H2 b2 m3 (AV.g x3) fun H3 => wrp .i64 (iadd n3 ii1) fun n4 => natK n4 fun m4 => slA (AS.sl b1 nn0 m1 m2) nn0 m4 (fun x => x) fun s1 => Kb1 (DV.v (AV.s s1)) H3) fun Kc1 => lpR (failF [(0 , .str), (10 , .int .i64)]) (fun Kc2 => fun d1 d2 H2 => g28x2 d1 d2 n1 n2 m1 m2 b1 H2 x1 c1 Kc1 Kc2) (nat_lit 100000) (DV.v (AV.g x2)) (DV.v (AV.i .i64 ii0)) H1
def g28x4 := jF [(3 , .int .i64)] (fun d1 H2 => onV d1 fun v1 => isI .i64 v1 fun n3 => asI (Int.ofNat (leni x1)) fun n4 => wrp .i64 (iadd n4 ii1) fun n5 => asI (imin n3 n5) fun n6 => natK n6 fun m1 => natK n6 fun m2 => must (Nat.ble m1 m2) <| must (Nat.ble (Nat.mul (nat_lit 16) m2) (nat_lit 281474976710656)) <| must (Nat.ble m2 (nat_lit 9223372036854775807)) <| alK H2 (mkL [(AV.g List.nil)] m2) fun b1 H3 => wrp .i64 (isub n6 ii1) fun n7 => g28x3 n7 n1 m1 m2 b1 H3 x2 x1 c1 Kb1) fun Kb2 => frcB (ilt n2 ii0) fun t1 => br t1 (c2 [(DV.v (AV.g x1)), (DV.v (AV.g x2))] H1 fun d1 H2 => onV d1 fun v1 => isI .i64 v1 fun n3 => wrp .i64 (iadd n3 ii1) fun n4 => Kb2 (DV.v (AV.i .i64 n4)) H2) (Kb2 (DV.v (AV.i .i64 n2)) H1)
/-- strings.genSplit -/
def g28 : G DV := fun R1 H1 Kb1 => lc R1 fun d1 R2 => onV d1 fun v1 => isG v1 fun x1 => lc R2 fun d2 R3 => onV d2 fun v2 => isG v2 fun x2 => lc R3 fun d3 R4 => onV d3 fun v3 => isI .i64 v3 fun n1 => lc R4 fun d4 R5 => onV d4 fun v4 => isI .i64 v4 fun n2 => ln R5 <| frcB (ieq n2 ii0) fun t1 => br t1 (Kb1 (DV.v (AV.s AS.nil)) H1) (frcB (leqI x2 List.nil) fun t2 => br t2 (none) (g28x4 n1 n2 H1 x1 x2 c1 c2 Kb1))
def G28 : G DV := g28 gIndexS.G gCountS.G

/-- strings.Split -/
def g13 : G DV := fun R1 H1 Kb1 => lc R1 fun d1 R2 => onV d1 fun v1 => isG v1 fun x1 => lc R2 fun d2 R3 => onV d2 fun v2 => isG v2 fun x2 => ln R3 <| c1 [(DV.v (AV.g x1)), (DV.v (AV.g x2)), (DV.v (AV.i .i64 ii0)), (DV.v (AV.i .i64 im1))] H1 fun d3 H2 => onV d3 fun v3 => isS v3 fun s1 => Kb1 (DV.v (AV.s s1)) H2
def G13 : G DV := g13 G28

/-- strings.Contains -/
def g15 : G DV := fun R1 H1 Kb1 => lc R1 fun d1 R2 => onV d1 fun v1 => isG v1 fun x1 => lc R2 fun d2 R3 => onV d2 fun v2 => isG v2 fun x2 => ln R3 <| c1 [(DV.v (AV.g x1)), (DV.v (AV.g x2))] H1 fun d3 H2 => onV d3 fun v3 => isI .i64 v3 fun n1 => frcB (ile ii0 n1) fun t1 => Kb1 (DV.v (AV.b t1)) H2
def G15 : G DV := g15 gIndexS.G

def g16x1 := jF [(18 , .bool)] (fun d1 H2 => onV d1 fun v1 => isB v1 fun t1 => br t1 (Kb1 (DV.c (DV.v (AV.i .i64 ii0)) (DV.c (DV.v (AV.b false)) (DV.c (DV.v (AV.b true)) DV.n))) H2) (Kb1 (DV.c (DV.v (AV.i .i64 ii0)) (DV.c (DV.v (AV.b false)) (DV.c (DV.v (AV.b false)) DV.n))) H2)) fun Kb2 => frcB (leqI x1 ss1) fun t1 => br t1 (Kb2 (DV.v (AV.b t1)) H1) (frcB (leqI x1 ss2) fun t2 => br t2 (Kb2 (DV.v (AV.b t2)) H1) (frcB (leqI x1 ss3) fun t3 => Kb2 (DV.v (AV.b t3)) H1))
def g16x2 := jF [(12 , .bool)] (fun d1 H2 => onV d1 fun v1 => isB v1 fun t1 => br t1 (Kb1 (DV.c (DV.v (AV.i .i64 ii1)) (DV.c (DV.v (AV.b false)) (DV.c (DV.v (AV.b true)) DV.n))) H2) (frcB (leqI x1 ss0) fun t2 => br t2 (Kb1 (DV.c (DV.v (AV.i .i64 ii3)) (DV.c (DV.v (AV.b true)) (DV.c (DV.v (AV.b true)) DV.n))) H2) (g16x1 H2 x1 Kb1))) fun Kb2 => frcB (leqI x1 ss4) fun t1 => br t1 (Kb2 (DV.v (AV.b t1)) H1) (frcB (leqI x1 ss5) fun t2 => br t2 (Kb2 (DV.v (AV.b t2)) H1) (frcB (leqI x1 ss6) fun t3 => Kb2 (DV.v (AV.b t3)) H1))
def g16x3 := jF [(6 , .bool)] (fun d1 H2 => onV d1 fun v1 => isB v1 fun t1 => br t1 (Kb1 (DV.c (DV.v (AV.i .i64 ii2)) (DV.c (DV.v (AV.b false)) (DV.c (DV.v (AV.b true)) DV.n))) H2) (g16x2 H2 x1 Kb1)) fun Kb2 => frcB (leqI x1 ss7) fun t1 => br t1 (Kb2 (DV.v (AV.b t1)) H1) (frcB (leqI x1 ss8) fun t2 => br t2 (Kb2 (DV.v (AV.b t2)) H1) (frcB (leqI x1 ss9) fun t3 => br t3 (Kb2 (DV.v (AV.b t3)) H1) (frcB (leqI x1 ss10) fun t4 => br t4 (Kb2 (DV.v (AV.b t4)) H1) (frcB (leqI x1 ss11) fun t5 => Kb2 (DV.v (AV.b t5)) H1))))
/-- desk.forms -/
def g16 : G DV := fun R1 H1 Kb1 => lc R1 fun d1 R2 => onV d1 fun v1 => isG v1 fun x1 => ln R2 <| g16x3 H1 x1 Kb1
def G16 : G DV := g16

def z4 : T4 AV := (@T4.n AV yy2 (@T4.n AV yy2 (@T4.n AV yy2 (@T4.n AV yy2 (@T4.n AV yy2 te te te te) (@T4.n AV yy2 te te te te) (@T4.n AV yy2 te te te te) te) (@T4.n AV yy2 (@T4.n AV yy2 te te te te) (@T4.n AV yy2 te te te te) (@T4.n AV yy2 te te te te) te) (@T4.n AV yy2 (@T4.n AV yy2 te te te te) (@T4.n AV yy2 te te te te) (@T4.n AV yy2 te te te te) te) (@T4.n AV yy2 (@T4.n AV yy2 te te te te) (@T4.n AV yy2 te te te te) te te)) (@T4.n AV yy2 (@T4.n AV yy2 (@T4.n AV yy2 te te te te) (@T4.n AV yy2 te te te te) (@T4.n AV yy2 te te te te) te) (@T4.n AV yy2 (@T4.n AV yy2 te te te te) (@T4.n AV yy2 te te te te) (@T4.n AV yy2 te te te te) te) (@T4.n AV yy2 (@T4.n AV yy2 te te te te) (@T4.n AV yy2 te te te te) (@T4.n AV yy2 te te te te) te) (@T4.n AV yy2 (@T4.n AV yy2 te te te te) (@T4.n AV yy2 te te te te) te te)) (@T4.n AV yy2 (@T4.n AV yy2 (@T4.n AV yy2 te te te te) (@T4.n AV yy2 te te te te) (@T4.n AV yy2 te te te te) te) (@T4.n AV yy2 (@T4.n AV yy2 te te te te) (@T4.n AV yy2 te te te te) (@T4.n AV yy2 te te te te) te) (@T4.n AV yy2 (@T4.n AV yy2 te te te te) (@T4.n AV yy2 te te te te) (@T4.n AV yy2 te te te te) te) (@T4.n AV yy2 (@T4.n AV yy2 te te te te) (@T4.n AV yy2 te te te te) te te)) (@T4.n AV yy2 (@T4.n AV yy2 (@T4.n AV yy2 te te te te) (@T4.n AV yy2 te te te te) (@T4.n AV yy2 te te te te) te) (@T4.n AV yy2 (@T4.n AV yy2 te te te te) (@T4.n AV yy2 te te te te) (@T4.n AV yy2 te te te te) te) (@T4.n AV yy2 (@T4.n AV yy2 te te te te) (@T4.n AV yy2 te te te te) te te) (@T4.n AV yy2 (@T4.n AV yy2 te te te te) (@T4.n AV yy2 te te te te) te te))) (@T4.n AV yy2 (@T4.n AV yy2 (@T4.n AV yy2 (@T4.n AV yy2 te te te te) (@T4.n AV yy2 te te te te) (@T4.n AV yy2 te te te te) te) (@T4.n AV yy2 (@T4.n AV yy2 te te te te) (@T4.n AV yy2 te te te te) (@T4.n AV yy2 te te te te) te) (@T4.n AV yy2 (@T4.n AV yy2 te te te te) (@T4.n AV yy2 te te te te) (@T4.n AV yy2 te te te te) te) (@T4.n AV yy2 (@T4.n AV yy2 te te te te) (@T4.n AV yy2 te te te te) te te)) (@T4.n AV yy2 (@T4.n AV yy2 (@T4.n AV yy2 te te te te) (@T4.n AV yy2 te te te te) (@T4.n AV yy2 te te te te) te) (@T4.n AV yy2 (@T4.n AV yy2 te te te te) (@T4.n AV yy2 te te te te) (@T4.n AV yy2 te te te te) te) (@T4.n AV yy2 (@T4.n AV yy2 te te te te) (@T4.n AV yy2 te te te te) (@T4.n AV yy2 te te te te) te) (@T4.n AV yy2 (@T4.n AV yy2 te te te te) (@T4.n AV yy2 te te te te) te te)) (@T4.n AV yy2 (@T4.n AV yy2 (@T4.n AV yy2 te te te te) (@T4.n AV yy2 te te te te) (@T4.n AV yy2 te te te te) te) (@T4.n AV yy2 (@T4.n AV yy2 te te te te) (@T4.n AV yy2 te te te te) (@T4.n AV yy2 te te te te) te) (@T4.n AV yy2 (@T4.n AV yy2 te te te te) (@T4.n AV yy2 te te te te) (@T4.n AV yy2 te te te te) te) (@T4.n AV yy2 (@T4.n AV yy2 te te te te) (@T4.n AV yy2 te te te te) te te)) (@T4.n AV yy2 (@T4.n AV yy2 (@T4.n AV yy2 te te te te) (@T4.n AV yy2 te te te te) (@T4.n AV yy2 te te te te) te) (@T4.n AV yy2 (@T4.n AV yy2 te te te te) (@T4.n AV yy2 te te te te) (@T4.n AV yy2 te te te te) te) (@T4.n AV yy2 (@T4.n AV yy2 te te te te) (@T4.n AV yy2 te te te te) te te) (@T4.n AV yy2 (@T4.n AV yy2 te te te te) (@T4.n AV yy2 te te te te) te te))) (@T4.n AV yy2 (@T4.n AV yy2 (@T4.n AV yy2 (@T4.n AV yy2 te te te te) (@T4.n AV yy2 te te te te) (@T4.n AV yy2 te te te te) te) (@T4.n AV yy2 (@T4.n AV yy2 te te te te) (@T4.n AV yy2 te te te te) (@T4.n AV yy2 te te te te) te) (@T4.n AV yy2 (@T4.n AV yy2 te te te te) (@T4.n AV yy2 te te te te) (@T4.n AV yy2 te te te te) te) (@T4.n AV yy2 (@T4.n AV yy2 te te te te) (@T4.n AV yy2 te te te te) te te)) (@T4.n AV yy2 (@T4.n AV yy2 (@T4.n AV yy2 te te te te) (@T4.n AV yy2 te te te te) (@T4.n AV yy2 te te te te) te) (@T4.n AV yy2 (@T4.n AV yy2 te te te te) (@T4.n AV yy2 te te te te) (@T4.n AV yy2 te te te te) te) (@T4.n AV yy2 (@T4.n AV yy2 te te te te) (@T4.n AV yy2 te te te te) (@T4.n AV yy2 te te te te) te) (@T4.n AV yy2 (@T4.n AV yy2 te te te te) (@T4.n AV yy2 te te te te) te te)) (@T4.n AV yy2 (@T4.n AV yy2 (@T4.n AV yy2 te te te te) (@T4.n AV yy2 te te te te) (@T4.n AV yy2 te te te te) te) (@T4.n AV yy2 (@T4.n AV yy2 te te te te) (@T4.n AV yy2 te te te te) (@T4.n AV yy2 te te te te) te) (@T4.n AV yy2 (@T4.n AV yy2 te te te te) (@T4.n AV yy2 te te te te) (@T4.n AV yy2 te te te te) te) (@T4.n AV yy2 (@T4.n AV yy2 te te te te) (@T4.n AV yy2 te te te te) te te)) (@T4.n AV yy2 (@T4.n AV yy2 (@T4.n AV yy2 te te te te) (@T4.n AV yy2 te te te te) (@T4.n AV yy2 te te te te) te) (@T4.n AV yy2 (@T4.n AV yy2 te te te te) (@T4.n AV yy2 te te te te) (@T4.n AV yy2 te te te te) te) (@T4.n AV yy2 (@T4.n AV yy2 te te te te) (@T4.n AV yy2 te te te te) te te) (@T4.n AV yy2 (@T4.n AV yy2 te te te te) (@T4.n AV yy2 te te te te) te te))) (@T4.n AV yy2 (@T4.n AV yy2 (@T4.n AV yy2 (@T4.n AV yy2 te te te te) (@T4.n AV yy2 te te te te) (@T4.n AV yy2 te te te te) te) (@T4.n AV yy2 (@T4.n AV yy2 te te te te) (@T4.n AV yy2 te te te te) (@T4.n AV yy2 te te te te) te) (@T4.n AV yy2 (@T4.n AV yy2 te te te te) (@T4.n AV yy2 te te te te) (@T4.n AV yy2 te te te te) te) (@T4.n AV yy2 (@T4.n AV yy2 te te te te) (@T4.n AV yy2 te te te te) te te)) (@T4.n AV yy2 (@T4.n AV yy2 (@T4.n AV yy2 te te te te) (@T4.n AV yy2 te te te te) (@T4.n AV yy2 te te te te) te) (@T4.n AV yy2 (@T4.n AV yy2 te te te te) (@T4.n AV yy2 te te te te) (@T4.n AV yy2 te te te te) te) (@T4.n AV yy2 (@T4.n AV yy2 te te te te) (@T4.n AV yy2 te te te te) (@T4.n AV yy2 te te te te) te) (@T4.n AV yy2 (@T4.n AV yy2 te te te te) (@T4.n AV yy2 te te te te) te te)) (@T4.n AV yy2 (@T4.n AV yy2 (@T4.n AV yy2 te te te te) (@T4.n AV yy2 te te te te) (@T4.n AV yy2 te te te te) te) (@T4.n AV yy2 (@T4.n AV yy2 te te te te) (@T4.n AV yy2 te te te te) (@T4.n AV yy2 te te te te) te) (@T4.n AV yy2 (@T4.n AV yy2 te te te te) (@T4.n AV yy2 te te te te) te te) (@T4.n AV yy2 (@T4.n AV yy2 te te te te) (@T4.n AV yy2 te te te te) te te)) (@T4.n AV yy2 (@T4.n AV yy2 (@T4.n AV yy2 te te te te) (@T4.n AV yy2 te te te te) (@T4.n AV yy2 te te te te) te) (@T4.n AV yy2 (@T4.n AV yy2 te te te te) (@T4.n AV yy2 te te te te) (@T4.n AV yy2 te te te te) te) (@T4.n AV yy2 (@T4.n AV yy2 te te te te) (@T4.n AV yy2 te te te te) te te) (@T4.n AV yy2 (@T4.n AV yy2 te te te te) (@T4.n AV yy2 te te te te) te te))))
def g60x1 := br t1 (rng n1 (leni x1) <| getI (itn n1) x1 fun n2 => asI n2 fun n3 => frcB (ile ii128 n3) fun t2 => br t2 (rdR H1 b1 nn0 nn256 fun l1 => must (Nat.beq (llen l1) nn256) <| wrL H1 b1 nn0 l1 fun H2 => rdR H2 b1 nn0 nn256 fun l2 => Kb1 (DV.c (DV.a l2) (DV.c (DV.v (AV.b false)) DV.n)) H2) (rng n3 nn256 <| wrK H1 b1 (Nat.add nn0 (itn n3)) (AV.b true) fun H2 => wrp .i64 (iadd n1 ii1) fun n4 => Kb2 (DV.v (AV.i .i64 n4)) H2)) (rdR H1 b1 nn0 nn256 fun l1 => must (Nat.beq (llen l1) nn256) <| wrL H1 b1 nn0 l1 fun H2 => rdR H2 b1 nn0 nn256 fun l2 => Kb1 (DV.c (DV.a l2) (DV.c (DV.v (AV.b true)) DV.n)) H2)
/-- strings.makeASCIISet -/
def g60 : G DV := fun R1 H1 Kb1 => lc R1 fun d1 R2 => onV d1 fun v1 => isG v1 fun x1 => ln R2 <| alB H1 z4 nn256 nn0 fun b1 H2 => lpR (failF [(4 , .int .i64)]) (fun Kb2 => fun d2 H3 => onV d2 fun v2 => isI .i64 v2 fun n1 => asI (Int.ofNat (leni x1)) fun n2 => frcB (ilt n1 n2) fun t1 => g60x1 n1 t1 b1 H3 x1 Kb1 Kb2) (nat_lit 100000) (DV.v (AV.i .i64 ii0)) H2
def G60 : G DV := g60

/-- (*strings.asciiSet).contains -/
def g117 : G DV := fun R1 H1 Kb1 => lc R1 fun d1 R2 => onV d1 fun v1 => isP v1 fun p1 => lc R2 fun d2 R3 => onV d2 fun v2 => isI .u8 v2 fun n1 => ln R3 <| onA p1 fun b1 m1 => rng n1 nn256 <| rdK H1 b1 (Nat.add m1 (itn n1)) fun v3 => isB v3 fun t1 => Kb1 (DV.v (AV.b t1)) H1
def G117 : G DV := g117

def g61x1 := asI (Int.ofNat (leni x1)) fun n1 => frcB (ilt ii0 n1) fun t1 => br t1 (rng ii0 (leni x1) <| getI nn0 x1 fun n2 => asI n2 fun n3 => c1 [(DV.v (AV.p p1)), (DV.v (AV.i .u8 n3))] H1 fun d1 H2 => onV d1 fun v1 => isB v1 fun t2 => frcB (bnot t2) fun t3 => br t3 (Kb1 (DV.v (AV.g x1)) H2) (must (Nat.ble nn1 (leni x1)) <| must (Nat.ble (leni x1) (leni x1)) <| takeI (Nat.sub (leni x1) nn1) (dropI nn1 x1) fun x2 => Kb2 (DV.v (AV.g x2)) H2)) (Kb1 (DV.v (AV.g x1)) H1)
/-- strings.trimLeftASCII -/
def g61 : G DV := fun R1 H1 Kb1 => lc R1 fun d1 R2 => onV d1 fun v1 => isG v1 fun x1 => lc R2 fun d2 R3 => onV d2 fun v2 => isP v2 fun p1 => ln R3 <| jF [(0 , .str)] (fun d3 H2 => onV d3 fun v3 => isG v3 fun x2 => Kb1 (DV.v (AV.g x2)) H2) fun Kb2 => lpR (failF [(0 , .str)]) (fun Kb3 => fun d3 H2 => onV d3 fun v3 => isG v3 fun x2 => g61x1 p1 H2 x2 c1 Kb2 Kb3) (nat_lit 100000) (DV.v (AV.g x1)) H1
def G61 : G DV := g61 G117

def g62x1 := wrp .i64 (isub n1 ii1) fun n2 => rng n2 (leni x1) <| getI (itn n2) x1 fun n3 => asI n3 fun n4 => c1 [(DV.v (AV.p p1)), (DV.v (AV.i .u8 n4))] H1 fun d1 H2 => onV d1 fun v1 => isB v1 fun t1 => frcB (bnot t1) fun t2 => br t2 (Kb1 (DV.v (AV.g x1)) H2) (asI (Int.ofNat (leni x1)) fun n5 => wrp .i64 (isub n5 ii1) fun n6 => natK n6 fun m1 => must (Nat.ble nn0 m1) <| must (Nat.ble m1 (leni x1)) <| takeI (Nat.sub m1 nn0) (dropI nn0 x1) fun x2 => Kb2 (DV.v (AV.g x2)) H2)
def g62x2 := lc R1 fun d1 R2 => onV d1 fun v1 => isP v1 fun p1 => ln R2 <| jF [(0 , .str)] (fun d2 H2 => onV d2 fun v2 => isG v2 fun x2 => Kb1 (DV.v (AV.g x2)) H2) fun Kb2 => lpR (failF [(0 , .str)]) (fun Kb3 => fun d2 H2 => onV d2 fun v2 => isG v2 fun x2 => asI (Int.ofNat (leni x2)) fun n1 => frcB (ilt ii0 n1) fun t1 => br t1 (asI (Int.ofNat (leni x2)) fun n2 => g62x1 n2 p1 H2 x2 c1 Kb2 Kb3) (Kb2 (DV.v (AV.g x2)) H2)) (nat_lit 100000) (DV.v (AV.g x1)) H1
/-- strings.trimRightASCII -/
def g62 : G DV := fun R1 H1 Kb1 => lc R1 fun d1 R2 => onV d1 fun v1 => isG v1 fun x1 => g62x2 R2 H1 x1 c1 Kb1
def G62 : G DV := g62 G117

def g30x1 := onC d1 fun d2 d3 => onL d2 fun l1 => onC d3 fun d4 d5 => onV d4 fun v1 => isB v1 fun t1 => onN d5 <| alB H1 z4 nn256 nn0 fun b1 H2 => must (Nat.beq (llen l1) nn256) <| wrL H2 b1 nn0 l1 fun H3 => br t1 (c1 [(DV.v (AV.g x1)), (DV.v (AV.p (AP.at b1 nn0)))] H3 fun d6 H4 => onV d6 fun v2 => isG v2 fun x2 => c2 [(DV.v (AV.g x2)), (DV.v (AV.p (AP.at b1 nn0)))] H4 fun d7 H5 => onV d7 fun v3 => isG v3 fun x3 => Kb1 (DV.v (AV.g x3)) H5) (none)
def g30x2 := jn (fun d2 H2 => jn (fun d3 H3 => pickK t1 d3 (DV.v (AV.b false)) fun d4 => onV d4 fun v1 => isB v1 fun t2 => br t2 (rng ii0 (leni x1) <| getI nn0 x1 fun n1 => asI n1 fun n2 => rng ii0 (leni x1) <| getI nn0 x1 fun n3 => asI n3 fun n4 => none) (c1 [(DV.v (AV.g x1))] H3 fun d5 H4 => g30x1 d5 H4 x2 c2 c3 Kb1)) fun Kb2 => br t1 (onV d2 fun v1 => isI .u8 v1 fun n1 => frcB (ilt n1 ii128) fun t2 => Kb2 (DV.v (AV.b t2)) H2) (Kb2 DV.n H2)) fun Kb2 => br t1 (onV d1 fun v1 => isG v1 fun x3 => rng ii0 (leni x3) <| getI nn0 x3 fun n1 => asI n1 fun n2 => Kb2 (DV.v (AV.i .u8 n2)) H1) (Kb2 DV.n H1)
def g30x3 := jn (fun d1 H2 => jn (fun d2 H3 => pickK t1 (DV.v (AV.b true)) d2 fun d3 => onV d3 fun v1 => isB v1 fun t2 => br t2 (Kb1 (DV.v (AV.g x1)) H3) (asI (Int.ofNat (leni x2)) fun n1 => frcB (ieq n1 ii1) fun t3 => jn (fun d4 H4 => g30x2 d4 t3 H4 x2 x1 c1 c2 c3 Kb1) fun Kb2 => br t3 (Kb2 (DV.v (AV.g x2)) H3) (Kb2 DV.n H3))) fun Kb2 => br t1 (Kb2 DV.n H2) (onV d1 fun v1 => isG v1 fun x3 => frcB (leqI x3 List.nil) fun t2 => Kb2 (DV.v (AV.b t2)) H2)) fun Kb2 => br t1 (Kb2 DV.n H1) (Kb2 (DV.v (AV.g x2)) H1)
/-- strings.Trim -/
def g30 : G DV := fun R1 H1 Kb1 => lc R1 fun d1 R2 => onV d1 fun v1 => isG v1 fun x1 => lc R2 fun d2 R3 => onV d2 fun v2 => isG v2 fun x2 => ln R3 <| frcB (leqI x1 List.nil) fun t1 => g30x3 t1 H1 x1 x2 c1 c3 c2 Kb1
def G30 : G DV := g30 G60 G61 G62

def g65x1 := br t1 (ixA s1 n1 (fun x => x) fun b1 m1 => rdK H1 b1 m1 fun v1 => isI .u8 v1 fun n3 => wrp .u8 (isub n3 ii48) fun n4 => frcB (ilt ii9 n4) fun t2 => br t2 (Kb1 (DV.c (DV.v (AV.i .i64 ii0)) (DV.c (DV.v (AV.ifc (nat_lit 247) (AV.i .i64 ii2))) DV.n)) H1) (wrp .i64 (imul n2 ii10) fun n5 => wrp .i64 n4 fun n6 => wrp .i64 (iadd n5 n6) fun n7 => wrp .i64 (iadd n1 ii1) fun n8 => Kc1 (DV.v (AV.i .i64 n7)) (DV.v (AV.i .i64 n8)) H1)) (jF [(6 , .int .i64)] (fun d1 H2 => onV d1 fun v1 => isI .i64 v1 fun n3 => Kb1 (DV.c (DV.v (AV.i .i64 n3)) (DV.c (DV.v AV.ni) DV.n)) H2) fun Kb2 => rng ii0 (leni x1) <| getI nn0 x1 fun n3 => asI n3 fun n4 => frcB (ieq n4 ii45) fun t2 => br t2 (wrp .i64 (isub ii0 n2) fun n5 => Kb2 (DV.v (AV.i .i64 n5)) H1) (Kb2 (DV.v (AV.i .i64 n2)) H1))
def g65x2 := jn (fun d2 H2 => pickK t1 (DV.v (AV.b true)) d2 fun d3 => onV d3 fun v1 => isB v1 fun t2 => br t2 (must (Nat.ble nn1 (leni x1)) <| must (Nat.ble (leni x1) (leni x1)) <| takeI (Nat.sub (leni x1) nn1) (dropI nn1 x1) fun x2 => asI (Int.ofNat (leni x2)) fun n1 => frcB (ilt n1 ii1) fun t3 => br t3 (Kb1 (DV.c (DV.v (AV.i .i64 ii0)) (DV.c (DV.v (AV.ifc (nat_lit 247) (AV.i .i64 ii2))) DV.n)) H2) (Kb2 (DV.v (AV.g x2)) H2)) (Kb2 (DV.v (AV.g x1)) H2)) fun Kb3 => br t1 (Kb3 DV.n H1) (onV d1 fun v1 => isI .u8 v1 fun n1 => frcB (ieq n1 ii43) fun t2 => Kb3 (DV.v (AV.b t2)) H1)
def g65x3 := jF [(0 , .str)] (fun d1 H2 => onV d1 fun v1 => isG v1 fun x2 => mkU (nat_lit 1) H2 (byteA x2) (leni x2) fun s1 H3 => lenA s1 fun m1 => lpR (failF [(6 , .int .i64), (49 , .int .i64)]) (fun Kc1 => fun d2 d3 H4 => onV d2 fun v2 => isI .i64 v2 fun n1 => onV d3 fun v3 => isI .i64 v3 fun n2 => frcB (ilt n2 (Int.ofNat m1)) fun t1 => g65x1 n2 n1 t1 s1 H4 x1 Kb1 Kc1) (nat_lit 100000) (DV.v (AV.i .i64 ii0)) (DV.v (AV.i .i64 ii0)) H3) fun Kb2 => rng ii0 (leni x1) <| getI nn0 x1 fun n1 => asI n1 fun n2 => frcB (ieq n2 ii45) fun t1 => jn (fun d1 H2 => jn (fun d2 H3 => g65x2 d2 t1 H3 x1 Kb1 Kb2) fun Kb3 => br t1 (Kb3 DV.n H2) (onV d1 fun v1 => isG v1 fun x2 => rng ii0 (leni x2) <| getI nn0 x2 fun n3 => asI n3 fun n4 => Kb3 (DV.v (AV.i .u8 n4)) H2)) fun Kb3 => br t1 (Kb3 DV.n H1) (Kb3 (DV.v (AV.g x1)) H1)
def g65x4 := jn (fun d4 H2 => jn (fun d5 H3 => jn (fun d6 H4 => onV d6 fun v1 => isB v1 fun t1 => br t1 (g65x3 H4 x1 Kb1) (none)) fun Kb2 => onV d1 fun v1 => isB v1 fun t1 => pickK t1 d5 (DV.v (AV.b false)) fun d6 => onV d6 fun v2 => isB v2 fun t2 => Kb2 (DV.v (AV.b t2)) H3) fun Kb2 => grd d1 true (onV d2 fun v1 => isB v1 fun t1 => pickK t1 d4 (DV.v (AV.b false)) fun d5 => onV d5 fun v2 => isB v2 fun t2 => Kb2 (DV.v (AV.b t2)) H2) (Kb2 DV.n H2)) fun Kb2 => grd d2 true (onV d3 fun v1 => isI .i64 v1 fun n1 => frcB (ilt n1 ii19) fun t1 => Kb2 (DV.v (AV.b t1)) H1) (Kb2 DV.n H1)
def g65x5 := jn (fun d1 H2 => jn (fun d2 H3 => jn (fun d3 H4 => jn (fun d4 H5 => jn (fun d5 H6 => g65x4 d1 d4 d5 H6 x1 Kb1) fun Kb2 => grd d4 true (Kb2 (DV.v (AV.i .i64 n1)) H5) (Kb2 DV.n H5)) fun Kb2 => grd d1 true (Kb2 d3 H4) (Kb2 DV.n H4)) fun Kb2 => grd d1 true (onV d2 fun v1 => isI .i64 v1 fun n2 => frcB (ilt ii0 n2) fun t1 => Kb2 (DV.v (AV.b t1)) H3) (Kb2 DV.n H3)) fun Kb2 => grd d1 true (Kb2 (DV.v (AV.i .i64 n1)) H2) (Kb2 DV.n H2)) fun Kb2 => Kb2 (DV.v (AV.b true)) H1
def g65x6 := asI (Int.ofNat (leni x1)) fun n1 => jn (fun d1 H2 => jn (fun d2 H3 => jn (fun d3 H4 => jn (fun d4 H5 => jn (fun d5 H6 => jn (fun d6 H7 => g65x5 n1 H7 x1 Kb1) fun Kb2 => Kb2 DV.n H6) fun Kb2 => grd d3 true (onV d4 fun v1 => isI .i64 v1 fun n2 => frcB (ilt n2 ii10) fun t1 => Kb2 (DV.v (AV.b t1)) H5) (Kb2 DV.n H5)) fun Kb2 => grd d3 true (Kb2 (DV.v (AV.i .i64 n1)) H4) (Kb2 DV.n H4)) fun Kb2 => Kb2 DV.n H3) fun Kb2 => Kb2 DV.n H2) fun Kb2 => Kb2 DV.n H1
/-- internal/strconv.Atoi -/
def g65 : G DV := fun R1 H1 Kb1 => lc R1 fun d1 R2 => onV d1 fun v1 => isG v1 fun x1 => ln R2 <| g65x6 H1 x1 Kb1
def G65 : G DV := g65

/-- strconv.Atoi -/
def g31 : G DV := fun R1 H1 Kb1 => lc R1 fun d1 R2 => onV d1 fun v1 => isG v1 fun x1 => ln R2 <| c1 [(DV.v (AV.g x1))] H1 fun d2 H2 => onC d2 fun d3 d4 => onV d3 fun v2 => isI .i64 v2 fun n1 => onC d4 fun d5 d6 => onV d5 fun v3 => onN d6 <| ifA true true v3 AV.ni fun t1 => frcB (bnot t1) fun t2 => br t2 (none) (Kb1 (DV.c (DV.v (AV.i .i64 n1)) (DV.c (DV.v AV.ni) DV.n)) H2)
def G31 : G DV := g31 G65

def g17x1 := jn (fun d2 H2 => pickK t1 (DV.v (AV.b true)) d2 fun d3 => onV d3 fun v1 => isB v1 fun t2 => br t2 (Kb1 (DV.c (DV.v (AV.i .i64 ii0)) (DV.c (DV.v (AV.b false)) DV.n)) H2) (c1 [(DV.v (AV.g x1))] H2 fun d4 H3 => onC d4 fun d5 d6 => onV d5 fun v2 => isI .i64 v2 fun n1 => onC d6 fun d7 d8 => onV d7 fun v3 => onN d8 <| ifA false true v3 AV.ni fun t3 => Kb1 (DV.c (DV.v (AV.i .i64 n1)) (DV.c (DV.v (AV.b t3)) DV.n)) H3)) fun Kb2 => br t1 (Kb2 DV.n H1) (onV d1 fun v1 => isG v1 fun x2 => frcB (bnot (leqI x2 List.nil)) fun t2 => Kb2 (DV.v (AV.b t2)) H1)
def g17x2 := jn (fun d3 H2 => pickK t1 (DV.v (AV.b true)) d3 fun d4 => onV d4 fun v1 => isB v1 fun t2 => jn (fun d5 H3 => jn (fun d6 H4 => g17x1 d6 t2 H4 x1 c1 Kb1) fun Kb2 => br t2 (Kb2 DV.n H3) (c2 [d5, (DV.v (AV.g ss12))] H3 fun d6 H4 => onV d6 fun v2 => isG v2 fun x2 => Kb2 (DV.v (AV.g x2)) H4)) fun Kb2 => br t2 (Kb2 DV.n H2) (Kb2 (DV.v (AV.g x1)) H2)) fun Kb2 => br t1 (Kb2 DV.n H1) (onV d1 fun v1 => isB v1 fun t2 => pickK t2 d2 (DV.v (AV.b false)) fun d3 => onV d3 fun v2 => isB v2 fun t3 => Kb2 (DV.v (AV.b t3)) H1)
def g17x3 := jn (fun d2 H2 => jn (fun d3 H3 => jn (fun d4 H4 => g17x2 d1 d4 t1 H4 x1 c1 c2 Kb1) fun Kb2 => grd d1 true (onV d3 fun v1 => isI .u8 v1 fun n1 => frcB (ieq n1 ii48) fun t2 => Kb2 (DV.v (AV.b t2)) H3) (Kb2 DV.n H3)) fun Kb2 => grd d1 true (onV d2 fun v1 => isG v1 fun x2 => rng ii0 (leni x2) <| getI nn0 x2 fun n1 => asI n1 fun n2 => Kb2 (DV.v (AV.i .u8 n2)) H2) (Kb2 DV.n H2)) fun Kb2 => grd d1 true (Kb2 (DV.v (AV.g x1)) H1) (Kb2 DV.n H1)
def g17x4 := jn (fun d1 H2 => jn (fun d2 H3 => jn (fun d3 H4 => jn (fun d4 H5 => g17x3 d4 t1 H5 x1 c1 c2 Kb1) fun Kb2 => br t1 (Kb2 DV.n H4) (Kb2 d3 H4)) fun Kb2 => br t1 (Kb2 DV.n H3) (onV d2 fun v1 => isI .i64 v1 fun n1 => frcB (ilt ii1 n1) fun t2 => Kb2 (DV.v (AV.b t2)) H3)) fun Kb2 => br t1 (Kb2 DV.n H2) (onV d1 fun v1 => isG v1 fun x2 => asI (Int.ofNat (leni x2)) fun n1 => Kb2 (DV.v (AV.i .i64 n1)) H2)) fun Kb2 => br t1 (Kb2 DV.n H1) (Kb2 (DV.v (AV.g x1)) H1)
def g17x5 := jn (fun d1 H2 => jn (fun d2 H3 => jn (fun d3 H4 => pickK t1 (DV.v (AV.b true)) d3 fun d4 => onV d4 fun v1 => isB v1 fun t2 => g17x4 t2 H4 x1 c1 c2 Kb1) fun Kb2 => br t1 (Kb2 DV.n H3) (onV d2 fun v1 => isI .i64 v1 fun n1 => frcB (ilt ii9 n1) fun t2 => Kb2 (DV.v (AV.b t2)) H3)) fun Kb2 => br t1 (Kb2 DV.n H2) (onV d1 fun v1 => isG v1 fun x2 => asI (Int.ofNat (leni x2)) fun n1 => Kb2 (DV.v (AV.i .i64 n1)) H2)) fun Kb2 => br t1 (Kb2 DV.n H1) (Kb2 (DV.v (AV.g x1)) H1)
/-- desk.number -/
def g17 : G DV := fun R1 H1 Kb1 => lc R1 fun d1 R2 => onV d1 fun v1 => isG v1 fun x1 => ln R2 <| asI (Int.ofNat (leni x1)) fun n1 => frcB (ilt n1 ii1) fun t1 => g17x5 t1 H1 x1 c2 c1 Kb1
def G17 : G DV := g17 G30 G31

def g205x1 := br t1 (Kb1 (DV.c (DV.v (AV.i .i64 ii7)) (DV.c (DV.v (AV.i .i64 ii4)) (DV.c (DV.v (AV.i .i64 ii1)) DV.n))) H1) (frcB (ieq n1 ii3) fun t2 => br t2 (Kb1 (DV.c (DV.v (AV.i .i64 ii9)) (DV.c (DV.v (AV.i .i64 ii8)) (DV.c (DV.v (AV.i .i64 ii1)) DV.n))) H1) (frcB (ieq n1 ii4) fun t3 => br t3 (Kb1 (DV.c (DV.v (AV.i .i64 ii11)) (DV.c (DV.v (AV.i .i64 ii8)) (DV.c (DV.v (AV.i .i64 ii2)) DV.n))) H1) (Kb1 (DV.c (DV.v (AV.i .i64 im1)) (DV.c (DV.v (AV.i .i64 ii0)) (DV.c (DV.v (AV.i .i64 im1)) DV.n))) H1)))
/-- rate.tops -/
def g205 : G DV := fun R1 H1 Kb1 => lc R1 fun d1 R2 => onV d1 fun v1 => isI .i64 v1 fun n1 => ln R2 <| frcB (ieq n1 ii1) fun t1 => br t1 (Kb1 (DV.c (DV.v (AV.i .i64 ii7)) (DV.c (DV.v (AV.i .i64 ii1)) (DV.c (DV.v (AV.i .i64 ii0)) DV.n))) H1) (frcB (ieq n1 ii2) fun t2 => g205x1 n1 t2 H1 Kb1)
def G205 : G DV := g205

def g285x1 := lenA s1 fun m1 => lpR (failF [(8 , .int .i64)]) (fun Kb2 => fun d1 H2 => onV d1 fun v1 => isI .i64 v1 fun n2 => frcB (ilt n2 (Int.ofNat m1)) fun t1 => br t1 (ixA s1 n2 (fun x => x) fun b1 m2 => rdK H2 b1 m2 fun v2 => isI .i64 v2 fun n3 => frcB (ieq n1 n3) fun t2 => br t2 (Kb1 (DV.v (AV.i .i64 n2)) H2) (wrp .i64 (iadd n2 ii1) fun n4 => Kb2 (DV.v (AV.i .i64 n4)) H2)) (Kb1 (DV.v (AV.i .i64 im1)) H2)) (nat_lit 100000) (DV.v (AV.i .i64 ii0)) H1
/-- slices.Index[[]int,int] -/
def g285 : G DV := fun R1 H1 Kb1 => lc R1 fun d1 R2 => onV d1 fun v1 => isS v1 fun s1 => lc R2 fun d2 R3 => onV d2 fun v2 => isI .i64 v2 fun n1 => ln R3 <| g285x1 n1 s1 H1 Kb1
def G285 : G DV := g285

/-- slices.Contains[[]int,int] -/
def g206 : G DV := fun R1 H1 Kb1 => lc R1 fun d1 R2 => onV d1 fun v1 => isS v1 fun s1 => lc R2 fun d2 R3 => onV d2 fun v2 => isI .i64 v2 fun n1 => ln R3 <| c1 [(DV.v (AV.s s1)), (DV.v (AV.i .i64 n1))] H1 fun d3 H2 => onV d3 fun v3 => isI .i64 v3 fun n2 => frcB (ile ii0 n2) fun t1 => Kb1 (DV.v (AV.b t1)) H2
def G206 : G DV := g206 G285

def z5 : T4 AV := (@T4.n AV yy7 (@T4.n AV yy8 te te te te) (@T4.n AV yy9 te te te te) (@T4.n AV yy10 te te te te) te)
def g207x1 := br t1 (alB H1 (@T4.n AV yy7 (@T4.n AV yy8 te te te te) te te te) nn2 nn0 fun b1 H2 => Kb1 (DV.v (AV.s (AS.sl b1 nn0 nn2 nn2))) H2) (jF [(10 , .bool)] (fun d1 H2 => onV d1 fun v1 => isB v1 fun t2 => br t2 (alB H2 z5 nn4 nn0 fun b1 H3 => Kb1 (DV.v (AV.s (AS.sl b1 nn0 nn4 nn4))) H3) (Kb1 (DV.v (AV.s AS.nil)) H2)) fun Kb2 => frcB (ieq n1 ii3) fun t2 => br t2 (Kb2 (DV.v (AV.b t2)) H1) (frcB (ieq n1 ii4) fun t3 => Kb2 (DV.v (AV.b t3)) H1))
/-- rate.widths -/
def g207 : G DV := fun R1 H1 Kb1 => lc R1 fun d1 R2 => onV d1 fun v1 => isI .i64 v1 fun n1 => ln R2 <| frcB (ieq n1 ii1) fun t1 => br t1 (alB H1 (@T4.n AV yy7 te te te te) nn1 nn0 fun b1 H2 => Kb1 (DV.v (AV.s (AS.sl b1 nn0 nn1 nn1))) H2) (frcB (ieq n1 ii2) fun t2 => g207x1 n1 t2 H1 Kb1)
def G207 : G DV := g207

def g134x1 := must (aveq (AV.i .i64 n1) v1) <| c1 [(DV.v (AV.s s1)), (DV.v (AV.i .i64 n2))] H1 fun d1 H2 => onV d1 fun v2 => isB v2 fun t1 => rdK H2 b1 nn4 fun v3 => must (aveq (AV.i .i64 n3) v3) <| rdK H2 b1 nn2 fun v4 => must (aveq (AV.i .i64 n4) v4) <| rdK H2 b1 nn2 fun v5 => must (aveq (AV.i .i64 n5) v5) <| rdK H2 b1 nn1 fun v6 => must (aveq (AV.i .i64 n6) v6) <| rdK H2 b1 nn1 fun v7 => must (aveq (AV.i .i64 n1) v7) <| Kb1 (DV.v (AV.b t1)) H2
def g134x2 := c1 [(DV.v (AV.i .i64 n1))] H1 fun d1 H2 => onV d1 fun v1 => isS v1 fun s1 => rdK H2 b1 nn3 fun v2 => must (aveq (AV.i .i64 n2) v2) <| rdK H2 b1 nn4 fun v3 => must (aveq (AV.i .i64 n3) v3) <| rdK H2 b1 nn2 fun v4 => must (aveq (AV.i .i64 n4) v4) <| rdK H2 b1 nn2 fun v5 => must (aveq (AV.i .i64 n5) v5) <| rdK H2 b1 nn1 fun v6 => must (aveq (AV.i .i64 n6) v6) <| rdK H2 b1 nn1 fun v7 => g134x1 v7 n7 n2 n3 n4 n5 n6 b1 s1 H2 c2 Kb1
def g134x3 := frcB (ile n1 n2) fun t1 => br t1 (rdK H1 b1 nn4 fun v1 => isI .i64 v1 fun n7 => frcB (ile ii0 n7) fun t2 => br t2 (rdK H1 b1 nn4 fun v2 => isI .i64 v2 fun n8 => frcB (ile n8 n3) fun t3 => br t3 (rdK H1 b1 nn0 fun v3 => isI .i64 v3 fun n9 => rdK H1 b1 nn3 fun v4 => isI .i64 v4 fun n10 => g134x2 n9 n10 n7 n1 n4 n5 n6 b1 H1 c1 c2 Kb1) (Kb1 (DV.v (AV.b false)) H1)) (Kb1 (DV.v (AV.b false)) H1)) (Kb1 (DV.v (AV.b false)) H1)
def g134x4 := rdK H1 b1 nn1 fun v1 => isI .i64 v1 fun n4 => frcB (ile ii0 n4) fun t1 => br t1 (rdK H1 b1 nn1 fun v2 => isI .i64 v2 fun n5 => frcB (ile n5 n1) fun t2 => br t2 (rdK H1 b1 nn2 fun v3 => isI .i64 v3 fun n6 => frcB (ile ii1 n6) fun t3 => br t3 (rdK H1 b1 nn2 fun v4 => isI .i64 v4 fun n7 => g134x3 n7 n2 n3 n6 n5 n4 b1 H1 c1 c2 Kb1) (Kb1 (DV.v (AV.b false)) H1)) (Kb1 (DV.v (AV.b false)) H1)) (Kb1 (DV.v (AV.b false)) H1)
/-- rate.Valid -/
def g134 : G DV := fun R1 H1 Kb1 => lc R1 fun d1 R2 => ln R2 <| cellsD d1 fun l1 => alK H1 l1 fun b1 H2 => rdK H2 b1 nn0 fun v1 => isI .i64 v1 fun n1 => c1 [(DV.v (AV.i .i64 n1))] H2 fun d2 H3 => onC d2 fun d3 d4 => onV d3 fun v2 => isI .i64 v2 fun n2 => onC d4 fun d5 d6 => onV d5 fun v3 => isI .i64 v3 fun n3 => onC d6 fun d7 d8 => onV d7 fun v4 => isI .i64 v4 fun n4 => onN d8 <| g134x4 n2 n3 n4 b1 H3 c3 c2 Kb1
def G134 : G DV := pure1 (g134 G205 G206 G207)

def z6 : T4 AV := (@T4.n AV yy2 (@T4.n AV yy6 (@T4.n AV yy6 te te te te) te te te) (@T4.n AV yy6 (@T4.n AV yy6 te te te te) te te te) (@T4.n AV yy6 (@T4.n AV yy0 te te te te) te te te) (@T4.n AV yy6 te te te te))
def g167x1 := jn (fun d3 H2 => pickK t1 d3 (DV.v (AV.b false)) fun d4 => onV d4 fun v1 => isB v1 fun t2 => br t2 (wrp .i64 (iadd n1 ii1) fun n2 => Kb1 (DV.c (DV.v (AV.i .i64 n2)) (DV.c (DV.v (AV.b true)) DV.n)) H2) (wrp .i64 (iadd n1 ii1) fun n2 => Kb2 (DV.v (AV.i .i64 n2)) H2)) fun Kb3 => br t1 (onL d1 fun l1 => onL d2 fun l2 => intsK .u8 l1 fun x1 => intsK .u8 l2 fun x2 => must (Nat.beq (leni x1) nn6) <| must (Nat.beq (leni x2) nn6) <| frcB (leqI x1 x2) fun t2 => Kb3 (DV.v (AV.b t2)) H1) (Kb3 DV.n H1)
def g167x2 := wrL H1 b1 nn0 (ltake (nat_lit 8) (ldrop (Nat.mul (itn n1) nn8) l1)) fun H2 => rdK H2 b1 nn0 fun v1 => isB v1 fun t1 => jn (fun d1 H3 => jn (fun d2 H4 => jn (fun d3 H5 => g167x1 d2 d3 n1 t1 H5 Kb1 Kb2) fun Kb3 => br t1 (rdR H4 b2 nn0 nn6 fun l2 => Kb3 (DV.a l2) H4) (Kb3 DV.n H4)) fun Kb3 => br t1 (onV d1 fun v2 => isP v2 fun p1 => onA p1 fun b3 m1 => rdR H3 b3 m1 nn6 fun l2 => Kb3 (DV.a l2) H3) (Kb3 DV.n H3)) fun Kb3 => br t1 (Kb3 (DV.v (AV.p (AP.at b1 nn1))) H2) (Kb3 DV.n H2)
def g167x3 := onA p1 fun b2 m1 => rdR H1 b2 m1 nn128 fun l1 => lpR (failF [(12 , .int .i64)]) (fun Kb2 => fun d1 H2 => onV d1 fun v1 => isI .i64 v1 fun n1 => frcB (ilt n1 ii16) fun t1 => br t1 (rng n1 nn16 <| alB H2 z6 nn8 nn0 fun b3 H3 => must (Nat.beq (llen (ltake (nat_lit 8) (ldrop (Nat.mul (itn n1) nn8) l1))) nn8) <| g167x2 l1 n1 b3 b1 H3 Kb1 Kb2) (Kb1 (DV.c (DV.v (AV.i .i64 ii0)) (DV.c (DV.v (AV.b false)) DV.n)) H2)) (nat_lit 100000) (DV.v (AV.i .i64 ii0)) H1
/-- (*sta.Table).Find -/
def g167 : G DV := fun R1 H1 Kb1 => lc R1 fun d1 R2 => onV d1 fun v1 => isP v1 fun p1 => lc R2 fun d2 R3 => ln R3 <| cellsD d2 fun l1 => alK H1 l1 fun b1 H2 => g167x3 p1 b1 H2 Kb1
def G167 : G DV := g167

def g135x1 := rdR H1 b1 nn0 nn6 fun l2 => must (aleq l1 l2) <| must (Nat.beq (llen l1) nn6) <| wrL H1 b2 (Nat.add (Nat.add m1 (Nat.mul (itn n1) nn8)) nn1) l1 fun H2 => rdK H2 b2 (Nat.add (Nat.add m1 (Nat.mul (itn n1) nn8)) nn7) fun v1 => isI .i64 v1 fun n2 => wrp .i64 (iadd n2 ii1) fun n3 => wrK H2 b2 (Nat.add (Nat.add m1 (Nat.mul (itn n1) nn8)) nn7) (AV.i .i64 n3) fun H3 => wrp .i64 (iadd n1 ii1) fun n4 => Kb1 (DV.c (DV.v (AV.i .i64 n4)) (DV.c (DV.v AV.ni) DV.n)) H3
def g135x2 := frcB (ilt n1 ii16) fun t1 => br t1 (onA p1 fun b2 m1 => rng n1 nn16 <| rdK H1 b2 (Nat.add m1 (Nat.mul (itn n1) nn8)) fun v1 => isB v1 fun t2 => frcB (bnot t2) fun t3 => br t3 (rdR H1 b1 nn0 nn6 fun l1 => wrK H1 b2 (Nat.add m1 (Nat.mul (itn n1) nn8)) (AV.b true) fun H2 => g135x1 l1 n1 m1 b1 b2 H2 Kb1) (wrp .i64 (iadd n1 ii1) fun n2 => Kb2 (DV.v (AV.i .i64 n2)) H1)) (Kb1 (DV.c (DV.v (AV.i .i64 ii0)) (DV.c (DV.v (AV.er (nat_lit 8))) DV.n)) H1)
def g135x3 := rdR H1 b1 nn0 nn6 fun l1 => c1 [(DV.v (AV.p p1)), (DV.a l1)] H1 fun d1 H2 => onC d1 fun d2 d3 => onV d2 fun v1 => isI .i64 v1 fun n1 => onC d3 fun d4 d5 => onV d4 fun v2 => isB v2 fun t1 => onN d5 <| br t1 (Kb1 (DV.c (DV.v (AV.i .i64 ii0)) (DV.c (DV.v (AV.er (nat_lit 7))) DV.n)) H2) (lpR (failF [(22 , .int .i64)]) (fun Kb2 => fun d6 H3 => onV d6 fun v3 => isI .i64 v3 fun n2 => g135x2 n2 p1 b1 H3 Kb1 Kb2) (nat_lit 100000) (DV.v (AV.i .i64 ii0)) H2)
/-- (*sta.Table).Add -/
def g135 : G DV := fun R1 H1 Kb1 => lc R1 fun d1 R2 => onV d1 fun v1 => isP v1 fun p1 => lc R2 fun d2 R3 => ln R3 <| cellsD d2 fun l1 => alK H1 l1 fun b1 H2 => rdR H2 b1 nn0 nn6 fun l2 => c1 [(DV.a l2)] H2 fun d3 H3 => onV d3 fun v2 => isB v2 fun t1 => frcB (bnot t1) fun t2 => br t2 (Kb1 (DV.c (DV.v (AV.i .i64 ii0)) (DV.c (DV.v (AV.er (nat_lit 2))) DV.n)) H3) (g135x3 p1 b1 H3 c2 Kb1)
def G135 : G DV := g135 G53 G167

/-- sched.there -/
def g208 : G DV := fun R1 H1 Kb1 => lc R1 fun d1 R2 => onV d1 fun v1 => isI .i64 v1 fun n1 => ln R2 <| frcB (ile ii1 n1) fun t1 => jn (fun d2 H2 => jn (fun d3 H3 => pickK t1 d3 (DV.v (AV.b false)) fun d4 => onV d4 fun v2 => isB v2 fun t2 => Kb1 (DV.v (AV.b t2)) H3) fun Kb2 => br t1 (onV d2 fun v2 => isI .i64 v2 fun n2 => frcB (ile n2 ii16) fun t2 => Kb2 (DV.v (AV.b t2)) H2) (Kb2 DV.n H2)) fun Kb2 => br t1 (Kb2 (DV.v (AV.i .i64 n1)) H1) (Kb2 DV.n H1)
def G208 : G DV := g208

/-- sched.fair -/
def g209 : G DV := fun R1 H1 Kb1 => lc R1 fun d1 R2 => onV d1 fun v1 => isI .i64 v1 fun n1 => ln R2 <| frcB (ile ii1 n1) fun t1 => jn (fun d2 H2 => jn (fun d3 H3 => pickK t1 d3 (DV.v (AV.b false)) fun d4 => onV d4 fun v2 => isB v2 fun t2 => Kb1 (DV.v (AV.b t2)) H3) fun Kb2 => br t1 (onV d2 fun v2 => isI .i64 v2 fun n2 => frcB (ile n2 ii100) fun t2 => Kb2 (DV.v (AV.b t2)) H2) (Kb2 DV.n H2)) fun Kb2 => br t1 (Kb2 (DV.v (AV.i .i64 n1)) H1) (Kb2 DV.n H1)
def G209 : G DV := g209

/-- (*sched.Sched).of -/
def g210 : G DV := fun R1 H1 Kb1 => lc R1 fun d1 R2 => onV d1 fun v1 => isP v1 fun p1 => lc R2 fun d2 R3 => onV d2 fun v2 => isI .i64 v2 fun n1 => ln R3 <| c1 [(DV.v (AV.i .i64 n1))] H1 fun d3 H2 => onV d3 fun v3 => isB v3 fun t1 => frcB (bnot t1) fun t2 => br t2 (Kb1 (DV.v (AV.p AP.nil)) H2) (wrp .i64 (isub n1 ii1) fun n2 => onA p1 fun b1 m1 => rng n2 nn16 <| rdK H2 b1 (Nat.add m1 (itn n2)) fun v4 => isP v4 fun p2 => Kb1 (DV.v (AV.p p2)) H2)
def G210 : G DV := g210 G208

def g136x1 := frcB (bnot (isNilA p1)) fun t1 => br t1 (Kb1 (DV.v (AV.er (nat_lit 7))) H1) (wrp .i64 (isub n1 ii1) fun n3 => alB H1 (@T4.n AV (AV.i .i64 n1) (@T4.n AV (AV.i .i64 n2) te te te te) (@T4.n AV yy0 te te te te) (@T4.n AV yy2 te te te te) (@T4.n AV yy0 te te te te)) nn5 nn0 fun b1 H2 => onA p2 fun b2 m1 => rng n3 nn16 <| wrK H2 b2 (Nat.add m1 (itn n3)) (AV.p (AP.at b1 nn0)) fun H3 => Kb1 (DV.v AV.ni) H3)
def g136x2 := jn (fun d2 H2 => jn (fun d3 H3 => pickK t1 (DV.v (AV.b true)) d3 fun d4 => onV d4 fun v1 => isB v1 fun t2 => br t2 (Kb1 (DV.v (AV.er (nat_lit 2))) H3) (c1 [(DV.v (AV.p p1)), (DV.v (AV.i .i64 n1))] H3 fun d5 H4 => onV d5 fun v2 => isP v2 fun p2 => g136x1 n1 n2 p2 p1 H4 Kb1)) fun Kb2 => br t1 (Kb2 DV.n H2) (onV d2 fun v1 => isB v1 fun t2 => frcB (bnot t2) fun t3 => Kb2 (DV.v (AV.b t3)) H2)) fun Kb2 => br t1 (Kb2 DV.n H1) (c2 [d1] H1 fun d2 H2 => onV d2 fun v1 => isB v1 fun t2 => Kb2 (DV.v (AV.b t2)) H2)
/-- (*sched.Sched).Add -/
def g136 : G DV := fun R1 H1 Kb1 => lc R1 fun d1 R2 => onV d1 fun v1 => isP v1 fun p1 => lc R2 fun d2 R3 => onV d2 fun v2 => isI .i64 v2 fun n1 => lc R3 fun d3 R4 => onV d3 fun v3 => isI .i64 v3 fun n2 => ln R4 <| c1 [(DV.v (AV.i .i64 n1))] H1 fun d4 H2 => onV d4 fun v4 => isB v4 fun t1 => frcB (bnot t1) fun t2 => jn (fun d5 H3 => g136x2 d5 n1 n2 t2 p1 H3 c3 c2 Kb1) fun Kb2 => br t2 (Kb2 DV.n H2) (Kb2 (DV.v (AV.i .i64 n2)) H2)
def G136 : G DV := g136 G208 G209 G210

def g130x1 := jn (fun d2 H2 => jn (fun d3 H3 => pickK t1 (DV.v (AV.b true)) d3 fun d4 => onV d4 fun v1 => isB v1 fun t2 => br t2 (Kb1 (DV.v (AV.p AP.nil)) H3) (wrp .i64 (isub n1 ii1) fun n2 => onA p1 fun b1 m1 => rng n2 nn16 <| Kb1 (DV.v (AV.p (AP.at b1 (Nat.add m1 (Nat.mul (itn n2) nn10))))) H3)) fun Kb2 => br t1 (Kb2 DV.n H2) (onV d2 fun v1 => isB v1 fun t2 => frcB (bnot t2) fun t3 => Kb2 (DV.v (AV.b t3)) H2)) fun Kb2 => br t1 (Kb2 DV.n H1) (onV d1 fun v1 => isP v1 fun p2 => onA p2 fun b1 m1 => rdK H1 b1 m1 fun v2 => isB v2 fun t2 => Kb2 (DV.v (AV.b t2)) H1)
def g130x2 := jn (fun d3 H2 => jn (fun d4 H3 => jn (fun d5 H4 => g130x1 d5 n1 t1 p1 H4 Kb1) fun Kb2 => br t1 (Kb2 DV.n H3) (onV d4 fun v1 => isP v1 fun p2 => onA p2 fun b1 m1 => Kb2 (DV.v (AV.p (AP.at b1 m1))) H3)) fun Kb2 => br t1 (Kb2 DV.n H2) (onV d1 fun v1 => isJ v1 fun n2 => onV d3 fun v2 => isP v2 fun p2 => onA p2 fun b1 m1 => rng n2 nn16 <| Kb2 (DV.v (AV.p (AP.at b1 (Nat.add m1 (Nat.mul (itn n2) nn10))))) H2)) fun Kb2 => br t1 (Kb2 DV.n H1) (onV d2 fun v1 => isP v1 fun p2 => onA p2 fun b1 m1 => Kb2 (DV.v (AV.p (AP.at b1 m1))) H1)
def g130x3 := jn (fun d1 H2 => jn (fun d2 H3 => jn (fun d3 H4 => jn (fun d4 H5 => g130x2 d3 d4 n1 t1 p1 H5 Kb1) fun Kb2 => br t1 (Kb2 DV.n H4) (onV d1 fun v1 => isP v1 fun p2 => onA p2 fun b1 m1 => Kb2 (DV.v (AV.p (AP.at b1 m1))) H4)) fun Kb2 => br t1 (Kb2 DV.n H3) (onV d2 fun v1 => isI .i64 v1 fun n2 => wrp .i64 (isub n2 ii1) fun n3 => Kb2 (DV.v (AV.i .i64 n3)) H3)) fun Kb2 => br t1 (Kb2 DV.n H2) (Kb2 (DV.v (AV.i .i64 n1)) H2)) fun Kb2 => br t1 (Kb2 DV.n H1) (Kb2 (DV.v (AV.p p1)) H1)
def g130x4 := isP v1 fun p1 => lc R1 fun d1 R2 => onV d1 fun v2 => isI .i64 v2 fun n1 => ln R2 <| frcB (ilt n1 ii1) fun t1 => jn (fun d2 H2 => jn (fun d3 H3 => pickK t1 (DV.v (AV.b true)) d3 fun d4 => onV d4 fun v3 => isB v3 fun t2 => g130x3 n1 t2 p1 H3 Kb1) fun Kb2 => br t1 (Kb2 DV.n H2) (onV d2 fun v3 => isI .i64 v3 fun n2 => frcB (ilt ii16 n2) fun t2 => Kb2 (DV.v (AV.b t2)) H2)) fun Kb2 => br t1 (Kb2 DV.n H1) (Kb2 (DV.v (AV.i .i64 n1)) H1)
/-- (*ps.Power).of -/
def g130 : G DV := fun R1 H1 Kb1 => lc R1 fun d1 R2 => onV d1 fun v1 => g130x4 v1 R2 H1 Kb1
def G130 : G DV := g130

def g137x1 := rdR H1 b1 nn0 nn4 fun l1 => must (Nat.beq (llen l1) nn4) <| onA p1 fun b2 m1 => rng n1 nn16 <| must (Nat.beq (llen ((AV.b true) :: ((AV.b false) :: ((AV.b false) :: ((AV.b false) :: (lapp l1 ((AV.i .i64 n2) :: ((AV.i .i64 ii0) :: [])))))))) nn10) <| wrL H1 b2 (Nat.add m1 (Nat.mul (itn n1) nn10)) ((AV.b true) :: ((AV.b false) :: ((AV.b false) :: ((AV.b false) :: (lapp l1 ((AV.i .i64 n2) :: ((AV.i .i64 ii0) :: []))))))) fun H2 => Kb1 (DV.v AV.ni) H2
def g137x2 := jn (fun d2 H2 => pickK t1 (DV.v (AV.b true)) d2 fun d3 => onV d3 fun v1 => isB v1 fun t2 => br t2 (Kb1 (DV.v (AV.er (nat_lit 2))) H2) (c1 [(DV.v (AV.p p1)), (DV.v (AV.i .i64 n1))] H2 fun d4 H3 => onV d4 fun v2 => isP v2 fun p2 => frcB (bnot (isNilA p2)) fun t3 => br t3 (Kb1 (DV.v (AV.er (nat_lit 7))) H3) (wrp .i64 (isub n1 ii1) fun n3 => g137x1 n3 n2 p1 b1 H3 Kb1))) fun Kb2 => br t1 (Kb2 DV.n H1) (onV d1 fun v1 => isI .i64 v1 fun n3 => frcB (ilt ii8 n3) fun t2 => Kb2 (DV.v (AV.b t2)) H1)
def g137x3 := isB v1 fun t1 => jn (fun d1 H2 => jn (fun d2 H3 => pickK t1 (DV.v (AV.b true)) d2 fun d3 => onV d3 fun v2 => isB v2 fun t2 => jn (fun d4 H4 => g137x2 d4 n1 n2 t2 p1 b1 H4 c1 Kb1) fun Kb2 => br t2 (Kb2 DV.n H3) (Kb2 (DV.v (AV.i .i64 n2)) H3)) fun Kb2 => br t1 (Kb2 DV.n H2) (onV d1 fun v2 => isI .i64 v2 fun n3 => frcB (ilt n3 ii0) fun t2 => Kb2 (DV.v (AV.b t2)) H2)) fun Kb2 => br t1 (Kb2 DV.n H1) (Kb2 (DV.v (AV.i .i64 n2)) H1)
def g137x4 := onV d1 fun v1 => isI .i64 v1 fun n2 => ln R1 <| cellsD d2 fun l1 => alK H1 l1 fun b1 H2 => frcB (ilt n1 ii1) fun t1 => jn (fun d3 H3 => jn (fun d4 H4 => pickK t1 (DV.v (AV.b true)) d4 fun d5 => onV d5 fun v2 => g137x3 v2 n1 n2 p1 b1 H4 c1 Kb1) fun Kb2 => br t1 (Kb2 DV.n H3) (onV d3 fun v2 => isI .i64 v2 fun n3 => frcB (ilt ii16 n3) fun t2 => Kb2 (DV.v (AV.b t2)) H3)) fun Kb2 => br t1 (Kb2 DV.n H2) (Kb2 (DV.v (AV.i .i64 n1)) H2)
/-- (*ps.Power).Add -/
def g137 : G DV := fun R1 H1 Kb1 => lc R1 fun d1 R2 => onV d1 fun v1 => isP v1 fun p1 => lc R2 fun d2 R3 => onV d2 fun v2 => isI .i64 v2 fun n1 => lc R3 fun d3 R4 => lc R4 fun d4 R5 => g137x4 d4 d3 R5 n1 p1 H1 c1 Kb1
def G137 : G DV := g137 G130

def z7 : List AV := [(AV.i .i64 ii0), (AV.i .i64 ii0), (AV.i .i64 ii0), (AV.i .i64 ii0)]
def g81x1 := c1 [(DV.v (AV.i .i64 n1)), (DV.v (AV.i .i64 n2)), (DV.v (AV.i .i64 n3))] H1 fun d1 H2 => onC d1 fun d2 d3 => onV d2 fun v1 => isP v1 fun p1 => onC d3 fun d4 d5 => onV d4 fun v2 => onN d5 <| rng n4 nn8 <| wrK H2 b1 (Nat.add nn6 (Nat.mul (itn n4) nn5)) (AV.p p1) fun H3 => ifA true true v2 AV.ni fun t1 => frcB (bnot t1) fun t2 => br t2 (Kb1 (DV.c (DV.v (AV.i .i64 ii0)) (DV.c (DV.v v2) DV.n)) H3) (wrp .i64 (iadd n4 ii1) fun n5 => Kb2 (DV.v (AV.i .i64 n5)) H3)
def g81x2 := c1 [(DV.v (AV.p (AP.at b1 (Nat.add m1 nn150)))), (DV.v (AV.i .i64 n1)), (DV.a l1), (DV.v (AV.i .i64 n2))] H1 fun d1 H2 => onV d1 fun v1 => ifA true true v1 AV.ni fun t1 => frcB (bnot t1) fun t2 => br t2 (Kb1 (DV.c (DV.v (AV.i .i64 ii0)) (DV.c (DV.v v1) DV.n)) H2) (wrp .i64 (isub n1 ii1) fun n3 => onA p1 fun b3 m2 => rng n3 nn16 <| wrK H2 b3 (Nat.add (Nat.add m2 nn329) (itn n3)) (AV.p (AP.at b2 nn0)) fun H3 => Kb1 (DV.c (DV.v (AV.i .i64 n1)) (DV.c (DV.v AV.ni) DV.n)) H3)
def g81x3 := br t1 (rng n1 nn4 <| lgetK (itn n1) l1 fun v1 => isP v1 fun p2 => c1 [(DV.v (AV.p p2)), (DV.v (AV.i .i64 n2)), (DV.v (AV.i .i64 n3))] H1 fun d1 H2 => onV d1 fun v2 => ifA true true v2 AV.ni fun t2 => frcB (bnot t2) fun t3 => br t3 (Kb1 (DV.c (DV.v (AV.i .i64 ii0)) (DV.c (DV.v v2) DV.n)) H2) (wrp .i64 (iadd n1 ii1) fun n5 => Kb2 (DV.v (AV.i .i64 n5)) H2)) (onA p1 fun b3 m1 => rdR H1 b1 nn0 nn4 fun l2 => g81x2 l2 n2 n4 m1 p1 b3 b2 H1 c2 Kb1)
def g81x4 := br t1 (onA p1 fun b3 m1 => rdK H1 b3 (Nat.add m1 nn11) fun v1 => isI .i64 v1 fun n5 => onA p1 fun b4 m2 => rdK H1 b4 (Nat.add m2 nn12) fun v2 => isI .i64 v2 fun n6 => onA p1 fun b5 m3 => rdK H1 b5 (Nat.add m3 nn13) fun v3 => isI .i64 v3 fun n7 => g81x1 n5 n6 n7 n1 b1 H1 c1 Kb1 Kb2) (onA p1 fun b3 m1 => rdR H1 b3 (Nat.add m1 nn313) nn4 fun l1 => lpR (failF [(107 , .int .i64)]) (fun Kb3 => fun d1 H2 => onV d1 fun v1 => isI .i64 v1 fun n5 => frcB (ilt n5 ii4) fun t2 => g81x3 l1 n5 n2 n3 n4 t2 p1 b2 b1 H2 c2 c3 Kb1 Kb3) (nat_lit 100000) (DV.v (AV.i .i64 ii0)) H1)
def g81x5 := alK H1 (lapp l1 ((AV.i .i64 ii0) :: ((AV.p AP.nil) :: ((AV.i .i64 ii0) :: ((AV.b false) :: ((AV.b false) :: ((AV.b false) :: ((AV.p AP.nil) :: ((AV.i .i64 ii0) :: ((AV.b false) :: ((AV.b false) :: ((AV.b false) :: ((AV.p AP.nil) :: ((AV.i .i64 ii0) :: ((AV.b false) :: ((AV.b false) :: ((AV.b false) :: ((AV.p AP.nil) :: ((AV.i .i64 ii0) :: ((AV.b false) :: ((AV.b false) :: ((AV.b false) :: ((AV.p AP.nil) :: ((AV.i .i64 ii0) :: ((AV.b false) :: ((AV.b false) :: ((AV.b false) :: ((AV.p AP.nil) :: ((AV.i .i64 ii0) :: ((AV.b false) :: ((AV.b false) :: ((AV.b false) :: ((AV.p AP.nil) :: ((AV.i .i64 ii0) :: ((AV.b false) :: ((AV.b false) :: ((AV.b false) :: ((AV.p AP.nil) :: ((AV.i .i64 ii0) :: ((AV.b false) :: ((AV.b false) :: ((AV.b false) :: z7)))))))))))))))))))))))))))))))))))))))))) fun b2 H2 => lpR (failF [(71 , .int .i64)]) (fun Kb2 => fun d1 H3 => onV d1 fun v1 => isI .i64 v1 fun n4 => frcB (ilt n4 ii8) fun t1 => g81x4 n4 n1 n2 n3 t1 p1 b2 b1 H3 c1 c2 c3 Kb1 Kb2) (nat_lit 100000) (DV.v (AV.i .i64 ii0)) H2
def g81x6 := rdR H1 b1 nn0 nn6 fun l1 => c1 [(DV.v (AV.p (AP.at b2 (Nat.add m1 nn22)))), (DV.a l1)] H1 fun d1 H2 => onC d1 fun d2 d3 => onV d2 fun v1 => isI .i64 v1 fun n3 => onC d3 fun d4 d5 => onV d4 fun v2 => onN d5 <| ifA true true v2 AV.ni fun t1 => frcB (bnot t1) fun t2 => br t2 (Kb1 (DV.c (DV.v (AV.i .i64 ii0)) (DV.c (DV.v v2) DV.n)) H2) (rdR H2 b3 nn0 nn5 fun l2 => must (Nat.beq (llen l2) nn5) <| g81x5 l2 n3 n1 n2 p1 b4 H2 c2 c3 c4 Kb1)
def g81x7 := jn (fun d1 H2 => jn (fun d2 H3 => pickK t1 (DV.v (AV.b true)) d2 fun d3 => onV d3 fun v1 => isB v1 fun t2 => br t2 (Kb1 (DV.c (DV.v (AV.i .i64 ii0)) (DV.c (DV.v (AV.er (nat_lit 2))) DV.n)) H3) (onA p1 fun b4 m1 => g81x6 n1 n2 m1 p1 b1 b4 b2 b3 H3 c1 c2 c3 c4 Kb1)) fun Kb2 => br t1 (Kb2 DV.n H2) (onV d1 fun v1 => isI .i64 v1 fun n3 => frcB (ilt ii8 n3) fun t2 => Kb2 (DV.v (AV.b t2)) H2)) fun Kb2 => br t1 (Kb2 DV.n H1) (Kb2 (DV.v (AV.i .i64 n2)) H1)
def g81x8 := pickK t1 (DV.v (AV.b true)) d1 fun d2 => onV d2 fun v1 => isB v1 fun t2 => jn (fun d3 H2 => jn (fun d4 H3 => pickK t2 (DV.v (AV.b true)) d4 fun d5 => onV d5 fun v2 => isB v2 fun t3 => g81x7 n1 n2 t3 p1 b1 b2 b3 H3 c1 c2 c3 c4 Kb1) fun Kb2 => br t2 (Kb2 DV.n H2) (onV d3 fun v2 => isI .i64 v2 fun n3 => frcB (ilt n3 ii0) fun t3 => Kb2 (DV.v (AV.b t3)) H2)) fun Kb2 => br t2 (Kb2 DV.n H1) (Kb2 (DV.v (AV.i .i64 n2)) H1)
def g81x9 := jn (fun d2 H2 => pickK t1 (DV.v (AV.b true)) d2 fun d3 => onV d3 fun v1 => isB v1 fun t2 => jn (fun d4 H3 => jn (fun d5 H4 => g81x8 d5 n1 n2 t2 p1 b1 b2 b3 H4 c1 c2 c3 c4 Kb1) fun Kb2 => br t2 (Kb2 DV.n H3) (onV d4 fun v2 => isI .i64 v2 fun n3 => frcB (ilt ii100 n3) fun t3 => Kb2 (DV.v (AV.b t3)) H3)) fun Kb2 => br t2 (Kb2 DV.n H2) (Kb2 (DV.v (AV.i .i64 n1)) H2)) fun Kb2 => br t1 (Kb2 DV.n H1) (onV d1 fun v1 => isI .i64 v1 fun n3 => frcB (ilt n3 ii1) fun t2 => Kb2 (DV.v (AV.b t2)) H1)
def g81x10 := must (Nat.beq (leni x1) nn6) <| must (Nat.beq (leni x2) nn6) <| frcB (leqI x1 x2) fun t1 => br t1 (Kb1 (DV.c (DV.v (AV.i .i64 ii0)) (DV.c (DV.v (AV.er (nat_lit 7))) DV.n)) H1) (rdR H1 b1 nn0 nn5 fun l1 => c1 [(DV.a l1)] H1 fun d1 H2 => onV d1 fun v1 => isB v1 fun t2 => frcB (bnot t2) fun t3 => jn (fun d2 H3 => g81x9 d2 n1 n2 t3 p1 b2 b1 b3 H3 c2 c3 c4 c5 Kb1) fun Kb2 => br t3 (Kb2 DV.n H2) (Kb2 (DV.v (AV.i .i64 n1)) H2))
def g81x11 := alK H1 l1 fun b3 H2 => rdR H2 b1 nn0 nn6 fun l2 => c1 [(DV.a l2)] H2 fun d1 H3 => onV d1 fun v1 => isB v1 fun t1 => frcB (bnot t1) fun t2 => br t2 (Kb1 (DV.c (DV.v (AV.i .i64 ii0)) (DV.c (DV.v (AV.er (nat_lit 2))) DV.n)) H3) (rdR H3 b1 nn0 nn6 fun l3 => onA p1 fun b4 m1 => rdR H3 b4 m1 nn6 fun l4 => intsK .u8 l3 fun x1 => intsK .u8 l4 fun x2 => g81x10 n1 n2 p1 b2 b1 b3 H3 x1 x2 c2 c3 c4 c5 c6 Kb1)
/-- (*ap.AP).Join -/
def g81 : G DV := fun R1 H1 Kb1 => lc R1 fun d1 R2 => onV d1 fun v1 => isP v1 fun p1 => lc R2 fun d2 R3 => lc R3 fun d3 R4 => lc R4 fun d4 R5 => onV d4 fun v2 => isI .i64 v2 fun n1 => lc R5 fun d5 R6 => lc R6 fun d6 R7 => onV d6 fun v3 => isI .i64 v3 fun n2 => ln R7 <| cellsD d2 fun l1 => alK H1 l1 fun b1 H2 => cellsD d3 fun l2 => alK H2 l2 fun b2 H3 => cellsD d5 fun l3 => g81x11 l3 n1 n2 p1 b1 b2 H3 c2 c3 c4 c1 c5 c6 Kb1
def G81 : G DV := g81 G49 G53 G134 G135 G136 G137

def z8 : T4 AV := (@T4.n AV yy2 (@T4.n AV yy2 te te te te) (@T4.n AV yy2 te te te te) (@T4.n AV yy2 te te te te) te)
def z9 : T4 AV := (@T4.n AV yy5 (@T4.n AV yy11 te te te te) (@T4.n AV yy12 te te te te) (@T4.n AV yy13 te te te te) te)
def z10 : List AV := [(AV.i .i64 ii1), (AV.i .i64 ii4), (AV.i .i64 ii1), (AV.i .i64 ii20), (AV.i .i64 ii0)]
def g42x1 := rdR H1 b1 m1 nn6 fun l3 => must (aleq l1 l3) <| c1 [(DV.a l2), (DV.a l1), (DV.v (AV.i .i64 n1))] H1 fun d1 H2 => onC d1 fun d2 d3 => onV d2 fun v1 => isP v1 fun p2 => onC d3 fun d4 d5 => onV d4 fun v2 => onN d5 <| ifA true true v2 AV.ni fun t1 => frcB (bnot t1) fun t2 => br t2 (Kb1 (DV.v v2) H2) (onA p1 fun b2 m2 => wrL H2 b2 m2 [(AV.i .i64 n2), (AV.p p2), (AV.s AS.nil), (AV.s AS.nil)] fun H3 => Kb1 (DV.v AV.ni) H3)
def g42x2 := ifA true true v1 AV.ni fun t1 => frcB (bnot t1) fun t2 => br t2 (Kb1 d1 H1) (rdK H1 b1 nn1 fun v2 => isI .i64 v2 fun n2 => onA p1 fun b2 m1 => rdR H1 b2 m1 nn6 fun l1 => onA p1 fun b3 m2 => rdK H1 b3 (Nat.add m2 nn21) fun v3 => isI .i64 v3 fun n3 => c1 [(DV.v (AV.i .i64 n2))] H1 fun d2 H2 => onL d2 fun l2 => rdK H2 b3 (Nat.add m2 nn21) fun v4 => must (aveq (AV.i .i64 n3) v4) <| g42x1 l1 l2 n3 n1 m1 p2 b2 H2 c2 Kb1)
def g42x3 := must (aveq (AV.p p1) v1) <| alB H1 z9 nn4 nn0 fun b1 H2 => ixA (AS.sl b1 nn0 nn4 nn4) n1 (fun x => x) fun b2 m1 => rdK H2 b2 m1 fun v2 => isI .i64 v2 fun n2 => c1 [(DV.v (AV.p p1)), (DV.a l1), (DV.a z10), (DV.v (AV.i .i64 n2)), (DV.a l2), (DV.v (AV.i .i64 ii2))] H2 fun d1 H3 => onC d1 fun d2 d3 => onV d2 fun v3 => isI .i64 v3 fun n3 => onC d3 fun d4 d5 => onV d4 fun v4 => onN d5 <| Kc1 (DV.v (AV.i .i64 n3)) (DV.v v4) H3
def g42x4 := rdR H1 b1 nn0 nn4 fun l3 => must (aleq l1 l3) <| rdK H1 b2 nn3 fun v1 => must (aveq (AV.i .i64 n1) v1) <| rdK H1 b3 (Nat.add m1 nn22) fun v2 => must (aveq (AV.p p1) v2) <| c1 [(DV.v (AV.p p1)), (DV.a l2), (DV.a z10), (DV.v (AV.i .i64 n2)), (DV.a l1), (DV.v (AV.i .i64 ii2))] H1 fun d1 H2 => onC d1 fun d2 d3 => onV d2 fun v3 => isI .i64 v3 fun n3 => onC d3 fun d4 d5 => onV d4 fun v4 => onN d5 <| Kc1 (DV.v (AV.i .i64 n3)) (DV.v v4) H2
def g42x5 := andK deq (c1 [(DV.v (AV.i .i64 n1))] H1 fun d1 H2 => onL d1 fun l2 => rdR H2 b1 nn0 nn4 fun l3 => must (aleq l1 l3) <| rdK H2 b2 nn3 fun v1 => must (aveq (AV.i .i64 n2) v1) <| rdK H2 b3 (Nat.add m1 nn22) fun v2 => g42x3 v2 l2 l1 n2 p1 H2 c2 Kc1) (alB H1 z9 nn4 nn0 fun b4 H2 => ixA (AS.sl b4 nn0 nn4 nn4) n2 (fun x => x) fun b5 m2 => rdK H2 b5 m2 fun v1 => isI .i64 v1 fun n3 => c1 [(DV.v (AV.i .i64 n1))] H2 fun d1 H3 => onL d1 fun l2 => rdK H3 b5 m2 fun v2 => must (aveq (AV.i .i64 n3) v2) <| g42x4 l1 l2 n2 n3 m1 p1 b1 b2 b3 H3 c2 Kc1)
def g42x6 := jF [(9 , .int .i64), (10 , .any)] (fun d1 d2 H2 => onV d1 fun v1 => isI .i64 v1 fun n1 => onV d2 fun v2 => g42x2 v2 d2 n1 p1 p2 b1 H2 c1 c2 Kb1) fun Kc1 => onA p1 fun b3 m1 => rdK H1 b3 (Nat.add m1 nn22) fun v1 => isP v1 fun p3 => rdK H1 b1 nn1 fun v2 => isI .i64 v2 fun n1 => rdK H1 b1 nn3 fun v3 => isI .i64 v3 fun n2 => rdR H1 b2 nn0 nn4 fun l1 => g42x5 l1 n1 n2 m1 p3 b2 b1 b3 H1 c1 c3 Kc1
def g42x7 := lpR (failF [(29 , .int .i64)]) (fun Kb2 => fun d1 H2 => onV d1 fun v1 => isI .i64 v1 fun n1 => frcB (ilt n1 ii4) fun t1 => br t1 (rdK H2 b1 nn2 fun v2 => isI .i64 v2 fun n2 => asI (bits .and .i64 n2 ii1) fun n3 => frcB (ieq n3 ii1) fun t2 => rng n1 nn4 <| wrK H2 b2 (Nat.add nn0 (itn n1)) (AV.b t2) fun H3 => wrp .i64 (iadd n1 ii1) fun n4 => Kb2 (DV.v (AV.i .i64 n4)) H3) (g42x6 p1 p2 b1 b2 H2 c1 c2 c3 Kb1)) (nat_lit 100000) (DV.v (AV.i .i64 ii0)) H1
def g42x8 := jn (fun d2 H2 => jn (fun d3 H3 => pickK t1 (DV.v (AV.b true)) d3 fun d4 => onV d4 fun v1 => isB v1 fun t2 => br t2 (Kb1 (DV.v (AV.er (nat_lit 2))) H3) (alB H3 z8 nn4 nn0 fun b2 H4 => g42x7 p1 p2 b1 b2 H4 c1 c2 c3 Kb1)) fun Kb2 => br t1 (Kb2 DV.n H2) (onV d2 fun v1 => isI .i64 v1 fun n1 => frcB (ile ii4 n1) fun t2 => Kb2 (DV.v (AV.b t2)) H2)) fun Kb2 => br t1 (Kb2 DV.n H1) (onV d1 fun v1 => isP v1 fun p3 => onA p3 fun b2 m1 => rdK H1 b2 m1 fun v2 => isI .i64 v2 fun n1 => Kb2 (DV.v (AV.i .i64 n1)) H1)
def g42x9 := lc R1 fun d1 R2 => ln R2 <| cellsD d1 fun l1 => alK H1 l1 fun b1 H2 => onA p1 fun b2 m1 => rdK H2 b2 m1 fun v1 => isI .i64 v1 fun n1 => frcB (bnot (ieq n1 ii0)) fun t1 => br t1 (Kb1 (DV.v (AV.er (nat_lit 7))) H2) (rdK H2 b1 nn3 fun v2 => isI .i64 v2 fun n2 => frcB (ilt n2 ii0) fun t2 => jn (fun d2 H3 => g42x8 d2 t2 p2 p1 b1 H3 c1 c2 c3 Kb1) fun Kb2 => br t2 (Kb2 DV.n H2) (Kb2 (DV.v (AV.p (AP.at b1 nn3))) H2))
/-- (*lab.Lab).join -/
def g42 : G DV := fun R1 H1 Kb1 => lc R1 fun d1 R2 => onV d1 fun v1 => isP v1 fun p1 => lc R2 fun d2 R3 => onV d2 fun v2 => isP v2 fun p2 => g42x9 R3 p2 p1 H1 c2 c1 c3 Kb1
def G42 : G DV := g42 G25 G26 G81

def g92x1 := jF [(9 , .bool)] (fun d1 H2 => onV d1 fun v1 => isB v1 fun t1 => br t1 (ixA s1 ii0 (fun x => x) fun b1 m1 => rdK H2 b1 m1 fun v2 => isI .u8 v2 fun n2 => wrp .i64 n2 fun n3 => Kb1 (DV.v (AV.i .i64 n3)) H2) (Kb1 (DV.v (AV.i .i64 ii0)) H2)) fun Kb2 => frcB (ieq n1 ii132) fun t1 => br t1 (Kb2 (DV.v (AV.b t1)) H1) (frcB (ieq n1 ii148) fun t2 => br t2 (Kb2 (DV.v (AV.b t2)) H1) (frcB (ieq n1 ii164) fun t3 => br t3 (Kb2 (DV.v (AV.b t3)) H1) (frcB (ieq n1 ii136) fun t4 => br t4 (Kb2 (DV.v (AV.b t4)) H1) (frcB (ieq n1 ii208) fun t5 => Kb2 (DV.v (AV.b t5)) H1))))
/-- ctl.Kind -/
def g92 : G DV := fun R1 H1 Kb1 => lc R1 fun d1 R2 => onV d1 fun v1 => isS v1 fun s1 => ln R2 <| lenA s1 fun m1 => frcB (ieq (Int.ofNat m1) ii0) fun t1 => br t1 (Kb1 (DV.v (AV.i .i64 ii0)) H1) (ixA s1 ii0 (fun x => x) fun b1 m2 => rdK H1 b1 m2 fun v2 => isI .u8 v2 fun n1 => g92x1 n1 s1 H1 Kb1)
def G92 : G DV := g92

def g299x1 := jn (fun d1 H2 => jn (fun d2 H3 => jn (fun d3 H4 => pickK t1 d3 (DV.v (AV.b false)) fun d4 => onV d4 fun v1 => isB v1 fun t2 => Kb1 (DV.v (AV.b t2)) H4) fun Kb2 => br t1 (onV d1 fun v1 => onV d2 fun v2 => isI .i64 v1 fun n3 => isI .i64 v2 fun n4 => frcB (ile n3 n4) fun t2 => Kb2 (DV.v (AV.b t2)) H3) (Kb2 DV.n H3)) fun Kb2 => br t1 (Kb2 (DV.v (AV.i .i64 n1)) H2) (Kb2 DV.n H2)) fun Kb2 => br t1 (Kb2 (DV.v (AV.i .i64 n2)) H1) (Kb2 DV.n H1)
/-- act.top -/
def g299 : G DV := fun R1 H1 Kb1 => lc R1 fun d1 R2 => onV d1 fun v1 => isI .i64 v1 fun n1 => lc R2 fun d2 R3 => onV d2 fun v2 => isI .i64 v2 fun n2 => ln R3 <| frcB (ile ii0 n1) fun t1 => g299x1 n2 n1 t1 H1 Kb1
def G299 : G DV := g299

def z11 : T4 AV := (@T4.n AV yy14 (@T4.n AV yy6 te te te te) (@T4.n AV yy6 te te te te) (@T4.n AV yy6 te te te te) te)
def g300x1 := br t1 (ixA (AS.sl b1 nn0 nn3 nn3) n1 (fun x => Nat.mul x nn6) fun b2 m1 => rdR H1 b2 m1 nn6 fun l1 => alB H1 z2 nn6 nn0 fun b3 H2 => must (Nat.beq (llen l1) nn6) <| wrL H2 b3 nn0 l1 fun H3 => appD nn1 nn1 s1 (AS.sl b3 nn0 nn6 nn6) H3 fun s2 H4 => wrp .i64 (iadd n1 ii1) fun n3 => Kc1 (DV.v (AV.s s2)) (DV.v (AV.i .i64 n3)) H4) (alB H1 (@T4.n AV yy6 (@T4.n AV yy6 te te te te) (@T4.n AV yy15 te te te te) (@T4.n AV (AV.i .u8 n2) te te te te) te) nn4 nn0 fun b2 H2 => appD nn1 nn1 s1 (AS.sl b2 nn0 nn4 nn4) H2 fun s2 H3 => Kb1 (DV.v (AV.s s2)) H3)
def g300x2 := must (Nat.beq (llen l1) nn6) <| must (Nat.beq (llen l2) nn6) <| alK H1 (lapp l3 (lapp l1 (lapp l2 []))) fun b2 H2 => lenA (AS.sl b2 nn0 nn3 nn3) fun m1 => lpR (failF [(9 , .slice), (18 , .int .i64)]) (fun Kc1 => fun d1 d2 H3 => onV d1 fun v1 => isS v1 fun s1 => onV d2 fun v2 => isI .i64 v2 fun n2 => frcB (ilt n2 (Int.ofNat m1)) fun t1 => g300x1 n2 n1 t1 b2 s1 H3 Kb1 Kc1) (nat_lit 100000) (DV.v (AV.s (AS.sl b1 nn0 nn4 nn4))) (DV.v (AV.i .i64 ii0)) H2
def g300x3 := lc R1 fun d2 R2 => lc R2 fun d3 R3 => lc R3 fun d4 R4 => onV d4 fun v1 => isI .u8 v1 fun n1 => ln R4 <| cellsD d1 fun l1 => alK H1 l1 fun b1 H2 => cellsD d2 fun l2 => alK H2 l2 fun b2 H3 => cellsD d3 fun l3 => alK H3 l3 fun b3 H4 => alB H4 z11 nn4 nn0 fun b4 H5 => rdR H5 b1 nn0 nn6 fun l4 => rdR H5 b2 nn0 nn6 fun l5 => rdR H5 b3 nn0 nn6 fun l6 => must (Nat.beq (llen l4) nn6) <| g300x2 l5 l6 l4 n1 b4 H5 Kb1
/-- act.front -/
def g300 : G DV := fun R1 H1 Kb1 => lc R1 fun d1 R2 => g300x3 d1 R2 H1 Kb1
def G300 : G DV := g300

/-- act.two -/
def g301 : G DV := fun R1 H1 Kb1 => lc R1 fun d1 R2 => onV d1 fun v1 => isI .i64 v1 fun n1 => ln R2 <| wrp .u8 n1 fun n2 => asI (idiv n1 (ip2 ii8)) fun n3 => wrp .u8 n3 fun n4 => alB H1 (@T4.n AV (AV.i .u8 n2) (@T4.n AV (AV.i .u8 n4) te te te te) te te te) nn2 nn0 fun b1 H2 => Kb1 (DV.v (AV.s (AS.sl b1 nn0 nn2 nn2))) H2
def G301 : G DV := g301

def g233x1 := jF [(5 , .slice)] (fun d1 H2 => onV d1 fun v1 => isS v1 fun s2 => Kb1 (DV.c (DV.v (AV.s s2)) (DV.c (DV.v AV.ni) DV.n)) H2) fun Kb2 => rdK H1 b1 nn18 fun v1 => isB v1 fun t1 => frcB (bnot t1) fun t2 => br t2 (rdK H1 b1 nn23 fun v2 => isI .i64 v2 fun n1 => wrp .i64 (imul n1 ii16) fun n2 => c1 [(DV.v (AV.i .i64 n2))] H1 fun d1 H2 => onV d1 fun v3 => isS v3 fun s2 => appD nn1 nn1 s1 s2 H2 fun s3 H3 => Kb2 (DV.v (AV.s s3)) H3) (Kb2 (DV.v (AV.s s1)) H1)
def g233x2 := rdK H1 b1 nn21 fun v1 => isI .i64 v1 fun n2 => wrp .i64 (imul n2 ii64) fun n3 => wrp .i64 (iadd n1 n3) fun n4 => c1 [(DV.v (AV.i .i64 n4))] H1 fun d1 H2 => onV d1 fun v2 => isS v2 fun s2 => appD nn1 nn1 s1 s2 H2 fun s3 H3 => rdK H3 b1 nn22 fun v3 => isI .i64 v3 fun n5 => c1 [(DV.v (AV.i .i64 n5))] H3 fun d2 H4 => onV d2 fun v4 => isS v4 fun s4 => appD nn1 nn1 s3 s4 H4 fun s5 H5 => g233x1 b1 s5 H5 c1 Kb1
def g233x3 := jF [(5 , .slice)] (fun d1 H2 => onV d1 fun v1 => isS v1 fun s2 => rdK H2 b1 nn20 fun v2 => isI .i64 v2 fun n1 => wrp .i64 (imul n1 ii4) fun n2 => wrp .i64 (iadd ii2 n2) fun n3 => g233x2 n3 b1 s2 H2 c1 Kb1) fun Kb2 => rdK H1 b1 nn18 fun v1 => isB v1 fun t1 => br t1 (rdK H1 b1 nn24 fun v2 => isI .i64 v2 fun n1 => c1 [(DV.v (AV.i .i64 n1))] H1 fun d1 H2 => onV d1 fun v3 => isS v3 fun s2 => appD nn1 nn1 s1 s2 H2 fun s3 H3 => Kb2 (DV.v (AV.s s3)) H3) (Kb2 (DV.v (AV.s s1)) H1)
def g233x4 := rdR H1 b1 nn12 nn6 fun l3 => rdK H1 b1 nn19 fun v1 => isI .i64 v1 fun n2 => wrp .u8 n2 fun n3 => c1 [(DV.a l1), (DV.a l2), (DV.a l3), (DV.v (AV.i .u8 n1))] H1 fun d1 H2 => onV d1 fun v2 => isS v2 fun s1 => rdK H2 b1 nn19 fun v3 => must (aveq (AV.i .i64 n2) v3) <| alB H2 (@T4.n AV (AV.i .u8 n3) te te te te) nn1 nn0 fun b2 H3 => appD nn1 nn1 s1 (AS.sl b2 nn0 nn1 nn1) H3 fun s2 H4 => g233x3 b1 s2 H4 c2 Kb1
def g233x5 := pickK t1 (DV.v (AV.b true)) d1 fun d2 => onV d2 fun v1 => isB v1 fun t2 => br t2 (Kb1 (DV.c (DV.v (AV.s AS.nil)) (DV.c (DV.v (AV.er (nat_lit 2))) DV.n)) H1) (jF [(4 , .int .u8)] (fun d3 H2 => onV d3 fun v2 => isI .u8 v2 fun n1 => rdR H2 b1 nn0 nn6 fun l1 => rdR H2 b1 nn6 nn6 fun l2 => g233x4 l1 l2 n1 b1 H2 c1 c2 Kb1) fun Kb2 => rdK H1 b1 nn18 fun v2 => isB v2 fun t3 => br t3 (Kb2 (DV.v (AV.i .u8 ii1)) H1) (Kb2 (DV.v (AV.i .u8 ii0)) H1))
def g233x6 := jn (fun d3 H2 => jn (fun d4 H3 => jn (fun d5 H4 => g233x5 d5 t1 b1 H4 c1 c2 Kb1) fun Kb2 => br t1 (Kb2 DV.n H3) (onV d1 fun v1 => isB v1 fun t2 => pickK t2 d4 (DV.v (AV.b false)) fun d5 => onV d5 fun v2 => isB v2 fun t3 => Kb2 (DV.v (AV.b t3)) H3)) fun Kb2 => grd d1 true (onV d3 fun v1 => isI .i64 v1 fun n1 => frcB (bnot (ieq n1 ii0)) fun t2 => Kb2 (DV.v (AV.b t2)) H2) (Kb2 DV.n H2)) fun Kb2 => grd d1 true (onV d2 fun v1 => isP v1 fun p1 => onA p1 fun b2 m1 => rdK H1 b2 m1 fun v2 => isI .i64 v2 fun n1 => Kb2 (DV.v (AV.i .i64 n1)) H1) (Kb2 DV.n H1)
def g233x7 := jn (fun d1 H2 => jn (fun d2 H3 => jn (fun d3 H4 => jn (fun d4 H5 => g233x6 d3 d4 t1 b1 H5 c1 c2 Kb1) fun Kb2 => grd d3 true (Kb2 (DV.v (AV.p (AP.at b1 nn23))) H4) (Kb2 DV.n H4)) fun Kb2 => br t1 (Kb2 DV.n H3) (Kb2 d2 H3)) fun Kb2 => br t1 (Kb2 DV.n H2) (onV d1 fun v1 => isP v1 fun p1 => onA p1 fun b2 m1 => rdK H2 b2 m1 fun v2 => isB v2 fun t2 => Kb2 (DV.v (AV.b t2)) H2)) fun Kb2 => br t1 (Kb2 DV.n H1) (Kb2 (DV.v (AV.p (AP.at b1 nn18))) H1)
def g233x8 := jn (fun d3 H2 => jn (fun d4 H3 => pickK t1 (DV.v (AV.b true)) d4 fun d5 => onV d5 fun v1 => isB v1 fun t2 => g233x7 t2 b1 H3 c1 c2 Kb1) fun Kb2 => br t1 (Kb2 DV.n H2) (onV d1 fun v1 => isB v1 fun t2 => pickK t2 d3 (DV.v (AV.b false)) fun d4 => onV d4 fun v2 => isB v2 fun t3 => Kb2 (DV.v (AV.b t3)) H2)) fun Kb2 => grd d1 true (onV d2 fun v1 => isI .i64 v1 fun n1 => frcB (bnot (ieq n1 ii0)) fun t2 => Kb2 (DV.v (AV.b t2)) H1) (Kb2 DV.n H1)
def g233x9 := jn (fun d2 H2 => jn (fun d3 H3 => jn (fun d4 H4 => jn (fun d5 H5 => g233x8 d3 d5 t1 b1 H5 c1 c2 Kb1) fun Kb2 => grd d3 true (onV d4 fun v1 => isP v1 fun p1 => onA p1 fun b2 m1 => rdK H4 b2 m1 fun v2 => isI .i64 v2 fun n1 => Kb2 (DV.v (AV.i .i64 n1)) H4) (Kb2 DV.n H4)) fun Kb2 => grd d3 true (Kb2 (DV.v (AV.p (AP.at b1 nn24))) H3) (Kb2 DV.n H3)) fun Kb2 => br t1 (Kb2 DV.n H2) (Kb2 d2 H2)) fun Kb2 => br t1 (Kb2 DV.n H1) (onV d1 fun v1 => isB v1 fun t2 => frcB (bnot t2) fun t3 => Kb2 (DV.v (AV.b t3)) H1)
def g233x10 := jn (fun d2 H2 => pickK t1 (DV.v (AV.b true)) d2 fun d3 => onV d3 fun v1 => isB v1 fun t2 => jn (fun d4 H3 => jn (fun d5 H4 => g233x9 d5 t2 b1 H4 c1 c2 Kb1) fun Kb2 => br t2 (Kb2 DV.n H3) (onV d4 fun v2 => isP v2 fun p1 => onA p1 fun b2 m1 => rdK H3 b2 m1 fun v3 => isB v3 fun t3 => Kb2 (DV.v (AV.b t3)) H3)) fun Kb2 => br t2 (Kb2 DV.n H2) (Kb2 (DV.v (AV.p (AP.at b1 nn18))) H2)) fun Kb2 => br t1 (Kb2 DV.n H1) (onV d1 fun v1 => isB v1 fun t2 => frcB (bnot t2) fun t3 => Kb2 (DV.v (AV.b t3)) H1)
def g233x11 := jn (fun d1 H2 => jn (fun d2 H3 => jn (fun d3 H4 => g233x10 d3 t1 b1 H4 c1 c2 Kb1) fun Kb2 => br t1 (Kb2 DV.n H3) (c3 [d2, (DV.v (AV.i .i64 ii4095))] H3 fun d3 H4 => onV d3 fun v1 => isB v1 fun t2 => Kb2 (DV.v (AV.b t2)) H4)) fun Kb2 => br t1 (Kb2 DV.n H2) (onV d1 fun v1 => isP v1 fun p1 => onA p1 fun b2 m1 => rdK H2 b2 m1 fun v2 => isI .i64 v2 fun n1 => Kb2 (DV.v (AV.i .i64 n1)) H2)) fun Kb2 => br t1 (Kb2 DV.n H1) (Kb2 (DV.v (AV.p (AP.at b1 nn23))) H1)
def g233x12 := jn (fun d2 H2 => jn (fun d3 H3 => jn (fun d4 H4 => pickK t1 (DV.v (AV.b true)) d4 fun d5 => onV d5 fun v1 => isB v1 fun t2 => g233x11 t2 b1 H4 c1 c2 c3 Kb1) fun Kb2 => br t1 (Kb2 DV.n H3) (onV d3 fun v1 => isB v1 fun t2 => frcB (bnot t2) fun t3 => Kb2 (DV.v (AV.b t3)) H3)) fun Kb2 => br t1 (Kb2 DV.n H2) (c3 [d2, (DV.v (AV.i .i64 ii65535))] H2 fun d3 H3 => onV d3 fun v1 => isB v1 fun t2 => Kb2 (DV.v (AV.b t2)) H3)) fun Kb2 => br t1 (Kb2 DV.n H1) (onV d1 fun v1 => isP v1 fun p1 => onA p1 fun b2 m1 => rdK H1 b2 m1 fun v2 => isI .i64 v2 fun n1 => Kb2 (DV.v (AV.i .i64 n1)) H1)
def g233x13 := jn (fun d2 H2 => jn (fun d3 H3 => pickK t1 (DV.v (AV.b true)) d3 fun d4 => onV d4 fun v1 => isB v1 fun t2 => jn (fun d5 H4 => g233x12 d5 t2 b1 H4 c1 c2 c3 Kb1) fun Kb2 => br t2 (Kb2 DV.n H3) (Kb2 (DV.v (AV.p (AP.at b1 nn24))) H3)) fun Kb2 => br t1 (Kb2 DV.n H2) (onV d2 fun v1 => isB v1 fun t2 => frcB (bnot t2) fun t3 => Kb2 (DV.v (AV.b t3)) H2)) fun Kb2 => br t1 (Kb2 DV.n H1) (c3 [d1, (DV.v (AV.i .i64 ii65535))] H1 fun d2 H2 => onV d2 fun v1 => isB v1 fun t2 => Kb2 (DV.v (AV.b t2)) H2)
def g233x14 := jn (fun d2 H2 => pickK t1 (DV.v (AV.b true)) d2 fun d3 => onV d3 fun v1 => isB v1 fun t2 => jn (fun d4 H3 => jn (fun d5 H4 => g233x13 d5 t2 b1 H4 c1 c2 c3 Kb1) fun Kb2 => br t2 (Kb2 DV.n H3) (onV d4 fun v2 => isP v2 fun p1 => onA p1 fun b2 m1 => rdK H3 b2 m1 fun v3 => isI .i64 v3 fun n1 => Kb2 (DV.v (AV.i .i64 n1)) H3)) fun Kb2 => br t2 (Kb2 DV.n H2) (Kb2 (DV.v (AV.p (AP.at b1 nn22))) H2)) fun Kb2 => br t1 (Kb2 DV.n H1) (onV d1 fun v1 => isB v1 fun t2 => frcB (bnot t2) fun t3 => Kb2 (DV.v (AV.b t3)) H1)
def g233x15 := jn (fun d1 H2 => jn (fun d2 H3 => jn (fun d3 H4 => g233x14 d3 t1 b1 H4 c1 c2 c3 Kb1) fun Kb2 => br t1 (Kb2 DV.n H3) (c3 [d2, (DV.v (AV.i .i64 ii1023))] H3 fun d3 H4 => onV d3 fun v1 => isB v1 fun t2 => Kb2 (DV.v (AV.b t2)) H4)) fun Kb2 => br t1 (Kb2 DV.n H2) (onV d1 fun v1 => isP v1 fun p1 => onA p1 fun b2 m1 => rdK H2 b2 m1 fun v2 => isI .i64 v2 fun n1 => Kb2 (DV.v (AV.i .i64 n1)) H2)) fun Kb2 => br t1 (Kb2 DV.n H1) (Kb2 (DV.v (AV.p (AP.at b1 nn21))) H1)
def g233x16 := jn (fun d2 H2 => jn (fun d3 H3 => jn (fun d4 H4 => pickK t1 (DV.v (AV.b true)) d4 fun d5 => onV d5 fun v1 => isB v1 fun t2 => g233x15 t2 b1 H4 c1 c2 c3 Kb1) fun Kb2 => br t1 (Kb2 DV.n H3) (onV d3 fun v1 => isB v1 fun t2 => frcB (bnot t2) fun t3 => Kb2 (DV.v (AV.b t3)) H3)) fun Kb2 => br t1 (Kb2 DV.n H2) (c3 [d2, (DV.v (AV.i .i64 ii7))] H2 fun d3 H3 => onV d3 fun v1 => isB v1 fun t2 => Kb2 (DV.v (AV.b t2)) H3)) fun Kb2 => br t1 (Kb2 DV.n H1) (onV d1 fun v1 => isP v1 fun p1 => onA p1 fun b2 m1 => rdK H1 b2 m1 fun v2 => isI .i64 v2 fun n1 => Kb2 (DV.v (AV.i .i64 n1)) H1)
/-- act.AddBytes -/
def g233 : G DV := fun R1 H1 Kb1 => lc R1 fun d1 R2 => ln R2 <| cellsD d1 fun l1 => alK H1 l1 fun b1 H2 => rdK H2 b1 nn19 fun v1 => isI .i64 v1 fun n1 => c1 [(DV.v (AV.i .i64 n1)), (DV.v (AV.i .i64 ii255))] H2 fun d2 H3 => onV d2 fun v2 => isB v2 fun t1 => frcB (bnot t1) fun t2 => jn (fun d3 H4 => g233x16 d3 t2 b1 H4 c2 c3 c1 Kb1) fun Kb2 => br t2 (Kb2 DV.n H3) (Kb2 (DV.v (AV.p (AP.at b1 nn20))) H3)
def G233 : G DV := g233 G299 G300 G301

def g252x1 := jn (fun d2 H2 => pickK t1 (DV.v (AV.b true)) d2 fun d3 => onV d3 fun v1 => isB v1 fun t2 => br t2 (Kb1 (DV.v (AV.er (nat_lit 4))) H2) (lenA s1 fun m1 => frcB (ilt (Int.ofNat m1) n1) fun t3 => br t3 (Kb1 (DV.v (AV.er (nat_lit 0))) H2) (lenA s1 fun m2 => frcB (ilt n1 (Int.ofNat m2)) fun t4 => br t4 (Kb1 (DV.v (AV.er (nat_lit 1))) H2) (Kb1 (DV.v AV.ni) H2)))) fun Kb2 => br t1 (Kb2 DV.n H1) (onV d1 fun v1 => isI .i64 v1 fun n2 => frcB (ilt n2 ii0) fun t2 => Kb2 (DV.v (AV.b t2)) H1)
def g252x2 := jn (fun d3 H2 => jn (fun d4 H3 => jn (fun d5 H4 => g252x1 d5 n1 t1 s1 H4 Kb1) fun Kb2 => br t1 (Kb2 DV.n H3) (c1 [d1, d4] H3 fun d5 H4 => onV d5 fun v1 => isI .i64 v1 fun n2 => Kb2 (DV.v (AV.i .i64 n2)) H4)) fun Kb2 => br t1 (Kb2 DV.n H2) (onV d3 fun v1 => isP v1 fun p1 => onA p1 fun b1 m1 => rdK H2 b1 m1 fun v2 => isI .u8 v2 fun n2 => Kb2 (DV.v (AV.i .u8 n2)) H2)) fun Kb2 => br t1 (Kb2 DV.n H1) (onV d2 fun v1 => isS v1 fun s2 => ixA s2 ii25 (fun x => x) fun b1 m1 => Kb2 (DV.v (AV.p (AP.at b1 m1))) H1)
def g252x3 := jn (fun d2 H2 => jn (fun d3 H3 => pickK t1 (DV.v (AV.b true)) d3 fun d4 => onV d4 fun v1 => isB v1 fun t2 => jn (fun d5 H4 => jn (fun d6 H5 => g252x2 d5 d6 n1 t2 s1 H5 c1 Kb1) fun Kb2 => br t2 (Kb2 DV.n H4) (Kb2 (DV.v (AV.s s1)) H4)) fun Kb2 => br t2 (Kb2 DV.n H3) (Kb2 (DV.v (AV.s s2)) H3)) fun Kb2 => br t1 (Kb2 DV.n H2) (onV d2 fun v1 => isI .u8 v1 fun n2 => frcB (bnot (ieq n2 ii3)) fun t2 => Kb2 (DV.v (AV.b t2)) H2)) fun Kb2 => br t1 (Kb2 DV.n H1) (onV d1 fun v1 => isP v1 fun p1 => onA p1 fun b1 m1 => rdK H1 b1 m1 fun v2 => isI .u8 v2 fun n2 => Kb2 (DV.v (AV.i .u8 n2)) H1)
def g252x4 := br t1 (Kb1 (DV.v (AV.er (nat_lit 0))) H1) (ixA s1 ii0 (fun x => x) fun b1 m1 => rdK H1 b1 m1 fun v1 => isI .u8 v1 fun n2 => frcB (bnot (ieq n2 ii208)) fun t2 => jn (fun d1 H2 => jn (fun d2 H3 => g252x3 d2 n1 t2 s1 s2 H3 c1 Kb1) fun Kb2 => br t2 (Kb2 DV.n H2) (onV d1 fun v2 => isS v2 fun s3 => ixA s3 ii24 (fun x => x) fun b2 m2 => Kb2 (DV.v (AV.p (AP.at b2 m2))) H2)) fun Kb2 => br t2 (Kb2 DV.n H1) (Kb2 (DV.v (AV.s s1)) H1))
/-- act.long -/
def g252 : G DV := fun R1 H1 Kb1 => lc R1 fun d1 R2 => onV d1 fun v1 => isS v1 fun s1 => lc R2 fun d2 R3 => onV d2 fun v2 => isI .i64 v2 fun n1 => lc R3 fun d3 R4 => onV d3 fun v3 => isS v3 fun s2 => ln R4 <| lenA s1 fun m1 => frcB (ilt (Int.ofNat m1) ii26) fun t1 => g252x4 n1 t1 s1 s2 H1 c1 Kb1
def G252 : G DV := g252 gIndexByte.G

def z12 : T4 AV := (@T4.n AV yy6 (@T4.n AV yy6 (@T4.n AV yy6 te te te te) (@T4.n AV yy6 te te te te) (@T4.n AV yy6 te te te te) (@T4.n AV yy6 te te te te)) (@T4.n AV yy6 (@T4.n AV yy6 te te te te) (@T4.n AV yy6 te te te te) (@T4.n AV yy6 te te te te) te) (@T4.n AV yy6 (@T4.n AV yy6 te te te te) (@T4.n AV yy6 te te te te) (@T4.n AV yy6 te te te te) te) (@T4.n AV yy6 (@T4.n AV yy6 te te te te) (@T4.n AV yy6 te te te te) (@T4.n AV yy6 te te te te) te))
def g253x1 := rdR H1 b1 nn12 nn6 fun l3 => must (aleq l1 l3) <| rdR H1 b1 nn6 nn6 fun l4 => must (aleq l2 l4) <| must (Nat.beq (llen l2) nn6) <| wrL H1 b2 nn0 l2 fun H2 => rdR H2 b1 nn12 nn6 fun l5 => must (aleq l1 l5) <| must (Nat.beq (llen l1) nn6) <| wrL H2 b3 nn0 l1 fun H3 => rdR H3 b4 nn0 nn6 fun l6 => rdR H3 b2 nn0 nn6 fun l7 => rdR H3 b3 nn0 nn6 fun l8 => Kb1 (DV.c (DV.a l6) (DV.c (DV.a l7) (DV.c (DV.a l8) DV.n))) H3
def g253x2 := br t1 (rng n1 nn3 <| wrp .i64 (imul n1 ii6) fun n2 => wrp .i64 (iadd ii4 n2) fun n3 => natK n3 fun m1 => lenA s1 fun m2 => slA s1 m1 m2 (fun x => x) fun s2 => copyD (nat_lit 1) (AS.sl b1 (Nat.add nn0 (Nat.mul (itn n1) nn6)) nn6 nn6) s2 H1 fun d1 H2 => wrp .i64 (iadd n1 ii1) fun n4 => Kb1 (DV.v (AV.i .i64 n4)) H2) (rdR H1 b1 nn0 nn6 fun l1 => rdR H1 b1 nn6 nn6 fun l2 => rdR H1 b1 nn12 nn6 fun l3 => must (Nat.beq (llen l1) nn6) <| wrL H1 b2 nn0 l1 fun H2 => g253x1 l3 l2 b1 b3 b4 b2 H2 Kb2)
/-- act.addrs -/
def g253 : G DV := fun R1 H1 Kb1 => lc R1 fun d1 R2 => onV d1 fun v1 => isS v1 fun s1 => ln R2 <| alB H1 z2 nn6 nn0 fun b1 H2 => alB H2 z2 nn6 nn0 fun b2 H3 => alB H3 z2 nn6 nn0 fun b3 H4 => alB H4 z12 nn18 nn0 fun b4 H5 => lpR (failF [(7 , .int .i64)]) (fun Kb2 => fun d2 H6 => onV d2 fun v2 => isI .i64 v2 fun n1 => frcB (ilt n1 ii3) fun t1 => g253x2 n1 t1 b4 b1 b2 b3 s1 H6 Kb2 Kb1) (nat_lit 100000) (DV.v (AV.i .i64 ii0)) H5
def G253 : G DV := g253

/-- act.number -/
def g254 : G DV := fun R1 H1 Kb1 => lc R1 fun d1 R2 => onV d1 fun v1 => isS v1 fun s1 => ln R2 <| ixA s1 ii0 (fun x => x) fun b1 m1 => rdK H1 b1 m1 fun v2 => isI .u8 v2 fun n1 => wrp .i64 n1 fun n2 => ixA s1 ii1 (fun x => x) fun b2 m2 => rdK H1 b2 m2 fun v3 => isI .u8 v3 fun n3 => wrp .i64 n3 fun n4 => wrp .i64 (imul n4 (ip2 ii8)) fun n5 => asI (bits .or .i64 n2 n5) fun n6 => Kb1 (DV.v (AV.i .i64 n6)) H1
def G254 : G DV := g254

def z13 : T4 AV := (@T4.n AV yy6 (@T4.n AV yy6 (@T4.n AV yy6 (@T4.n AV yy0 te te te te) te te te) (@T4.n AV yy6 te te te te) (@T4.n AV yy6 te te te te) (@T4.n AV yy6 te te te te)) (@T4.n AV yy6 (@T4.n AV yy6 (@T4.n AV yy0 te te te te) te te te) (@T4.n AV yy6 te te te te) (@T4.n AV yy6 te te te te) (@T4.n AV yy2 te te te te)) (@T4.n AV yy6 (@T4.n AV yy6 (@T4.n AV yy0 te te te te) te te te) (@T4.n AV yy6 te te te te) (@T4.n AV yy6 te te te te) (@T4.n AV yy0 te te te te)) (@T4.n AV yy6 (@T4.n AV yy6 (@T4.n AV yy0 te te te te) te te te) (@T4.n AV yy6 te te te te) (@T4.n AV yy6 te te te te) (@T4.n AV yy0 te te te te)))
def z14 : List AV := [(AV.i .u8 ii0), (AV.i .u8 ii0), (AV.i .u8 ii0), (AV.i .u8 ii0), (AV.i .u8 ii0), (AV.i .u8 ii0), (AV.i .u8 ii0), (AV.i .u8 ii0), (AV.i .u8 ii0), (AV.i .u8 ii0), (AV.i .u8 ii0), (AV.i .u8 ii0), (AV.i .u8 ii0), (AV.i .u8 ii0), (AV.i .u8 ii0), (AV.i .u8 ii0), (AV.i .u8 ii0), (AV.i .u8 ii0), (AV.b false), (AV.i .i64 ii0), (AV.i .i64 ii0), (AV.i .i64 ii0), (AV.i .i64 ii0), (AV.i .i64 ii0), (AV.i .i64 ii0)]
def g150x1 := jn (fun d2 H2 => pickK t1 (DV.v (AV.b true)) d2 fun d3 => onV d3 fun v1 => isB v1 fun t2 => br t2 (wrL H2 b1 nn0 z14 fun H3 => rdR H3 b1 nn0 nn25 fun l1 => Kb1 (DV.c (DV.a l1) (DV.c (DV.v (AV.er (nat_lit 1))) DV.n)) H3) (rdR H2 b2 nn0 nn25 fun l1 => must (Nat.beq (llen l1) nn25) <| wrL H2 b1 nn0 l1 fun H3 => rdR H3 b1 nn0 nn25 fun l2 => Kb1 (DV.c (DV.a l2) (DV.c (DV.v AV.ni) DV.n)) H3)) fun Kb2 => br t1 (Kb2 DV.n H1) (onV d1 fun v1 => isB v1 fun t2 => frcB (bnot t2) fun t3 => Kb2 (DV.v (AV.b t3)) H1)
def g150x2 := onC d1 fun d2 d3 => onV d2 fun v1 => onN d3 <| ifA true true v1 AV.ni fun t1 => frcB (bnot t1) fun t2 => jn (fun d4 H2 => jn (fun d5 H3 => jn (fun d6 H4 => g150x1 d6 t2 b1 b2 H4 Kb1) fun Kb2 => br t2 (Kb2 DV.n H3) (c1 [d4, d5] H3 fun d6 H4 => onV d6 fun v2 => isB v2 fun t3 => Kb2 (DV.v (AV.b t3)) H4)) fun Kb2 => br t2 (Kb2 DV.n H2) (Kb2 (DV.v (AV.s s1)) H2)) fun Kb2 => br t2 (Kb2 DV.n H1) (Kb2 (DV.v (AV.s s2)) H1)
def g150x3 := jF [] (fun H2 => rdR H2 b1 nn0 nn25 fun l1 => c1 [(DV.a l1)] H2 fun d1 H3 => onC d1 fun d2 d3 => onV d2 fun v1 => isS v1 fun s3 => g150x2 d3 b2 b1 s1 s3 H3 c2 Kb1) fun Ka1 => rdK H1 b1 nn18 fun v1 => isB v1 fun t1 => frcB (bnot t1) fun t2 => br t2 (lenA s2 fun m1 => slA s2 nn4 m1 (fun x => x) fun s3 => c3 [(DV.v (AV.s s3))] H1 fun d1 H2 => onV d1 fun v2 => isI .i64 v2 fun n1 => must (bnot (ieq ii16 ii0)) <| wrp .i64 (iquo n1 ii16) fun n2 => wrK H2 b1 nn23 (AV.i .i64 n2) fun H3 => Ka1 H3) (Ka1 H1)
def g150x4 := must (bnot (ieq ii4 ii0)) <| wrp .i64 (iquo n1 ii4) fun n3 => must (bnot (ieq ii64 ii0)) <| wrp .i64 (iquo n2 ii64) fun n4 => lenA s1 fun m1 => slA s1 nn2 m1 (fun x => x) fun s3 => c1 [(DV.v (AV.s s3))] H1 fun d1 H2 => onV d1 fun v1 => isI .i64 v1 fun n5 => wrK H2 b1 nn20 (AV.i .i64 n3) fun H3 => wrK H3 b1 nn21 (AV.i .i64 n4) fun H4 => wrK H4 b1 nn22 (AV.i .i64 n5) fun H5 => g150x3 b1 b2 s2 s1 H5 c2 c3 c1 Kb1
def g150x5 := jF [(6 , .slice)] (fun d1 H2 => onV d1 fun v1 => isS v1 fun s3 => c1 [(DV.v (AV.s s3))] H2 fun d2 H3 => onV d2 fun v2 => isI .i64 v2 fun n1 => must (bnot (ieq ii64 ii0)) <| asI (irem n1 ii64) fun n2 => g150x4 n2 n1 b1 b2 s3 s1 H3 c1 c2 c3 Kb1) fun Kb2 => rdK H1 b1 nn18 fun v1 => isB v1 fun t1 => br t1 (c1 [(DV.v (AV.s s2))] H1 fun d1 H2 => onV d1 fun v2 => isI .i64 v2 fun n1 => wrK H2 b1 nn24 (AV.i .i64 n1) fun H3 => lenA s2 fun m1 => slA s2 nn2 m1 (fun x => x) fun s3 => Kb2 (DV.v (AV.s s3)) H3) (Kb2 (DV.v (AV.s s2)) H1)
def g150x6 := c1 [(DV.v (AV.s s1))] H1 fun d1 H2 => onC d1 fun d2 d3 => onL d2 fun l1 => onC d3 fun d4 d5 => onL d4 fun l2 => onC d5 fun d6 d7 => onL d6 fun l3 => onN d7 <| must (Nat.beq (llen l1) nn6) <| wrL H2 b1 nn0 l1 fun H3 => must (Nat.beq (llen l2) nn6) <| wrL H3 b1 nn6 l2 fun H4 => must (Nat.beq (llen l3) nn6) <| wrL H4 b1 nn12 l3 fun H5 => lenA s1 fun m1 => slA s1 nn27 m1 (fun x => x) fun s2 => g150x5 b1 b2 s1 s2 H5 c2 c3 c4 Kb1
def g150x7 := wrL H1 b1 nn0 [(AV.i .u8 ii0), (AV.i .u8 ii0), (AV.i .u8 ii0), (AV.i .u8 ii0), (AV.i .u8 ii0), (AV.i .u8 ii0), (AV.i .u8 ii0), (AV.i .u8 ii0), (AV.i .u8 ii0), (AV.i .u8 ii0), (AV.i .u8 ii0), (AV.i .u8 ii0), (AV.i .u8 ii0), (AV.i .u8 ii0), (AV.i .u8 ii0), (AV.i .u8 ii0), (AV.i .u8 ii0), (AV.i .u8 ii0), (AV.b t1), (AV.i .i64 n1), (AV.i .i64 ii0), (AV.i .i64 ii0), (AV.i .i64 ii0), (AV.i .i64 ii0), (AV.i .i64 ii0)] fun H2 => g150x6 b1 b2 s1 H2 c1 c2 c3 c4 Kb1
def g150x8 := br t1 (wrL H1 b1 nn0 z14 fun H2 => rdR H2 b1 nn0 nn25 fun l1 => Kb1 (DV.c (DV.a l1) (DV.c (DV.v v1) DV.n)) H2) (ixA s1 ii25 (fun x => x) fun b2 m1 => rdK H1 b2 m1 fun v2 => isI .u8 v2 fun n1 => frcB (ieq n1 ii1) fun t2 => ixA s1 ii26 (fun x => x) fun b3 m2 => rdK H1 b3 m2 fun v3 => isI .u8 v3 fun n2 => wrp .i64 n2 fun n3 => alB H1 z13 nn25 nn0 fun b4 H2 => g150x7 n3 t2 b4 b1 s1 H2 c1 c2 c3 c4 Kb1)
def g150x9 := lc R1 fun d1 R2 => onV d1 fun v1 => isS v1 fun s1 => ln R2 <| alB H1 z13 nn25 nn0 fun b1 H2 => alB H2 (@T4.n AV yy6 (@T4.n AV yy16 te te te te) te te te) nn2 nn0 fun b2 H3 => c1 [(DV.v (AV.s s1)), (DV.v (AV.i .i64 ii33)), (DV.v (AV.s (AS.sl b2 nn0 nn2 nn2)))] H3 fun d2 H4 => onV d2 fun v2 => ifA true true v2 AV.ni fun t1 => frcB (bnot t1) fun t2 => g150x8 v2 t2 b1 s1 H4 c2 c3 c4 c5 Kb1
/-- act.ReadAdd -/
def g150 : G DV := fun R1 H1 Kb1 => g150x9 R1 H1 c3 c4 c5 c2 c1 Kb1
def G150 : G DV := g150 gEqual.G G233 G252 G253 G254

def g131x1 := jn (fun d1 H2 => jn (fun d2 H3 => pickK t1 (DV.v (AV.b true)) d2 fun d3 => onV d3 fun v1 => isB v1 fun t2 => br t2 (Kb1 (DV.v (AV.p AP.nil)) H3) (wrp .i64 (isub n1 ii1) fun n2 => onA p1 fun b1 m1 => rng n2 nn16 <| rdK H3 b1 (Nat.add (Nat.add m1 nn329) (itn n2)) fun v2 => isP v2 fun p2 => Kb1 (DV.v (AV.p p2)) H3)) fun Kb2 => br t1 (Kb2 DV.n H2) (onV d1 fun v1 => isI .i64 v1 fun n2 => frcB (ilt ii16 n2) fun t2 => Kb2 (DV.v (AV.b t2)) H2)) fun Kb2 => br t1 (Kb2 DV.n H1) (Kb2 (DV.v (AV.i .i64 n1)) H1)
/-- (*ap.AP).of -/
def g131 : G DV := fun R1 H1 Kb1 => lc R1 fun d1 R2 => onV d1 fun v1 => isP v1 fun p1 => lc R2 fun d2 R3 => onV d2 fun v2 => isI .i64 v2 fun n1 => ln R3 <| frcB (ilt n1 ii1) fun t1 => g131x1 n1 t1 p1 H1 Kb1
def G131 : G DV := g131

def g169x1 := onV d1 fun v1 => isI .i64 v1 fun n2 => onC d2 fun d3 d4 => onV d3 fun v2 => isB v2 fun t1 => onN d4 <| frcB (bnot t1) fun t2 => br t2 (Kb1 (DV.c (DV.v (AV.p AP.nil)) (DV.c (DV.v (AV.er (nat_lit 6))) DV.n)) H1) (c1 [(DV.v (AV.p p1)), (DV.v (AV.i .i64 n2))] H1 fun d5 H2 => onV d5 fun v3 => isP v3 fun p2 => onA p2 fun b1 m1 => rng n1 nn8 <| Kb1 (DV.c (DV.v (AV.p (AP.at b1 (Nat.add (Nat.add m1 nn6) (Nat.mul (itn n1) nn5))))) (DV.c (DV.v AV.ni) DV.n)) H2)
def g169x2 := rdR H1 b1 m1 nn6 fun l2 => intsK .u8 l1 fun x1 => intsK .u8 l2 fun x2 => must (Nat.beq (leni x1) nn6) <| must (Nat.beq (leni x2) nn6) <| frcB (bnot (leqI x1 x2)) fun t1 => br t1 (Kb1 (DV.v (AV.b true)) H1) (rdR H1 b2 nn0 nn6 fun l3 => onA p1 fun b3 m2 => rdR H1 b3 m2 nn6 fun l4 => intsK .u8 l3 fun x3 => intsK .u8 l4 fun x4 => must (Nat.beq (leni x3) nn6) <| must (Nat.beq (leni x4) nn6) <| frcB (bnot (leqI x3 x4)) fun t2 => Kb1 (DV.v (AV.b t2)) H1)
def g169x3 := jF [(29 , .bool)] (fun d1 H2 => onV d1 fun v1 => isB v1 fun t1 => br t1 (Kb1 (DV.c (DV.v (AV.p AP.nil)) (DV.c (DV.v (AV.er (nat_lit 4))) DV.n)) H2) (onA p1 fun b4 m1 => rdR H2 b1 nn0 nn6 fun l1 => c1 [(DV.v (AV.p (AP.at b4 (Nat.add m1 nn22)))), (DV.a l1)] H2 fun d2 H3 => onC d2 fun d3 d4 => g169x1 d3 d4 n1 p1 H3 c2 Kb1)) fun Kb2 => rdR H1 b2 nn0 nn6 fun l1 => onA p1 fun b4 m1 => g169x2 l1 m1 p1 b4 b3 H1 Kb2
/-- (*ap.AP).line -/
def g169 : G DV := fun R1 H1 Kb1 => lc R1 fun d1 R2 => onV d1 fun v1 => isP v1 fun p1 => lc R2 fun d2 R3 => lc R3 fun d3 R4 => lc R4 fun d4 R5 => lc R5 fun d5 R6 => onV d5 fun v2 => isI .i64 v2 fun n1 => ln R6 <| cellsD d2 fun l1 => alK H1 l1 fun b1 H2 => cellsD d3 fun l2 => alK H2 l2 fun b2 H3 => cellsD d4 fun l3 => alK H3 l3 fun b3 H4 => g169x3 n1 p1 b3 b1 b2 H4 c2 c1 Kb1
def G169 : G DV := g169 G131 G167

def g269x1 := jn (fun d2 H2 => pickK t1 (DV.v (AV.b true)) d2 fun d3 => onV d3 fun v1 => isB v1 fun t2 => br t2 (Kb1 (DV.v (AV.er (nat_lit 2))) H2) (onA p1 fun b1 m1 => rdK H2 b1 (Nat.add m1 nn3) fun v2 => isS v2 fun s1 => lenA s1 fun m2 => frcB (ilt ii0 (Int.ofNat m2)) fun t3 => br t3 (Kb1 (DV.v (AV.er (nat_lit 9))) H2) (onA p1 fun b2 m3 => wrK H2 b2 (Nat.add m3 nn2) (AV.i .i64 n1) fun H3 => Kb1 (DV.v AV.ni) H3))) fun Kb2 => br t1 (Kb2 DV.n H1) (onV d1 fun v1 => isI .i64 v1 fun n2 => frcB (ilt ii64 n2) fun t2 => Kb2 (DV.v (AV.b t2)) H1)
/-- (*win.Win).Resize -/
def g269 : G DV := fun R1 H1 Kb1 => lc R1 fun d1 R2 => onV d1 fun v1 => isP v1 fun p1 => lc R2 fun d2 R3 => onV d2 fun v2 => isI .i64 v2 fun n1 => ln R3 <| frcB (ilt n1 ii1) fun t1 => jn (fun d3 H2 => g269x1 d3 n1 t1 p1 H2 Kb1) fun Kb2 => br t1 (Kb2 DV.n H1) (Kb2 (DV.v (AV.i .i64 n1)) H1)
def G269 : G DV := g269

def g170x1 := jF [(9 , .int .i64)] (fun d1 H2 => onV d1 fun v1 => isI .i64 v1 fun n3 => onA p1 fun b1 m1 => rdK H2 b1 m1 fun v2 => isP v2 fun p2 => c1 [(DV.v (AV.p p2)), (DV.v (AV.i .i64 n3))] H2 fun d2 H3 => onV d2 fun v3 => ifA true true v3 AV.ni fun t1 => frcB (bnot t1) fun t2 => br t2 (Kb1 (DV.v v3) H3) (onA p1 fun b2 m2 => wrK H3 b2 (Nat.add m2 nn4) (AV.i .i64 ii3) fun H4 => Kb1 (DV.v AV.ni) H4)) fun Kb2 => frcB (ilt ii0 n1) fun t1 => br t1 (asI (imin n2 n1) fun n3 => Kb2 (DV.v (AV.i .i64 n3)) H1) (Kb2 (DV.v (AV.i .i64 n2)) H1)
def g170x2 := jn (fun d1 H2 => jn (fun d2 H3 => pickK t1 (DV.v (AV.b true)) d2 fun d3 => onV d3 fun v1 => isB v1 fun t2 => br t2 (Kb1 (DV.v (AV.er (nat_lit 2))) H3) (onA p1 fun b1 m1 => rdK H3 b1 (Nat.add m1 nn1) fun v2 => isI .i64 v2 fun n2 => g170x1 n1 n2 p1 H3 c1 Kb1)) fun Kb2 => br t1 (Kb2 DV.n H2) (onV d1 fun v1 => isI .i64 v1 fun n2 => frcB (ile ii1024 n2) fun t2 => Kb2 (DV.v (AV.b t2)) H2)) fun Kb2 => br t1 (Kb2 DV.n H1) (Kb2 (DV.v (AV.i .i64 n1)) H1)
def g170x3 := jn (fun d3 H2 => pickK t1 (DV.v (AV.b true)) d3 fun d4 => onV d4 fun v1 => isB v1 fun t2 => br t2 (Kb1 (DV.v (AV.er (nat_lit 9))) H2) (frcB (bnot (ieq n1 ii0)) fun t3 => br t3 (onA p1 fun b1 m1 => wrK H2 b1 (Nat.add m1 nn4) (AV.i .i64 ii1) fun H3 => Kb1 (DV.v AV.ni) H3) (frcB (ilt n2 ii0) fun t4 => g170x2 n2 t4 p1 H2 c1 Kb1))) fun Kb2 => br t1 (Kb2 DV.n H1) (onV d1 fun v1 => onV d2 fun v2 => isI .i64 v1 fun n3 => isI .i64 v2 fun n4 => frcB (bnot (ieq n3 n4)) fun t2 => Kb2 (DV.v (AV.b t2)) H1)
def g170x4 := jn (fun d3 H2 => jn (fun d4 H3 => jn (fun d5 H4 => g170x3 d1 d5 n1 n2 t1 p1 H4 c1 Kb1) fun Kb2 => br t1 (Kb2 DV.n H3) (onV d4 fun v1 => isP v1 fun p2 => onA p2 fun b1 m1 => rdK H3 b1 m1 fun v2 => isI .i64 v2 fun n3 => Kb2 (DV.v (AV.i .i64 n3)) H3)) fun Kb2 => br t1 (Kb2 DV.n H2) (onV d3 fun v1 => isP v1 fun p2 => onA p2 fun b1 m1 => Kb2 (DV.v (AV.p (AP.at b1 (Nat.add m1 nn5)))) H2)) fun Kb2 => br t1 (Kb2 DV.n H1) (onV d2 fun v1 => isP v1 fun p2 => onA p2 fun b1 m1 => Kb2 (DV.v (AV.p (AP.at b1 m1))) H1)
def g170x5 := lc R1 fun d1 R2 => onV d1 fun v1 => isI .i64 v1 fun n2 => lc R2 fun d2 R3 => onV d2 fun v2 => isI .i64 v2 fun n3 => ln R3 <| onA p1 fun b1 m1 => rdK H1 b1 (Nat.add m1 nn4) fun v3 => isI .i64 v3 fun n4 => frcB (bnot (ieq n4 ii2)) fun t1 => jn (fun d3 H2 => jn (fun d4 H3 => g170x4 d3 d4 n2 n3 t1 p1 H3 c1 Kb1) fun Kb2 => br t1 (Kb2 DV.n H2) (Kb2 (DV.v (AV.p p1)) H2)) fun Kb2 => br t1 (Kb2 DV.n H1) (Kb2 (DV.v (AV.i .i64 n1)) H1)
/-- (*ba.Session).Answer -/
def g170 : G DV := fun R1 H1 Kb1 => lc R1 fun d1 R2 => onV d1 fun v1 => isP v1 fun p1 => lc R2 fun d2 R3 => onV d2 fun v2 => isI .i64 v2 fun n1 => g170x5 R3 n1 p1 H1 c1 Kb1
def G170 : G DV := g170 G269

/-- (*ba.Session).State -/
def g171 : G DV := fun R1 H1 Kb1 => lc R1 fun d1 R2 => onV d1 fun v1 => isP v1 fun p1 => ln R2 <| onA p1 fun b1 m1 => rdK H1 b1 (Nat.add m1 nn4) fun v2 => isI .i64 v2 fun n1 => Kb1 (DV.v (AV.i .i64 n1)) H1
def G171 : G DV := g171

def g94x1 := pickK t1 (DV.v (AV.b true)) d1 fun d2 => onV d2 fun v1 => isB v1 fun t2 => onA p1 fun b1 m1 => wrK H1 b1 (Nat.add m1 nn2) (AV.b t2) fun H2 => jF [] (fun H3 => Kb1 (DV.v AV.ni) H3) fun Ka1 => onA p1 fun b2 m2 => rdK H2 b2 m2 fun v2 => isP v2 fun p2 => c1 [(DV.v (AV.p p2))] H2 fun d3 H3 => onV d3 fun v3 => isI .i64 v3 fun n1 => frcB (ieq n1 ii3) fun t3 => br t3 (onA p1 fun b3 m3 => wrK H3 b3 (Nat.add m3 nn1) (AV.i .i64 ii0) fun H4 => Ka1 H4) (Ka1 H3)
def g94x2 := jn (fun d1 H2 => jn (fun d2 H3 => jn (fun d3 H4 => g94x1 d3 t1 p1 H4 c1 Kb1) fun Kb2 => br t1 (Kb2 DV.n H3) (onV d2 fun v1 => isI .i64 v1 fun n1 => frcB (bnot (ieq n1 ii0)) fun t2 => Kb2 (DV.v (AV.b t2)) H3)) fun Kb2 => br t1 (Kb2 DV.n H2) (onV d1 fun v1 => isP v1 fun p2 => onA p2 fun b2 m1 => rdK H2 b2 m1 fun v2 => isI .i64 v2 fun n1 => Kb2 (DV.v (AV.i .i64 n1)) H2)) fun Kb2 => br t1 (Kb2 DV.n H1) (Kb2 (DV.v (AV.p (AP.at b1 nn24))) H1)
def g94x3 := isI .i64 v1 fun n1 => rdK H1 b1 nn24 fun v2 => isI .i64 v2 fun n2 => rdK H1 b1 nn21 fun v3 => isI .i64 v3 fun n3 => c1 [(DV.v (AV.p p1)), (DV.v (AV.i .i64 n1)), (DV.v (AV.i .i64 n2)), (DV.v (AV.i .i64 n3))] H1 fun d1 H2 => onV d1 fun v4 => ifA true true v4 AV.ni fun t1 => frcB (bnot t1) fun t2 => br t2 (Kb1 (DV.v v4) H2) (onA p2 fun b2 m1 => rdK H2 b2 (Nat.add m1 nn2) fun v5 => isB v5 fun t3 => g94x2 t3 p2 b1 H2 c2 Kb1)
def g94x4 := isI .i64 v1 fun n1 => c1 [(DV.v (AV.p p1)), (DV.a l1), (DV.a l2), (DV.a l3), (DV.v (AV.i .i64 n1))] H1 fun d1 H2 => onC d1 fun d2 d3 => onV d2 fun v2 => isP v2 fun p2 => onC d3 fun d4 d5 => onV d4 fun v3 => onN d5 <| ifA true true v3 AV.ni fun t1 => frcB (bnot t1) fun t2 => br t2 (Kb1 (DV.v v3) H2) (onA p2 fun b2 m1 => rdK H2 b2 m1 fun v4 => isP v4 fun p3 => rdK H2 b1 nn19 fun v5 => g94x3 v5 p3 p2 b1 H2 c2 c3 Kb1)
def g94x5 := must (Nat.beq (llen l1) nn25) <| wrL H1 b1 nn0 l1 fun H2 => ifA true true v1 AV.ni fun t1 => frcB (bnot t1) fun t2 => br t2 (Kb1 (DV.v v1) H2) (rdK H2 b1 nn18 fun v2 => isB v2 fun t3 => frcB (bnot t3) fun t4 => br t4 (Kb1 (DV.v (AV.er (nat_lit 4))) H2) (rdR H2 b1 nn0 nn6 fun l2 => rdR H2 b1 nn12 nn6 fun l3 => rdR H2 b1 nn6 nn6 fun l4 => rdK H2 b1 nn20 fun v3 => g94x4 v3 l2 l3 l4 p1 b1 H2 c1 c2 c3 Kb1))
/-- (*ap.AP).add -/
def g94 : G DV := fun R1 H1 Kb1 => lc R1 fun d1 R2 => onV d1 fun v1 => isP v1 fun p1 => lc R2 fun d2 R3 => onV d2 fun v2 => isS v2 fun s1 => ln R3 <| c1 [(DV.v (AV.s s1))] H1 fun d3 H2 => onC d3 fun d4 d5 => onL d4 fun l1 => onC d5 fun d6 d7 => onV d6 fun v3 => onN d7 <| alB H2 z13 nn25 nn0 fun b1 H3 => g94x5 v3 l1 p1 b1 H3 c2 c3 c4 Kb1
def G94 : G DV := g94 G150 G169 G170 G171

def g44x1 := jn (fun d2 H2 => jn (fun d3 H3 => pickK t1 d3 (DV.v (AV.b false)) fun d4 => onV d4 fun v1 => isB v1 fun t2 => br t2 (Kb1 (DV.v (AV.fn (nat_lit 95) [])) H3) (Kb1 (DV.v (AV.fn (nat_lit 94) [])) H3)) fun Kb2 => br t1 (onV d2 fun v1 => isI .u8 v1 fun n1 => frcB (ieq n1 ii2) fun t2 => Kb2 (DV.v (AV.b t2)) H2) (Kb2 DV.n H2)) fun Kb2 => br t1 (onV d1 fun v1 => isP v1 fun p1 => onA p1 fun b1 m1 => rdK H1 b1 m1 fun v2 => isI .u8 v2 fun n1 => Kb2 (DV.v (AV.i .u8 n1)) H1) (Kb2 DV.n H1)
def g44x2 := jn (fun d2 H2 => pickK t1 d2 (DV.v (AV.b false)) fun d3 => onV d3 fun v1 => isB v1 fun t2 => jn (fun d4 H3 => jn (fun d5 H4 => g44x1 d5 t2 H4 Kb1) fun Kb2 => br t2 (onV d4 fun v2 => isS v2 fun s2 => ixA s2 ii25 (fun x => x) fun b1 m1 => Kb2 (DV.v (AV.p (AP.at b1 m1))) H3) (Kb2 DV.n H3)) fun Kb2 => br t2 (Kb2 (DV.v (AV.s s1)) H2) (Kb2 DV.n H2)) fun Kb2 => br t1 (onV d1 fun v1 => isI .u8 v1 fun n1 => frcB (ieq n1 ii3) fun t2 => Kb2 (DV.v (AV.b t2)) H1) (Kb2 DV.n H1)
def g44x3 := jn (fun d1 H2 => jn (fun d2 H3 => jn (fun d3 H4 => g44x2 d3 t1 s1 H4 Kb1) fun Kb2 => br t1 (onV d2 fun v1 => isP v1 fun p1 => onA p1 fun b1 m1 => rdK H3 b1 m1 fun v2 => isI .u8 v2 fun n1 => Kb2 (DV.v (AV.i .u8 n1)) H3) (Kb2 DV.n H3)) fun Kb2 => br t1 (onV d1 fun v1 => isS v1 fun s2 => ixA s2 ii24 (fun x => x) fun b1 m1 => Kb2 (DV.v (AV.p (AP.at b1 m1))) H2) (Kb2 DV.n H2)) fun Kb2 => br t1 (Kb2 (DV.v (AV.s s1)) H1) (Kb2 DV.n H1)
def g44x4 := jF [(5 , .any)] (fun d1 H2 => onV d1 fun v1 => fnK v1 fun m1 L1 L2 => lookD [((nat_lit 92) , c1), ((nat_lit 94) , c2)] m1 (appA (mapP L1) (appA [(DV.v (AV.p p1)), (DV.v (AV.s s1))] (mapP L2))) H2 fun d2 H3 => onV d2 fun v2 => Kb1 (DV.v v2) H3) fun Kb2 => c1 [(DV.v (AV.s s1))] H1 fun d1 H2 => onV d1 fun v1 => isI .i64 v1 fun n1 => frcB (ieq n1 ii164) fun t1 => br t1 (Kb2 (DV.v (AV.fn (nat_lit 93) [])) H2) (frcB (ieq n1 ii208) fun t2 => br t2 (lenA s1 fun m1 => frcB (ile ii26 (Int.ofNat m1)) fun t3 => g44x3 t3 s1 H2 Kb2) (Kb2 (DV.v (AV.fn (nat_lit 91) [])) H2))
/-- (*ap.AP).Handle -/
def g44 : G DV := fun R1 H1 Kb1 => lc R1 fun d1 R2 => onV d1 fun v1 => isP v1 fun p1 => lc R2 fun d2 R3 => onV d2 fun v2 => isS v2 fun s1 => ln R3 <| g44x4 p1 s1 H1 c1 c2 Kb1
def G44 : G DV := g44 G92 G94

def g75x1 := alB H1 z6 nn8 nn0 fun b1 H2 => must (Nat.beq (llen (ltake (nat_lit 8) (ldrop (Nat.mul (itn n1) nn8) l1))) nn8) <| wrL H2 b1 nn0 (ltake (nat_lit 8) (ldrop (Nat.mul (itn n1) nn8) l1)) fun H3 => rdK H3 b1 nn0 fun v1 => isB v1 fun t1 => br t1 (wrp .i64 (iadd n1 ii1) fun n2 => alB H3 (@T4.n AV (AV.i .i64 n2) te te te te) nn1 nn0 fun b2 H4 => appD nn1 nn8 s1 (AS.sl b2 nn0 nn1 nn1) H4 fun s2 H5 => Kb1 (DV.v (AV.s s2)) H5) (Kb1 (DV.v (AV.s s1)) H3)
def g75x2 := lpR (failF [(3 , .slice), (10 , .int .i64)]) (fun Kc1 => fun d1 d2 H2 => onV d1 fun v1 => isS v1 fun s1 => onV d2 fun v2 => isI .i64 v2 fun n1 => frcB (ilt n1 ii16) fun t1 => br t1 (jF [(3 , .slice)] (fun d3 H3 => onV d3 fun v3 => isS v3 fun s2 => wrp .i64 (iadd n1 ii1) fun n2 => Kc1 (DV.v (AV.s s2)) (DV.v (AV.i .i64 n2)) H3) fun Kb2 => rng n1 nn16 <| g75x1 l1 n1 s1 H2 Kb2) (Kb1 (DV.v (AV.s s1)) H2)) (nat_lit 100000) (DV.v (AV.s AS.nil)) (DV.v (AV.i .i64 ii0)) H1
/-- (*sta.Table).All -/
def g75 : G DV := fun R1 H1 Kb1 => lc R1 fun d1 R2 => onV d1 fun v1 => isP v1 fun p1 => ln R2 <| onA p1 fun b1 m1 => rdR H1 b1 m1 nn128 fun l1 => g75x2 l1 H1 Kb1
def G75 : G DV := g75

/-- (*ba.Session).Out$1 -/
def g202 : G DV := fun R1 H1 Kb1 => lc R1 fun d1 R2 => ln R2 <| cellsD d1 fun l1 => alK H1 l1 fun b1 H2 => Kb1 (DV.v (AV.b true)) H2
def G202 : G DV := g202

/-- slices.Clone[[]byte,byte] -/
def g67 : G DV := fun R1 H1 Kb1 => lc R1 fun d1 R2 => onV d1 fun v1 => isS v1 fun s1 => ln R2 <| frcB (isNilS s1) fun t1 => br t1 (Kb1 (DV.v (AV.s AS.nil)) H1) (alB H1 te nn0 nn0 fun b1 H2 => appD nn1 nn1 (AS.sl b1 nn0 nn0 nn0) s1 H2 fun s2 H3 => Kb1 (DV.v (AV.s s2)) H3)
def G67 : G DV := g67

def z15 : T4 AV := (@T4.n AV yy0 (@T4.n AV yy1 (@T4.n AV yy0 te te te te) te te te) (@T4.n AV yy0 (@T4.n AV yy0 te te te te) te te te) (@T4.n AV yy0 (@T4.n AV yy0 te te te te) te te te) (@T4.n AV yy3 te te te te))
/-- ba.own -/
def g284 : G DV := fun R1 H1 Kb1 => lc R1 fun d1 R2 => ln R2 <| cellsD d1 fun l1 => alK H1 l1 fun b1 H2 => alB H2 z15 nn8 nn0 fun b2 H3 => rdK H3 b1 nn4 fun v1 => isS v1 fun s1 => c1 [(DV.v (AV.s s1))] H3 fun d2 H4 => onV d2 fun v2 => isS v2 fun s2 => wrK H4 b1 nn4 (AV.s s2) fun H5 => rdR H5 b1 nn0 nn8 fun l2 => must (Nat.beq (llen l2) nn8) <| wrL H5 b2 nn0 l2 fun H6 => rdR H6 b2 nn0 nn8 fun l3 => Kb1 (DV.a l3) H6
def G284 : G DV := g284 G67

/-- seq.mod -/
def g312 : G DV := fun R1 H1 Kb1 => lc R1 fun d1 R2 => onV d1 fun v1 => isI .i64 v1 fun n1 => ln R2 <| must (bnot (ieq ii4096 ii0)) <| asI (irem n1 ii4096) fun n2 => wrp .i64 (iadd n2 ii4096) fun n3 => must (bnot (ieq ii4096 ii0)) <| asI (irem n3 ii4096) fun n4 => Kb1 (DV.v (AV.i .i64 n4)) H1
def G312 : G DV := g312

def g248x1 := lc R1 fun d1 R2 => onV d1 fun v1 => isI .i64 v1 fun n1 => lc R2 fun d2 R3 => onV d2 fun v2 => isI .i64 v2 fun n2 => ln R3 <| c1 [(DV.v (AV.i .i64 n2))] H1 fun d3 H2 => onV d3 fun v3 => isI .i64 v3 fun n3 => c1 [(DV.v (AV.i .i64 n1))] H2 fun d4 H3 => onV d4 fun v4 => isI .i64 v4 fun n4 => wrp .i64 (isub n3 n4) fun n5 => c1 [(DV.v (AV.i .i64 n5))] H3 fun d5 H4 => onV d5 fun v5 => isI .i64 v5 fun n6 => Kb1 (DV.v (AV.i .i64 n6)) H4
/-- seq.Dist -/
def g248 : G DV := fun R1 H1 Kb1 => g248x1 R1 H1 c1 Kb1
def G248 : G DV := g248 G312

def g317x1 := jn (fun d3 H2 => jn (fun d4 H3 => jn (fun d5 H4 => pickK t1 d5 (DV.v (AV.b false)) fun d6 => onV d6 fun v1 => isB v1 fun t2 => Kb1 (DV.v (AV.b t2)) H4) fun Kb2 => br t1 (onV d4 fun v1 => isI .i64 v1 fun n1 => frcB (ilt n1 ii64) fun t2 => Kb2 (DV.v (AV.b t2)) H3) (Kb2 DV.n H3)) fun Kb2 => br t1 (c1 [d1, d3] H2 fun d4 H3 => onV d4 fun v1 => isI .i64 v1 fun n1 => Kb2 (DV.v (AV.i .i64 n1)) H3) (Kb2 DV.n H2)) fun Kb2 => br t1 (onV d2 fun v1 => isP v1 fun p1 => onA p1 fun b1 m1 => rdK H1 b1 m1 fun v2 => isI .i64 v2 fun n1 => Kb2 (DV.v (AV.i .i64 n1)) H1) (Kb2 DV.n H1)
def g317x2 := jn (fun d2 H2 => jn (fun d3 H3 => jn (fun d4 H4 => g317x1 d2 d4 t1 H4 c1 Kb1) fun Kb2 => br t1 (onV d3 fun v1 => isP v1 fun p1 => onA p1 fun b2 m1 => Kb2 (DV.v (AV.p (AP.at b2 (Nat.add m1 nn5)))) H3) (Kb2 DV.n H3)) fun Kb2 => br t1 (Kb2 (DV.v (AV.p (AP.at b1 nn0))) H2) (Kb2 DV.n H2)) fun Kb2 => br t1 (onV d1 fun v1 => isP v1 fun p1 => onA p1 fun b2 m1 => rdK H1 b2 m1 fun v2 => isI .i64 v2 fun n1 => Kb2 (DV.v (AV.i .i64 n1)) H1) (Kb2 DV.n H1)
/-- (*ba.Session).Heard$1 -/
def g317 : G DV := fun R1 H1 Kb1 => lc R1 fun d1 R2 => lc R2 fun d2 R3 => onV d2 fun v1 => isP v1 fun p1 => ln R3 <| cellsD d1 fun l1 => alK H1 l1 fun b1 H2 => rdK H2 b1 nn8 fun v2 => isB v2 fun t1 => jn (fun d3 H3 => g317x2 d3 t1 b1 H3 c1 Kb1) fun Kb2 => br t1 (onA p1 fun b2 m1 => Kb2 (DV.v (AV.p (AP.at b2 (Nat.add m1 nn13)))) H2) (Kb2 DV.n H2)
def G317 : G DV := g317 G248

def g320x1 := rdK H1 b1 (Nat.add m1 nn13) fun v1 => isI .i64 v1 fun n2 => rdK H1 b2 nn5 fun v2 => isI .i64 v2 fun n3 => c1 [(DV.v (AV.i .i64 n2)), (DV.v (AV.i .i64 n3))] H1 fun d1 H2 => onV d1 fun v3 => isI .i64 v3 fun n4 => rdK H2 b3 (Nat.add m2 nn14) fun v4 => must (aveq (AV.i .u64 n1) v4) <| must (ile ii0 n4) <| must (ile n4 ii64) <| asI (idiv n1 (ip2 n4)) fun n5 => asI (bits .and .u64 n5 ii1) fun n6 => frcB (ilt ii0 n6) fun t1 => Kb1 (DV.v (AV.b t1)) H2
def g320x2 := rdK H1 b1 m1 fun v1 => rdR H1 b2 nn0 nn9 fun l1 => fnK v1 fun m2 L1 L2 => lookD [((nat_lit 248) , c1), ((nat_lit 317) , c2)] m2 (appA (mapP L1) (appA [(DV.a l1)] (mapP L2))) H1 fun d1 H2 => onV d1 fun v2 => isB v2 fun t1 => br t1 (onA p1 fun b3 m3 => rdK H2 b3 (Nat.add m3 nn14) fun v3 => isI .u64 v3 fun n1 => onA p1 fun b4 m4 => g320x1 n1 m4 m3 b4 b2 b3 H2 c1 Kb1) (Kb1 (DV.v (AV.b false)) H2)
/-- (*ba.Session).Heard$2 -/
def g320 : G DV := fun R1 H1 Kb1 => lc R1 fun d1 R2 => lc R2 fun d2 R3 => onV d2 fun v1 => isP v1 fun p1 => lc R3 fun d3 R4 => onV d3 fun v2 => isP v2 fun p2 => ln R4 <| cellsD d1 fun l1 => alK H1 l1 fun b1 H2 => onA p1 fun b2 m1 => g320x2 m1 p2 b2 b1 H2 c1 c2 Kb1
def G320 : G DV := g320 G248 G317

def z16 : T4 AV := (@T4.n AV yy0 (@T4.n AV yy1 (@T4.n AV yy0 te te te te) te te te) (@T4.n AV yy0 (@T4.n AV yy0 te te te te) te te te) (@T4.n AV yy0 (@T4.n AV yy0 te te te te) te te te) (@T4.n AV yy3 (@T4.n AV yy2 te te te te) te te te))
def g201x1 := lookD [((nat_lit 202) , c1), ((nat_lit 284) , c2), ((nat_lit 320) , c3)] m1 (appA (mapP L1) (appA [(DV.a l1)] (mapP L2))) H1 fun d1 H2 => onV d1 fun v1 => isB v1 fun t1 => br t1 (rdR H2 b1 nn0 nn8 fun l2 => c2 [(DV.a l2)] H2 fun d2 H3 => onL d2 fun l3 => must (Nat.beq (llen l3) nn8) <| alK H3 (lapp l3 []) fun b2 H4 => appD nn8 nn80 s1 (AS.sl b2 nn0 nn1 nn1) H4 fun s2 H5 => Kb1 (DV.v (AV.s s2)) H5) (Kb1 (DV.v (AV.s s1)) H2)
def g201x2 := jF [(5 , .slice)] (fun d2 H2 => onV d2 fun v1 => isS v1 fun s3 => wrp .i64 (iadd n1 ii1) fun n2 => Kc1 (DV.v (AV.s s3)) (DV.v (AV.i .i64 n2)) H2) fun Kb1 => ixA s1 n1 (fun x => Nat.mul x nn9) fun b1 m1 => rdR H1 b1 m1 nn9 fun l1 => alB H1 z16 nn9 nn0 fun b2 H2 => must (Nat.beq (llen l1) nn9) <| wrL H2 b2 nn0 l1 fun H3 => rdR H3 b2 nn0 nn9 fun l2 => onV d1 fun v1 => fnK v1 fun m2 L1 L2 => g201x1 l2 L1 L2 m2 b2 s2 H3 c1 c2 c3 Kb1
def g201x3 := lc R1 fun d1 R2 => ln R2 <| onA p1 fun b1 m1 => rdK H1 b1 (Nat.add m1 nn6) fun v1 => isS v1 fun s1 => lenA s1 fun m2 => lpR (failF [(5 , .slice), (13 , .int .i64)]) (fun Kc1 => fun d2 d3 H2 => onV d2 fun v2 => isS v2 fun s2 => onV d3 fun v3 => isI .i64 v3 fun n1 => frcB (ilt n1 (Int.ofNat m2)) fun t1 => br t1 (g201x2 d1 n1 s1 s2 H2 c1 c2 c3 Kc1) (Kb1 (DV.v (AV.s s2)) H2)) (nat_lit 100000) (DV.v (AV.s AS.nil)) (DV.v (AV.i .i64 ii0)) H1
/-- (*ba.Session).list -/
def g201 : G DV := fun R1 H1 Kb1 => lc R1 fun d1 R2 => onV d1 fun v1 => isP v1 fun p1 => g201x3 R2 p1 H1 c1 c2 c3 Kb1
def G201 : G DV := g201 G202 G284 G320

/-- (*ba.Session).Out -/
def g132 : G DV := fun R1 H1 Kb1 => lc R1 fun d1 R2 => onV d1 fun v1 => isP v1 fun p1 => ln R2 <| c1 [(DV.v (AV.p p1)), (DV.v (AV.fn (nat_lit 202) []))] H1 fun d2 H2 => onV d2 fun v2 => isS v2 fun s1 => Kb1 (DV.v (AV.s s1)) H2
def G132 : G DV := g132 G201

def z17 : T4 AV := (@T4.n AV yy0 (@T4.n AV yy1 te te te te) (@T4.n AV yy0 te te te te) (@T4.n AV yy0 te te te te) (@T4.n AV yy3 te te te te))
def g173x1 := lpR (failF [(10 , .int .i64)]) (fun Kb2 => fun d1 H2 => onV d1 fun v1 => isI .i64 v1 fun n1 => frcB (ilt n1 (Int.ofNat m1)) fun t1 => br t1 (ixA s1 n1 (fun x => Nat.mul x nn5) fun b1 m2 => rdR H2 b1 m2 nn5 fun l1 => alB H2 z17 nn5 nn0 fun b2 H3 => must (Nat.beq (llen l1) nn5) <| wrL H3 b2 nn0 l1 fun H4 => onA p1 fun b3 m3 => rdK H4 b2 nn0 fun v2 => isI .i64 v2 fun n2 => none) (Kb1 DV.n H2)) (nat_lit 100000) (DV.v (AV.i .i64 ii0)) H1
/-- (*ap.AP).drop -/
def g173 : G DV := fun R1 H1 Kb1 => lc R1 fun d1 R2 => onV d1 fun v1 => isP v1 fun p1 => lc R2 fun d2 R3 => onV d2 fun v2 => isI .i64 v2 fun n1 => lc R3 fun d3 R4 => onV d3 fun v3 => isS v3 fun s1 => ln R4 <| lenA s1 fun m1 => g173x1 m1 p1 s1 H1 Kb1
def G173 : G DV := g173

def g342x1 := jn (fun d2 H2 => jn (fun d3 H3 => jn (fun d4 H4 => pickK t1 d4 (DV.v (AV.b false)) fun d5 => onV d5 fun v1 => isB v1 fun t2 => Kb1 (DV.v (AV.b t2)) H4) fun Kb2 => br t1 (onV d2 fun v1 => onV d3 fun v2 => isI .i64 v1 fun n1 => isI .i64 v2 fun n2 => frcB (ieq n1 n2) fun t2 => Kb2 (DV.v (AV.b t2)) H3) (Kb2 DV.n H3)) fun Kb2 => br t1 (onA p1 fun b1 m1 => rdK H2 b1 m1 fun v1 => isI .i64 v1 fun n1 => Kb2 (DV.v (AV.i .i64 n1)) H2) (Kb2 DV.n H2)) fun Kb2 => br t1 (onV d1 fun v1 => isP v1 fun p2 => onA p2 fun b1 m1 => rdK H1 b1 m1 fun v2 => isI .i64 v2 fun n1 => Kb2 (DV.v (AV.i .i64 n1)) H1) (Kb2 DV.n H1)
def g342x2 := lc R1 fun d2 R2 => onV d2 fun v1 => isP v1 fun p1 => ln R2 <| cellsD d1 fun l1 => alK H1 l1 fun b1 H2 => rdK H2 b1 nn8 fun v2 => isB v2 fun t1 => frcB (bnot t1) fun t2 => jn (fun d3 H3 => jn (fun d4 H4 => g342x1 d4 t2 p1 H4 Kb1) fun Kb2 => br t2 (onV d3 fun v3 => isP v3 fun p2 => onA p2 fun b2 m1 => Kb2 (DV.v (AV.p (AP.at b2 (Nat.add m1 nn5)))) H3) (Kb2 DV.n H3)) fun Kb2 => br t2 (Kb2 (DV.v (AV.p (AP.at b1 nn0))) H2) (Kb2 DV.n H2)
/-- (*ba.Session).Went$1 -/
def g342 : G DV := fun R1 H1 Kb1 => lc R1 fun d1 R2 => g342x2 d1 R2 H1 Kb1
def G342 : G DV := g342

/-- (*ba.Session).flies$1 -/
def g350 : G DV := fun R1 H1 Kb1 => lc R1 fun d1 R2 => ln R2 <| cellsD d1 fun l1 => alK H1 l1 fun b1 H2 => rdK H2 b1 nn8 fun v1 => isB v1 fun t1 => Kb1 (DV.v (AV.b t1)) H2
def G350 : G DV := g350

def g351x1 := br t1 (ixA s1 n1 (fun x => Nat.mul x nn9) fun b1 m1 => rdR H1 b1 m1 nn9 fun l1 => onV d1 fun v1 => fnK v1 fun m2 L1 L2 => lookD [((nat_lit 317) , c1), ((nat_lit 320) , c2), ((nat_lit 342) , c3), ((nat_lit 350) , c4)] m2 (appA (mapP L1) (appA [(DV.a l1)] (mapP L2))) H1 fun d2 H2 => onV d2 fun v2 => isB v2 fun t2 => br t2 (Kb1 (DV.v (AV.i .i64 n1)) H2) (wrp .i64 (iadd n1 ii1) fun n2 => Kb2 (DV.v (AV.i .i64 n2)) H2)) (Kb1 (DV.v (AV.i .i64 im1)) H1)
/-- slices.IndexFunc[[]ba.frame,ba.frame] -/
def g351 : G DV := fun R1 H1 Kb1 => lc R1 fun d1 R2 => onV d1 fun v1 => isS v1 fun s1 => lc R2 fun d2 R3 => ln R3 <| lenA s1 fun m1 => lpR (failF [(8 , .int .i64)]) (fun Kb2 => fun d3 H2 => onV d3 fun v2 => isI .i64 v2 fun n1 => frcB (ilt n1 (Int.ofNat m1)) fun t1 => g351x1 d2 n1 t1 s1 H2 c1 c2 c3 c4 Kb1 Kb2) (nat_lit 100000) (DV.v (AV.i .i64 ii0)) H1
def G351 : G DV := g351 G317 G320 G342 G350

def z18 : List AV := [(AV.i .i64 ii0), (AV.i .u32 ii0), (AV.i .i64 ii0), (AV.i .i64 ii0), (AV.s AS.nil), (AV.i .i64 ii0), (AV.i .i64 ii0), (AV.i .i64 ii0), (AV.b false)]
def g333x1 := fnK v1 fun m1 L1 L2 => lookD [((nat_lit 320) , c1), ((nat_lit 351) , c2)] m1 (appA (mapP L1) (appA [(DV.a l1)] (mapP L2))) H1 fun d1 H2 => onV d1 fun v2 => isB v2 fun t1 => frcB (bnot t1) fun t2 => br t2 (rdR H2 b1 nn0 nn9 fun l2 => ixA s1 n1 (fun x => Nat.mul x nn9) fun b2 m2 => must (Nat.beq (llen l2) nn9) <| wrL H2 b2 m2 l2 fun H3 => wrp .i64 (iadd n1 ii1) fun n2 => Kb1 (DV.v (AV.i .i64 n2)) H3) (Kb1 (DV.v (AV.i .i64 n1)) H2)
def g333x2 := jF [(5 , .int .i64)] (fun d2 H2 => onV d2 fun v1 => isI .i64 v1 fun n3 => wrp .i64 (iadd n1 ii1) fun n4 => Kc1 (DV.v (AV.i .i64 n3)) (DV.v (AV.i .i64 n4)) H2) fun Kb1 => ixA s1 n1 (fun x => Nat.mul x nn9) fun b1 m1 => rdR H1 b1 m1 nn9 fun l1 => alB H1 z16 nn9 nn0 fun b2 H2 => must (Nat.beq (llen l1) nn9) <| wrL H2 b2 nn0 l1 fun H3 => rdR H3 b2 nn0 nn9 fun l2 => onV d1 fun v1 => g333x1 v1 l2 n2 b2 s1 H3 c1 c2 Kb1
def g333x3 := lpR (failF [(5 , .int .i64), (6 , .int .i64)]) (fun Kc1 => fun d2 d3 H2 => onV d2 fun v1 => isI .i64 v1 fun n3 => onV d3 fun v2 => isI .i64 v2 fun n4 => lenA s1 fun m1 => frcB (ilt n4 (Int.ofNat m1)) fun t1 => br t1 (g333x2 d1 n4 n3 s1 H2 c1 c2 Kc1) (natK n3 fun m2 => lenA s1 fun m3 => slA s1 m2 m3 (fun x => Nat.mul x nn9) fun s2 => clrD z18 s2 H2 fun H3 => natK n3 fun m4 => slA s1 nn0 m4 (fun x => Nat.mul x nn9) fun s3 => Kb1 (DV.v (AV.s s3)) H3)) (nat_lit 100000) (DV.v (AV.i .i64 n1)) (DV.v (AV.i .i64 n2)) H1
/-- slices.DeleteFunc[[]ba.frame,ba.frame] -/
def g333 : G DV := fun R1 H1 Kb1 => lc R1 fun d1 R2 => onV d1 fun v1 => isS v1 fun s1 => lc R2 fun d2 R3 => ln R3 <| c2 [(DV.v (AV.s s1)), d2] H1 fun d3 H2 => onV d3 fun v2 => isI .i64 v2 fun n1 => frcB (ieq n1 im1) fun t1 => br t1 (Kb1 (DV.v (AV.s s1)) H2) (wrp .i64 (iadd n1 ii1) fun n2 => g333x3 d2 n1 n2 s1 H2 c1 c2 Kb1)
def G333 : G DV := g333 G320 G351

/-- slices.Clone[[]ba.frame,ba.frame] -/
def g334 : G DV := fun R1 H1 Kb1 => lc R1 fun d1 R2 => onV d1 fun v1 => isS v1 fun s1 => ln R2 <| frcB (isNilS s1) fun t1 => br t1 (Kb1 (DV.v (AV.s AS.nil)) H1) (alB H1 te nn0 nn0 fun b1 H2 => appD nn9 nn88 (AS.sl b1 nn0 nn0 nn0) s1 H2 fun s2 H3 => Kb1 (DV.v (AV.s s2)) H3)
def G334 : G DV := g334

def g355x1 := slA3 s1 m1 m2 m3 (fun x => x) fun s2 => frcB (ieq n1 n2) fun t1 => br t1 (Kb1 (DV.v (AV.s s1)) H1) (lenA s1 fun m4 => natK n1 fun m5 => slA s1 nn0 m5 (fun x => x) fun s3 => natK n2 fun m6 => lenA s1 fun m7 => slA s1 m6 m7 (fun x => x) fun s4 => appD nn1 nn8 s3 s4 H1 fun s5 H2 => lenA s5 fun m8 => natK (Int.ofNat m8) fun m9 => natK (Int.ofNat m4) fun m10 => slA s5 m9 m10 (fun x => x) fun s6 => clrD [(AV.i .i64 ii0)] s6 H2 fun H3 => Kb1 (DV.v (AV.s s5)) H3)
/-- slices.Delete[[]int,int] -/
def g355 : G DV := fun R1 H1 Kb1 => lc R1 fun d1 R2 => onV d1 fun v1 => isS v1 fun s1 => lc R2 fun d2 R3 => onV d2 fun v2 => isI .i64 v2 fun n1 => lc R3 fun d3 R4 => onV d3 fun v3 => isI .i64 v3 fun n2 => ln R4 <| lenA s1 fun m1 => natK n1 fun m2 => natK n2 fun m3 => natK (Int.ofNat m1) fun m4 => g355x1 n1 n2 m2 m3 m4 s1 H1 Kb1
def G355 : G DV := g355

/-- slices.Clone[[]int,int] -/
def g356 : G DV := fun R1 H1 Kb1 => lc R1 fun d1 R2 => onV d1 fun v1 => isS v1 fun s1 => ln R2 <| frcB (isNilS s1) fun t1 => br t1 (Kb1 (DV.v (AV.s AS.nil)) H1) (alB H1 te nn0 nn0 fun b1 H2 => appD nn1 nn8 (AS.sl b1 nn0 nn0 nn0) s1 H2 fun s2 H3 => Kb1 (DV.v (AV.s s2)) H3)
def G356 : G DV := g356

def g335x1 := wrK H1 b1 m1 (AV.i .i64 n1) fun H2 => jF [] (fun H3 => Kb1 (DV.v AV.ni) H3) fun Ka1 => onA p1 fun b2 m2 => rdK H2 b2 (Nat.add m2 nn3) fun v1 => isS v1 fun s1 => lenA s1 fun m3 => frcB (ilt ii0 (Int.ofNat m3)) fun t1 => br t1 (onA p1 fun b3 m4 => rdK H2 b3 (Nat.add m4 nn3) fun v2 => isS v2 fun s2 => ixA s2 ii0 (fun x => x) fun b4 m5 => rdK H2 b4 m5 fun v3 => isI .i64 v3 fun n2 => onA p1 fun b5 m6 => wrK H2 b5 m6 (AV.i .i64 n2) fun H3 => Ka1 H3) (Ka1 H2)
def g335x2 := c1 [(DV.v (AV.s s1))] H1 fun d1 H2 => onV d1 fun v1 => isS v1 fun s2 => wrp .i64 (iadd n1 ii1) fun n2 => c2 [(DV.v (AV.s s2)), (DV.v (AV.i .i64 n1)), (DV.v (AV.i .i64 n2))] H2 fun d2 H3 => onV d2 fun v2 => isS v2 fun s3 => onA p1 fun b1 m1 => wrK H3 b1 (Nat.add m1 nn3) (AV.s s3) fun H4 => onA p1 fun b2 m2 => rdK H4 b2 (Nat.add m2 nn1) fun v3 => isI .i64 v3 fun n3 => onA p1 fun b3 m3 => g335x1 n3 m3 p1 b3 H4 Kb1
def g335x3 := lc R1 fun d1 R2 => onV d1 fun v1 => isI .i64 v1 fun n1 => ln R2 <| onA p1 fun b1 m1 => rdK H1 b1 (Nat.add m1 nn3) fun v2 => isS v2 fun s1 => c1 [(DV.v (AV.s s1)), (DV.v (AV.i .i64 n1))] H1 fun d2 H2 => onV d2 fun v3 => isI .i64 v3 fun n2 => frcB (ilt n2 ii0) fun t1 => br t1 (Kb1 (DV.v (AV.er (nat_lit 6))) H2) (onA p1 fun b2 m2 => rdK H2 b2 (Nat.add m2 nn3) fun v4 => isS v4 fun s2 => g335x2 n2 p1 s2 H2 c2 c3 Kb1)
/-- (*win.Win).Done -/
def g335 : G DV := fun R1 H1 Kb1 => lc R1 fun d1 R2 => onV d1 fun v1 => isP v1 fun p1 => g335x3 R2 p1 H1 c1 c3 c2 Kb1
def G335 : G DV := g335 G285 G355 G356

def g287x1 := ixA s1 n1 (fun x => Nat.mul x nn8) fun b1 m1 => rdR H1 b1 m1 nn8 fun l1 => alB H1 z15 nn8 nn0 fun b2 H2 => must (Nat.beq (llen l1) nn8) <| wrL H2 b2 nn0 l1 fun H3 => onA p1 fun b3 m2 => rdK H3 b3 m2 fun v1 => isP v1 fun p2 => rdK H3 b2 nn5 fun v2 => isI .i64 v2 fun n2 => c1 [(DV.v (AV.p p2)), (DV.v (AV.i .i64 n2))] H3 fun d1 H4 => onV d1 fun v3 => ifA false true v3 AV.ni fun t1 => frcB (bnot t1) fun t2 => br t2 (Ka1 H4) (Ka1 H4)
def g287x2 := onV d1 fun v1 => isS v1 fun s2 => onA p1 fun b1 m1 => wrK H1 b1 (Nat.add m1 nn6) (AV.s s2) fun H2 => lenA s1 fun m2 => lpR (failF [(23 , .int .i64)]) (fun Kb2 => fun d2 H3 => onV d2 fun v2 => isI .i64 v2 fun n1 => frcB (ilt n1 (Int.ofNat m2)) fun t1 => br t1 (jF [] (fun H4 => wrp .i64 (iadd n1 ii1) fun n2 => Kb2 (DV.v (AV.i .i64 n2)) H4) fun Ka1 => g287x1 n1 p1 s1 H3 c1 Ka1) (Kb1 (DV.v (AV.s s1)) H3)) (nat_lit 100000) (DV.v (AV.i .i64 ii0)) H2
/-- (*ba.Session).take -/
def g287 : G DV := fun R1 H1 Kb1 => lc R1 fun d1 R2 => onV d1 fun v1 => isP v1 fun p1 => lc R2 fun d2 R3 => ln R3 <| c1 [(DV.v (AV.p p1)), d2] H1 fun d3 H2 => onV d3 fun v2 => isS v2 fun s1 => onA p1 fun b1 m1 => rdK H2 b1 (Nat.add m1 nn6) fun v3 => isS v3 fun s2 => c3 [(DV.v (AV.s s2))] H2 fun d4 H3 => onV d4 fun v4 => isS v4 fun s3 => c2 [(DV.v (AV.s s3)), d2] H3 fun d5 H4 => g287x2 d5 p1 s1 H4 c4 Kb1
def G287 : G DV := g287 G201 G333 G334 G335

def g211x1 := rdR H1 b1 nn0 nn9 fun l1 => fnK v1 fun m1 L1 L2 => lookD [((nat_lit 287) , c1)] m1 (appA (mapP L1) (appA [(DV.a l1)] (mapP L2))) H1 fun d1 H2 => onV d1 fun v2 => isI .i64 v2 fun n1 => frcB (bnot (ieq n1 ii0)) fun t1 => br t1 (alB H2 (@T4.n AV (AV.i .i64 n1) te te te te) nn1 nn0 fun b2 H3 => appD nn1 nn8 s1 (AS.sl b2 nn0 nn1 nn1) H3 fun s2 H4 => Kb1 (DV.v (AV.s s2)) H4) (Kb1 (DV.v (AV.s s1)) H2)
def g211x2 := jn (fun d2 H2 => pickK t1 d2 (DV.v (AV.b false)) fun d3 => onV d3 fun v1 => isB v1 fun t2 => br t2 (rdK H2 b1 nn0 fun v2 => isP v2 fun p1 => rdK H2 b1 nn0 fun v3 => isP v3 fun p2 => onA p1 fun b2 m1 => wrK H2 b2 (Nat.add m1 nn7) (AV.b true) fun H3 => rdK H3 b1 nn0 fun v4 => must (aveq (AV.p p2) v4) <| onA p2 fun b3 m2 => wrK H3 b3 (Nat.add m2 nn8) (AV.i .i64 ii0) fun H4 => Ka1 H4) (Ka1 H2)) fun Kb1 => br t1 (onV d1 fun v1 => isB v1 fun t2 => frcB (bnot t2) fun t3 => Kb1 (DV.v (AV.b t3)) H1) (Kb1 DV.n H1)
def g211x3 := jn (fun d2 H2 => jn (fun d3 H3 => jn (fun d4 H4 => g211x2 d4 t1 b1 H4 Ka1) fun Kb1 => br t1 (onV d3 fun v1 => isP v1 fun p1 => onA p1 fun b2 m1 => rdK H3 b2 m1 fun v2 => isB v2 fun t2 => Kb1 (DV.v (AV.b t2)) H3) (Kb1 DV.n H3)) fun Kb1 => br t1 (onV d2 fun v1 => isP v1 fun p1 => onA p1 fun b2 m1 => Kb1 (DV.v (AV.p (AP.at b2 (Nat.add m1 nn7)))) H2) (Kb1 DV.n H2)) fun Kb1 => br t1 (onV d1 fun v1 => isP v1 fun p1 => onA p1 fun b2 m1 => Kb1 (DV.v (AV.p (AP.at b2 m1))) H1) (Kb1 DV.n H1)
def g211x4 := jn (fun d2 H2 => jn (fun d3 H3 => pickK t1 d3 (DV.v (AV.b false)) fun d4 => onV d4 fun v1 => isB v1 fun t2 => jn (fun d5 H4 => g211x3 d5 t2 b1 H4 Ka1) fun Kb1 => br t2 (rdK H3 b1 nn0 fun v2 => isP v2 fun p1 => Kb1 (DV.v (AV.p p1)) H3) (Kb1 DV.n H3)) fun Kb1 => br t1 (onV d2 fun v1 => isI .i64 v1 fun n1 => frcB (ieq n1 ii3) fun t2 => Kb1 (DV.v (AV.b t2)) H2) (Kb1 DV.n H2)) fun Kb1 => br t1 (onV d1 fun v1 => isP v1 fun p1 => onA p1 fun b2 m1 => rdK H1 b2 m1 fun v2 => isI .i64 v2 fun n1 => Kb1 (DV.v (AV.i .i64 n1)) H1) (Kb1 DV.n H1)
def g211x5 := jn (fun d1 H2 => jn (fun d2 H3 => jn (fun d3 H4 => g211x4 d3 t1 b1 H4 Ka1) fun Kb1 => br t1 (onV d2 fun v1 => isP v1 fun p1 => onA p1 fun b2 m1 => Kb1 (DV.v (AV.p (AP.at b2 (Nat.add m1 nn4)))) H3) (Kb1 DV.n H3)) fun Kb1 => br t1 (onV d1 fun v1 => isP v1 fun p1 => onA p1 fun b2 m1 => Kb1 (DV.v (AV.p (AP.at b2 m1))) H2) (Kb1 DV.n H2)) fun Kb1 => br t1 (rdK H1 b1 nn0 fun v1 => isP v1 fun p1 => Kb1 (DV.v (AV.p p1)) H1) (Kb1 DV.n H1)
def g211x6 := br t1 (jF [(7 , .slice)] (fun d1 H2 => onV d1 fun v1 => isS v1 fun s3 => wrp .i64 (iadd n1 ii1) fun n2 => Kc1 (DV.v (AV.s s3)) (DV.v (AV.i .i64 n2)) H2) fun Kb2 => ixA s1 n1 (fun x => Nat.mul x nn9) fun b3 m1 => rdR H1 b3 m1 nn9 fun l1 => alB H1 z16 nn9 nn0 fun b4 H2 => must (Nat.beq (llen l1) nn9) <| wrL H2 b4 nn0 l1 fun H3 => rdK H3 b1 nn0 fun v1 => g211x1 v1 b4 s2 H3 c1 Kb2) (rdK H1 b2 nn0 fun v1 => isP v1 fun p1 => c1 [(DV.v (AV.p p1)), (DV.v (AV.fn (nat_lit 288) [(AP.at b1 nn0)]))] H1 fun d1 H2 => onV d1 fun v2 => isS v2 fun s3 => jF [] (fun H3 => Kb1 (DV.c (DV.v (AV.s s3)) (DV.c (DV.v (AV.s s2)) DV.n)) H3) fun Ka1 => lenA s3 fun m1 => frcB (ilt ii0 (Int.ofNat m1)) fun t2 => g211x5 t2 b2 H2 Ka1)
def g211x7 := wrK H1 b1 nn0 (AV.fn (nat_lit 286) [(AP.at b2 nn0), (AP.at b3 nn0)]) fun H2 => rdK H2 b2 nn0 fun v1 => isP v1 fun p1 => onA p1 fun b4 m1 => rdK H2 b4 (Nat.add m1 nn6) fun v2 => isS v2 fun s1 => lenA s1 fun m2 => lpR (failF [(7 , .slice), (18 , .int .i64)]) (fun Kc1 => fun d1 d2 H3 => onV d1 fun v3 => isS v3 fun s2 => onV d2 fun v4 => isI .i64 v4 fun n1 => frcB (ilt n1 (Int.ofNat m2)) fun t1 => g211x6 n1 t1 b1 b2 s1 s2 H3 c1 Kb1 Kc1) (nat_lit 100000) (DV.v (AV.s AS.nil)) (DV.v (AV.i .i64 ii0)) H2
/-- (*ba.Session).Sweep -/
def g211 : G DV := fun R1 H1 Kb1 => lc R1 fun d1 R2 => onV d1 fun v1 => isP v1 fun p1 => lc R2 fun d2 R3 => onV d2 fun v2 => isI .i64 v2 fun n1 => ln R3 <| alB H1 (@T4.n AV (AV.p p1) te te te te) nn1 nn0 fun b1 H2 => alB H2 (@T4.n AV (AV.i .i64 n1) te te te te) nn1 nn0 fun b2 H3 => alB H3 (@T4.n AV yy17 te te te te) nn1 nn0 fun b3 H4 => g211x7 b3 b1 b2 H4 c1 Kb1
def G211 : G DV := g211 G287

def g138x1 := alB H1 z15 nn8 nn0 fun b1 H2 => must (Nat.beq (llen l1) nn8) <| wrL H2 b1 nn0 l1 fun H3 => ixA s1 n1 (fun x => x) fun b2 m1 => rdK H3 b2 m1 fun v1 => isI .i64 v1 fun n2 => rdR H3 b1 nn0 nn5 fun l2 => must (Nat.beq (llen l2) nn5) <| alK H3 (lapp l2 []) fun b3 H4 => c1 [(DV.v (AV.p p1)), (DV.v (AV.i .i64 n2)), (DV.v (AV.s (AS.sl b3 nn0 nn1 nn1)))] H4 fun d1 H5 => wrp .i64 (iadd n1 ii1) fun n3 => Kb1 (DV.v (AV.i .i64 n3)) H5
def g138x2 := jn (fun d2 H2 => jn (fun d3 H3 => pickK t1 d3 (DV.v (AV.b false)) fun d4 => onV d4 fun v1 => isB v1 fun t2 => br t2 (onA p1 fun b1 m1 => wrK H3 b1 (Nat.add m1 nn3) (AV.b false) fun H4 => onA p1 fun b2 m2 => rdK H4 b2 m2 fun v2 => isP v2 fun p2 => none) (Kb1 DV.n H3)) fun Kb2 => br t1 (onV d2 fun v1 => isI .i64 v1 fun n1 => frcB (ieq n1 ii0) fun t2 => Kb2 (DV.v (AV.b t2)) H2) (Kb2 DV.n H2)) fun Kb2 => br t1 (onV d1 fun v1 => isS v1 fun s1 => lenA s1 fun m1 => Kb2 (DV.v (AV.i .i64 (Int.ofNat m1))) H1) (Kb2 DV.n H1)
def g138x3 := jn (fun d2 H2 => jn (fun d3 H3 => jn (fun d4 H4 => g138x2 d4 t1 p1 H4 Kb1) fun Kb2 => br t1 (c1 [d3] H3 fun d4 H4 => onV d4 fun v1 => isS v1 fun s1 => Kb2 (DV.v (AV.s s1)) H4) (Kb2 DV.n H3)) fun Kb2 => br t1 (onV d2 fun v1 => isP v1 fun p2 => onA p2 fun b1 m1 => rdK H2 b1 m1 fun v2 => isP v2 fun p3 => Kb2 (DV.v (AV.p p3)) H2) (Kb2 DV.n H2)) fun Kb2 => br t1 (onV d1 fun v1 => isP v1 fun p2 => onA p2 fun b1 m1 => Kb2 (DV.v (AV.p (AP.at b1 m1))) H1) (Kb2 DV.n H1)
def g138x4 := br t1 (ixA s1 n1 (fun x => Nat.mul x nn8) fun b1 m1 => rdR H1 b1 m1 nn8 fun l1 => g138x1 l1 n1 p1 s2 H1 c1 Kb1) (onA p2 fun b1 m1 => rdK H1 b1 (Nat.add m1 nn3) fun v1 => isB v1 fun t2 => jn (fun d1 H2 => jn (fun d2 H3 => g138x3 d2 t2 p2 H3 c2 Kb2) fun Kb3 => br t2 (onV d1 fun v2 => isP v2 fun p3 => onA p3 fun b2 m2 => Kb3 (DV.v (AV.p (AP.at b2 m2))) H2) (Kb3 DV.n H2)) fun Kb3 => br t2 (Kb3 (DV.v (AV.p p2)) H1) (Kb3 DV.n H1))
def g138x5 := isI .i64 v1 fun n1 => c1 [(DV.v (AV.p p1)), (DV.v (AV.i .i64 n1))] H1 fun d1 H2 => onC d1 fun d2 d3 => onV d2 fun v2 => isS v2 fun s1 => onC d3 fun d4 d5 => onV d4 fun v3 => isS v3 fun s2 => onN d5 <| lenA s1 fun m1 => lpR (failF [(22 , .int .i64)]) (fun Kb2 => fun d6 H3 => onV d6 fun v4 => isI .i64 v4 fun n2 => frcB (ilt n2 (Int.ofNat m1)) fun t1 => g138x4 n2 t1 p2 p3 s1 s2 H3 c2 c3 Kb2 Kb1) (nat_lit 100000) (DV.v (AV.i .i64 ii0)) H2
/-- (*ap.AP).sweep -/
def g138 : G DV := fun R1 H1 Kb1 => lc R1 fun d1 R2 => onV d1 fun v1 => isP v1 fun p1 => lc R2 fun d2 R3 => onV d2 fun v2 => isP v2 fun p2 => ln R3 <| onA p2 fun b1 m1 => rdK H1 b1 m1 fun v3 => isP v3 fun p3 => onA p1 fun b2 m2 => rdK H1 b2 (Nat.add m2 nn21) fun v4 => g138x5 v4 p3 p1 p2 H1 c3 c2 c1 Kb1
def G138 : G DV := g138 G132 G173 G211

/-- edca.fair -/
def g267 : G DV := fun R1 H1 Kb1 => lc R1 fun d1 R2 => onV d1 fun v1 => isI .i64 v1 fun n1 => ln R2 <| frcB (ile ii0 n1) fun t1 => jn (fun d2 H2 => jn (fun d3 H3 => pickK t1 d3 (DV.v (AV.b false)) fun d4 => onV d4 fun v2 => isB v2 fun t2 => Kb1 (DV.v (AV.b t2)) H3) fun Kb2 => br t1 (onV d2 fun v2 => isI .i64 v2 fun n2 => frcB (ilt n2 ii4) fun t2 => Kb2 (DV.v (AV.b t2)) H2) (Kb2 DV.n H2)) fun Kb2 => br t1 (Kb2 (DV.v (AV.i .i64 n1)) H1) (Kb2 DV.n H1)
def G267 : G DV := g267

def z19 : T4 AV := (@T4.n AV yy18 (@T4.n AV yy18 te te te te) (@T4.n AV yy19 te te te te) (@T4.n AV yy20 te te te te) te)
/-- edca.first -/
def g289 : G DV := fun R1 H1 Kb1 => lc R1 fun d1 R2 => onV d1 fun v1 => isI .i64 v1 fun n1 => ln R2 <| alB H1 z19 nn4 nn0 fun b1 H2 => ixA (AS.sl b1 nn0 nn4 nn4) n1 (fun x => x) fun b2 m1 => rdK H2 b2 m1 fun v2 => isI .i64 v2 fun n2 => Kb1 (DV.v (AV.i .i64 n2)) H2
def G289 : G DV := g289

def g212x1 := frcB (bnot t1) fun t2 => br t2 (Kb1 (DV.v (AV.i .i64 ii0)) H1) (onA p1 fun b1 m1 => rng n1 nn4 <| rdK H1 b1 (Nat.add (Nat.add m1 (Nat.mul (itn n1) nn3)) nn2) fun v1 => isI .i64 v1 fun n2 => c1 [(DV.v (AV.i .i64 n1))] H1 fun d1 H2 => onV d1 fun v2 => isI .i64 v2 fun n3 => rdK H2 b1 (Nat.add (Nat.add m1 (Nat.mul (itn n1) nn3)) nn2) fun v3 => must (aveq (AV.i .i64 n2) v3) <| wrp .i64 (iadd n3 n2) fun n4 => Kb1 (DV.v (AV.i .i64 n4)) H2)
/-- (*edca.Edca).Window -/
def g212 : G DV := fun R1 H1 Kb1 => lc R1 fun d1 R2 => onV d1 fun v1 => isP v1 fun p1 => lc R2 fun d2 R3 => onV d2 fun v2 => isI .i64 v2 fun n1 => ln R3 <| c1 [(DV.v (AV.i .i64 n1))] H1 fun d3 H2 => onV d3 fun v3 => isB v3 fun t1 => g212x1 n1 t1 p1 H2 c2 Kb1
def G212 : G DV := g212 G267 G289

def z20 : T4 AV := (@T4.n AV yy19 (@T4.n AV yy20 te te te te) (@T4.n AV yy21 te te te te) (@T4.n AV yy21 te te te te) te)
/-- edca.wait -/
def g213 : G DV := fun R1 H1 Kb1 => lc R1 fun d1 R2 => onV d1 fun v1 => isI .i64 v1 fun n1 => ln R2 <| alB H1 z20 nn4 nn0 fun b1 H2 => ixA (AS.sl b1 nn0 nn4 nn4) n1 (fun x => x) fun b2 m1 => rdK H2 b2 m1 fun v2 => isI .i64 v2 fun n2 => Kb1 (DV.v (AV.i .i64 n2)) H2
def G213 : G DV := g213

def g139x1 := jn (fun d2 H2 => jn (fun d3 H3 => pickK t1 (DV.v (AV.b true)) d3 fun d4 => onV d4 fun v1 => isB v1 fun t2 => br t2 (Kc1 (DV.v (AV.i .i64 n1)) (DV.v (AV.i .i64 n2)) H3) (Kc1 (DV.v (AV.i .i64 n3)) (DV.v (AV.i .i64 n4)) H3)) fun Kb1 => br t1 (Kb1 DV.n H2) (onV d1 fun v1 => onV d2 fun v2 => isI .i64 v1 fun n5 => isI .i64 v2 fun n6 => frcB (ile n5 n6) fun t2 => Kb1 (DV.v (AV.b t2)) H2)) fun Kb1 => br t1 (Kb1 DV.n H1) (Kb1 (DV.v (AV.i .i64 n4)) H1)
def g139x2 := rdK H1 b1 (Nat.add (Nat.add m1 (Nat.mul (itn n1) nn3)) nn1) fun v1 => isI .i64 v1 fun n4 => c1 [(DV.v (AV.i .i64 n1))] H1 fun d1 H2 => onV d1 fun v2 => isI .i64 v2 fun n5 => rdK H2 b1 (Nat.add (Nat.add m1 (Nat.mul (itn n1) nn3)) nn1) fun v3 => must (aveq (AV.i .i64 n4) v3) <| wrp .i64 (iadd n5 n4) fun n6 => frcB (ilt n2 ii0) fun t1 => jn (fun d2 H3 => g139x1 d2 n1 n6 n2 n3 t1 H3 Kc1) fun Kb1 => br t1 (Kb1 DV.n H2) (Kb1 (DV.v (AV.i .i64 n6)) H2)
def g139x3 := rdK H1 b1 (Nat.add nn0 (itn n1)) fun v1 => must (aveq (AV.i .u32 n2) v1) <| wrp .i64 (iadd n3 ii1) fun n4 => wrp .u32 n4 fun n5 => must (bnot (ieq n5 ii0)) <| asI (irem n2 n5) fun n6 => wrp .i64 n6 fun n7 => wrK H1 b2 (Nat.add m1 (Nat.mul (itn n1) nn3)) (AV.b true) fun H2 => rdK H2 b1 (Nat.add nn0 (itn n1)) fun v2 => must (aveq (AV.i .u32 n2) v2) <| wrK H2 b2 (Nat.add (Nat.add m1 (Nat.mul (itn n1) nn3)) nn1) (AV.i .i64 n7) fun H3 => Ka1 H3
def g139x4 := jF [] (fun H2 => onA p1 fun b2 m1 => rng n1 nn4 <| g139x2 n1 n2 n3 m1 b2 H2 c1 Kc1) fun Ka1 => onA p1 fun b2 m1 => rng n1 nn4 <| rdK H1 b2 (Nat.add m1 (Nat.mul (itn n1) nn3)) fun v1 => isB v1 fun t1 => frcB (bnot t1) fun t2 => br t2 (rng n1 nn4 <| rdK H1 b1 (Nat.add nn0 (itn n1)) fun v2 => isI .u32 v2 fun n4 => c2 [(DV.v (AV.p p1)), (DV.v (AV.i .i64 n1))] H1 fun d1 H2 => onV d1 fun v3 => isI .i64 v3 fun n5 => g139x3 n1 n4 n5 m1 b1 b2 H2 Ka1) (Ka1 H1)
def g139x5 := jF [(9 , .int .i64), (10 , .int .i64)] (fun d1 d2 H2 => onV d1 fun v1 => isI .i64 v1 fun n4 => onV d2 fun v2 => isI .i64 v2 fun n5 => wrp .i64 (iadd n1 ii1) fun n6 => Kd1 (DV.v (AV.i .i64 n4)) (DV.v (AV.i .i64 n5)) (DV.v (AV.i .i64 n6)) H2) fun Kc1 => rng n1 nn4 <| rdK H1 b1 (Nat.add nn0 (itn n1)) fun v1 => isB v1 fun t1 => frcB (bnot t1) fun t2 => br t2 (Kc1 (DV.v (AV.i .i64 n2)) (DV.v (AV.i .i64 n3)) H1) (g139x4 n1 n2 n3 p1 b2 H1 c1 c2 Kc1)
def g139x6 := rdK H1 b1 (Nat.add (Nat.add m1 (Nat.mul (itn n1) nn3)) nn1) fun v1 => isI .i64 v1 fun n3 => c1 [(DV.v (AV.i .i64 n1))] H1 fun d1 H2 => onV d1 fun v2 => isI .i64 v2 fun n4 => rdK H2 b1 (Nat.add (Nat.add m1 (Nat.mul (itn n1) nn3)) nn1) fun v3 => must (aveq (AV.i .i64 n3) v3) <| wrp .i64 (isub n2 n4) fun n5 => asI (imax n5 ii0) fun n6 => wrp .i64 (isub n3 n6) fun n7 => asI (imax n7 ii0) fun n8 => wrK H2 b1 (Nat.add (Nat.add m1 (Nat.mul (itn n1) nn3)) nn1) (AV.i .i64 n8) fun H3 => Ka1 H3
def g139x7 := rdK H1 b1 (Nat.add (Nat.add m1 (Nat.mul (itn n1) nn3)) nn1) fun v1 => must (aveq (AV.i .i64 n2) v1) <| wrp .i64 (iadd n3 n2) fun n6 => frcB (ilt n4 n6) fun t1 => br t1 (g139x6 n1 n4 m1 b1 H1 c1 Ka1) (jF [] (fun H2 => wrK H2 b1 (Nat.add m1 (Nat.mul (itn n1) nn3)) (AV.b false) fun H3 => wrK H3 b1 (Nat.add (Nat.add m1 (Nat.mul (itn n1) nn3)) nn1) (AV.i .i64 ii0) fun H4 => Ka1 H4) fun Ka2 => frcB (bnot (ieq n1 n5)) fun t2 => br t2 (none) (Ka2 H1))
def g139x8 := jF [] (fun H2 => wrp .i64 (iadd n1 ii1) fun n4 => Kb1 (DV.v (AV.i .i64 n4)) H2) fun Ka1 => onA p1 fun b2 m1 => rng n1 nn4 <| rng n1 nn4 <| rdK H1 b1 (Nat.add nn0 (itn n1)) fun v1 => isB v1 fun t1 => frcB (bnot t1) fun t2 => br t2 (Ka1 H1) (rdK H1 b2 (Nat.add (Nat.add m1 (Nat.mul (itn n1) nn3)) nn1) fun v2 => isI .i64 v2 fun n4 => c1 [(DV.v (AV.i .i64 n1))] H1 fun d1 H2 => onV d1 fun v3 => isI .i64 v3 fun n5 => g139x7 n1 n4 n5 n2 n3 m1 b2 H2 c1 Ka1)
def g139x9 := frcB (ilt n1 ii0) fun t1 => br t1 (Kb1 (DV.c (DV.v (AV.i .i64 ii0)) (DV.c (DV.v (AV.i .i64 ii0)) (DV.c (DV.v (AV.b false)) DV.n))) H1) (lpR (failF [(71 , .int .i64)]) (fun Kb2 => fun d1 H2 => onV d1 fun v1 => isI .i64 v1 fun n3 => frcB (ilt n3 ii4) fun t2 => br t2 (g139x8 n3 n2 n1 p1 b1 H2 c1 Kb2) (Kb1 (DV.c (DV.v (AV.i .i64 n1)) (DV.c (DV.v (AV.i .i64 n2)) (DV.c (DV.v (AV.b true)) DV.n))) H2)) (nat_lit 100000) (DV.v (AV.i .i64 ii0)) H1)
def g139x10 := lpR (failF [(9 , .int .i64), (10 , .int .i64), (16 , .int .i64)]) (fun Kd1 => fun d1 d2 d3 H2 => onV d1 fun v1 => isI .i64 v1 fun n1 => onV d2 fun v2 => isI .i64 v2 fun n2 => onV d3 fun v3 => isI .i64 v3 fun n3 => frcB (ilt n3 ii4) fun t1 => br t1 (g139x5 n3 n1 n2 p1 b1 b2 H2 c1 c2 Kd1) (g139x9 n1 n2 p1 b1 H2 c1 Kb1)) (nat_lit 100000) (DV.v (AV.i .i64 im1)) (DV.v (AV.i .i64 ii0)) (DV.v (AV.i .i64 ii0)) H1
/-- (*edca.Edca).Contend -/
def g139 : G DV := fun R1 H1 Kb1 => lc R1 fun d1 R2 => onV d1 fun v1 => isP v1 fun p1 => lc R2 fun d2 R3 => lc R3 fun d3 R4 => ln R4 <| cellsD d2 fun l1 => alK H1 l1 fun b1 H2 => cellsD d3 fun l2 => alK H2 l2 fun b2 H3 => g139x10 p1 b1 b2 H3 c2 c1 Kb1
def G139 : G DV := g139 G212 G213

/-- aql.there -/
def g220 : G DV := fun R1 H1 Kb1 => lc R1 fun d1 R2 => onV d1 fun v1 => isI .i64 v1 fun n1 => ln R2 <| frcB (ile ii1 n1) fun t1 => jn (fun d2 H2 => jn (fun d3 H3 => pickK t1 d3 (DV.v (AV.b false)) fun d4 => onV d4 fun v2 => isB v2 fun t2 => Kb1 (DV.v (AV.b t2)) H3) fun Kb2 => br t1 (onV d2 fun v2 => isI .i64 v2 fun n2 => frcB (ile n2 ii16) fun t2 => Kb2 (DV.v (AV.b t2)) H2) (Kb2 DV.n H2)) fun Kb2 => br t1 (Kb2 (DV.v (AV.i .i64 n1)) H1) (Kb2 DV.n H1)
def G220 : G DV := g220

def g221x1 := lc R1 fun d1 R2 => onV d1 fun v1 => isP v1 fun p1 => lc R2 fun d2 R3 => onV d2 fun v2 => isI .i64 v2 fun n1 => ln R3 <| c1 [(DV.v (AV.i .i64 n1))] H1 fun d3 H2 => onV d3 fun v3 => isB v3 fun t1 => frcB (bnot t1) fun t2 => br t2 (Kb1 (DV.v (AV.i .i64 ii0)) H2) (wrp .i64 (isub n1 ii1) fun n2 => onA p1 fun b1 m1 => rng n2 nn16 <| rdK H2 b1 (Nat.add (Nat.add m1 nn2) (itn n2)) fun v4 => isI .i64 v4 fun n3 => Kb1 (DV.v (AV.i .i64 n3)) H2)
/-- (*aql.Limit).Of -/
def g221 : G DV := fun R1 H1 Kb1 => g221x1 R1 H1 c1 Kb1
def G221 : G DV := g221 G220

def g142x1 := frcB (ieq n1 ii0) fun t1 => br t1 (Kb1 (DV.v (AV.b true)) H1) (onA p1 fun b1 m1 => rdK H1 b1 m1 fun v1 => isI .i64 v1 fun n3 => c1 [(DV.v (AV.p p1)), (DV.v (AV.i .i64 n2))] H1 fun d1 H2 => onV d1 fun v2 => isI .i64 v2 fun n4 => rdK H2 b1 m1 fun v3 => must (aveq (AV.i .i64 n3) v3) <| frcB (ilt n4 n3) fun t2 => br t2 (onA p1 fun b2 m2 => rdK H2 b2 (Nat.add m2 nn1) fun v4 => isI .i64 v4 fun n5 => none) (Kb1 (DV.v (AV.b false)) H2))
/-- (*aql.Limit).May -/
def g142 : G DV := fun R1 H1 Kb1 => lc R1 fun d1 R2 => onV d1 fun v1 => isP v1 fun p1 => lc R2 fun d2 R3 => onV d2 fun v2 => isI .i64 v2 fun n1 => ln R3 <| c1 [(DV.v (AV.i .i64 n1))] H1 fun d3 H2 => onV d3 fun v3 => isB v3 fun t1 => frcB (bnot t1) fun t2 => br t2 (Kb1 (DV.v (AV.b false)) H2) (c2 [(DV.v (AV.p p1)), (DV.v (AV.i .i64 n1))] H2 fun d4 H3 => onV d4 fun v4 => isI .i64 v4 fun n2 => g142x1 n2 n1 p1 H3 c2 Kb1)
def G142 : G DV := g142 G220 G221

def z21 : T4 AV := (@T4.n AV yy5 (@T4.n AV yy0 (@T4.n AV yy21 te te te te) te te te) (@T4.n AV yy0 (@T4.n AV yy20 te te te te) te te te) (@T4.n AV yy5 (@T4.n AV yy20 te te te te) te te te) (@T4.n AV yy21 te te te te))
/-- ap.category -/
def g223 : G DV := fun R1 H1 Kb1 => lc R1 fun d1 R2 => onV d1 fun v1 => isI .i64 v1 fun n1 => ln R2 <| alB H1 z21 nn8 nn0 fun b1 H2 => ixA (AS.sl b1 nn0 nn8 nn8) n1 (fun x => x) fun b2 m1 => rdK H2 b2 m1 fun v2 => isI .i64 v2 fun n2 => Kb1 (DV.v (AV.i .i64 n2)) H2
def G223 : G DV := pure1 (g223)

def g203x1 := jn (fun d2 H2 => pickK t1 d2 (DV.v (AV.b false)) fun d3 => onV d3 fun v1 => isB v1 fun t2 => jn (fun d4 H3 => jn (fun d5 H4 => pickK t2 d5 (DV.v (AV.b false)) fun d6 => onV d6 fun v2 => isB v2 fun t3 => Kb1 (DV.v (AV.b t3)) H4) fun Kb2 => br t2 (onV d4 fun v2 => isI .i64 v2 fun n2 => frcB (ilt n2 ii8) fun t3 => Kb2 (DV.v (AV.b t3)) H3) (Kb2 DV.n H3)) fun Kb2 => br t2 (Kb2 (DV.v (AV.i .i64 n1)) H2) (Kb2 DV.n H2)) fun Kb2 => br t1 (onV d1 fun v1 => isI .i64 v1 fun n2 => frcB (ile ii0 n2) fun t2 => Kb2 (DV.v (AV.b t2)) H1) (Kb2 DV.n H1)
def g203x2 := ln R1 <| frcB (ile ii1 n1) fun t1 => jn (fun d1 H2 => jn (fun d2 H3 => pickK t1 d2 (DV.v (AV.b false)) fun d3 => onV d3 fun v1 => isB v1 fun t2 => jn (fun d4 H4 => g203x1 d4 n2 t2 H4 Kb1) fun Kb2 => br t2 (Kb2 (DV.v (AV.i .i64 n2)) H3) (Kb2 DV.n H3)) fun Kb2 => br t1 (onV d1 fun v1 => isI .i64 v1 fun n3 => frcB (ile n3 ii16) fun t2 => Kb2 (DV.v (AV.b t2)) H2) (Kb2 DV.n H2)) fun Kb2 => br t1 (Kb2 (DV.v (AV.i .i64 n1)) H1) (Kb2 DV.n H1)
/-- pool.there -/
def g203 : G DV := fun R1 H1 Kb1 => lc R1 fun d1 R2 => onV d1 fun v1 => isI .i64 v1 fun n1 => lc R2 fun d2 R3 => onV d2 fun v2 => isI .i64 v2 fun n2 => g203x2 R3 n1 n2 H1 Kb1
def G203 : G DV := g203

/-- (*fq.Queue).Len -/
def g204 : G DV := fun R1 H1 Kb1 => lc R1 fun d1 R2 => onV d1 fun v1 => isP v1 fun p1 => ln R2 <| onA p1 fun b1 m1 => rdK H1 b1 (Nat.add m1 nn133) fun v2 => isI .i64 v2 fun n1 => Kb1 (DV.v (AV.i .i64 n1)) H1
def G204 : G DV := g204

def g133x1 := jn (fun d2 H2 => jn (fun d3 H3 => jn (fun d4 H4 => pickK t1 d4 (DV.v (AV.b false)) fun d5 => onV d5 fun v1 => isB v1 fun t2 => Kb1 (DV.v (AV.b t2)) H4) fun Kb2 => br t1 (onV d3 fun v1 => isI .i64 v1 fun n1 => frcB (ilt ii0 n1) fun t2 => Kb2 (DV.v (AV.b t2)) H3) (Kb2 DV.n H3)) fun Kb2 => br t1 (c1 [d2] H2 fun d3 H3 => onV d3 fun v1 => isI .i64 v1 fun n1 => Kb2 (DV.v (AV.i .i64 n1)) H3) (Kb2 DV.n H2)) fun Kb2 => br t1 (onV d1 fun v1 => isP v1 fun p1 => onA p1 fun b1 m1 => rdK H1 b1 m1 fun v2 => isP v2 fun p2 => Kb2 (DV.v (AV.p p2)) H1) (Kb2 DV.n H1)
def g133x2 := jn (fun d4 H2 => jn (fun d5 H3 => g133x1 d5 t1 H3 c1 Kb1) fun Kb2 => br t1 (onV d1 fun v1 => isJ v1 fun n1 => onV d4 fun v2 => isP v2 fun p1 => onA p1 fun b1 m1 => rng n1 nn8 <| Kb2 (DV.v (AV.p (AP.at b1 (Nat.add m1 (itn n1))))) H2) (Kb2 DV.n H2)) fun Kb2 => br t1 (onV d2 fun v1 => isJ v1 fun n1 => onV d3 fun v2 => isP v2 fun p1 => onA p1 fun b1 m1 => rng n1 nn16 <| Kb2 (DV.v (AV.p (AP.at b1 (Nat.add m1 (Nat.mul (itn n1) nn8))))) H1) (Kb2 DV.n H1)
def g133x3 := jn (fun d3 H2 => jn (fun d4 H3 => jn (fun d5 H4 => jn (fun d6 H5 => g133x2 d4 d3 d6 t1 H5 c1 Kb1) fun Kb2 => br t1 (onV d5 fun v1 => isP v1 fun p1 => onA p1 fun b1 m1 => Kb2 (DV.v (AV.p (AP.at b1 (Nat.add m1 nn5)))) H4) (Kb2 DV.n H4)) fun Kb2 => br t1 (onV d1 fun v1 => isP v1 fun p1 => onA p1 fun b1 m1 => Kb2 (DV.v (AV.p (AP.at b1 m1))) H3) (Kb2 DV.n H3)) fun Kb2 => br t1 (Kb2 (DV.v (AV.i .i64 n1)) H2) (Kb2 DV.n H2)) fun Kb2 => br t1 (onV d2 fun v1 => isI .i64 v1 fun n2 => wrp .i64 (isub n2 ii1) fun n3 => Kb2 (DV.v (AV.i .i64 n3)) H1) (Kb2 DV.n H1)
def g133x4 := isP v1 fun p1 => lc R1 fun d1 R2 => onV d1 fun v2 => isI .i64 v2 fun n1 => lc R2 fun d2 R3 => onV d2 fun v3 => isI .i64 v3 fun n2 => ln R3 <| c1 [(DV.v (AV.i .i64 n1)), (DV.v (AV.i .i64 n2))] H1 fun d3 H2 => onV d3 fun v4 => isB v4 fun t1 => jn (fun d4 H3 => jn (fun d5 H4 => g133x3 d4 d5 n2 t1 H4 c2 Kb1) fun Kb2 => br t1 (Kb2 (DV.v (AV.i .i64 n1)) H3) (Kb2 DV.n H3)) fun Kb2 => br t1 (Kb2 (DV.v (AV.p p1)) H2) (Kb2 DV.n H2)
/-- (*pool.Pool).Has -/
def g133 : G DV := fun R1 H1 Kb1 => lc R1 fun d1 R2 => onV d1 fun v1 => g133x4 v1 R2 H1 c1 c2 Kb1
def G133 : G DV := g133 G203 G204

/-- (*win.Win).Start -/
def g294 : G DV := fun R1 H1 Kb1 => lc R1 fun d1 R2 => onV d1 fun v1 => isP v1 fun p1 => ln R2 <| onA p1 fun b1 m1 => rdK H1 b1 m1 fun v2 => isI .i64 v2 fun n1 => Kb1 (DV.v (AV.i .i64 n1)) H1
def G294 : G DV := g294

def g229x1 := lc R1 fun d1 R2 => onV d1 fun v1 => isP v1 fun p1 => ln R2 <| onA p1 fun b1 m1 => rdK H1 b1 (Nat.add m1 nn7) fun v2 => isB v2 fun t1 => frcB (bnot t1) fun t2 => br t2 (Kb1 (DV.c (DV.v (AV.i .i64 ii0)) (DV.c (DV.v (AV.b false)) DV.n)) H1) (onA p1 fun b2 m2 => rdK H1 b2 m2 fun v3 => isP v3 fun p2 => c1 [(DV.v (AV.p p2))] H1 fun d2 H2 => onV d2 fun v4 => isI .i64 v4 fun n1 => Kb1 (DV.c (DV.v (AV.i .i64 n1)) (DV.c (DV.v (AV.b true)) DV.n)) H2)
/-- (*ba.Session).Bar -/
def g229 : G DV := fun R1 H1 Kb1 => g229x1 R1 H1 c1 Kb1
def G229 : G DV := g229 G294

/-- (*ba.Session).Due -/
def g231 : G DV := fun R1 H1 Kb1 => lc R1 fun d1 R2 => onV d1 fun v1 => isP v1 fun p1 => ln R2 <| c1 [(DV.v (AV.p p1)), (DV.v (AV.fn (nat_lit 297) []))] H1 fun d2 H2 => onV d2 fun v2 => isS v2 fun s1 => Kb1 (DV.v (AV.s s1)) H2
def G231 : G DV := g231 G201

def g336x1 := isI .i64 v1 fun n1 => onA p1 fun b2 m2 => rdK H1 b2 m2 fun v2 => isI .i64 v2 fun n2 => onA p1 fun b3 m3 => rdK H1 b3 (Nat.add m3 nn1) fun v3 => isI .i64 v3 fun n3 => c1 [(DV.v (AV.i .i64 n2)), (DV.v (AV.i .i64 n3))] H1 fun d1 H2 => onV d1 fun v4 => isI .i64 v4 fun n4 => rdK H2 b1 (Nat.add m1 nn2) fun v5 => must (aveq (AV.i .i64 n1) v5) <| wrp .i64 (isub n1 n4) fun n5 => asI (imax n5 ii0) fun n6 => Kb1 (DV.v (AV.i .i64 n6)) H2
/-- (*win.Win).Room -/
def g336 : G DV := fun R1 H1 Kb1 => lc R1 fun d1 R2 => onV d1 fun v1 => isP v1 fun p1 => ln R2 <| onA p1 fun b1 m1 => rdK H1 b1 (Nat.add m1 nn2) fun v2 => g336x1 v2 m1 p1 b1 H1 c1 Kb1
def G336 : G DV := g336 G248

/-- (*ba.Session).Room -/
def g293 : G DV := fun R1 H1 Kb1 => lc R1 fun d1 R2 => onV d1 fun v1 => isP v1 fun p1 => ln R2 <| onA p1 fun b1 m1 => rdK H1 b1 m1 fun v2 => isP v2 fun p2 => c1 [(DV.v (AV.p p2))] H1 fun d2 H2 => onV d2 fun v3 => isI .i64 v3 fun n1 => Kb1 (DV.v (AV.i .i64 n1)) H2
def G293 : G DV := g293 G336

def g224x1 := jn (fun d3 H2 => jn (fun d4 H3 => jn (fun d5 H4 => pickK t1 d5 (DV.v (AV.b false)) fun d6 => onV d6 fun v1 => isB v1 fun t2 => Kb1 (DV.v (AV.b t2)) H4) fun Kb2 => br t1 (onV d1 fun v1 => isB v1 fun t2 => pickK t2 (DV.v (AV.b true)) d4 fun d5 => onV d5 fun v2 => isB v2 fun t3 => Kb2 (DV.v (AV.b t3)) H3) (Kb2 DV.n H3)) fun Kb2 => grd d1 false (onV d3 fun v1 => isI .i64 v1 fun n1 => frcB (ieq n1 ii1) fun t2 => Kb2 (DV.v (AV.b t2)) H2) (Kb2 DV.n H2)) fun Kb2 => grd d1 false (c1 [d2] H1 fun d3 H2 => onV d3 fun v1 => isI .i64 v1 fun n1 => Kb2 (DV.v (AV.i .i64 n1)) H2) (Kb2 DV.n H1)
def g224x2 := jn (fun d3 H2 => jn (fun d4 H3 => jn (fun d5 H4 => g224x1 d1 d5 t1 H4 c1 Kb1) fun Kb2 => grd d1 false (onV d4 fun v1 => isP v1 fun p1 => onA p1 fun b1 m1 => rdK H3 b1 m1 fun v2 => isP v2 fun p2 => Kb2 (DV.v (AV.p p2)) H3) (Kb2 DV.n H3)) fun Kb2 => grd d1 false (onV d3 fun v1 => isP v1 fun p1 => onA p1 fun b1 m1 => Kb2 (DV.v (AV.p (AP.at b1 m1))) H2) (Kb2 DV.n H2)) fun Kb2 => grd d1 false (onV d2 fun v1 => isP v1 fun p1 => onA p1 fun b1 m1 => Kb2 (DV.v (AV.p (AP.at b1 m1))) H1) (Kb2 DV.n H1)
def g224x3 := jn (fun d2 H2 => jn (fun d3 H3 => jn (fun d4 H4 => jn (fun d5 H5 => g224x2 d4 d5 t1 H5 c1 Kb1) fun Kb2 => grd d4 false (Kb2 (DV.v (AV.p (AP.at b1 (Nat.add (Nat.add m1 nn6) (Nat.mul (itn n1) nn5))))) H4) (Kb2 DV.n H4)) fun Kb2 => br t1 (Kb2 d3 H3) (Kb2 DV.n H3)) fun Kb2 => br t1 (onV d2 fun v1 => isI .i64 v1 fun n2 => frcB (ilt ii0 n2) fun t2 => Kb2 (DV.v (AV.b t2)) H2) (Kb2 DV.n H2)) fun Kb2 => br t1 (c2 [d1] H1 fun d2 H2 => onV d2 fun v1 => isI .i64 v1 fun n2 => Kb2 (DV.v (AV.i .i64 n2)) H2) (Kb2 DV.n H1)
def g224x4 := jn (fun d2 H2 => jn (fun d3 H3 => jn (fun d4 H4 => g224x3 d4 n1 m1 t1 b1 H4 c1 c2 Kb1) fun Kb2 => br t1 (onV d3 fun v1 => isP v1 fun p1 => onA p1 fun b2 m2 => rdK H3 b2 m2 fun v2 => isP v2 fun p2 => Kb2 (DV.v (AV.p p2)) H3) (Kb2 DV.n H3)) fun Kb2 => br t1 (onV d2 fun v1 => isP v1 fun p1 => onA p1 fun b2 m2 => Kb2 (DV.v (AV.p (AP.at b2 m2))) H2) (Kb2 DV.n H2)) fun Kb2 => br t1 (onV d1 fun v1 => isP v1 fun p1 => onA p1 fun b2 m2 => Kb2 (DV.v (AV.p (AP.at b2 m2))) H1) (Kb2 DV.n H1)
def g224x5 := onV d1 fun v1 => isB v1 fun t1 => br t1 (Kb1 (DV.v (AV.b true)) H1) (onA p1 fun b2 m2 => rdK H1 b2 (Nat.add m2 nn311) fun v2 => isP v2 fun p2 => c1 [(DV.v (AV.p p2)), (DV.v (AV.i .i64 n1)), (DV.v (AV.i .i64 n2))] H1 fun d2 H2 => onV d2 fun v3 => isB v3 fun t2 => jn (fun d3 H3 => g224x4 d3 n2 m1 t2 b1 H3 c2 c3 Kb1) fun Kb2 => br t2 (Kb2 (DV.v (AV.p (AP.at b1 (Nat.add (Nat.add m1 nn6) (Nat.mul (itn n2) nn5))))) H2) (Kb2 DV.n H2))
def g224x6 := jn (fun d2 H2 => jn (fun d3 H3 => jn (fun d4 H4 => pickK t1 (DV.v (AV.b true)) d4 fun d5 => g224x5 d5 n1 n2 m1 p1 b1 H4 c1 c2 c3 Kb1) fun Kb2 => br t1 (Kb2 DV.n H3) (onV d3 fun v1 => isI .i64 v1 fun n3 => frcB (ilt ii0 n3) fun t2 => Kb2 (DV.v (AV.b t2)) H3)) fun Kb2 => br t1 (Kb2 DV.n H2) (onV d2 fun v1 => isS v1 fun s1 => lenA s1 fun m2 => Kb2 (DV.v (AV.i .i64 (Int.ofNat m2))) H2)) fun Kb2 => br t1 (Kb2 DV.n H1) (c4 [d1] H1 fun d2 H2 => onV d2 fun v1 => isS v1 fun s1 => Kb2 (DV.v (AV.s s1)) H2)
def g224x7 := jn (fun d2 H2 => jn (fun d3 H3 => jn (fun d4 H4 => g224x6 d4 n1 n2 m1 t1 p1 b1 H4 c1 c2 c3 c4 Kb1) fun Kb2 => br t1 (Kb2 DV.n H3) (onV d3 fun v1 => isP v1 fun p2 => onA p2 fun b2 m2 => rdK H3 b2 m2 fun v2 => isP v2 fun p3 => Kb2 (DV.v (AV.p p3)) H3)) fun Kb2 => br t1 (Kb2 DV.n H2) (onV d2 fun v1 => isP v1 fun p2 => onA p2 fun b2 m2 => Kb2 (DV.v (AV.p (AP.at b2 m2))) H2)) fun Kb2 => br t1 (Kb2 DV.n H1) (onV d1 fun v1 => isP v1 fun p2 => onA p2 fun b2 m2 => Kb2 (DV.v (AV.p (AP.at b2 m2))) H1)
def g224x8 := rdK H1 b1 (Nat.add (Nat.add m1 nn6) (Nat.mul (itn n1) nn5)) fun v1 => isP v1 fun p2 => c1 [(DV.v (AV.p p2))] H1 fun d1 H2 => onC d1 fun d2 d3 => onV d2 fun v2 => isI .i64 v2 fun n3 => onC d3 fun d4 d5 => onV d4 fun v3 => isB v3 fun t1 => onN d5 <| jn (fun d6 H3 => g224x7 d6 n2 n1 m1 t1 p1 b1 H3 c2 c3 c4 c5 Kb1) fun Kb2 => br t1 (Kb2 DV.n H2) (Kb2 (DV.v (AV.p (AP.at b1 (Nat.add (Nat.add m1 nn6) (Nat.mul (itn n1) nn5))))) H2)
def g224x9 := onV d1 fun v1 => isI .i64 v1 fun n1 => lc R1 fun d2 R2 => onV d2 fun v2 => isI .i64 v2 fun n2 => ln R2 <| c1 [(DV.v (AV.p p1)), (DV.v (AV.i .i64 n1))] H1 fun d3 H2 => onV d3 fun v3 => isP v3 fun p2 => onA p2 fun b1 m1 => rng n2 nn8 <| rdK H2 b1 (Nat.add (Nat.add (Nat.add m1 nn6) (Nat.mul (itn n2) nn5)) nn4) fun v4 => isB v4 fun t1 => br t1 (Kb1 (DV.v (AV.b false)) H2) (g224x8 n2 n1 m1 p1 b1 H2 c2 c3 c4 c5 c6 Kb1)
/-- (*ap.AP).ready -/
def g224 : G DV := fun R1 H1 Kb1 => lc R1 fun d1 R2 => onV d1 fun v1 => isP v1 fun p1 => lc R2 fun d2 R3 => g224x9 d2 R3 p1 H1 c1 c4 c2 c3 c6 c5 Kb1
def G224 : G DV := g224 G131 G133 G171 G229 G231 G293

def g143x1 := jn (fun d3 H2 => jn (fun d4 H3 => pickK t1 d4 (DV.v (AV.b false)) fun d5 => onV d5 fun v1 => isB v1 fun t2 => br t2 (alB H3 (@T4.n AV (AV.i .i64 n1) te te te te) nn1 nn0 fun b1 H4 => appD nn1 nn8 s1 (AS.sl b1 nn0 nn1 nn1) H4 fun s2 H5 => Kb1 (DV.v (AV.s s2)) H5) (Kb1 (DV.v (AV.s s1)) H3)) fun Kb2 => br t1 (c1 [d1, d2, d3] H2 fun d4 H3 => onV d4 fun v1 => isB v1 fun t2 => Kb2 (DV.v (AV.b t2)) H3) (Kb2 DV.n H2)) fun Kb2 => br t1 (Kb2 (DV.v (AV.i .i64 n1)) H1) (Kb2 DV.n H1)
def g143x2 := jF [(7 , .slice)] (fun d1 H2 => onV d1 fun v1 => isS v1 fun s2 => wrp .i64 (iadd n1 ii1) fun n4 => Kc1 (DV.v (AV.s s2)) (DV.v (AV.i .i64 n4)) H2) fun Kb1 => c1 [(DV.v (AV.i .i64 n1))] H1 fun d1 H2 => onV d1 fun v1 => isI .i64 v1 fun n4 => frcB (ieq n4 n2) fun t1 => jn (fun d2 H3 => jn (fun d3 H4 => g143x1 d2 d3 n1 t1 s1 H4 c2 Kb1) fun Kb2 => br t1 (Kb2 (DV.v (AV.i .i64 n3)) H3) (Kb2 DV.n H3)) fun Kb2 => br t1 (Kb2 (DV.v (AV.p p1)) H2) (Kb2 DV.n H2)
def g143x3 := lc R1 fun d1 R2 => onV d1 fun v1 => isI .i64 v1 fun n1 => lc R2 fun d2 R3 => onV d2 fun v2 => isI .i64 v2 fun n2 => ln R3 <| lpR (failF [(7 , .slice), (9 , .int .i64)]) (fun Kc1 => fun d3 d4 H2 => onV d3 fun v3 => isS v3 fun s1 => onV d4 fun v4 => isI .i64 v4 fun n3 => frcB (ilt n3 ii8) fun t1 => br t1 (g143x2 n3 n2 n1 p1 s1 H2 c1 c2 Kc1) (Kb1 (DV.v (AV.s s1)) H2)) (nat_lit 100000) (DV.v (AV.s AS.nil)) (DV.v (AV.i .i64 ii0)) H1
/-- (*ap.AP).readies -/
def g143 : G DV := fun R1 H1 Kb1 => lc R1 fun d1 R2 => onV d1 fun v1 => isP v1 fun p1 => g143x3 R2 p1 H1 c1 c2 Kb1
def G143 : G DV := g143 G223 G224

/-- ps.fair -/
def g277 : G DV := fun R1 H1 Kb1 => lc R1 fun d1 R2 => onV d1 fun v1 => isI .i64 v1 fun n1 => ln R2 <| frcB (ile ii0 n1) fun t1 => jn (fun d2 H2 => jn (fun d3 H3 => pickK t1 d3 (DV.v (AV.b false)) fun d4 => onV d4 fun v2 => isB v2 fun t2 => Kb1 (DV.v (AV.b t2)) H3) fun Kb2 => br t1 (onV d2 fun v2 => isI .i64 v2 fun n2 => frcB (ilt n2 ii4) fun t2 => Kb2 (DV.v (AV.b t2)) H2) (Kb2 DV.n H2)) fun Kb2 => br t1 (Kb2 (DV.v (AV.i .i64 n1)) H1) (Kb2 DV.n H1)
def G277 : G DV := g277

def g215x1 := jn (fun d4 H2 => jn (fun d5 H3 => pickK t1 d5 (DV.v (AV.b false)) fun d6 => onV d6 fun v1 => isB v1 fun t2 => Kb1 (DV.v (AV.b t2)) H3) fun Kb2 => br t1 (onV d1 fun v1 => isB v1 fun t2 => pickK t2 (DV.v (AV.b true)) d4 fun d5 => onV d5 fun v2 => isB v2 fun t3 => Kb2 (DV.v (AV.b t3)) H2) (Kb2 DV.n H2)) fun Kb2 => grd d1 false (onV d2 fun v1 => isB v1 fun t2 => pickK t2 d3 (DV.v (AV.b false)) fun d4 => onV d4 fun v2 => isB v2 fun t3 => Kb2 (DV.v (AV.b t3)) H1) (Kb2 DV.n H1)
def g215x2 := jn (fun d5 H2 => jn (fun d6 H3 => jn (fun d7 H4 => g215x1 d1 d2 d7 t1 H4 Kb1) fun Kb2 => grd d2 true (onV d6 fun v1 => isP v1 fun p1 => onA p1 fun b1 m1 => rdK H3 b1 m1 fun v2 => isB v2 fun t2 => Kb2 (DV.v (AV.b t2)) H3) (Kb2 DV.n H3)) fun Kb2 => grd d2 true (onV d3 fun v1 => isJ v1 fun n1 => onV d5 fun v2 => isP v2 fun p1 => onA p1 fun b1 m1 => rng n1 nn4 <| Kb2 (DV.v (AV.p (AP.at b1 (Nat.add m1 (itn n1))))) H2) (Kb2 DV.n H2)) fun Kb2 => grd d2 true (onV d4 fun v1 => isP v1 fun p1 => onA p1 fun b1 m1 => Kb2 (DV.v (AV.p (AP.at b1 (Nat.add m1 nn4)))) H1) (Kb2 DV.n H1)
def g215x3 := jn (fun d3 H2 => jn (fun d4 H3 => jn (fun d5 H4 => jn (fun d6 H5 => jn (fun d7 H6 => g215x2 d1 d4 d6 d7 t1 H6 Kb1) fun Kb2 => grd d4 true (onV d5 fun v1 => isP v1 fun p2 => onA p2 fun b1 m1 => Kb2 (DV.v (AV.p (AP.at b1 m1))) H5) (Kb2 DV.n H5)) fun Kb2 => grd d4 true (Kb2 (DV.v (AV.i .i64 n1)) H4) (Kb2 DV.n H4)) fun Kb2 => grd d4 true (Kb2 (DV.v (AV.p p1)) H3) (Kb2 DV.n H3)) fun Kb2 => grd d1 false (Kb2 d3 H2) (Kb2 DV.n H2)) fun Kb2 => grd d1 false (onV d2 fun v1 => isP v1 fun p2 => onA p2 fun b1 m1 => rdK H1 b1 m1 fun v2 => isB v2 fun t2 => Kb2 (DV.v (AV.b t2)) H1) (Kb2 DV.n H1)
def g215x4 := jn (fun d2 H2 => jn (fun d3 H3 => jn (fun d4 H4 => jn (fun d5 H5 => g215x3 d2 d5 n1 t1 p1 H5 Kb1) fun Kb2 => grd d2 false (onV d4 fun v1 => isP v1 fun p2 => onA p2 fun b1 m1 => Kb2 (DV.v (AV.p (AP.at b1 (Nat.add m1 nn3)))) H4) (Kb2 DV.n H4)) fun Kb2 => grd d2 false (onV d3 fun v1 => isP v1 fun p2 => onA p2 fun b1 m1 => Kb2 (DV.v (AV.p (AP.at b1 m1))) H3) (Kb2 DV.n H3)) fun Kb2 => grd d2 false (Kb2 (DV.v (AV.p p1)) H2) (Kb2 DV.n H2)) fun Kb2 => br t1 (Kb2 d1 H1) (Kb2 DV.n H1)
def g215x5 := jn (fun d3 H2 => jn (fun d4 H3 => jn (fun d5 H4 => g215x4 d5 n1 t1 p1 H4 Kb1) fun Kb2 => br t1 (onV d1 fun v1 => isB v1 fun t2 => pickK t2 (DV.v (AV.b true)) d4 fun d5 => onV d5 fun v2 => isB v2 fun t3 => Kb2 (DV.v (AV.b t3)) H3) (Kb2 DV.n H3)) fun Kb2 => grd d1 false (onV d3 fun v1 => isP v1 fun p2 => onA p2 fun b1 m1 => rdK H2 b1 m1 fun v2 => isB v2 fun t2 => Kb2 (DV.v (AV.b t2)) H2) (Kb2 DV.n H2)) fun Kb2 => grd d1 false (onV d2 fun v1 => isP v1 fun p2 => onA p2 fun b1 m1 => Kb2 (DV.v (AV.p (AP.at b1 (Nat.add m1 nn2)))) H1) (Kb2 DV.n H1)
def g215x6 := jn (fun d2 H2 => jn (fun d3 H3 => jn (fun d4 H4 => jn (fun d5 H5 => g215x5 d3 d5 n1 t1 p1 H5 Kb1) fun Kb2 => grd d3 false (onV d4 fun v1 => isP v1 fun p2 => onA p2 fun b1 m1 => Kb2 (DV.v (AV.p (AP.at b1 m1))) H4) (Kb2 DV.n H4)) fun Kb2 => grd d3 false (Kb2 (DV.v (AV.p p1)) H3) (Kb2 DV.n H3)) fun Kb2 => br t1 (Kb2 d2 H2) (Kb2 DV.n H2)) fun Kb2 => br t1 (onV d1 fun v1 => isB v1 fun t2 => frcB (bnot t2) fun t3 => Kb2 (DV.v (AV.b t3)) H1) (Kb2 DV.n H1)
def g215x7 := jn (fun d2 H2 => jn (fun d3 H3 => jn (fun d4 H4 => g215x6 d4 n1 t1 p1 H4 Kb1) fun Kb2 => br t1 (onV d3 fun v1 => isP v1 fun p2 => onA p2 fun b1 m1 => rdK H3 b1 m1 fun v2 => isB v2 fun t2 => Kb2 (DV.v (AV.b t2)) H3) (Kb2 DV.n H3)) fun Kb2 => br t1 (onV d2 fun v1 => isP v1 fun p2 => onA p2 fun b1 m1 => Kb2 (DV.v (AV.p (AP.at b1 (Nat.add m1 nn1)))) H2) (Kb2 DV.n H2)) fun Kb2 => br t1 (onV d1 fun v1 => isP v1 fun p2 => onA p2 fun b1 m1 => Kb2 (DV.v (AV.p (AP.at b1 m1))) H1) (Kb2 DV.n H1)
def g215x8 := isP v1 fun p1 => frcB (bnot (isNilA p1)) fun t1 => jn (fun d1 H2 => jn (fun d2 H3 => pickK t1 d2 (DV.v (AV.b false)) fun d3 => onV d3 fun v2 => isB v2 fun t2 => jn (fun d4 H4 => g215x7 d4 n1 t2 p1 H4 Kb1) fun Kb2 => br t2 (Kb2 (DV.v (AV.p p1)) H3) (Kb2 DV.n H3)) fun Kb2 => br t1 (c1 [d1] H2 fun d2 H3 => onV d2 fun v2 => isB v2 fun t2 => Kb2 (DV.v (AV.b t2)) H3) (Kb2 DV.n H2)) fun Kb2 => br t1 (Kb2 (DV.v (AV.i .i64 n1)) H1) (Kb2 DV.n H1)
/-- (*ps.Power).May -/
def g215 : G DV := fun R1 H1 Kb1 => lc R1 fun d1 R2 => onV d1 fun v1 => isP v1 fun p1 => lc R2 fun d2 R3 => onV d2 fun v2 => isI .i64 v2 fun n1 => lc R3 fun d3 R4 => onV d3 fun v3 => isI .i64 v3 fun n2 => ln R4 <| c1 [(DV.v (AV.p p1)), (DV.v (AV.i .i64 n1))] H1 fun d4 H2 => onV d4 fun v4 => g215x8 v4 n2 H2 c2 Kb1
def G215 : G DV := g215 G130 G277

/-- (*sched.turns).Len -/
def g218 : G DV := fun R1 H1 Kb1 => lc R1 fun d1 R2 => onV d1 fun v1 => isP v1 fun p1 => ln R2 <| onA p1 fun b1 m1 => rdK H1 b1 m1 fun v2 => isS v2 fun s1 => lenA s1 fun m2 => Kb1 (DV.v (AV.i .i64 (Int.ofNat m2))) H1
def G218 : G DV := g218

def g291x1 := jn (fun d3 H2 => jn (fun d4 H3 => jn (fun d5 H4 => pickK t1 (DV.v (AV.b true)) d5 fun d6 => onV d6 fun v1 => isB v1 fun t2 => br t2 (Kb1 DV.n H4) (onV d1 fun v2 => isM v2 fun m1 v3 => br (Nat.beq (nat_lit 232) m1) (none) (none))) fun Kb2 => br t1 (Kb2 DV.n H3) (onV d4 fun v1 => isB v1 fun t2 => frcB (bnot t2) fun t3 => Kb2 (DV.v (AV.b t3)) H3)) fun Kb2 => br t1 (Kb2 DV.n H2) (onV d2 fun v1 => isM v1 fun m1 v2 => br (Nat.beq (nat_lit 232) m1) (none) (none))) fun Kb2 => br t1 (Kb2 DV.n H1) (Kb2 (DV.v (AV.i .i64 n1)) H1)
def g291x2 := ln R1 <| lpR (failF [(1 , .int .i64)]) (fun Kb2 => fun d2 H2 => onV d2 fun v1 => isI .i64 v1 fun n2 => wrp .i64 (isub n2 ii1) fun n3 => must (bnot (ieq ii2 ii0)) <| wrp .i64 (iquo n3 ii2) fun n4 => frcB (ieq n4 n2) fun t1 => jn (fun d3 H3 => jn (fun d4 H4 => g291x1 d1 d3 n4 t1 H4 Kb1) fun Kb3 => br t1 (Kb3 DV.n H3) (Kb3 (DV.v (AV.i .i64 n2)) H3)) fun Kb3 => br t1 (Kb3 DV.n H2) (Kb3 d1 H2)) (nat_lit 100000) (DV.v (AV.i .i64 n1)) H1
/-- container/heap.up -/
def g291 : G DV := fun R1 H1 Kb1 => lc R1 fun d1 R2 => lc R2 fun d2 R3 => onV d2 fun v1 => isI .i64 v1 fun n1 => g291x2 d1 R3 n1 H1 Kb1
def G291 : G DV := g291

def g416x1 := onA p1 fun b1 m1 => rdK H1 b1 m1 fun v1 => isS v1 fun s1 => lenA s1 fun m2 => onA p2 fun b2 m3 => wrK H1 b2 (Nat.add m3 nn4) (AV.i .i64 (Int.ofNat m2)) fun H2 => onA p1 fun b3 m4 => rdK H2 b3 m4 fun v2 => isS v2 fun s2 => alB H2 (@T4.n AV (AV.p p2) te te te te) nn1 nn0 fun b4 H3 => appD nn1 nn8 s2 (AS.sl b4 nn0 nn1 nn1) H3 fun s3 H4 => onA p1 fun b5 m5 => wrK H4 b5 m5 (AV.s s3) fun H5 => Kb1 DV.n H5
/-- (*sched.turns).Push -/
def g416 : G DV := fun R1 H1 Kb1 => lc R1 fun d1 R2 => onV d1 fun v1 => isP v1 fun p1 => lc R2 fun d2 R3 => ln R3 <| onV d2 fun v2 => asT (nat_lit 236) (AV.p AP.nil) v2 fun v3 t1 => isP v3 fun p2 => frcB (bnot t1) fun t2 => br t2 (Kb1 DV.n H1) (g416x1 p1 p2 H1 Kb1)
def G416 : G DV := g416

/-- container/heap.Push -/
def g217 : G DV := fun R1 H1 Kb1 => lc R1 fun d1 R2 => lc R2 fun d2 R3 => ln R3 <| onV d1 fun v1 => isM v1 fun m1 v2 => br (Nat.beq (nat_lit 232) m1) (c3 [(DV.v v2), d2] H1 fun d3 H2 => onV d1 fun v3 => isM v3 fun m2 v4 => br (Nat.beq (nat_lit 232) m2) (c1 [(DV.v v4)] H2 fun d4 H3 => onV d4 fun v5 => isI .i64 v5 fun n1 => wrp .i64 (isub n1 ii1) fun n2 => c2 [d1, (DV.v (AV.i .i64 n2))] H3 fun d5 H4 => Kb1 DV.n H4) (none)) (none)
def G217 : G DV := g217 G218 G291 G416

def g292x1 := jn (fun d2 H2 => jn (fun d3 H3 => jn (fun d4 H4 => jn (fun d5 H5 => pickK t1 d5 (DV.v (AV.b false)) fun d6 => onV d6 fun v1 => isB v1 fun t2 => br t2 (Kb1 (DV.v (AV.i .i64 n1)) H5) (Kb1 (DV.v (AV.i .i64 n2)) H5)) fun Kb2 => br t1 (onV d2 fun v1 => isM v1 fun m1 v2 => br (Nat.beq (nat_lit 232) m1) (none) (none)) (Kb2 DV.n H4)) fun Kb2 => br t1 (Kb2 (DV.v (AV.i .i64 n2)) H3) (Kb2 DV.n H3)) fun Kb2 => br t1 (Kb2 (DV.v (AV.i .i64 n1)) H2) (Kb2 DV.n H2)) fun Kb2 => br t1 (Kb2 d1 H1) (Kb2 DV.n H1)
def g292x2 := jn (fun d3 H2 => pickK t1 (DV.v (AV.b true)) d3 fun d4 => onV d4 fun v1 => isB v1 fun t2 => br t2 (Kb1 (DV.v (AV.i .i64 n1)) H2) (jF [(9 , .int .i64)] (fun d5 H3 => onV d5 fun v2 => isI .i64 v2 fun n4 => onV d1 fun v3 => isM v3 fun m1 v4 => br (Nat.beq (nat_lit 232) m1) (none) (none)) fun Kb2 => wrp .i64 (iadd n2 ii1) fun n4 => frcB (ilt n4 n3) fun t3 => g292x1 d1 n4 n2 t3 H2 Kb2)) fun Kb2 => br t1 (Kb2 DV.n H1) (onV d2 fun v1 => isI .i64 v1 fun n4 => frcB (ilt n4 ii0) fun t2 => Kb2 (DV.v (AV.b t2)) H1)
def g292x3 := jF [(7 , .int .i64)] (fun d2 H2 => onV d2 fun v1 => isI .i64 v1 fun n3 => frcB (ilt n1 n3) fun t1 => Kb1 (DV.v (AV.b t1)) H2) fun Kb2 => lpR (failF [(7 , .int .i64)]) (fun Kb3 => fun d2 H2 => onV d2 fun v1 => isI .i64 v1 fun n3 => wrp .i64 (imul ii2 n3) fun n4 => wrp .i64 (iadd n4 ii1) fun n5 => frcB (ile n2 n5) fun t1 => jn (fun d3 H3 => g292x2 d1 d3 n3 n5 n2 t1 H3 Kb2) fun Kb4 => br t1 (Kb4 DV.n H2) (Kb4 (DV.v (AV.i .i64 n5)) H2)) (nat_lit 100000) (DV.v (AV.i .i64 n1)) H1
/-- container/heap.down -/
def g292 : G DV := fun R1 H1 Kb1 => lc R1 fun d1 R2 => lc R2 fun d2 R3 => onV d2 fun v1 => isI .i64 v1 fun n1 => lc R3 fun d3 R4 => onV d3 fun v2 => isI .i64 v2 fun n2 => ln R4 <| g292x3 d1 n1 n2 H1 Kb1
def G292 : G DV := g292

def g415x1 := wrp .i64 (isub (Int.ofNat m1) ii1) fun n1 => ixA s1 n1 (fun x => x) fun b1 m2 => rdK H1 b1 m2 fun v1 => isP v1 fun p2 => onA p1 fun b2 m3 => rdK H1 b2 m3 fun v2 => isS v2 fun s2 => onA p1 fun b3 m4 => rdK H1 b3 m4 fun v3 => isS v3 fun s3 => lenA s3 fun m5 => wrp .i64 (isub (Int.ofNat m5) ii1) fun n2 => natK n2 fun m6 => slA s2 nn0 m6 (fun x => x) fun s4 => onA p1 fun b4 m7 => wrK H1 b4 m7 (AV.s s4) fun H2 => Kb1 (DV.v (AV.ifc (nat_lit 236) (AV.p p2))) H2
/-- (*sched.turns).Pop -/
def g415 : G DV := fun R1 H1 Kb1 => lc R1 fun d1 R2 => onV d1 fun v1 => isP v1 fun p1 => ln R2 <| onA p1 fun b1 m1 => rdK H1 b1 m1 fun v2 => isS v2 fun s1 => onA p1 fun b2 m2 => rdK H1 b2 m2 fun v3 => isS v3 fun s2 => lenA s2 fun m3 => g415x1 m3 p1 s1 H1 Kb1
def G415 : G DV := g415

def g219x1 := br (Nat.beq (nat_lit 232) m1) (c1 [(DV.v v1)] H1 fun d2 H2 => onV d2 fun v2 => isI .i64 v2 fun n2 => wrp .i64 (isub n2 ii1) fun n3 => jF [] (fun H3 => onV d1 fun v3 => isM v3 fun m2 v4 => br (Nat.beq (nat_lit 232) m2) (c2 [(DV.v v4)] H3 fun d3 H4 => onV d3 fun v5 => Kb1 (DV.v v5) H4) (none)) fun Ka1 => frcB (bnot (ieq n3 n1)) fun t1 => br t1 (onV d1 fun v3 => isM v3 fun m2 v4 => br (Nat.beq (nat_lit 232) m2) (none) (none)) (Ka1 H2)) (none)
/-- container/heap.Remove -/
def g219 : G DV := fun R1 H1 Kb1 => lc R1 fun d1 R2 => lc R2 fun d2 R3 => onV d2 fun v1 => isI .i64 v1 fun n1 => ln R3 <| onV d1 fun v2 => isM v2 fun m1 v3 => g219x1 v3 d1 n1 m1 H1 c1 c2 Kb1
def G219 : G DV := g219 G218 G415

def g216x1 := isI .i64 v1 fun n1 => onA p1 fun b1 m1 => rdK H1 b1 (Nat.add m1 nn16) fun v2 => isP v2 fun p3 => onA p3 fun b2 m2 => rdK H1 b2 m2 fun v3 => isS v3 fun s1 => ixA s1 ii0 (fun x => x) fun b3 m3 => rdK H1 b3 m3 fun v4 => isP v4 fun p4 => onA p4 fun b4 m4 => rdK H1 b4 (Nat.add m4 nn2) fun v5 => isI .i64 v5 fun n2 => asI (imax n1 n2) fun n3 => onA p2 fun b5 m5 => wrK H1 b5 (Nat.add m5 nn2) (AV.i .i64 n3) fun H2 => Ka1 H2
def g216x2 := jF [] (fun H2 => onA p1 fun b1 m1 => wrK H2 b1 (Nat.add m1 nn3) (AV.b true) fun H3 => onA p2 fun b2 m2 => rdK H3 b2 (Nat.add m2 nn16) fun v1 => isP v1 fun p3 => c1 [(DV.v (AV.ifc (nat_lit 232) (AV.p p3))), (DV.v (AV.ifc (nat_lit 236) (AV.p p1)))] H3 fun d1 H4 => Ka1 H4) fun Ka2 => onA p2 fun b1 m1 => rdK H1 b1 (Nat.add m1 nn16) fun v1 => isP v1 fun p3 => c2 [(DV.v (AV.p p3))] H1 fun d1 H2 => onV d1 fun v2 => isI .i64 v2 fun n1 => frcB (ilt ii0 n1) fun t1 => br t1 (onA p1 fun b2 m2 => rdK H2 b2 (Nat.add m2 nn2) fun v3 => g216x1 v3 p2 p1 H2 Ka2) (Ka2 H2)
def g216x3 := jn (fun d2 H2 => pickK t1 d2 (DV.v (AV.b false)) fun d3 => onV d3 fun v1 => isB v1 fun t2 => br t2 (onA p1 fun b1 m1 => wrK H2 b1 (Nat.add m1 nn3) (AV.b false) fun H3 => onA p2 fun b2 m2 => rdK H3 b2 (Nat.add m2 nn16) fun v2 => isP v2 fun p3 => onA p1 fun b3 m3 => rdK H3 b3 (Nat.add m3 nn4) fun v3 => isI .i64 v3 fun n1 => c1 [(DV.v (AV.ifc (nat_lit 232) (AV.p p3))), (DV.v (AV.i .i64 n1))] H3 fun d4 H4 => onV d4 fun v4 => Ka1 H4) (Ka1 H2)) fun Kb1 => br t1 (onV d1 fun v1 => isP v1 fun p3 => onA p3 fun b1 m1 => rdK H1 b1 m1 fun v2 => isB v2 fun t2 => Kb1 (DV.v (AV.b t2)) H1) (Kb1 DV.n H1)
def g216x4 := br t1 (g216x2 p1 p2 H1 c1 c2 Ka1) (frcB (bnot t2) fun t3 => jn (fun d1 H2 => jn (fun d2 H3 => jn (fun d3 H4 => g216x3 d3 t3 p1 p2 H4 c3 Ka1) fun Kb1 => br t3 (onV d2 fun v1 => isP v1 fun p3 => onA p3 fun b1 m1 => Kb1 (DV.v (AV.p (AP.at b1 (Nat.add m1 nn3)))) H3) (Kb1 DV.n H3)) fun Kb1 => br t3 (onV d1 fun v1 => isP v1 fun p3 => onA p3 fun b1 m1 => Kb1 (DV.v (AV.p (AP.at b1 m1))) H2) (Kb1 DV.n H2)) fun Kb1 => br t3 (Kb1 (DV.v (AV.p p1)) H1) (Kb1 DV.n H1))
def g216x5 := jn (fun d2 H2 => jn (fun d3 H3 => jn (fun d4 H4 => pickK t1 d4 (DV.v (AV.b false)) fun d5 => onV d5 fun v1 => isB v1 fun t2 => g216x4 t2 t1 p1 p2 H4 c1 c2 c3 Ka1) fun Kb1 => br t1 (onV d3 fun v1 => isB v1 fun t2 => frcB (bnot t2) fun t3 => Kb1 (DV.v (AV.b t3)) H3) (Kb1 DV.n H3)) fun Kb1 => br t1 (onV d2 fun v1 => isP v1 fun p3 => onA p3 fun b1 m1 => rdK H2 b1 m1 fun v2 => isB v2 fun t2 => Kb1 (DV.v (AV.b t2)) H2) (Kb1 DV.n H2)) fun Kb1 => br t1 (onV d1 fun v1 => isP v1 fun p3 => onA p3 fun b1 m1 => Kb1 (DV.v (AV.p (AP.at b1 (Nat.add m1 nn3)))) H1) (Kb1 DV.n H1)
def g216x6 := c1 [(DV.v (AV.p p1)), (DV.v (AV.i .i64 n1))] H1 fun d1 H2 => onV d1 fun v1 => isP v1 fun p2 => jF [] (fun H3 => Kb1 (DV.v AV.ni) H3) fun Ka1 => frcB (isNilA p2) fun t2 => br t2 (Kb1 (DV.v (AV.er (nat_lit 6))) H2) (jn (fun d2 H3 => jn (fun d3 H4 => g216x5 d3 t1 p2 p1 H4 c2 c3 c4 Ka1) fun Kb2 => br t1 (onV d2 fun v2 => isP v2 fun p3 => onA p3 fun b1 m1 => Kb2 (DV.v (AV.p (AP.at b1 m1))) H3) (Kb2 DV.n H3)) fun Kb2 => br t1 (Kb2 (DV.v (AV.p p2)) H2) (Kb2 DV.n H2))
/-- (*sched.Sched).Active -/
def g216 : G DV := fun R1 H1 Kb1 => lc R1 fun d1 R2 => onV d1 fun v1 => isP v1 fun p1 => lc R2 fun d2 R3 => onV d2 fun v2 => isI .i64 v2 fun n1 => lc R3 fun d3 R4 => onV d3 fun v3 => isB v3 fun t1 => ln R4 <| g216x6 n1 t1 p1 H1 c1 c2 c3 c4 Kb1
def G216 : G DV := g216 G210 G217 G218 G219

def g140x1 := jn (fun d2 H2 => jn (fun d3 H3 => jn (fun d4 H4 => pickK t1 (DV.v (AV.b true)) d4 fun d5 => onV d5 fun v1 => isB v1 fun t2 => rng n1 nn4 <| wrK H4 b1 (Nat.add nn0 (itn n1)) (AV.b t2) fun H5 => Kb1 (DV.v (AV.s s1)) H5) fun Kb2 => br t1 (Kb2 DV.n H3) (c1 [d2, d3] H3 fun d4 H4 => onV d4 fun v1 => isB v1 fun t2 => Kb2 (DV.v (AV.b t2)) H4)) fun Kb2 => br t1 (Kb2 DV.n H2) (Kb2 (DV.v (AV.i .i64 n2)) H2)) fun Kb2 => br t1 (Kb2 DV.n H1) (onV d1 fun v1 => isP v1 fun p1 => onA p1 fun b2 m1 => rdK H1 b2 m1 fun v2 => isP v2 fun p2 => Kb2 (DV.v (AV.p p2)) H1)
def g140x2 := isB v1 fun t1 => jn (fun d1 H2 => jn (fun d2 H3 => jn (fun d3 H4 => g140x1 d3 n1 n2 t1 b1 s1 H4 c1 Kb1) fun Kb2 => br t1 (Kb2 DV.n H3) (onV d2 fun v2 => isP v2 fun p2 => onA p2 fun b2 m1 => Kb2 (DV.v (AV.p (AP.at b2 (Nat.add m1 nn312)))) H3)) fun Kb2 => br t1 (Kb2 DV.n H2) (onV d1 fun v2 => isP v2 fun p2 => onA p2 fun b2 m1 => Kb2 (DV.v (AV.p (AP.at b2 m1))) H2)) fun Kb2 => br t1 (Kb2 DV.n H1) (Kb2 (DV.v (AV.p p1)) H1)
def g140x3 := pickK t1 d1 (DV.v (AV.b false)) fun d2 => onV d2 fun v1 => isB v1 fun t2 => br t2 (alB H1 (@T4.n AV (AV.i .i64 n1) te te te te) nn1 nn0 fun b2 H2 => appD nn1 nn8 s1 (AS.sl b2 nn0 nn1 nn1) H2 fun s2 H3 => rng n2 nn4 <| rdK H3 b1 (Nat.add nn0 (itn n2)) fun v2 => g140x2 v2 n2 n1 p1 b1 s2 H3 c1 Kb1) (c2 [(DV.v (AV.p p2)), (DV.v (AV.i .i64 n1)), (DV.v (AV.b false))] H1 fun d3 H2 => onV d3 fun v2 => Kb1 (DV.v (AV.s s1)) H2)
def g140x4 := jn (fun d4 H2 => jn (fun d5 H3 => jn (fun d6 H4 => g140x3 d6 n1 n2 t1 p1 p2 b1 s1 H4 c1 c2 Kb1) fun Kb2 => br t1 (onV d5 fun v1 => isI .i64 v1 fun n3 => frcB (ilt ii0 n3) fun t2 => Kb2 (DV.v (AV.b t2)) H3) (Kb2 DV.n H3)) fun Kb2 => br t1 (onV d4 fun v1 => isS v1 fun s2 => lenA s2 fun m1 => Kb2 (DV.v (AV.i .i64 (Int.ofNat m1))) H2) (Kb2 DV.n H2)) fun Kb2 => br t1 (c3 [d1, d2, d3] H1 fun d4 H2 => onV d4 fun v1 => isS v1 fun s2 => Kb2 (DV.v (AV.s s2)) H2) (Kb2 DV.n H1)
def g140x5 := c1 [(DV.v (AV.p (AP.at b1 (Nat.add m1 nn150)))), (DV.v (AV.i .i64 n1)), (DV.v (AV.i .i64 n2))] H1 fun d1 H2 => onV d1 fun v1 => isB v1 fun t1 => jn (fun d2 H3 => jn (fun d3 H4 => jn (fun d4 H5 => g140x4 d2 d3 d4 n1 n2 t1 p1 p2 b2 s1 H5 c2 c3 c4 Kb1) fun Kb2 => br t1 (Kb2 (DV.v (AV.i .i64 n2)) H4) (Kb2 DV.n H4)) fun Kb2 => br t1 (Kb2 (DV.v (AV.i .i64 n1)) H3) (Kb2 DV.n H3)) fun Kb2 => br t1 (Kb2 (DV.v (AV.p p1)) H2) (Kb2 DV.n H2)
def g140x6 := lpR (failF [(65 , .int .i64)]) (fun Kb2 => fun d1 H2 => onV d1 fun v1 => isI .i64 v1 fun n2 => frcB (ilt n2 (Int.ofNat m1)) fun t1 => br t1 (ixA s1 n2 (fun x => x) fun b1 m2 => rdK H2 b1 m2 fun v2 => isI .i64 v2 fun n3 => c1 [(DV.v (AV.p p1)), (DV.v (AV.i .i64 n3)), (DV.v (AV.b true))] H2 fun d2 H3 => onV d2 fun v3 => wrp .i64 (iadd n2 ii1) fun n4 => Kb2 (DV.v (AV.i .i64 n4)) H3) (wrp .i64 (iadd n1 ii1) fun n3 => Kb1 (DV.v (AV.i .i64 n3)) H2)) (nat_lit 100000) (DV.v (AV.i .i64 ii0)) H1
def g140x7 := frcB (ilt n1 (Int.ofNat m1)) fun t1 => br t1 (jF [(6 , .slice)] (fun d1 H2 => onV d1 fun v1 => isS v1 fun s3 => wrp .i64 (iadd n1 ii1) fun n3 => Kc1 (DV.v (AV.s s3)) (DV.v (AV.i .i64 n3)) H2) fun Kb2 => ixA s1 n1 (fun x => x) fun b2 m2 => rdK H1 b2 m2 fun v1 => isI .i64 v1 fun n3 => onA p1 fun b3 m3 => g140x5 n3 n2 m3 p1 p2 b3 b1 s2 H1 c1 c2 c3 c4 Kb2) (lenA s2 fun m2 => g140x6 n2 m2 p2 s2 H1 c3 Kb1)
def g140x8 := isP v1 fun p2 => onA p1 fun b2 m1 => c1 [(DV.v (AV.p (AP.at b2 (Nat.add m1 nn22))))] H1 fun d1 H2 => onV d1 fun v2 => isS v2 fun s1 => lenA s1 fun m2 => lpR (failF [(6 , .slice), (24 , .int .i64)]) (fun Kc1 => fun d2 d3 H3 => onV d2 fun v3 => isS v3 fun s2 => onV d3 fun v4 => isI .i64 v4 fun n2 => g140x7 n2 n1 m2 p1 p2 b1 s1 s2 H3 c2 c3 c4 c5 Kb1 Kc1) (nat_lit 100000) (DV.v (AV.s AS.nil)) (DV.v (AV.i .i64 ii0)) H2
def g140x9 := rdR H1 b1 (Nat.add m1 nn313) nn4 fun l1 => lpR (failF [(15 , .int .i64)]) (fun Kb2 => fun d1 H2 => onV d1 fun v1 => isI .i64 v1 fun n1 => frcB (ilt n1 ii4) fun t1 => br t1 (rng n1 nn4 <| lgetK (itn n1) l1 fun v2 => g140x8 v2 n1 p1 b2 H2 c1 c2 c3 c4 c5 Kb2) (rdR H2 b2 nn0 nn4 fun l2 => must (Nat.beq (llen l2) nn4) <| wrL H2 b3 nn0 l2 fun H3 => rdR H3 b3 nn0 nn4 fun l3 => Kb1 (DV.a l3) H3)) (nat_lit 100000) (DV.v (AV.i .i64 ii0)) H1
/-- (*ap.AP).actives -/
def g140 : G DV := fun R1 H1 Kb1 => lc R1 fun d1 R2 => onV d1 fun v1 => isP v1 fun p1 => ln R2 <| alB H1 z8 nn4 nn0 fun b1 H2 => alB H2 z8 nn4 nn0 fun b2 H3 => onA p1 fun b3 m1 => g140x9 m1 p1 b3 b2 b1 H3 c1 c4 c2 c5 c3 Kb1
def G140 : G DV := g140 G75 G142 G143 G215 G216

def z22 : T4 AV := (@T4.n AV yy0 (@T4.n AV yy0 te te te te) (@T4.n AV yy0 te te te te) (@T4.n AV yy2 te te te te) (@T4.n AV yy0 te te te te))
def g141x1 := isS v1 fun s2 => ixA s2 ii0 (fun x => x) fun b2 m1 => rdK H1 b2 m1 fun v2 => isP v2 fun p1 => onA p1 fun b3 m2 => rdK H1 b3 m2 fun v3 => isI .i64 v3 fun n1 => alB H1 (@T4.n AV (AV.i .i64 n1) te te te te) nn1 nn0 fun b4 H2 => appD nn1 nn8 s1 (AS.sl b4 nn0 nn1 nn1) H2 fun s3 H3 => c1 [(DV.v (AV.ifc (nat_lit 232) (AV.p (AP.at b1 nn0)))), (DV.v (AV.i .i64 ii0))] H3 fun d1 H4 => onV d1 fun v4 => Kb1 (DV.v (AV.s s3)) H4
def g141x2 := br t1 (ixA s1 n1 (fun x => x) fun b2 m1 => rdK H1 b2 m1 fun v1 => isP v1 fun p1 => onA p1 fun b3 m2 => rdR H1 b3 m2 nn5 fun l1 => alB H1 z22 nn5 nn0 fun b4 H2 => must (Nat.beq (llen l1) nn5) <| wrL H2 b4 nn0 l1 fun H3 => c1 [(DV.v (AV.ifc (nat_lit 232) (AV.p (AP.at b1 nn0)))), (DV.v (AV.ifc (nat_lit 236) (AV.p (AP.at b4 nn0))))] H3 fun d1 H4 => wrp .i64 (iadd n1 ii1) fun n2 => Kb1 (DV.v (AV.i .i64 n2)) H4) (lpR (failF [(7 , .slice)]) (fun Kb3 => fun d1 H2 => onV d1 fun v1 => isS v1 fun s2 => c2 [(DV.v (AV.p (AP.at b1 nn0)))] H2 fun d2 H3 => onV d2 fun v2 => isI .i64 v2 fun n2 => frcB (ilt ii0 n2) fun t2 => br t2 (rdK H3 b1 nn0 fun v3 => g141x1 v3 b1 s2 H3 c3 Kb3) (Kb2 (DV.v (AV.s s2)) H3)) (nat_lit 100000) (DV.v (AV.s AS.nil)) H1)
def g141x3 := alB H1 (@T4.n AV yy3 te te te te) nn1 nn0 fun b1 H2 => onA p1 fun b2 m1 => rdK H2 b2 (Nat.add m1 nn16) fun v1 => isP v1 fun p2 => onA p2 fun b3 m2 => rdK H2 b3 m2 fun v2 => isS v2 fun s1 => lenA s1 fun m3 => lpR (failF [(18 , .int .i64)]) (fun Kb2 => fun d1 H3 => onV d1 fun v3 => isI .i64 v3 fun n1 => frcB (ilt n1 (Int.ofNat m3)) fun t1 => g141x2 n1 t1 b1 s1 H3 c1 c2 c3 Kb2 Kb1) (nat_lit 100000) (DV.v (AV.i .i64 ii0)) H2
/-- (*sched.Sched).Order -/
def g141 : G DV := fun R1 H1 Kb1 => lc R1 fun d1 R2 => onV d1 fun v1 => isP v1 fun p1 => ln R2 <| g141x3 p1 H1 c1 c2 c3 Kb1
def G141 : G DV := g141 G217 G218 G219

def g77x1 := jn (fun d2 H2 => jn (fun d3 H3 => jn (fun d4 H4 => pickK t1 (DV.v (AV.b true)) d4 fun d5 => onV d5 fun v1 => isB v1 fun t2 => br t2 (Kb1 (DV.v (AV.b true)) H4) (wrp .i64 (iadd n1 ii1) fun n3 => Kb2 (DV.v (AV.i .i64 n3)) H4)) fun Kb3 => br t1 (Kb3 DV.n H3) (c1 [d1, d2, d3] H3 fun d4 H4 => onV d4 fun v1 => isB v1 fun t2 => Kb3 (DV.v (AV.b t2)) H4)) fun Kb3 => br t1 (Kb3 DV.n H2) (Kb3 (DV.v (AV.i .i64 n1)) H2)) fun Kb3 => br t1 (Kb3 DV.n H1) (Kb3 (DV.v (AV.i .i64 n2)) H1)
def g77x2 := jn (fun d2 H2 => jn (fun d3 H3 => jn (fun d4 H4 => g77x1 d4 n1 n2 t1 H4 c1 Kb1 Kb2) fun Kb3 => br t1 (Kb3 DV.n H3) (onV d3 fun v1 => isP v1 fun p1 => onA p1 fun b1 m1 => rdK H3 b1 m1 fun v2 => isP v2 fun p2 => Kb3 (DV.v (AV.p p2)) H3)) fun Kb3 => br t1 (Kb3 DV.n H2) (onV d2 fun v1 => isP v1 fun p1 => onA p1 fun b1 m1 => Kb3 (DV.v (AV.p (AP.at b1 (Nat.add m1 nn311)))) H2)) fun Kb3 => br t1 (Kb3 DV.n H1) (onV d1 fun v1 => isP v1 fun p1 => onA p1 fun b1 m1 => Kb3 (DV.v (AV.p (AP.at b1 m1))) H1)
def g77x3 := c1 [(DV.v (AV.p p1))] H1 fun d1 H2 => onV d1 fun v1 => isS v1 fun s1 => lenA s1 fun m1 => jF [(11 , .int .i64)] (fun d2 H3 => onV d2 fun v2 => isI .i64 v2 fun n5 => frcB (ilt ii0 n5) fun t1 => jn (fun d3 H4 => g77x2 d3 n1 n2 t1 H4 c2 Kb1 Kb2) fun Kb3 => br t1 (Kb3 DV.n H3) (Kb3 (DV.v (AV.p p2)) H3)) fun Kb3 => frcB (ieq n1 n3) fun t1 => br t1 (wrp .i64 (isub (Int.ofNat m1) n4) fun n5 => Kb3 (DV.v (AV.i .i64 n5)) H2) (Kb3 (DV.v (AV.i .i64 (Int.ofNat m1))) H2)
def g77x4 := c1 [(DV.v (AV.p p1)), (DV.v (AV.i .i64 n1))] H1 fun d1 H2 => onV d1 fun v1 => isP v1 fun p2 => lpR (failF [(15 , .int .i64)]) (fun Kb2 => fun d2 H3 => onV d2 fun v2 => isI .i64 v2 fun n4 => frcB (ilt n4 ii8) fun t1 => br t1 (onA p2 fun b1 m1 => rng n4 nn8 <| rdK H3 b1 (Nat.add (Nat.add m1 nn6) (Nat.mul (itn n4) nn5)) fun v3 => isP v3 fun p3 => g77x3 n4 n1 n2 n3 p3 p1 H3 c2 c3 Kb1 Kb2) (Kb1 (DV.v (AV.b false)) H3)) (nat_lit 100000) (DV.v (AV.i .i64 ii0)) H2
/-- (*ap.AP).has -/
def g77 : G DV := fun R1 H1 Kb1 => lc R1 fun d1 R2 => onV d1 fun v1 => isP v1 fun p1 => lc R2 fun d2 R3 => onV d2 fun v2 => isI .i64 v2 fun n1 => lc R3 fun d3 R4 => onV d3 fun v3 => isI .i64 v3 fun n2 => lc R4 fun d4 R5 => onV d4 fun v4 => isI .i64 v4 fun n3 => ln R5 <| g77x4 n1 n2 n3 p1 H1 c1 c2 c3 Kb1
def G77 : G DV := g77 G131 G132 G133

def g272x1 := jn (fun d2 H2 => jn (fun d3 H3 => pickK t1 (DV.v (AV.b true)) d3 fun d4 => onV d4 fun v1 => isB v1 fun t2 => br t2 (Kb1 (DV.v (AV.p AP.nil)) H3) (wrp .i64 (isub n1 ii1) fun n2 => onA p1 fun b1 m1 => rng n2 nn16 <| Kb1 (DV.v (AV.p (AP.at b1 (Nat.add m1 (Nat.mul (itn n2) nn8))))) H3)) fun Kb2 => br t1 (Kb2 DV.n H2) (onV d2 fun v1 => isB v1 fun t2 => frcB (bnot t2) fun t3 => Kb2 (DV.v (AV.b t3)) H2)) fun Kb2 => br t1 (Kb2 DV.n H1) (onV d1 fun v1 => isP v1 fun p2 => onA p2 fun b1 m1 => rdK H1 b1 m1 fun v2 => isB v2 fun t2 => Kb2 (DV.v (AV.b t2)) H1)
def g272x2 := jn (fun d3 H2 => jn (fun d4 H3 => jn (fun d5 H4 => g272x1 d5 n1 t1 p1 H4 Kb1) fun Kb2 => br t1 (Kb2 DV.n H3) (onV d4 fun v1 => isP v1 fun p2 => onA p2 fun b1 m1 => Kb2 (DV.v (AV.p (AP.at b1 m1))) H3)) fun Kb2 => br t1 (Kb2 DV.n H2) (onV d1 fun v1 => isJ v1 fun n2 => onV d3 fun v2 => isP v2 fun p2 => onA p2 fun b1 m1 => rng n2 nn16 <| Kb2 (DV.v (AV.p (AP.at b1 (Nat.add m1 (Nat.mul (itn n2) nn8))))) H2)) fun Kb2 => br t1 (Kb2 DV.n H1) (onV d2 fun v1 => isP v1 fun p2 => onA p2 fun b1 m1 => Kb2 (DV.v (AV.p (AP.at b1 m1))) H1)
def g272x3 := jn (fun d1 H2 => jn (fun d2 H3 => jn (fun d3 H4 => jn (fun d4 H5 => g272x2 d3 d4 n1 t1 p1 H5 Kb1) fun Kb2 => br t1 (Kb2 DV.n H4) (onV d1 fun v1 => isP v1 fun p2 => onA p2 fun b1 m1 => Kb2 (DV.v (AV.p (AP.at b1 m1))) H4)) fun Kb2 => br t1 (Kb2 DV.n H3) (onV d2 fun v1 => isI .i64 v1 fun n2 => wrp .i64 (isub n2 ii1) fun n3 => Kb2 (DV.v (AV.i .i64 n3)) H3)) fun Kb2 => br t1 (Kb2 DV.n H2) (Kb2 (DV.v (AV.i .i64 n1)) H2)) fun Kb2 => br t1 (Kb2 DV.n H1) (Kb2 (DV.v (AV.p p1)) H1)
def g272x4 := isP v1 fun p1 => lc R1 fun d1 R2 => onV d1 fun v2 => isI .i64 v2 fun n1 => ln R2 <| frcB (ilt n1 ii1) fun t1 => jn (fun d2 H2 => jn (fun d3 H3 => pickK t1 (DV.v (AV.b true)) d3 fun d4 => onV d4 fun v3 => isB v3 fun t2 => g272x3 n1 t2 p1 H3 Kb1) fun Kb2 => br t1 (Kb2 DV.n H2) (onV d2 fun v3 => isI .i64 v3 fun n2 => frcB (ilt ii16 n2) fun t2 => Kb2 (DV.v (AV.b t2)) H2)) fun Kb2 => br t1 (Kb2 DV.n H1) (Kb2 (DV.v (AV.i .i64 n1)) H1)
/-- (*sta.Table).of -/
def g272 : G DV := fun R1 H1 Kb1 => lc R1 fun d1 R2 => onV d1 fun v1 => g272x4 v1 R2 H1 Kb1
def G272 : G DV := g272

def g225x1 := c1 [(DV.v (AV.p p1)), (DV.v (AV.i .i64 n1))] H1 fun d1 H2 => onV d1 fun v1 => isP v1 fun p2 => frcB (isNilA p2) fun t1 => br t1 (wrL H2 b1 nn0 z0 fun H3 => rdR H3 b1 nn0 nn6 fun l1 => Kb1 (DV.c (DV.a l1) (DV.c (DV.v (AV.b false)) DV.n)) H3) (onA p2 fun b2 m1 => rdR H2 b2 (Nat.add m1 nn1) nn6 fun l1 => must (Nat.beq (llen l1) nn6) <| wrL H2 b1 nn0 l1 fun H3 => rdR H3 b1 nn0 nn6 fun l2 => Kb1 (DV.c (DV.a l2) (DV.c (DV.v (AV.b true)) DV.n)) H3)
/-- (*sta.Table).Addr -/
def g225 : G DV := fun R1 H1 Kb1 => lc R1 fun d1 R2 => onV d1 fun v1 => isP v1 fun p1 => lc R2 fun d2 R3 => onV d2 fun v2 => isI .i64 v2 fun n1 => ln R3 <| alB H1 z2 nn6 nn0 fun b1 H2 => g225x1 n1 p1 b1 H2 c1 Kb1
def G225 : G DV := g225 G272

def z23 : T4 AV := (@T4.n AV yy0 (@T4.n AV yy0 te te te te) (@T4.n AV yy0 te te te te) (@T4.n AV yy0 te te te te) (@T4.n AV yy0 te te te te))
/-- ap.slow -/
def g226 : G DV := fun R1 H1 Kb1 => ln R1 <| alB H1 z23 nn5 nn0 fun b1 H2 => wrL H2 b1 nn0 z10 fun H3 => rdR H3 b1 nn0 nn5 fun l1 => Kb1 (DV.a l1) H3
def G226 : G DV := g226

/-- (*ba.Session).Start -/
def g227 : G DV := fun R1 H1 Kb1 => lc R1 fun d1 R2 => onV d1 fun v1 => isP v1 fun p1 => ln R2 <| onA p1 fun b1 m1 => rdK H1 b1 m1 fun v2 => isP v2 fun p2 => c1 [(DV.v (AV.p p2))] H1 fun d2 H2 => onV d2 fun v3 => isI .i64 v3 fun n1 => Kb1 (DV.v (AV.i .i64 n1)) H2
def G227 : G DV := g227 G294

/-- (*win.Win).Size -/
def g295 : G DV := fun R1 H1 Kb1 => lc R1 fun d1 R2 => onV d1 fun v1 => isP v1 fun p1 => ln R2 <| onA p1 fun b1 m1 => rdK H1 b1 (Nat.add m1 nn2) fun v2 => isI .i64 v2 fun n1 => Kb1 (DV.v (AV.i .i64 n1)) H1
def G295 : G DV := g295

/-- (*ba.Session).Size -/
def g228 : G DV := fun R1 H1 Kb1 => lc R1 fun d1 R2 => onV d1 fun v1 => isP v1 fun p1 => ln R2 <| onA p1 fun b1 m1 => rdK H1 b1 m1 fun v2 => isP v2 fun p2 => c1 [(DV.v (AV.p p2))] H1 fun d2 H2 => onV d2 fun v3 => isI .i64 v3 fun n1 => Kb1 (DV.v (AV.i .i64 n1)) H2
def G228 : G DV := g228 G295

/-- (*win.Win).Ahead -/
def g298 : G DV := fun R1 H1 Kb1 => lc R1 fun d1 R2 => onV d1 fun v1 => isP v1 fun p1 => ln R2 <| onA p1 fun b1 m1 => rdK H1 b1 (Nat.add m1 nn1) fun v2 => isI .i64 v2 fun n1 => Kb1 (DV.v (AV.i .i64 n1)) H1
def G298 : G DV := g298

def g232x1 := br t1 (Kb1 (DV.c (DV.v (AV.i .i64 ii0)) (DV.c (DV.v (AV.er (nat_lit 9))) DV.n)) H1) (onA p1 fun b1 m1 => wrK H1 b1 (Nat.add m1 nn4) (AV.i .i64 ii2) fun H2 => onA p1 fun b2 m2 => wrK H2 b2 (Nat.add m2 nn5) (AV.i .i64 n1) fun H3 => onA p1 fun b3 m3 => rdK H3 b3 m3 fun v1 => isP v1 fun p2 => c1 [(DV.v (AV.p p2))] H3 fun d1 H4 => onV d1 fun v2 => isI .i64 v2 fun n2 => Kb1 (DV.c (DV.v (AV.i .i64 n2)) (DV.c (DV.v AV.ni) DV.n)) H4)
def g232x2 := jn (fun d2 H2 => jn (fun d3 H3 => jn (fun d4 H4 => pickK t1 (DV.v (AV.b true)) d4 fun d5 => onV d5 fun v1 => isB v1 fun t2 => g232x1 n1 t2 p1 H4 c1 Kb1) fun Kb2 => br t1 (Kb2 DV.n H3) (onV d3 fun v1 => isI .i64 v1 fun n2 => frcB (ilt ii0 n2) fun t2 => Kb2 (DV.v (AV.b t2)) H3)) fun Kb2 => br t1 (Kb2 DV.n H2) (onV d2 fun v1 => isS v1 fun s1 => lenA s1 fun m1 => Kb2 (DV.v (AV.i .i64 (Int.ofNat m1))) H2)) fun Kb2 => br t1 (Kb2 DV.n H1) (onV d1 fun v1 => isP v1 fun p2 => onA p2 fun b1 m1 => rdK H1 b1 m1 fun v2 => isS v2 fun s1 => Kb2 (DV.v (AV.s s1)) H1)
def g232x3 := frcB (bnot (ieq n1 ii1)) fun t1 => jn (fun d1 H2 => jn (fun d2 H3 => jn (fun d3 H4 => g232x2 d3 n2 t1 p1 H4 c1 Kb1) fun Kb2 => br t1 (Kb2 DV.n H3) (onV d2 fun v1 => isP v1 fun p2 => onA p2 fun b1 m1 => Kb2 (DV.v (AV.p (AP.at b1 (Nat.add m1 nn6)))) H3)) fun Kb2 => br t1 (Kb2 DV.n H2) (onV d1 fun v1 => isP v1 fun p2 => onA p2 fun b1 m1 => Kb2 (DV.v (AV.p (AP.at b1 m1))) H2)) fun Kb2 => br t1 (Kb2 DV.n H1) (Kb2 (DV.v (AV.p p1)) H1)
def g232x4 := jn (fun d1 H2 => jn (fun d2 H3 => pickK t1 (DV.v (AV.b true)) d2 fun d3 => onV d3 fun v1 => isB v1 fun t2 => br t2 (Kb1 (DV.c (DV.v (AV.i .i64 ii0)) (DV.c (DV.v (AV.er (nat_lit 2))) DV.n)) H3) (onA p1 fun b1 m1 => rdK H3 b1 (Nat.add m1 nn4) fun v2 => isI .i64 v2 fun n2 => g232x3 n2 n1 p1 H3 c1 Kb1)) fun Kb2 => br t1 (Kb2 DV.n H2) (onV d1 fun v1 => isI .i64 v1 fun n2 => frcB (ile ii256 n2) fun t2 => Kb2 (DV.v (AV.b t2)) H2)) fun Kb2 => br t1 (Kb2 DV.n H1) (Kb2 (DV.v (AV.i .i64 n1)) H1)
/-- (*ba.Session).Ask -/
def g232 : G DV := fun R1 H1 Kb1 => lc R1 fun d1 R2 => onV d1 fun v1 => isP v1 fun p1 => lc R2 fun d2 R3 => onV d2 fun v2 => isI .i64 v2 fun n1 => ln R3 <| frcB (ilt n1 ii0) fun t1 => g232x4 n1 t1 p1 H1 c1 Kb1
def G232 : G DV := g232 G298

/-- ampdu.up -/
def g241 : G DV := fun R1 H1 Kb1 => lc R1 fun d1 R2 => onV d1 fun v1 => isI .i64 v1 fun n1 => ln R2 <| wrp .i64 (iadd n1 ii4) fun n2 => wrp .i64 (isub n2 ii1) fun n3 => must (bnot (ieq ii4 ii0)) <| wrp .i64 (iquo n3 ii4) fun n4 => wrp .i64 (imul n4 ii4) fun n5 => Kb1 (DV.v (AV.i .i64 n5)) H1
def G241 : G DV := g241

def g244x1 := isI .i64 v1 fun n2 => frcB (ilt n2 (Int.ofNat m1)) fun t1 => br t1 (ixA s1 n2 (fun x => x) fun b1 m2 => rdK H1 b1 m2 fun v2 => isI .i64 v2 fun n3 => c1 [(DV.v (AV.i .i64 n1))] H1 fun d1 H2 => onV d1 fun v3 => isI .i64 v3 fun n4 => wrp .i64 (iadd n4 ii4) fun n5 => asI (imax n3 ii0) fun n6 => wrp .i64 (iadd n5 n6) fun n7 => wrp .i64 (iadd n2 ii1) fun n8 => Kc1 (DV.v (AV.i .i64 n7)) (DV.v (AV.i .i64 n8)) H2) (Kb1 (DV.v (AV.i .i64 n1)) H1)
/-- ampdu.Len -/
def g244 : G DV := fun R1 H1 Kb1 => lc R1 fun d1 R2 => onV d1 fun v1 => isS v1 fun s1 => ln R2 <| lenA s1 fun m1 => lpR (failF [(3 , .int .i64), (8 , .int .i64)]) (fun Kc1 => fun d2 d3 H2 => onV d2 fun v2 => isI .i64 v2 fun n1 => onV d3 fun v3 => g244x1 v3 n1 m1 s1 H2 c1 Kb1 Kc1) (nat_lit 100000) (DV.v (AV.i .i64 ii0)) (DV.v (AV.i .i64 ii0)) H1
def G244 : G DV := g244 G241

/-- math/bits.Reverse8 -/
def g346 : G DV := fun R1 H1 Kb1 => lc R1 fun d1 R2 => onV d1 fun v1 => isI .u8 v1 fun n1 => ln R2 <| rng n1 (leni ss13) <| getI (itn n1) ss13 fun n2 => asI n2 fun n3 => Kb1 (DV.v (AV.i .u8 n3)) H1
def G346 : G DV := g346

def g311x1 := asI (bits .xor .u8 n1 n2) fun n6 => wrp .u8 (imul n3 (ip2 ii1)) fun n7 => jF [(3 , .int .u8)] (fun d1 H2 => onV d1 fun v1 => isI .u8 v1 fun n8 => asI (idiv n4 (ip2 ii1)) fun n9 => wrp .i64 (iadd n5 ii1) fun n10 => Kd1 (DV.v (AV.i .u8 n8)) (DV.v (AV.i .u8 n9)) (DV.v (AV.i .i64 n10)) H2) fun Kb1 => frcB (ieq n6 ii1) fun t1 => br t1 (asI (bits .xor .u8 n7 ii7) fun n8 => Kb1 (DV.v (AV.i .u8 n8)) H1) (Kb1 (DV.v (AV.i .u8 n7)) H1)
def g311x2 := lpR (failF [(3 , .int .u8), (5 , .int .u8), (13 , .int .i64)]) (fun Kd1 => fun d1 d2 d3 H2 => onV d1 fun v1 => isI .u8 v1 fun n4 => onV d2 fun v2 => isI .u8 v2 fun n5 => onV d3 fun v3 => isI .i64 v3 fun n6 => frcB (ilt n6 ii8) fun t1 => br t1 (asI (idiv n4 (ip2 ii7)) fun n7 => asI (bits .and .u8 n5 ii1) fun n8 => g311x1 n7 n8 n4 n5 n6 H2 Kd1) (wrp .i64 (iadd n1 ii1) fun n7 => Kc1 (DV.v (AV.i .u8 n4)) (DV.v (AV.i .i64 n7)) H2)) (nat_lit 100000) (DV.v (AV.i .u8 n2)) (DV.v (AV.i .u8 n3)) (DV.v (AV.i .i64 ii0)) H1
def g311x3 := lpR (failF [(3 , .int .u8), (9 , .int .i64)]) (fun Kc1 => fun d1 d2 H2 => onV d1 fun v1 => isI .u8 v1 fun n1 => onV d2 fun v2 => isI .i64 v2 fun n2 => frcB (ilt n2 (Int.ofNat m1)) fun t1 => br t1 (ixA s1 n2 (fun x => x) fun b1 m2 => rdK H2 b1 m2 fun v3 => isI .u8 v3 fun n3 => g311x2 n2 n1 n3 H2 Kc1) (asI (bits .xor .u8 (if IntKind.signed .u8 then -1 else IntKind.max .u8) n1) fun n3 => c1 [(DV.v (AV.i .u8 n3))] H2 fun d3 H3 => onV d3 fun v3 => isI .u8 v3 fun n4 => Kb1 (DV.v (AV.i .u8 n4)) H3)) (nat_lit 100000) (DV.v (AV.i .u8 ii255)) (DV.v (AV.i .i64 ii0)) H1
/-- crc.Sum -/
def g311 : G DV := fun R1 H1 Kb1 => lc R1 fun d1 R2 => onV d1 fun v1 => isS v1 fun s1 => ln R2 <| lenA s1 fun m1 => g311x3 m1 s1 H1 c1 Kb1
def G311 : G DV := g311 G346

/-- crc.Seal -/
def g245 : G DV := fun R1 H1 Kb1 => lc R1 fun d1 R2 => onV d1 fun v1 => isS v1 fun s1 => ln R2 <| c1 [(DV.v (AV.s s1))] H1 fun d2 H2 => onV d2 fun v2 => isS v2 fun s2 => c2 [(DV.v (AV.s s1))] H2 fun d3 H3 => onV d3 fun v3 => isI .u8 v3 fun n1 => alB H3 (@T4.n AV (AV.i .u8 n1) te te te te) nn1 nn0 fun b1 H4 => appD nn1 nn1 s2 (AS.sl b1 nn0 nn1 nn1) H4 fun s3 H5 => Kb1 (DV.v (AV.s s3)) H5
def G245 : G DV := g245 G67 G311

def g147x1 := jn (fun d2 H2 => pickK t1 (DV.v (AV.b true)) d2 fun d3 => onV d3 fun v1 => isB v1 fun t2 => br t2 (Kb1 (DV.c (DV.v (AV.s AS.nil)) (DV.c (DV.v (AV.er (nat_lit 2))) DV.n)) H2) (lenA s1 fun m1 => alB H2 (@T4.n AV (AV.i .i64 (Int.ofNat m1)) te te te te) nn1 nn0 fun b1 H3 => appD nn1 nn8 s2 (AS.sl b1 nn0 nn1 nn1) H3 fun s3 H4 => wrp .i64 (iadd n1 ii1) fun n2 => Kc1 (DV.v (AV.s s3)) (DV.v (AV.i .i64 n2)) H4)) fun Kb2 => br t1 (Kb2 DV.n H1) (onV d1 fun v1 => isI .i64 v1 fun n2 => frcB (ilt ii4095 n2) fun t2 => Kb2 (DV.v (AV.b t2)) H1)
def g147x2 := alB H1 (@T4.n AV (AV.i .u8 n1) (@T4.n AV (AV.i .u8 n2) te te te te) te te te) nn2 nn0 fun b1 H2 => c1 [(DV.v (AV.s (AS.sl b1 nn0 nn2 nn2)))] H2 fun d1 H3 => onV d1 fun v1 => isS v1 fun s3 => appD nn1 nn1 s1 s3 H3 fun s4 H4 => alB H4 (@T4.n AV yy22 te te te te) nn1 nn0 fun b2 H5 => appD nn1 nn1 s4 (AS.sl b2 nn0 nn1 nn1) H5 fun s5 H6 => appD nn1 nn1 s5 s2 H6 fun s6 H7 => wrp .i64 (iadd n3 ii1) fun n4 => Kc1 (DV.v (AV.s s6)) (DV.v (AV.i .i64 n4)) H7
def g147x3 := isS v1 fun s2 => lenA s1 fun m1 => c1 [(DV.v (AV.i .i64 (Int.ofNat m1)))] H1 fun d1 H2 => onV d1 fun v2 => isI .i64 v2 fun n2 => lenA s1 fun m2 => wrp .i64 (isub n2 (Int.ofNat m2)) fun n3 => natK n3 fun m3 => appM (nat_lit 1) (nat_lit 1) [(AV.i .u8 ii0)] s1 m3 H2 fun s3 H3 => lenA s2 fun m4 => wrp .i64 (imul (Int.ofNat m4) ii16) fun n4 => wrp .u8 n4 fun n5 => asI (idiv n4 (ip2 ii8)) fun n6 => wrp .u8 n6 fun n7 => g147x2 n5 n7 n1 s3 s2 H3 c2 Kc1
def g147x4 := br t1 (Kb1 (DV.c (DV.v (AV.s AS.nil)) (DV.c (DV.v (AV.er (nat_lit 3))) DV.n)) H1) (lenA s1 fun m1 => lpR (failF [(7 , .slice), (49 , .int .i64)]) (fun Kc1 => fun d1 d2 H2 => onV d1 fun v1 => isS v1 fun s2 => onV d2 fun v2 => isI .i64 v2 fun n1 => frcB (ilt n1 (Int.ofNat m1)) fun t2 => br t2 (ixA s1 n1 (fun x => x) fun b1 m2 => rdK H2 b1 m2 fun v3 => g147x3 v3 n1 s2 H2 c1 c2 Kc1) (Kb1 (DV.c (DV.v (AV.s s2)) (DV.c (DV.v AV.ni) DV.n)) H2)) (nat_lit 100000) (DV.v (AV.s AS.nil)) (DV.v (AV.i .i64 ii0)) H1)
def g147x5 := jn (fun d1 H2 => jn (fun d2 H3 => jn (fun d3 H4 => pickK t1 (DV.v (AV.b true)) d3 fun d4 => onV d4 fun v1 => isB v1 fun t2 => g147x4 t2 s1 H4 c1 c2 Kb1) fun Kb2 => br t1 (Kb2 DV.n H3) (onV d2 fun v1 => isI .i64 v1 fun n1 => frcB (ilt ii65535 n1) fun t2 => Kb2 (DV.v (AV.b t2)) H3)) fun Kb2 => br t1 (Kb2 DV.n H2) (c3 [d1] H2 fun d2 H3 => onV d2 fun v1 => isI .i64 v1 fun n1 => Kb2 (DV.v (AV.i .i64 n1)) H3)) fun Kb2 => br t1 (Kb2 DV.n H1) (Kb2 (DV.v (AV.s s2)) H1)
def g147x6 := br t1 (ixA s1 n1 (fun x => x) fun b1 m1 => rdK H1 b1 m1 fun v1 => isS v1 fun s3 => lenA s3 fun m2 => frcB (ilt (Int.ofNat m2) ii1) fun t2 => jn (fun d1 H2 => jn (fun d2 H3 => g147x1 d2 n1 t2 s3 s2 H3 Kb1 Kc1) fun Kb2 => br t2 (Kb2 DV.n H2) (onV d1 fun v2 => isS v2 fun s4 => lenA s4 fun m3 => Kb2 (DV.v (AV.i .i64 (Int.ofNat m3))) H2)) fun Kb2 => br t2 (Kb2 DV.n H1) (Kb2 (DV.v (AV.s s3)) H1)) (lenA s1 fun m1 => frcB (ieq (Int.ofNat m1) ii0) fun t2 => br t2 (Kb1 (DV.c (DV.v (AV.s AS.nil)) (DV.c (DV.v (AV.er (nat_lit 2))) DV.n)) H1) (lenA s1 fun m2 => frcB (ilt ii64 (Int.ofNat m2)) fun t3 => g147x5 t3 s1 s2 H1 c1 c2 c3 Kb1))
/-- ampdu.Pack -/
def g147 : G DV := fun R1 H1 Kb1 => lc R1 fun d1 R2 => onV d1 fun v1 => isS v1 fun s1 => ln R2 <| lenA s1 fun m1 => lpR (failF [(4 , .slice), (13 , .int .i64)]) (fun Kc1 => fun d2 d3 H2 => onV d2 fun v2 => isS v2 fun s2 => onV d3 fun v3 => isI .i64 v3 fun n1 => frcB (ilt n1 (Int.ofNat m1)) fun t1 => g147x6 n1 t1 s1 s2 H2 c1 c3 c2 Kb1 Kc1) (nat_lit 100000) (DV.v (AV.s AS.nil)) (DV.v (AV.i .i64 ii0)) H1
def G147 : G DV := g147 G241 G244 G245

def g236x1 := jn (fun d2 H2 => pickK t1 (DV.v (AV.b true)) d2 fun d3 => onV d3 fun v1 => isB v1 fun t2 => br t2 (onA p1 fun b1 m1 => wrK H2 b1 (Nat.add m1 nn3) (AV.b false) fun H3 => onA p1 fun b2 m2 => wrK H3 b2 (Nat.add m2 nn9) (AV.i .i64 ii0) fun H4 => Kb1 (DV.c (DV.v (AV.b true)) (DV.c (DV.v AV.ni) DV.n)) H4) (Kb1 (DV.c (DV.v (AV.b false)) (DV.c (DV.v AV.ni) DV.n)) H2)) fun Kb2 => br t1 (Kb2 DV.n H1) (onV d1 fun v1 => isB v1 fun t2 => frcB (bnot t2) fun t3 => Kb2 (DV.v (AV.b t3)) H1)
def g236x2 := rdK H1 b1 (Nat.add m1 nn8) fun v1 => isI .i64 v1 fun n1 => frcB (ilt ii0 n1) fun t1 => br t1 (onA p1 fun b2 m2 => rdK H1 b2 (Nat.add m2 nn9) fun v2 => isI .i64 v2 fun n2 => wrp .i64 (isub n2 ii1) fun n3 => onA p1 fun b3 m3 => wrK H1 b3 (Nat.add m3 nn9) (AV.i .i64 n3) fun H2 => onA p1 fun b4 m4 => rdK H2 b4 (Nat.add m4 nn9) fun v3 => isI .i64 v3 fun n4 => frcB (ieq n4 ii0) fun t2 => Kb1 (DV.v (AV.b t2)) H2) (Kb1 (DV.v (AV.b false)) H1)
def g236x3 := onA p1 fun b1 m1 => rdK H1 b1 (Nat.add m1 nn2) fun v1 => isB v1 fun t2 => br t2 (onA p1 fun b2 m2 => wrK H1 b2 (Nat.add m2 nn2) (AV.b false) fun H2 => Kb1 (DV.c (DV.v (AV.b false)) (DV.c (DV.v AV.ni) DV.n)) H2) (jF [(11 , .bool)] (fun d1 H2 => onV d1 fun v2 => isB v2 fun t3 => jn (fun d2 H3 => g236x1 d2 t3 p1 H3 Kb1) fun Kb2 => br t3 (Kb2 DV.n H2) (Kb2 (DV.v (AV.b t1)) H2)) fun Kb2 => onA p1 fun b2 m2 => g236x2 m2 p1 b2 H1 Kb2)
def g236x4 := br t1 (Kb1 (DV.c (DV.v (AV.b false)) (DV.c (DV.v (AV.er (nat_lit 2))) DV.n)) H1) (c1 [(DV.v (AV.p p1)), (DV.v (AV.i .i64 n1)), (DV.v (AV.i .i64 n2))] H1 fun d1 H2 => onV d1 fun v1 => isB v1 fun t3 => frcB (bnot t3) fun t4 => br t4 (Kb1 (DV.c (DV.v (AV.b false)) (DV.c (DV.v (AV.er (nat_lit 9))) DV.n)) H2) (onA p2 fun b1 m1 => rdK H2 b1 (Nat.add m1 nn1) fun v2 => isB v2 fun t5 => frcB (bnot t5) fun t6 => br t6 (Kb1 (DV.c (DV.v (AV.b false)) (DV.c (DV.v AV.ni) DV.n)) H2) (g236x3 t2 p2 H2 Kb1)))
def g236x5 := isI .i64 v1 fun n2 => lc R1 fun d1 R2 => onV d1 fun v2 => isB v2 fun t1 => ln R2 <| c1 [(DV.v (AV.p p1)), (DV.v (AV.i .i64 n1))] H1 fun d2 H2 => onV d2 fun v3 => isP v3 fun p2 => frcB (isNilA p2) fun t2 => br t2 (Kb1 (DV.c (DV.v (AV.b false)) (DV.c (DV.v (AV.er (nat_lit 6))) DV.n)) H2) (c2 [(DV.v (AV.i .i64 n2))] H2 fun d3 H3 => onV d3 fun v4 => isB v4 fun t3 => frcB (bnot t3) fun t4 => g236x4 n1 n2 t4 t1 p1 p2 H3 c3 Kb1)
/-- (*ps.Power).Sent -/
def g236 : G DV := fun R1 H1 Kb1 => lc R1 fun d1 R2 => onV d1 fun v1 => isP v1 fun p1 => lc R2 fun d2 R3 => onV d2 fun v2 => isI .i64 v2 fun n1 => lc R3 fun d3 R4 => onV d3 fun v3 => g236x5 v3 R4 n1 p1 H1 c1 c3 c2 Kb1
def G236 : G DV := g236 G130 G215 G277

def g322x1 := jn (fun d3 H2 => pickK t1 (DV.v (AV.b true)) d3 fun d4 => onV d4 fun v1 => isB v1 fun t2 => br t2 (Kb1 (DV.c (DV.v (AV.p AP.nil)) (DV.c (DV.v (AV.er (nat_lit 6))) DV.n)) H2) (onA p1 fun b1 m1 => rdK H2 b1 m1 fun v2 => isS v2 fun s1 => wrp .i64 (isub n1 ii1) fun n2 => ixA s1 n2 (fun x => Nat.mul x nn2) fun b2 m2 => Kb1 (DV.c (DV.v (AV.p (AP.at b2 m2))) (DV.c (DV.v AV.ni) DV.n)) H2)) fun Kb2 => br t1 (Kb2 DV.n H1) (onV d1 fun v1 => onV d2 fun v2 => isI .i64 v1 fun n2 => isI .i64 v2 fun n3 => frcB (ilt n3 n2) fun t2 => Kb2 (DV.v (AV.b t2)) H1)
def g322x2 := jn (fun d3 H2 => jn (fun d4 H3 => jn (fun d5 H4 => g322x1 d1 d5 n1 t1 p1 H4 Kb1) fun Kb2 => br t1 (Kb2 DV.n H3) (onV d4 fun v1 => isS v1 fun s1 => lenA s1 fun m1 => Kb2 (DV.v (AV.i .i64 (Int.ofNat m1))) H3)) fun Kb2 => br t1 (Kb2 DV.n H2) (onV d3 fun v1 => isP v1 fun p2 => onA p2 fun b1 m1 => rdK H2 b1 m1 fun v2 => isS v2 fun s1 => Kb2 (DV.v (AV.s s1)) H2)) fun Kb2 => br t1 (Kb2 DV.n H1) (onV d2 fun v1 => isP v1 fun p2 => onA p2 fun b1 m1 => Kb2 (DV.v (AV.p (AP.at b1 m1))) H1)
def g322x3 := lc R1 fun d1 R2 => onV d1 fun v1 => isI .i64 v1 fun n1 => ln R2 <| frcB (ilt n1 ii1) fun t1 => jn (fun d2 H2 => jn (fun d3 H3 => jn (fun d4 H4 => g322x2 d2 d4 n1 t1 p1 H4 Kb1) fun Kb2 => br t1 (Kb2 DV.n H3) (onV d3 fun v2 => isP v2 fun p2 => onA p2 fun b1 m1 => Kb2 (DV.v (AV.p (AP.at b1 m1))) H3)) fun Kb2 => br t1 (Kb2 DV.n H2) (Kb2 (DV.v (AV.p p1)) H2)) fun Kb2 => br t1 (Kb2 DV.n H1) (Kb2 (DV.v (AV.i .i64 n1)) H1)
/-- (*count.Book).of -/
def g322 : G DV := fun R1 H1 Kb1 => lc R1 fun d1 R2 => onV d1 fun v1 => isP v1 fun p1 => g322x3 R2 p1 H1 Kb1
def G322 : G DV := g322

def g323x1 := jn (fun d2 H2 => jn (fun d3 H3 => jn (fun d4 H4 => pickK t1 (DV.v (AV.b true)) d4 fun d5 => onV d5 fun v1 => isB v1 fun t2 => Kb1 (DV.v (AV.b t2)) H4) fun Kb2 => br t1 (Kb2 DV.n H3) (onV d3 fun v1 => isI .i64 v1 fun n1 => frcB (ieq n1 ii4) fun t2 => Kb2 (DV.v (AV.b t2)) H3)) fun Kb2 => br t1 (Kb2 DV.n H2) (onV d2 fun v1 => isP v1 fun p1 => onA p1 fun b1 m1 => rdK H2 b1 m1 fun v2 => isI .i64 v2 fun n1 => Kb2 (DV.v (AV.i .i64 n1)) H2)) fun Kb2 => br t1 (Kb2 DV.n H1) (onV d1 fun v1 => isP v1 fun p1 => onA p1 fun b1 m1 => Kb2 (DV.v (AV.p (AP.at b1 m1))) H1)
/-- count.over -/
def g323 : G DV := fun R1 H1 Kb1 => lc R1 fun d1 R2 => onV d1 fun v1 => isP v1 fun p1 => ln R2 <| onA p1 fun b1 m1 => rdK H1 b1 m1 fun v2 => isI .i64 v2 fun n1 => frcB (ieq n1 ii3) fun t1 => jn (fun d2 H2 => jn (fun d3 H3 => g323x1 d3 t1 H3 Kb1) fun Kb2 => br t1 (Kb2 DV.n H2) (onV d2 fun v3 => isP v3 fun p2 => onA p2 fun b2 m2 => Kb2 (DV.v (AV.p (AP.at b2 m2))) H2)) fun Kb2 => br t1 (Kb2 DV.n H1) (Kb2 (DV.v (AV.p p1)) H1)
def G323 : G DV := g323

def g264x1 := jn (fun d3 H2 => jn (fun d4 H3 => pickK t1 (DV.v (AV.b true)) d4 fun d5 => onV d5 fun v1 => isB v1 fun t2 => br t2 (Kb1 (DV.v (AV.er (nat_lit 9))) H3) (onA p1 fun b1 m1 => wrK H3 b1 m1 (AV.i .i64 n1) fun H4 => Kb1 (DV.v AV.ni) H4)) fun Kb2 => br t1 (Kb2 DV.n H2) (onV d1 fun v1 => isB v1 fun t2 => pickK t2 d3 (DV.v (AV.b false)) fun d4 => onV d4 fun v2 => isB v2 fun t3 => Kb2 (DV.v (AV.b t3)) H2)) fun Kb2 => grd d1 true (onV d2 fun v1 => isI .i64 v1 fun n2 => frcB (ieq n2 ii1) fun t2 => Kb2 (DV.v (AV.b t2)) H1) (Kb2 DV.n H1)
def g264x2 := jn (fun d3 H2 => jn (fun d4 H3 => jn (fun d5 H4 => g264x1 d1 d5 n1 t1 p1 H4 Kb1) fun Kb2 => grd d1 true (onV d4 fun v1 => isP v1 fun p2 => onA p2 fun b1 m1 => rdK H3 b1 m1 fun v2 => isI .i64 v2 fun n2 => Kb2 (DV.v (AV.i .i64 n2)) H3) (Kb2 DV.n H3)) fun Kb2 => grd d1 true (onV d3 fun v1 => isP v1 fun p2 => onA p2 fun b1 m1 => Kb2 (DV.v (AV.p (AP.at b1 m1))) H2) (Kb2 DV.n H2)) fun Kb2 => grd d1 true (onV d2 fun v1 => isP v1 fun p2 => onA p2 fun b1 m1 => Kb2 (DV.v (AV.p (AP.at b1 m1))) H1) (Kb2 DV.n H1)
def g264x3 := onV d1 fun v1 => isB v1 fun t1 => jn (fun d2 H2 => jn (fun d3 H3 => jn (fun d4 H4 => jn (fun d5 H5 => g264x2 d4 d5 n1 t1 p1 H5 Kb1) fun Kb2 => grd d4 true (Kb2 (DV.v (AV.p p1)) H4) (Kb2 DV.n H4)) fun Kb2 => br t1 (Kb2 DV.n H3) (Kb2 d3 H3)) fun Kb2 => br t1 (Kb2 DV.n H2) (onV d2 fun v2 => isI .i64 v2 fun n2 => frcB (ieq n2 ii3) fun t2 => Kb2 (DV.v (AV.b t2)) H2)) fun Kb2 => br t1 (Kb2 DV.n H1) (Kb2 (DV.v (AV.i .i64 n1)) H1)
def g264x4 := onV d1 fun v1 => isB v1 fun t1 => br t1 (Kb1 (DV.v (AV.er (nat_lit 2))) H1) (c1 [(DV.v (AV.p p1))] H1 fun d2 H2 => onV d2 fun v2 => isB v2 fun t2 => jn (fun d3 H3 => jn (fun d4 H4 => pickK t2 (DV.v (AV.b true)) d4 fun d5 => g264x3 d5 n1 p1 H4 Kb1) fun Kb2 => br t2 (Kb2 DV.n H3) (onV d3 fun v3 => isI .i64 v3 fun n2 => frcB (ieq n2 ii1) fun t3 => Kb2 (DV.v (AV.b t3)) H3)) fun Kb2 => br t2 (Kb2 DV.n H2) (Kb2 (DV.v (AV.i .i64 n1)) H2))
def g264x5 := onV d1 fun v1 => onN d2 <| ifA true true v1 AV.ni fun t1 => frcB (bnot t1) fun t2 => br t2 (Kb1 (DV.v v1) H1) (frcB (ilt n1 ii1) fun t3 => jn (fun d3 H2 => jn (fun d4 H3 => pickK t3 (DV.v (AV.b true)) d4 fun d5 => g264x4 d5 n1 p1 H3 c1 Kb1) fun Kb2 => br t3 (Kb2 DV.n H2) (onV d3 fun v2 => isI .i64 v2 fun n2 => frcB (ilt ii3 n2) fun t4 => Kb2 (DV.v (AV.b t4)) H2)) fun Kb2 => br t3 (Kb2 DV.n H1) (Kb2 (DV.v (AV.i .i64 n1)) H1))
/-- (*count.Book).Move -/
def g264 : G DV := fun R1 H1 Kb1 => lc R1 fun d1 R2 => onV d1 fun v1 => isP v1 fun p1 => lc R2 fun d2 R3 => onV d2 fun v2 => isI .i64 v2 fun n1 => lc R3 fun d3 R4 => onV d3 fun v3 => isI .i64 v3 fun n2 => ln R4 <| c1 [(DV.v (AV.p p1)), (DV.v (AV.i .i64 n1))] H1 fun d4 H2 => onC d4 fun d5 d6 => onV d5 fun v4 => isP v4 fun p2 => onC d6 fun d7 d8 => g264x5 d7 d8 n2 p2 H2 c2 Kb1
def G264 : G DV := g264 G322 G323

/-- slices.Clone[[]api.Packet,api.Packet] -/
def g372 : G DV := fun R1 H1 Kb1 => lc R1 fun d1 R2 => onV d1 fun v1 => isS v1 fun s1 => ln R2 <| frcB (isNilS s1) fun t1 => br t1 (Kb1 (DV.v (AV.s AS.nil)) H1) (alB H1 te nn0 nn0 fun b1 H2 => appD nn5 nn56 (AS.sl b1 nn0 nn0 nn0) s1 H2 fun s2 H3 => Kb1 (DV.v (AV.s s2)) H3)
def G372 : G DV := g372

def g354x1 := wrK H1 b1 (Nat.add m1 nn133) (AV.i .i64 n1) fun H2 => onA p1 fun b4 m2 => rdK H2 b4 (Nat.add m2 nn134) fun v1 => isI .i64 v1 fun n2 => rdK H2 b2 nn4 fun v2 => isS v2 fun s1 => lenA s1 fun m3 => wrp .i64 (isub n2 (Int.ofNat m3)) fun n3 => onA p1 fun b5 m4 => wrK H2 b5 (Nat.add m4 nn134) (AV.i .i64 n3) fun H3 => rdR H3 b2 nn0 nn5 fun l1 => must (Nat.beq (llen l1) nn5) <| wrL H3 b3 nn0 l1 fun H4 => rdR H4 b3 nn0 nn5 fun l2 => Kb1 (DV.a l2) H4
def g354x2 := rdK H1 b1 (Nat.add (Nat.add (Nat.add m1 nn3) (Nat.mul (itn n1) nn8)) nn1) fun v1 => isI .i64 v1 fun n2 => rdK H1 b2 nn4 fun v2 => isS v2 fun s1 => lenA s1 fun m2 => wrp .i64 (isub n2 (Int.ofNat m2)) fun n3 => wrK H1 b1 (Nat.add (Nat.add (Nat.add m1 nn3) (Nat.mul (itn n1) nn8)) nn1) (AV.i .i64 n3) fun H2 => onA p1 fun b4 m3 => rdK H2 b4 (Nat.add m3 nn133) fun v3 => isI .i64 v3 fun n4 => wrp .i64 (isub n4 ii1) fun n5 => onA p1 fun b5 m4 => g354x1 n5 m4 p1 b5 b2 b3 H2 Kb1
def g354x3 := alB H1 z17 nn5 nn0 fun b3 H2 => must (Nat.beq (llen l1) nn5) <| wrL H2 b3 nn0 l1 fun H3 => rdK H3 b1 (Nat.add (Nat.add m1 nn3) (Nat.mul (itn n1) nn8)) fun v1 => isS v1 fun s1 => lenA s1 fun m2 => slA s1 nn1 m2 (fun x => Nat.mul x nn5) fun s2 => c1 [(DV.v (AV.s s2))] H3 fun d1 H4 => onV d1 fun v2 => isS v2 fun s3 => wrK H4 b1 (Nat.add (Nat.add m1 nn3) (Nat.mul (itn n1) nn8)) (AV.s s3) fun H5 => g354x2 n1 m1 p1 b1 b3 b2 H5 Kb1
/-- (*fq.Queue).shift -/
def g354 : G DV := fun R1 H1 Kb1 => lc R1 fun d1 R2 => onV d1 fun v1 => isP v1 fun p1 => lc R2 fun d2 R3 => onV d2 fun v2 => isI .i64 v2 fun n1 => ln R3 <| alB H1 z17 nn5 nn0 fun b1 H2 => onA p1 fun b2 m1 => rng n1 nn16 <| rdK H2 b2 (Nat.add (Nat.add m1 nn3) (Nat.mul (itn n1) nn8)) fun v3 => isS v3 fun s1 => ixA s1 ii0 (fun x => Nat.mul x nn5) fun b3 m2 => rdR H2 b3 m2 nn5 fun l1 => g354x3 l1 n1 m1 p1 b2 b1 H2 c1 Kb1
def G354 : G DV := g354 G372

def g385x1 := br t1 (onA p1 fun b1 m1 => rdK H1 b1 (Nat.add m1 nn5) fun v1 => isI .i64 v1 fun n1 => onA p1 fun b2 m2 => rdK H1 b2 (Nat.add m2 nn7) fun v2 => isI .i64 v2 fun n2 => wrp .i64 (iadd n1 n2) fun n3 => onA p1 fun b3 m3 => wrK H1 b3 m3 (AV.i .i64 n3) fun H2 => Kb1 (DV.c (DV.v (AV.b true)) (DV.c (DV.v (AV.b false)) DV.n)) H2) (onA p1 fun b1 m1 => rdK H1 b1 (Nat.add m1 nn5) fun v1 => isI .i64 v1 fun n1 => onA p1 fun b2 m2 => rdK H1 b2 m2 fun v2 => isI .i64 v2 fun n2 => frcB (ile n2 n1) fun t2 => Kb1 (DV.c (DV.v (AV.b true)) (DV.c (DV.v (AV.b t2)) DV.n)) H1)
def g385x2 := onA p1 fun b2 m1 => rdK H1 b2 (Nat.add m1 nn5) fun v1 => isI .i64 v1 fun n1 => rdK H1 b1 nn0 fun v2 => isI .i64 v2 fun n2 => wrp .i64 (isub n1 n2) fun n3 => onA p1 fun b3 m2 => rdK H1 b3 (Nat.add m2 nn6) fun v3 => isI .i64 v3 fun n4 => frcB (ilt n3 n4) fun t1 => br t1 (Kb1 (DV.v (AV.b true)) H1) (onA p1 fun b4 m3 => rdK H1 b4 (Nat.add m3 nn8) fun v4 => isI .i64 v4 fun n5 => frcB (ile n5 ii1514) fun t2 => Kb1 (DV.v (AV.b t2)) H1)
def g385x3 := onA p1 fun b2 m1 => wrK H1 b2 (Nat.add m1 nn8) (AV.i .i64 n1) fun H2 => jF [(39 , .bool)] (fun d1 H3 => onV d1 fun v1 => isB v1 fun t1 => br t1 (onA p1 fun b3 m2 => wrK H3 b3 m2 (AV.i .i64 ii0) fun H4 => Kb1 (DV.c (DV.v (AV.b true)) (DV.c (DV.v (AV.b false)) DV.n)) H4) (onA p1 fun b3 m2 => rdK H3 b3 m2 fun v2 => isI .i64 v2 fun n2 => frcB (ieq n2 ii0) fun t2 => g385x1 t2 p1 H3 Kb1)) fun Kb2 => g385x2 p1 b1 H2 Kb2
def g385x4 := ixA s1 n1 (fun x => Nat.mul x nn2) fun b1 m1 => rdR H1 b1 m1 nn2 fun l1 => alB H1 (@T4.n AV yy0 (@T4.n AV yy0 te te te te) te te te) nn2 nn0 fun b2 H2 => must (Nat.beq (llen l1) nn2) <| wrL H2 b2 nn0 l1 fun H3 => onA p1 fun b3 m2 => rdK H3 b3 (Nat.add m2 nn8) fun v1 => isI .i64 v1 fun n2 => rdK H3 b2 nn1 fun v2 => isI .i64 v2 fun n3 => asI (imax n3 ii0) fun n4 => wrp .i64 (isub n2 n4) fun n5 => g385x3 n5 p1 b2 H3 Kb1
def g385x5 := onA p1 fun b1 m1 => rdK H1 b1 (Nat.add m1 nn9) fun v1 => isS v1 fun s1 => lenA s1 fun m2 => frcB (ile (Int.ofNat m2) n1) fun t1 => br t1 (onA p1 fun b2 m3 => wrK H1 b2 m3 (AV.i .i64 ii0) fun H2 => Kb1 (DV.c (DV.v (AV.b false)) (DV.c (DV.v (AV.b false)) DV.n)) H2) (onA p1 fun b2 m3 => rdK H1 b2 (Nat.add m3 nn9) fun v2 => isS v2 fun s2 => onA p1 fun b3 m4 => rdK H1 b3 (Nat.add m4 nn10) fun v3 => isI .i64 v3 fun n2 => g385x4 n2 p1 s2 H1 Kb1)
/-- (*codel.state).look -/
def g385 : G DV := fun R1 H1 Kb1 => lc R1 fun d1 R2 => onV d1 fun v1 => isP v1 fun p1 => ln R2 <| onA p1 fun b1 m1 => rdK H1 b1 (Nat.add m1 nn10) fun v2 => isI .i64 v2 fun n1 => g385x5 n1 p1 H1 Kb1
def G385 : G DV := g385

def g384x1 := jn (fun d2 H2 => pickK t1 d2 (DV.v (AV.b false)) fun d3 => onV d3 fun v1 => isB v1 fun t3 => br t3 (onA p1 fun b1 m1 => wrK H2 b1 (Nat.add m1 nn4) (AV.b false) fun H3 => Kb1 (DV.v (AV.b true)) H3) (onA p1 fun b1 m1 => rdK H2 b1 (Nat.add m1 nn4) fun v2 => isB v2 fun t4 => br t4 (none) (br t2 (none) (Kb1 (DV.v (AV.b true)) H2)))) fun Kb2 => br t1 (onV d1 fun v1 => isB v1 fun t3 => frcB (bnot t3) fun t4 => Kb2 (DV.v (AV.b t4)) H1) (Kb2 DV.n H1)
def g384x2 := onC d1 fun d2 d3 => onV d2 fun v1 => isB v1 fun t1 => onC d3 fun d4 d5 => onV d4 fun v2 => isB v2 fun t2 => onN d5 <| frcB (bnot t1) fun t3 => br t3 (onA p1 fun b1 m1 => wrK H1 b1 (Nat.add m1 nn4) (AV.b false) fun H2 => Kb1 (DV.v (AV.b false)) H2) (onA p1 fun b1 m1 => rdK H1 b1 (Nat.add m1 nn4) fun v3 => isB v3 fun t4 => jn (fun d6 H2 => g384x1 d6 t4 t2 p1 H2 Kb1) fun Kb2 => br t4 (Kb2 (DV.v (AV.b t2)) H1) (Kb2 DV.n H1))
/-- (*codel.state).run -/
def g384 : G DV := fun R1 H1 Kb1 => lc R1 fun d1 R2 => onV d1 fun v1 => isP v1 fun p1 => ln R2 <| c1 [(DV.v (AV.p p1))] H1 fun d2 H2 => g384x2 d2 p1 H2 Kb1
def G384 : G DV := g384 G385

def z24 : T4 AV := (@T4.n AV yy0 (@T4.n AV yy0 te te te te) (@T4.n AV yy1 te te te te) (@T4.n AV yy1 te te te te) (@T4.n AV yy2 te te te te))
def g383x1 := alK H1 (lapp l1 ((AV.i .i64 n1) :: ((AV.i .i64 n2) :: ((AV.i .i64 n3) :: ((AV.i .i64 n4) :: ((AV.s s1) :: ((AV.i .i64 ii0) :: []))))))) fun b2 H2 => c1 [(DV.v (AV.p (AP.at b2 nn0)))] H2 fun d1 H3 => onV d1 fun v1 => isB v1 fun t1 => rdR H3 b2 nn0 nn5 fun l2 => rdK H3 b2 nn10 fun v2 => isI .i64 v2 fun n5 => must (Nat.beq (llen l2) nn5) <| wrL H3 b1 nn0 l2 fun H4 => rdK H4 b2 nn10 fun v3 => must (aveq (AV.i .i64 n5) v3) <| rdR H4 b1 nn0 nn5 fun l3 => Kb1 (DV.c (DV.a l3) (DV.c (DV.v (AV.i .i64 n5)) (DV.c (DV.v (AV.b t1)) DV.n))) H4
def g383x2 := isI .i64 v1 fun n3 => lc R1 fun d2 R2 => onV d2 fun v2 => isI .i64 v2 fun n4 => lc R2 fun d3 R3 => onV d3 fun v3 => isS v3 fun s1 => ln R3 <| cellsD d1 fun l1 => alK H1 l1 fun b1 H2 => alB H2 z24 nn5 nn0 fun b2 H3 => rdR H3 b1 nn0 nn5 fun l2 => asI (imax n1 ii0) fun n5 => asI (imin n5 ii1073741824) fun n6 => asI (imax n3 ii0) fun n7 => asI (imin n7 ii1073741824) fun n8 => must (Nat.beq (llen l2) nn5) <| g383x1 l2 n2 n6 n8 n4 b2 s1 H3 c1 Kb1
/-- (codel.Codel).Pull -/
def g383 : G DV := fun R1 H1 Kb1 => lc R1 fun d1 R2 => lc R2 fun d2 R3 => onV d2 fun v1 => isI .i64 v1 fun n1 => lc R3 fun d3 R4 => onV d3 fun v2 => isI .i64 v2 fun n2 => lc R4 fun d4 R5 => onV d4 fun v3 => g383x2 v3 d1 R5 n2 n1 H1 c1 Kb1
def G383 : G DV := g383 G384

def g381x1 := must (Nat.beq (llen l1) nn5) <| wrL H1 b1 nn0 l1 fun H2 => rdK H2 b1 nn3 fun v1 => isI .i64 v1 fun n2 => rdK H2 b1 nn4 fun v2 => isS v2 fun s2 => lenA s2 fun m1 => alB H2 (@T4.n AV (AV.i .i64 n2) (@T4.n AV (AV.i .i64 (Int.ofNat m1)) te te te te) te te te) nn2 nn0 fun b2 H3 => appD nn2 nn16 s1 (AS.sl b2 nn0 nn1 nn1) H3 fun s3 H4 => wrp .i64 (iadd n1 ii1) fun n3 => Kc1 (DV.v (AV.s s3)) (DV.v (AV.i .i64 n3)) H4
def g381x2 := isS v1 fun s1 => onV d1 fun v2 => isI .i64 v2 fun n3 => frcB (ilt n3 n1) fun t2 => br t2 (c1 [(DV.v (AV.p p1)), (DV.v (AV.i .i64 n2))] H1 fun d2 H2 => onL d2 fun l1 => must (Nat.beq (llen l1) nn5) <| alK H2 (lapp l1 []) fun b1 H3 => appD nn5 nn56 s1 (AS.sl b1 nn0 nn1 nn1) H3 fun s2 H4 => wrp .i64 (iadd n3 ii1) fun n4 => Kc1 (DV.v (AV.s s2)) (DV.v (AV.i .i64 n4)) H4) (Kb1 (DV.c (DV.v (AV.s s1)) (DV.c (DV.v (AV.b t1)) DV.n)) H1)
def g381x3 := alB H1 z24 nn5 nn0 fun b2 H2 => must (Nat.beq (llen l1) nn5) <| wrL H2 b2 nn0 l1 fun H3 => rdR H3 b2 nn0 nn5 fun l2 => must (Nat.beq (llen l2) nn5) <| wrL H3 b1 (Nat.add (Nat.add (Nat.add m1 nn3) (Nat.mul (itn n1) nn8)) nn3) l2 fun H4 => lpR (failF [(15 , .slice), (68 , .int .i64)]) (fun Kc1 => fun d1 d2 H5 => onV d1 fun v1 => g381x2 v1 d2 n2 n1 t1 p1 H5 c1 Kb1 Kc1) (nat_lit 100000) (DV.v (AV.s AS.nil)) (DV.v (AV.i .i64 ii0)) H4
def g381x4 := rdK H1 b1 (Nat.add (Nat.add (Nat.add m1 nn3) (Nat.mul (itn n1) nn8)) nn1) fun v1 => isI .i64 v1 fun n5 => c1 [(DV.a l1), (DV.v (AV.i .i64 n2)), (DV.v (AV.i .i64 n3)), (DV.v (AV.i .i64 n4)), (DV.v (AV.i .i64 n5)), (DV.v (AV.s s1))] H1 fun d1 H2 => onC d1 fun d2 d3 => onL d2 fun l2 => onC d3 fun d4 d5 => onV d4 fun v2 => isI .i64 v2 fun n6 => onC d5 fun d6 d7 => onV d6 fun v3 => isB v3 fun t1 => onN d7 <| g381x3 l2 n1 n6 m1 t1 p1 b1 H2 c2 Kb1
def g381x5 := br t1 (ixA s1 n1 (fun x => Nat.mul x nn5) fun b2 m2 => rdR H1 b2 m2 nn5 fun l1 => alB H1 z17 nn5 nn0 fun b3 H2 => g381x1 l1 n1 b3 s2 H2 Kc1) (rdR H1 b1 (Nat.add (Nat.add (Nat.add m1 nn3) (Nat.mul (itn n2) nn8)) nn3) nn5 fun l1 => onA p1 fun b2 m2 => rdK H1 b2 (Nat.add m2 nn1) fun v1 => isI .i64 v1 fun n4 => onA p1 fun b3 m3 => rdK H1 b3 (Nat.add m3 nn2) fun v2 => isI .i64 v2 fun n5 => g381x4 l1 n2 n3 n4 n5 m1 p1 b1 s2 H1 c1 c2 Kb1)
def g381x6 := onA p1 fun b1 m1 => rng n1 nn16 <| rdK H1 b1 (Nat.add (Nat.add m1 nn3) (Nat.mul (itn n1) nn8)) fun v1 => isS v1 fun s1 => lenA s1 fun m2 => lpR (failF [(9 , .slice), (26 , .int .i64)]) (fun Kc1 => fun d1 d2 H2 => onV d1 fun v2 => isS v2 fun s2 => onV d2 fun v3 => isI .i64 v3 fun n3 => frcB (ilt n3 (Int.ofNat m2)) fun t1 => g381x5 n3 n1 n2 m1 t1 p1 b1 s1 s2 H2 c1 c2 Kb1 Kc1) (nat_lit 100000) (DV.v (AV.s AS.nil)) (DV.v (AV.i .i64 ii0)) H1
/-- (*fq.Queue).pull -/
def g381 : G DV := fun R1 H1 Kb1 => lc R1 fun d1 R2 => onV d1 fun v1 => isP v1 fun p1 => lc R2 fun d2 R3 => onV d2 fun v2 => isI .i64 v2 fun n1 => lc R3 fun d3 R4 => onV d3 fun v3 => isI .i64 v3 fun n2 => ln R4 <| g381x6 n1 n2 p1 H1 c2 c1 Kb1
def G381 : G DV := g381 G354 G383

def z25 : List AV := [(AV.i .i64 ii0), (AV.i .u32 ii0), (AV.i .i64 ii0), (AV.i .i64 ii0), (AV.s AS.nil)]
def g373x1 := isS v1 fun s2 => lenA s2 fun m1 => slA s2 nn1 m1 (fun x => x) fun s3 => onA p1 fun b1 m2 => wrK H1 b1 m2 (AV.s s3) fun H2 => onA p2 fun b2 m3 => rdK H2 b2 (Nat.add m3 nn132) fun v2 => isS v2 fun s4 => alB H2 (@T4.n AV (AV.i .i64 n1) te te te te) nn1 nn0 fun b3 H3 => appD nn1 nn8 s4 (AS.sl b3 nn0 nn1 nn1) H3 fun s5 H4 => onA p2 fun b4 m4 => wrK H4 b4 (Nat.add m4 nn132) (AV.s s5) fun H5 => Kb1 (DV.v (AV.s s1)) H5
def g373x2 := rdK H1 b1 (Nat.add (Nat.add (Nat.add m1 nn3) (Nat.mul (itn n1) nn8)) nn2) fun v1 => isI .i64 v1 fun n2 => rdK H1 b2 nn4 fun v2 => isS v2 fun s2 => lenA s2 fun m2 => wrp .i64 (isub n2 (Int.ofNat m2)) fun n3 => wrK H1 b1 (Nat.add (Nat.add (Nat.add m1 nn3) (Nat.mul (itn n1) nn8)) nn2) (AV.i .i64 n3) fun H2 => rdR H2 b2 nn0 nn5 fun l1 => must (Nat.beq (llen l1) nn5) <| wrL H2 b3 nn0 l1 fun H3 => rdR H3 b3 nn0 nn5 fun l2 => Kb1 (DV.c (DV.a l2) (DV.c (DV.v (AV.s s1)) (DV.c (DV.v (AV.b true)) DV.n))) H3
def g373x3 := jn (fun d2 H2 => pickK t1 d2 (DV.v (AV.b false)) fun d3 => onV d3 fun v1 => isB v1 fun t2 => br t2 (onA p1 fun b1 m1 => rdK H2 b1 (Nat.add m1 nn132) fun v2 => isS v2 fun s2 => alB H2 (@T4.n AV (AV.i .i64 n1) te te te te) nn1 nn0 fun b2 H3 => appD nn1 nn8 s2 (AS.sl b2 nn0 nn1 nn1) H3 fun s3 H4 => onA p1 fun b3 m2 => wrK H4 b3 (Nat.add m2 nn132) (AV.s s3) fun H5 => Kb1 (DV.v (AV.s s1)) H5) (Kb1 (DV.v (AV.s s1)) H2)) fun Kb2 => br t1 (onV d1 fun v1 => isI .i64 v1 fun n2 => frcB (ilt ii0 n2) fun t2 => Kb2 (DV.v (AV.b t2)) H1) (Kb2 DV.n H1)
def g373x4 := jn (fun d2 H2 => jn (fun d3 H3 => jn (fun d4 H4 => g373x3 d4 n1 t1 p1 s1 H4 Kb1) fun Kb2 => br t1 (onV d3 fun v1 => isS v1 fun s2 => lenA s2 fun m1 => Kb2 (DV.v (AV.i .i64 (Int.ofNat m1))) H3) (Kb2 DV.n H3)) fun Kb2 => br t1 (onV d2 fun v1 => isP v1 fun p2 => onA p2 fun b1 m1 => rdK H2 b1 m1 fun v2 => isS v2 fun s2 => Kb2 (DV.v (AV.s s2)) H2) (Kb2 DV.n H2)) fun Kb2 => br t1 (onV d1 fun v1 => isP v1 fun p2 => onA p2 fun b1 m1 => Kb2 (DV.v (AV.p (AP.at b1 (Nat.add m1 nn132)))) H1) (Kb2 DV.n H1)
def g373x5 := onA p1 fun b1 m1 => rdK H1 b1 m1 fun v1 => isS v1 fun s2 => lenA s2 fun m2 => slA s2 nn1 m2 (fun x => x) fun s3 => onA p1 fun b2 m3 => wrK H1 b2 m3 (AV.s s3) fun H2 => jn (fun d1 H3 => jn (fun d2 H4 => g373x4 d2 n1 t1 p2 s1 H4 Kb1) fun Kb2 => br t1 (onV d1 fun v2 => isP v2 fun p3 => onA p3 fun b3 m4 => Kb2 (DV.v (AV.p (AP.at b3 m4))) H3) (Kb2 DV.n H3)) fun Kb2 => br t1 (Kb2 (DV.v (AV.p p2)) H2) (Kb2 DV.n H2)
def g373x6 := onC d1 fun d2 d3 => onV d2 fun v1 => isS v1 fun s2 => onC d3 fun d4 d5 => onV d4 fun v2 => isB v2 fun t2 => onN d5 <| appD nn5 nn56 s1 s2 H1 fun s3 H2 => br t2 (c1 [(DV.v (AV.p p1)), (DV.v (AV.i .i64 n1))] H2 fun d6 H3 => onL d6 fun l1 => alB H3 z17 nn5 nn0 fun b3 H4 => must (Nat.beq (llen l1) nn5) <| wrL H4 b3 nn0 l1 fun H5 => g373x2 n1 m1 b1 b3 b2 s3 H5 Kb1) (g373x5 n1 t1 p2 p1 s3 H2 Kb2)
def g373x7 := br t1 (rdK H1 b1 (Nat.add (Nat.add (Nat.add m1 nn3) (Nat.mul (itn n1) nn8)) nn2) fun v1 => isI .i64 v1 fun n3 => wrp .i64 (iadd n3 ii300) fun n4 => wrK H1 b1 (Nat.add (Nat.add (Nat.add m1 nn3) (Nat.mul (itn n1) nn8)) nn2) (AV.i .i64 n4) fun H2 => onA p1 fun b3 m2 => rdK H2 b3 m2 fun v2 => g373x1 v2 n1 p1 p2 s1 H2 Kb1) (c1 [(DV.v (AV.p p2)), (DV.v (AV.i .i64 n1)), (DV.v (AV.i .i64 n2))] H1 fun d1 H2 => g373x6 d1 n1 m1 t2 p2 p1 b1 b2 s1 H2 c2 Kb2 Kb1)
def g373x8 := br t1 (wrL H1 b1 nn0 z25 fun H2 => rdR H2 b1 nn0 nn5 fun l1 => Kb1 (DV.c (DV.a l1) (DV.c (DV.v (AV.s s1)) (DV.c (DV.v (AV.b false)) DV.n))) H2) (onA p1 fun b2 m1 => rdK H1 b2 m1 fun v1 => isS v1 fun s2 => ixA s2 ii0 (fun x => x) fun b3 m2 => rdK H1 b3 m2 fun v2 => isI .i64 v2 fun n2 => onA p2 fun b4 m3 => rng n2 nn16 <| rdK H1 b4 (Nat.add (Nat.add (Nat.add m3 nn3) (Nat.mul (itn n2) nn8)) nn2) fun v3 => isI .i64 v3 fun n3 => frcB (ile n3 ii0) fun t3 => g373x7 n2 n1 m3 t3 t2 p1 p2 b4 b1 s1 H1 c1 c2 Kb2 Kb1)
def g373x9 := jF [(8 , .ptr), (9 , .bool)] (fun d1 d2 H2 => onV d1 fun v1 => isP v1 fun p2 => onV d2 fun v2 => isB v2 fun t1 => onA p2 fun b3 m2 => rdK H2 b3 m2 fun v3 => isS v3 fun s2 => lenA s2 fun m3 => frcB (ieq (Int.ofNat m3) ii0) fun t2 => g373x8 n1 t2 t1 p2 p1 b1 s1 H2 c1 c2 Kb1 Kb2) fun Kc1 => onA p1 fun b3 m2 => rdK H1 b3 (Nat.add m2 nn131) fun v1 => isS v1 fun s2 => lenA s2 fun m3 => frcB (ieq (Int.ofNat m3) ii0) fun t1 => br t1 (onA p1 fun b4 m4 => Kc1 (DV.v (AV.p (AP.at b4 (Nat.add m4 nn132)))) (DV.v (AV.b false)) H1) (Kc1 (DV.v (AV.p (AP.at b2 (Nat.add m1 nn131)))) (DV.v (AV.b true)) H1)
/-- (*fq.Queue).Take -/
def g373 : G DV := fun R1 H1 Kb1 => lc R1 fun d1 R2 => onV d1 fun v1 => isP v1 fun p1 => lc R2 fun d2 R3 => onV d2 fun v2 => isI .i64 v2 fun n1 => ln R3 <| alB H1 z17 nn5 nn0 fun b1 H2 => lpR (failF [(7 , .slice)]) (fun Kb2 => fun d3 H3 => onV d3 fun v3 => isS v3 fun s1 => onA p1 fun b2 m1 => g373x9 n1 m1 p1 b1 b2 s1 H3 c2 c1 Kb1 Kb2) (nat_lit 100000) (DV.v (AV.s AS.nil)) H2
def G373 : G DV := g373 G354 G381

def g357x1 := rdK H1 b1 (Nat.add (Nat.add (Nat.add m1 nn5) (Nat.mul (itn n1) nn8)) (itn n2)) fun v1 => isP v1 fun p1 => c1 [(DV.v (AV.p p1)), (DV.v (AV.i .i64 n3))] H1 fun d1 H2 => onC d1 fun d2 d3 => onL d2 fun l1 => onC d3 fun d4 d5 => onV d4 fun v2 => isS v2 fun s1 => onC d5 fun d6 d7 => onV d6 fun v3 => isB v3 fun t1 => onN d7 <| must (Nat.beq (llen l1) nn5) <| wrL H2 b2 nn0 l1 fun H3 => rdR H3 b2 nn0 nn5 fun l2 => Kb1 (DV.c (DV.a l2) (DV.c (DV.v (AV.s s1)) (DV.c (DV.v (AV.b t1)) DV.n))) H3
def g357x2 := alB H1 z17 nn5 nn0 fun b1 H2 => c1 [(DV.v (AV.i .i64 n1)), (DV.v (AV.i .i64 n2))] H2 fun d1 H3 => onV d1 fun v1 => isB v1 fun t1 => frcB (bnot t1) fun t2 => br t2 (wrL H3 b1 nn0 z25 fun H4 => rdR H4 b1 nn0 nn5 fun l1 => Kb1 (DV.c (DV.a l1) (DV.c (DV.v (AV.s AS.nil)) (DV.c (DV.v (AV.b false)) DV.n))) H4) (wrp .i64 (isub n1 ii1) fun n4 => onA p1 fun b2 m1 => rng n4 nn16 <| rng n2 nn8 <| g357x1 n4 n2 n3 m1 b2 b1 H3 c2 Kb1)
/-- (*pool.Pool).Take -/
def g357 : G DV := fun R1 H1 Kb1 => lc R1 fun d1 R2 => onV d1 fun v1 => isP v1 fun p1 => lc R2 fun d2 R3 => onV d2 fun v2 => isI .i64 v2 fun n1 => lc R3 fun d3 R4 => onV d3 fun v3 => isI .i64 v3 fun n2 => lc R4 fun d4 R5 => onV d4 fun v4 => isI .i64 v4 fun n3 => ln R5 <| g357x2 n1 n2 n3 p1 H1 c1 c2 Kb1
def G357 : G DV := g357 G203 G373

def g258x1 := lc R1 fun d1 R2 => onV d1 fun v1 => isI .i64 v1 fun n1 => lc R2 fun d2 R3 => onV d2 fun v2 => isI .i64 v2 fun n2 => ln R3 <| c1 [(DV.v (AV.i .i64 n1))] H1 fun d3 H2 => onV d3 fun v3 => isI .i64 v3 fun n3 => c1 [(DV.v (AV.i .i64 n2))] H2 fun d4 H3 => onV d4 fun v4 => isI .i64 v4 fun n4 => wrp .i64 (iadd n3 n4) fun n5 => c1 [(DV.v (AV.i .i64 n5))] H3 fun d5 H4 => onV d5 fun v5 => isI .i64 v5 fun n6 => Kb1 (DV.v (AV.i .i64 n6)) H4
/-- seq.Add -/
def g258 : G DV := fun R1 H1 Kb1 => g258x1 R1 H1 c1 Kb1
def G258 : G DV := g258 G312

def g374x1 := isI .i64 v1 fun n2 => onA p1 fun b1 m1 => wrK H1 b1 (Nat.add m1 nn1) (AV.i .i64 n2) fun H2 => onA p1 fun b2 m2 => rdK H2 b2 (Nat.add m2 nn3) fun v2 => isS v2 fun s1 => alB H2 (@T4.n AV (AV.i .i64 n1) te te te te) nn1 nn0 fun b3 H3 => appD nn1 nn8 s1 (AS.sl b3 nn0 nn1 nn1) H3 fun s2 H4 => onA p1 fun b4 m3 => wrK H4 b4 (Nat.add m3 nn3) (AV.s s2) fun H5 => Kb1 (DV.c (DV.v (AV.i .i64 n1)) (DV.c (DV.v (AV.b true)) DV.n)) H5
def g374x2 := lc R1 fun d1 R2 => onV d1 fun v1 => isP v1 fun p1 => ln R2 <| c1 [(DV.v (AV.p p1))] H1 fun d2 H2 => onV d2 fun v2 => isI .i64 v2 fun n1 => frcB (ieq n1 ii0) fun t1 => br t1 (Kb1 (DV.c (DV.v (AV.i .i64 ii0)) (DV.c (DV.v (AV.b false)) DV.n)) H2) (onA p1 fun b1 m1 => rdK H2 b1 (Nat.add m1 nn1) fun v3 => isI .i64 v3 fun n2 => c2 [(DV.v (AV.i .i64 n2)), (DV.v (AV.i .i64 ii1))] H2 fun d3 H3 => onV d3 fun v4 => g374x1 v4 n2 p1 H3 Kb1)
/-- (*win.Win).Next -/
def g374 : G DV := fun R1 H1 Kb1 => g374x2 R1 H1 c2 c1 Kb1
def G374 : G DV := g374 G258 G336

def z26 : List AV := [(AV.i .i64 ii0), (AV.i .u32 ii0), (AV.i .i64 ii0), (AV.i .i64 ii0), (AV.s AS.nil), (AV.i .i64 ii0), (AV.i .i64 ii0), (AV.i .i64 ii0)]
def g358x1 := must (Nat.beq (llen (lapp l1 ((AV.b false) :: []))) nn9) <| alK H1 (lapp (lapp l1 ((AV.b false) :: [])) []) fun b3 H2 => appD nn9 nn88 s1 (AS.sl b3 nn0 nn1 nn1) H2 fun s2 H3 => onA p1 fun b4 m1 => wrK H3 b4 (Nat.add m1 nn6) (AV.s s2) fun H4 => rdR H4 b1 nn0 nn8 fun l2 => c1 [(DV.a l2)] H4 fun d1 H5 => onL d1 fun l3 => must (Nat.beq (llen l3) nn8) <| wrL H5 b2 nn0 l3 fun H6 => rdR H6 b2 nn0 nn8 fun l4 => Kb1 (DV.c (DV.a l4) (DV.c (DV.v AV.ni) DV.n)) H6
def g358x2 := must (Nat.beq (llen l1) nn5) <| c1 [(DV.a (lapp l1 ((AV.i .i64 n1) :: ((AV.i .i64 ii0) :: ((AV.i .i64 n2) :: [])))))] H1 fun d1 H2 => onL d1 fun l2 => alB H2 z15 nn8 nn0 fun b2 H3 => must (Nat.beq (llen l2) nn8) <| wrL H3 b2 nn0 l2 fun H4 => onA p1 fun b3 m1 => rdK H4 b3 (Nat.add m1 nn6) fun v1 => isS v1 fun s1 => rdR H4 b2 nn0 nn8 fun l3 => must (Nat.beq (llen l3) nn8) <| g358x1 l3 p1 b2 b1 s1 H4 c1 Kb1
def g358x3 := isI .i64 v1 fun n2 => onC d1 fun d2 d3 => onV d2 fun v2 => isB v2 fun t1 => onN d3 <| frcB (bnot t1) fun t2 => br t2 (wrL H1 b1 nn0 z26 fun H2 => rdR H2 b1 nn0 nn8 fun l1 => Kb1 (DV.c (DV.a l1) (DV.c (DV.v (AV.er (nat_lit 8))) DV.n)) H2) (rdR H1 b2 nn0 nn5 fun l1 => onA p1 fun b3 m1 => rdK H1 b3 (Nat.add m1 nn3) fun v3 => isI .i64 v3 fun n3 => wrp .i64 (iadd n1 n3) fun n4 => g358x2 l1 n2 n4 p1 b1 H1 c1 Kb1)
def g358x4 := br t1 (wrL H1 b1 nn0 z26 fun H2 => rdR H2 b1 nn0 nn8 fun l1 => Kb1 (DV.c (DV.a l1) (DV.c (DV.v (AV.er (nat_lit 9))) DV.n)) H2) (onA p1 fun b3 m1 => rdK H1 b3 (Nat.add m1 nn7) fun v1 => isB v1 fun t2 => br t2 (wrL H1 b1 nn0 z26 fun H2 => rdR H2 b1 nn0 nn8 fun l1 => Kb1 (DV.c (DV.a l1) (DV.c (DV.v (AV.er (nat_lit 8))) DV.n)) H2) (onA p1 fun b4 m2 => rdK H1 b4 m2 fun v2 => isP v2 fun p2 => c1 [(DV.v (AV.p p2))] H1 fun d1 H2 => onC d1 fun d2 d3 => onV d2 fun v3 => g358x3 v3 d3 n1 p1 b1 b2 H2 c2 Kb1))
/-- (*ba.Session).Fresh -/
def g358 : G DV := fun R1 H1 Kb1 => lc R1 fun d1 R2 => onV d1 fun v1 => isP v1 fun p1 => lc R2 fun d2 R3 => lc R3 fun d3 R4 => onV d3 fun v2 => isI .i64 v2 fun n1 => ln R4 <| cellsD d2 fun l1 => alK H1 l1 fun b1 H2 => alB H2 z15 nn8 nn0 fun b2 H3 => onA p1 fun b3 m1 => rdK H3 b3 (Nat.add m1 nn4) fun v3 => isI .i64 v3 fun n2 => frcB (ieq n2 ii2) fun t1 => g358x4 n1 t1 p1 b2 b1 H3 c2 c1 Kb1
def G358 : G DV := g358 G284 G374

def g337x1 := br t1 (wrL H1 b1 nn0 z26 fun H2 => rdR H2 b1 nn0 nn8 fun l1 => Kb1 (DV.c (DV.a l1) (DV.c (DV.v (AV.b false)) DV.n)) H2) (onA p1 fun b4 m1 => rdK H1 b2 nn0 fun v1 => isI .i64 v1 fun n1 => c1 [(DV.v (AV.p (AP.at b4 (Nat.add m1 nn310)))), (DV.v (AV.i .i64 n1)), (DV.v (AV.i .i64 ii2))] H1 fun d1 H2 => onV d1 fun v2 => rdR H2 b3 nn0 nn8 fun l1 => must (Nat.beq (llen l1) nn8) <| wrL H2 b1 nn0 l1 fun H3 => rdR H3 b1 nn0 nn8 fun l2 => Kb1 (DV.c (DV.a l2) (DV.c (DV.v (AV.b true)) DV.n)) H3)
def g337x2 := onA p1 fun b3 m1 => rdK H1 b3 (Nat.add m1 nn21) fun v1 => isI .i64 v1 fun n1 => c1 [(DV.v (AV.p p2)), (DV.a l1), (DV.v (AV.i .i64 n1))] H1 fun d1 H2 => onC d1 fun d2 d3 => onL d2 fun l2 => onC d3 fun d4 d5 => onV d4 fun v2 => onN d5 <| alB H2 z15 nn8 nn0 fun b4 H3 => must (Nat.beq (llen l2) nn8) <| wrL H3 b4 nn0 l2 fun H4 => ifA true true v2 AV.ni fun t1 => frcB (bnot t1) fun t2 => g337x1 t2 p1 b1 b2 b4 H4 c2 Kb1
def g337x3 := must (Nat.beq (llen l1) nn5) <| wrL H1 b1 nn0 l1 fun H2 => c1 [(DV.v (AV.p p1)), (DV.v (AV.i .i64 ii2)), (DV.v (AV.s s1))] H2 fun d1 H3 => frcB (bnot t1) fun t2 => br t2 (wrL H3 b2 nn0 z26 fun H4 => rdR H4 b2 nn0 nn8 fun l2 => Kb1 (DV.c (DV.a l2) (DV.c (DV.v (AV.b false)) DV.n)) H4) (onA p2 fun b3 m1 => rdK H3 b3 m1 fun v1 => isP v1 fun p3 => rdR H3 b1 nn0 nn5 fun l2 => g337x2 l2 p1 p3 b2 b1 H3 c2 c3 Kb1)
def g337x4 := onA p1 fun b2 m1 => rdK H1 b2 (Nat.add m1 nn21) fun v1 => isI .i64 v1 fun n3 => c1 [(DV.v (AV.p p2)), (DV.v (AV.i .i64 n1)), (DV.v (AV.i .i64 n2)), (DV.v (AV.i .i64 n3))] H1 fun d1 H2 => onC d1 fun d2 d3 => onL d2 fun l1 => onC d3 fun d4 d5 => onV d4 fun v2 => isS v2 fun s1 => onC d5 fun d6 d7 => onV d6 fun v3 => isB v3 fun t1 => onN d7 <| alB H2 z17 nn5 nn0 fun b3 H3 => g337x3 l1 t1 p1 p3 b3 b1 s1 H3 c2 c3 c4 Kb1
def g337x5 := onV d1 fun v1 => isP v1 fun p2 => lc R1 fun d2 R2 => onV d2 fun v2 => isP v2 fun p3 => ln R2 <| alB H1 z15 nn8 nn0 fun b1 H2 => onA p1 fun b2 m1 => rdK H2 b2 (Nat.add m1 nn311) fun v3 => isP v3 fun p4 => onA p2 fun b3 m2 => rdK H2 b3 (Nat.add m2 nn1) fun v4 => isI .i64 v4 fun n1 => onA p2 fun b4 m3 => rdK H2 b4 (Nat.add m3 nn2) fun v5 => isI .i64 v5 fun n2 => g337x4 n1 n2 p1 p4 p3 b1 H2 c1 c2 c3 c4 Kb1
/-- (*ap.AP).fresh -/
def g337 : G DV := fun R1 H1 Kb1 => lc R1 fun d1 R2 => onV d1 fun v1 => isP v1 fun p1 => lc R2 fun d2 R3 => g337x5 d2 R3 p1 H1 c3 c1 c4 c2 Kb1
def G337 : G DV := g337 G173 G264 G357 G358

def z27 : T4 AV := (@T4.n AV yy23 (@T4.n AV yy24 (@T4.n AV yy25 te te te te) te te te) (@T4.n AV yy26 (@T4.n AV yy27 te te te te) te te te) (@T4.n AV yy28 (@T4.n AV yy29 te te te te) te te te) (@T4.n AV yy30 te te te te))
def g343x1 := isB v1 fun t1 => frcB (bnot t1) fun t2 => br t2 (Kb1 (DV.v (AV.i .i64 ii0)) H1) (rdK H1 b1 nn0 fun v2 => isI .i64 v2 fun n1 => frcB (ieq n1 ii1) fun t3 => br t3 (alB H1 z27 nn8 nn0 fun b2 H2 => rdK H2 b1 nn1 fun v3 => isI .i64 v3 fun n2 => ixA (AS.sl b2 nn0 nn8 nn8) n2 (fun x => x) fun b3 m1 => rdK H2 b3 m1 fun v4 => isI .i64 v4 fun n3 => Kb1 (DV.v (AV.i .i64 n3)) H2) (rdK H1 b1 nn1 fun v3 => isI .i64 v3 fun n2 => none))
/-- rate.Bits -/
def g343 : G DV := fun R1 H1 Kb1 => lc R1 fun d1 R2 => ln R2 <| cellsD d1 fun l1 => alK H1 l1 fun b1 H2 => rdR H2 b1 nn0 nn5 fun l2 => c1 [(DV.a l2)] H2 fun d2 H3 => onV d2 fun v1 => g343x1 v1 b1 H3 Kb1
def G343 : G DV := g343 G134

def g344x1 := frcB (ieq n1 ii1) fun t1 => br t1 (Kb1 (DV.v (AV.i .i64 ii200)) H1) (frcB (ieq n1 ii2) fun t2 => br t2 (wrp .i64 (imul ii40 n2) fun n3 => wrp .i64 (iadd ii320 n3) fun n4 => Kb1 (DV.v (AV.i .i64 n4)) H1) (frcB (ieq n1 ii3) fun t3 => br t3 (wrp .i64 (imul ii40 n2) fun n3 => wrp .i64 (iadd ii360 n3) fun n4 => Kb1 (DV.v (AV.i .i64 n4)) H1) (wrp .i64 (imul ii80 n2) fun n3 => wrp .i64 (iadd ii360 n3) fun n4 => Kb1 (DV.v (AV.i .i64 n4)) H1)))
def g344x2 := br t1 (Kb1 (DV.v (AV.i .i64 ii0)) H1) (rdK H1 b1 nn2 fun v1 => isI .i64 v1 fun n1 => rdK H1 b1 nn2 fun v2 => isI .i64 v2 fun n2 => must (bnot (ieq ii2 ii0)) <| asI (irem n2 ii2) fun n3 => rdK H1 b1 nn2 fun v3 => isI .i64 v3 fun n4 => wrp .i64 (isub n4 ii1) fun n5 => asI (imin n5 ii1) fun n6 => wrp .i64 (imul n3 n6) fun n7 => wrp .i64 (iadd n1 n7) fun n8 => rdK H1 b1 nn0 fun v4 => isI .i64 v4 fun n9 => g344x1 n9 n8 H1 Kb1)
/-- rate.Preamble -/
def g344 : G DV := fun R1 H1 Kb1 => lc R1 fun d1 R2 => ln R2 <| cellsD d1 fun l1 => alK H1 l1 fun b1 H2 => rdR H2 b1 nn0 nn5 fun l2 => c1 [(DV.a l2)] H2 fun d2 H3 => onV d2 fun v1 => isB v1 fun t1 => frcB (bnot t1) fun t2 => g344x2 t2 b1 H3 Kb1
def G344 : G DV := g344 G134

def z28 : T4 AV := (@T4.n AV yy10 (@T4.n AV yy25 te te te te) (@T4.n AV yy31 te te te te) te te)
def g345x1 := isI .i64 v1 fun n1 => frcB (ieq n1 ii4) fun t1 => br t1 (alB H1 z28 nn3 nn0 fun b2 H2 => rdK H2 b1 nn4 fun v2 => isI .i64 v2 fun n2 => ixA (AS.sl b2 nn0 nn3 nn3) n2 (fun x => x) fun b3 m1 => rdK H2 b3 m1 fun v3 => isI .i64 v3 fun n3 => Kb1 (DV.v (AV.i .i64 n3)) H2) (rdK H1 b1 nn4 fun v2 => isI .i64 v2 fun n2 => frcB (ieq n2 ii1) fun t2 => br t2 (Kb1 (DV.v (AV.i .i64 ii36)) H1) (Kb1 (DV.v (AV.i .i64 ii40)) H1))
/-- rate.Symbol -/
def g345 : G DV := fun R1 H1 Kb1 => lc R1 fun d1 R2 => ln R2 <| cellsD d1 fun l1 => alK H1 l1 fun b1 H2 => rdR H2 b1 nn0 nn5 fun l2 => c1 [(DV.a l2)] H2 fun d2 H3 => onV d2 fun v1 => isB v1 fun t1 => frcB (bnot t1) fun t2 => br t2 (Kb1 (DV.v (AV.i .i64 ii0)) H3) (rdK H3 b1 nn0 fun v2 => g345x1 v2 b1 H3 Kb1)
def G345 : G DV := g345 G134

def g305x1 := wrp .i64 (isub n1 ii1) fun n3 => must (bnot (ieq n2 ii0)) <| wrp .i64 (iquo n3 n2) fun n4 => rdR H1 b1 nn0 nn5 fun l1 => rdR H1 b1 nn0 nn5 fun l2 => c1 [(DV.a l1)] H1 fun d1 H2 => onV d1 fun v1 => isI .i64 v1 fun n5 => rdR H2 b1 nn0 nn5 fun l3 => must (aleq l2 l3) <| c2 [(DV.a l2)] H2 fun d2 H3 => onV d2 fun v2 => isI .i64 v2 fun n6 => wrp .i64 (imul n4 n6) fun n7 => wrp .i64 (iadd n5 n7) fun n8 => Kb1 (DV.v (AV.i .i64 n8)) H3
def g305x2 := jn (fun d2 H2 => pickK t1 (DV.v (AV.b true)) d2 fun d3 => onV d3 fun v1 => isB v1 fun t2 => br t2 (Kb1 (DV.v (AV.i .i64 ii0)) H2) (rdR H2 b1 nn0 nn5 fun l1 => c1 [(DV.a l1)] H2 fun d4 H3 => onV d4 fun v2 => isI .i64 v2 fun n2 => wrp .i64 (imul ii8 n1) fun n3 => wrp .i64 (iadd ii22 n3) fun n4 => wrp .i64 (iadd n4 n2) fun n5 => g305x1 n5 n2 b1 H3 c2 c3 Kb1)) fun Kb2 => br t1 (Kb2 DV.n H1) (onV d1 fun v1 => isI .i64 v1 fun n2 => frcB (ilt ii1048576 n2) fun t2 => Kb2 (DV.v (AV.b t2)) H1)
def g305x3 := frcB (bnot t1) fun t2 => jn (fun d1 H2 => jn (fun d2 H3 => pickK t2 (DV.v (AV.b true)) d2 fun d3 => onV d3 fun v1 => isB v1 fun t3 => jn (fun d4 H4 => g305x2 d4 n1 t3 b1 H4 c1 c2 c3 Kb1) fun Kb2 => br t3 (Kb2 DV.n H3) (Kb2 (DV.v (AV.i .i64 n1)) H3)) fun Kb2 => br t2 (Kb2 DV.n H2) (onV d1 fun v1 => isI .i64 v1 fun n2 => frcB (ilt n2 ii0) fun t3 => Kb2 (DV.v (AV.b t3)) H2)) fun Kb2 => br t2 (Kb2 DV.n H1) (Kb2 (DV.v (AV.i .i64 n1)) H1)
/-- air.Ppdu -/
def g305 : G DV := fun R1 H1 Kb1 => lc R1 fun d1 R2 => lc R2 fun d2 R3 => onV d2 fun v1 => isI .i64 v1 fun n1 => ln R3 <| cellsD d1 fun l1 => alK H1 l1 fun b1 H2 => rdR H2 b1 nn0 nn5 fun l2 => c1 [(DV.a l2)] H2 fun d3 H3 => onV d3 fun v2 => isB v2 fun t1 => g305x3 n1 t1 b1 H3 c2 c3 c4 Kb1
def G305 : G DV := pure1 (g305 G134 G343 G344 G345)

/-- build.wrong -/
def g359 : G DV := fun R1 H1 Kb1 => lc R1 fun d1 R2 => onV d1 fun v1 => isI .i64 v1 fun n1 => ln R2 <| frcB (ilt n1 ii1) fun t1 => jn (fun d2 H2 => jn (fun d3 H3 => pickK t1 (DV.v (AV.b true)) d3 fun d4 => onV d4 fun v2 => isB v2 fun t2 => Kb1 (DV.v (AV.b t2)) H3) fun Kb2 => br t1 (Kb2 DV.n H2) (onV d2 fun v2 => isI .i64 v2 fun n2 => frcB (ilt ii4095 n2) fun t2 => Kb2 (DV.v (AV.b t2)) H2)) fun Kb2 => br t1 (Kb2 DV.n H1) (Kb2 (DV.v (AV.i .i64 n1)) H1)
def G359 : G DV := g359

def g375x1 := frcB (ilt n1 (Int.ofNat m1)) fun t1 => br t1 (ixA s1 n1 (fun x => x) fun b1 m2 => rdK H1 b1 m2 fun v1 => isI .i64 v1 fun n2 => onV d1 fun v2 => fnK v2 fun m3 L1 L2 => lookD [((nat_lit 359) , c1)] m3 (appA (mapP L1) (appA [(DV.v (AV.i .i64 n2))] (mapP L2))) H1 fun d2 H2 => onV d2 fun v3 => isB v3 fun t2 => br t2 (Kb1 (DV.v (AV.i .i64 n1)) H2) (wrp .i64 (iadd n1 ii1) fun n3 => Kb2 (DV.v (AV.i .i64 n3)) H2)) (Kb1 (DV.v (AV.i .i64 im1)) H1)
/-- slices.IndexFunc[[]int,int] -/
def g375 : G DV := fun R1 H1 Kb1 => lc R1 fun d1 R2 => onV d1 fun v1 => isS v1 fun s1 => lc R2 fun d2 R3 => ln R3 <| lenA s1 fun m1 => lpR (failF [(8 , .int .i64)]) (fun Kb2 => fun d3 H2 => onV d3 fun v2 => isI .i64 v2 fun n1 => g375x1 d2 n1 m1 s1 H2 c1 Kb1 Kb2) (nat_lit 100000) (DV.v (AV.i .i64 ii0)) H1
def G375 : G DV := g375 G359

/-- slices.ContainsFunc[[]int,int] -/
def g360 : G DV := fun R1 H1 Kb1 => lc R1 fun d1 R2 => onV d1 fun v1 => isS v1 fun s1 => lc R2 fun d2 R3 => ln R3 <| c1 [(DV.v (AV.s s1)), d2] H1 fun d3 H2 => onV d3 fun v2 => isI .i64 v2 fun n1 => frcB (ile ii0 n1) fun t1 => Kb1 (DV.v (AV.b t1)) H2
def G360 : G DV := g360 G375

def g340x1 := rdK H1 b1 nn1 fun v1 => isI .i64 v1 fun n2 => asI (imin n2 ii65535) fun n3 => frcB (ile n1 n3) fun t1 => br t1 (rdR H1 b2 nn0 nn5 fun l1 => rdK H1 b1 nn2 fun v2 => isI .i64 v2 fun n4 => asI (imin n4 ii54840) fun n5 => c1 [(DV.a l1), (DV.v (AV.i .i64 n1))] H1 fun d1 H2 => onV d1 fun v3 => isI .i64 v3 fun n6 => rdK H2 b1 nn2 fun v4 => must (aveq (AV.i .i64 n4) v4) <| frcB (ile n6 n5) fun t2 => Kb1 (DV.v (AV.b t2)) H2) (Kb1 (DV.v (AV.b false)) H1)
def g340x2 := jn (fun d3 H2 => jn (fun d4 H3 => pickK t1 (DV.v (AV.b true)) d4 fun d5 => onV d5 fun v1 => isB v1 fun t2 => br t2 (Kb1 (DV.v (AV.b false)) H3) (c1 [(DV.v (AV.s s1))] H3 fun d6 H4 => onV d6 fun v2 => isI .i64 v2 fun n1 => g340x1 n1 b1 b2 H4 c2 Kb1)) fun Kb2 => br t1 (Kb2 DV.n H2) (onV d1 fun v1 => onV d3 fun v2 => isI .i64 v1 fun n1 => isI .i64 v2 fun n2 => frcB (ilt n2 n1) fun t2 => Kb2 (DV.v (AV.b t2)) H2)) fun Kb2 => br t1 (Kb2 DV.n H1) (onV d2 fun v1 => isI .i64 v1 fun n1 => asI (imin n1 ii64) fun n2 => Kb2 (DV.v (AV.i .i64 n2)) H1)
def g340x3 := jn (fun d2 H2 => jn (fun d3 H3 => jn (fun d4 H4 => g340x2 d2 d4 t1 b1 b2 s1 H4 c1 c2 Kb1) fun Kb2 => br t1 (Kb2 DV.n H3) (onV d3 fun v1 => isP v1 fun p1 => onA p1 fun b3 m1 => rdK H3 b3 m1 fun v2 => isI .i64 v2 fun n1 => Kb2 (DV.v (AV.i .i64 n1)) H3)) fun Kb2 => br t1 (Kb2 DV.n H2) (Kb2 (DV.v (AV.p (AP.at b1 nn0))) H2)) fun Kb2 => br t1 (Kb2 DV.n H1) (onV d1 fun v1 => isS v1 fun s2 => lenA s2 fun m1 => Kb2 (DV.v (AV.i .i64 (Int.ofNat m1))) H1)
def g340x4 := jn (fun d1 H2 => jn (fun d2 H3 => pickK t1 (DV.v (AV.b true)) d2 fun d3 => onV d3 fun v1 => isB v1 fun t2 => jn (fun d4 H4 => g340x3 d4 t2 b1 b2 s1 H4 c1 c2 Kb1) fun Kb2 => br t2 (Kb2 DV.n H3) (Kb2 (DV.v (AV.s s1)) H3)) fun Kb2 => br t1 (Kb2 DV.n H2) (c3 [d1, (DV.v (AV.fn (nat_lit 359) []))] H2 fun d2 H3 => onV d2 fun v1 => isB v1 fun t2 => Kb2 (DV.v (AV.b t2)) H3)) fun Kb2 => br t1 (Kb2 DV.n H1) (Kb2 (DV.v (AV.s s1)) H1)
def g340x5 := jn (fun d1 H2 => jn (fun d2 H3 => jn (fun d3 H4 => pickK t1 (DV.v (AV.b true)) d3 fun d4 => onV d4 fun v1 => isB v1 fun t2 => g340x4 t2 b1 b2 s1 H4 c1 c2 c3 Kb1) fun Kb2 => br t1 (Kb2 DV.n H3) (onV d2 fun v1 => isI .i64 v1 fun n1 => frcB (ieq n1 ii0) fun t2 => Kb2 (DV.v (AV.b t2)) H3)) fun Kb2 => br t1 (Kb2 DV.n H2) (onV d1 fun v1 => isS v1 fun s2 => lenA s2 fun m1 => Kb2 (DV.v (AV.i .i64 (Int.ofNat m1))) H2)) fun Kb2 => br t1 (Kb2 DV.n H1) (Kb2 (DV.v (AV.s s1)) H1)
/-- build.Fits -/
def g340 : G DV := fun R1 H1 Kb1 => lc R1 fun d1 R2 => lc R2 fun d2 R3 => lc R3 fun d3 R4 => onV d3 fun v1 => isS v1 fun s1 => ln R4 <| cellsD d1 fun l1 => alK H1 l1 fun b1 H2 => cellsD d2 fun l2 => alK H2 l2 fun b2 H3 => rdR H3 b1 nn0 nn5 fun l3 => c1 [(DV.a l3)] H3 fun d4 H4 => onV d4 fun v2 => isB v2 fun t1 => frcB (bnot t1) fun t2 => g340x5 t2 b2 b1 s1 H4 c2 c3 c4 Kb1
def G340 : G DV := g340 G134 G244 G305 G360

def g338x1 := jn (fun d2 H2 => jn (fun d3 H3 => pickK t1 d3 (DV.v (AV.b false)) fun d4 => onV d4 fun v1 => isB v1 fun t2 => br t2 (Kb1 (DV.c (DV.v (AV.i .i64 ii1)) (DV.c (DV.v (AV.b false)) DV.n)) H3) (Kb1 (DV.c (DV.v (AV.i .i64 ii0)) (DV.c (DV.v (AV.b false)) DV.n)) H3)) fun Kb2 => br t1 (onV d2 fun v1 => isB v1 fun t2 => frcB (bnot t2) fun t3 => Kb2 (DV.v (AV.b t3)) H2) (Kb2 DV.n H2)) fun Kb2 => br t1 (c1 [d1] H1 fun d2 H2 => onV d2 fun v1 => isB v1 fun t2 => Kb2 (DV.v (AV.b t2)) H2) (Kb2 DV.n H1)
def g338x2 := jn (fun d1 H2 => jn (fun d2 H3 => jn (fun d3 H4 => g338x1 d3 t1 H4 c1 Kb1) fun Kb2 => br t1 (onV d2 fun v1 => isP v1 fun p1 => onA p1 fun b1 m1 => rdK H3 b1 m1 fun v2 => isI .i64 v2 fun n1 => Kb2 (DV.v (AV.i .i64 n1)) H3) (Kb2 DV.n H3)) fun Kb2 => br t1 (onV d1 fun v1 => isS v1 fun s2 => ixA s2 ii0 (fun x => x) fun b1 m1 => Kb2 (DV.v (AV.p (AP.at b1 m1))) H2) (Kb2 DV.n H2)) fun Kb2 => br t1 (Kb2 (DV.v (AV.s s1)) H1) (Kb2 DV.n H1)
def g338x3 := br t1 (rdR H1 b1 nn0 nn5 fun l1 => rdR H1 b2 nn0 nn3 fun l2 => natK n1 fun m1 => slA s1 nn0 m1 (fun x => x) fun s2 => c1 [(DV.a l1), (DV.a l2), (DV.v (AV.s s2))] H1 fun d1 H2 => onV d1 fun v1 => isB v1 fun t2 => br t2 (Kb1 (DV.c (DV.v (AV.i .i64 n1)) (DV.c (DV.v (AV.b true)) DV.n)) H2) (wrp .i64 (isub n1 ii1) fun n2 => Kb2 (DV.v (AV.i .i64 n2)) H2)) (lenA s1 fun m1 => frcB (ilt ii0 (Int.ofNat m1)) fun t2 => jn (fun d1 H2 => jn (fun d2 H3 => pickK t2 d2 (DV.v (AV.b false)) fun d3 => onV d3 fun v1 => isB v1 fun t3 => g338x2 t3 s1 H3 c2 Kb1) fun Kb3 => br t2 (c3 [d1] H2 fun d2 H3 => onV d2 fun v1 => isB v1 fun t3 => Kb3 (DV.v (AV.b t3)) H3) (Kb3 DV.n H2)) fun Kb3 => br t2 (rdR H1 b1 nn0 nn5 fun l1 => Kb3 (DV.a l1) H1) (Kb3 DV.n H1))
def g338x4 := lc R1 fun d2 R2 => lc R2 fun d3 R3 => onV d3 fun v1 => isS v1 fun s1 => ln R3 <| cellsD d1 fun l1 => alK H1 l1 fun b1 H2 => cellsD d2 fun l2 => alK H2 l2 fun b2 H3 => lenA s1 fun m1 => asI (imin (Int.ofNat m1) ii64) fun n1 => lpR (failF [(8 , .int .i64)]) (fun Kb2 => fun d4 H4 => onV d4 fun v2 => isI .i64 v2 fun n2 => frcB (ilt ii0 n2) fun t1 => g338x3 n2 t1 b1 b2 s1 H4 c1 c2 c3 Kb1 Kb2) (nat_lit 100000) (DV.v (AV.i .i64 n1)) H3
/-- build.Choose -/
def g338 : G DV := fun R1 H1 Kb1 => lc R1 fun d1 R2 => g338x4 d1 R2 H1 c2 c3 c1 Kb1
def G338 : G DV := g338 G134 G340 G359

/-- qos.Len -/
def g341 : G DV := fun R1 H1 Kb1 => lc R1 fun d1 R2 => onV d1 fun v1 => isI .i64 v1 fun n1 => ln R2 <| asI (imax n1 ii0) fun n2 => wrp .i64 (iadd ii26 n2) fun n3 => Kb1 (DV.v (AV.i .i64 n3)) H1
def G341 : G DV := g341

def g339x1 := must (Nat.beq (llen l1) nn8) <| wrL H1 b1 nn0 l1 fun H2 => rdK H2 b1 nn4 fun v1 => isS v1 fun s2 => lenA s2 fun m1 => c1 [(DV.v (AV.i .i64 (Int.ofNat m1)))] H2 fun d1 H3 => onV d1 fun v2 => isI .i64 v2 fun n2 => alB H3 (@T4.n AV (AV.i .i64 n2) te te te te) nn1 nn0 fun b2 H4 => appD nn1 nn8 s1 (AS.sl b2 nn0 nn1 nn1) H4 fun s3 H5 => wrp .i64 (iadd n1 ii1) fun n3 => Kc1 (DV.v (AV.s s3)) (DV.v (AV.i .i64 n3)) H5
def g339x2 := lenA s1 fun m1 => lpR (failF [(3 , .slice), (8 , .int .i64)]) (fun Kc1 => fun d1 d2 H2 => onV d1 fun v1 => isS v1 fun s2 => onV d2 fun v2 => isI .i64 v2 fun n1 => frcB (ilt n1 (Int.ofNat m1)) fun t1 => br t1 (ixA s1 n1 (fun x => Nat.mul x nn8) fun b1 m2 => rdR H2 b1 m2 nn8 fun l1 => alB H2 z15 nn8 nn0 fun b2 H3 => g339x1 l1 n1 b2 s2 H3 c1 Kc1) (Kb1 (DV.v (AV.s s2)) H2)) (nat_lit 100000) (DV.v (AV.s AS.nil)) (DV.v (AV.i .i64 ii0)) H1
/-- ap.lens -/
def g339 : G DV := fun R1 H1 Kb1 => lc R1 fun d1 R2 => onV d1 fun v1 => isS v1 fun s1 => ln R2 <| g339x2 s1 H1 c1 Kb1
def G339 : G DV := g339 G341
end
end Go.Proofs.YtdkopdoicepgmaaGreatDoor
