/- Functions of the program on the abstract machine: written by a program (ggen) off the elaborated code. -/
import Derived.Test.YtbelmboeamkccaaGreatDoorAb18
set_option linter.unusedVariables false
set_option linter.constructorNameAsVariable false
set_option maxRecDepth 100000
namespace Go.Proofs.YtbelmboeamkccaaGreatDoor
open Go.Vc Go.Ab
noncomputable section
variable (v1 v2 : AV) (l1 l2 l3 l4 : List AV) (L1 L2 : List AP) (d1 d2 d3 d4 : DV) (R1 : List DV) (n1 n2 n3 n4 n5 n6 n7 n8 n9 : Int) (m1 m2 m3 m4 : Nat) (t1 t2 t3 t4 : Bool) (p1 p2 p3 p4 p5 : AP) (b1 b2 b3 b4 b5 : P4) (s1 s2 s3 : AS) (H1 : AH) (x1 x2 : List Int) (c1 c2 c3 c4 c5 c6 c7 c8 c9 c10 c11 c12 c13 c14 c15 c16 : G DV) (Ka1 Ka2 : AH → Option DV) (Kb1 Kb2 : DV → AH → Option DV) (Kc1 : DV → DV → AH → Option DV) (Kd1 : DV → DV → DV → AH → Option DV) (Kf1 : DV → DV → DV → DV → DV → AH → Option DV)
variable {ads : List Addr}
def ii0 : Int := Int.ofNat (nat_lit 0)
def ii1 : Int := Int.ofNat (nat_lit 1)
def ii10 : Int := Int.ofNat (nat_lit 10)
def ii100 : Int := Int.ofNat (nat_lit 100)
def ii1000 : Int := Int.ofNat (nat_lit 1000)
def ii10000 : Int := Int.ofNat (nat_lit 10000)
def ii100000 : Int := Int.ofNat (nat_lit 100000)
def ii1000000 : Int := Int.ofNat (nat_lit 1000000)
def ii101 : Int := Int.ofNat (nat_lit 101)
def ii102 : Int := Int.ofNat (nat_lit 102)
def ii1023 : Int := Int.ofNat (nat_lit 1023)
def ii1024 : Int := Int.ofNat (nat_lit 1024)
def ii103 : Int := Int.ofNat (nat_lit 103)
def ii104 : Int := Int.ofNat (nat_lit 104)
def ii1048576 : Int := Int.ofNat (nat_lit 1048576)
def ii105 : Int := Int.ofNat (nat_lit 105)
def ii106 : Int := Int.ofNat (nat_lit 106)
def ii107 : Int := Int.ofNat (nat_lit 107)
def ii1073741824 : Int := Int.ofNat (nat_lit 1073741824)
def ii108 : Int := Int.ofNat (nat_lit 108)
def ii109 : Int := Int.ofNat (nat_lit 109)
def ii1099511627776 : Int := Int.ofNat (nat_lit 1099511627776)
def ii11 : Int := Int.ofNat (nat_lit 11)
def ii110 : Int := Int.ofNat (nat_lit 110)
def ii111 : Int := Int.ofNat (nat_lit 111)
def ii112 : Int := Int.ofNat (nat_lit 112)
def ii1125899906842624 : Int := Int.ofNat (nat_lit 1125899906842624)
def ii113 : Int := Int.ofNat (nat_lit 113)
def ii114 : Int := Int.ofNat (nat_lit 114)
def ii115 : Int := Int.ofNat (nat_lit 115)
def ii1152921504606846976 : Int := Int.ofNat (nat_lit 1152921504606846976)
def ii116 : Int := Int.ofNat (nat_lit 116)
def ii117 : Int := Int.ofNat (nat_lit 117)
def ii118 : Int := Int.ofNat (nat_lit 118)
def ii119 : Int := Int.ofNat (nat_lit 119)
def ii12 : Int := Int.ofNat (nat_lit 12)
def ii120 : Int := Int.ofNat (nat_lit 120)
def ii121 : Int := Int.ofNat (nat_lit 121)
def ii122 : Int := Int.ofNat (nat_lit 122)
def ii123 : Int := Int.ofNat (nat_lit 123)
def ii124 : Int := Int.ofNat (nat_lit 124)
def ii125 : Int := Int.ofNat (nat_lit 125)
def ii126 : Int := Int.ofNat (nat_lit 126)
def ii127 : Int := Int.ofNat (nat_lit 127)
def ii128 : Int := Int.ofNat (nat_lit 128)
def ii129 : Int := Int.ofNat (nat_lit 129)
def ii13 : Int := Int.ofNat (nat_lit 13)
def ii130 : Int := Int.ofNat (nat_lit 130)
def ii131 : Int := Int.ofNat (nat_lit 131)
def ii132 : Int := Int.ofNat (nat_lit 132)
def ii133 : Int := Int.ofNat (nat_lit 133)
def ii134 : Int := Int.ofNat (nat_lit 134)
def ii135 : Int := Int.ofNat (nat_lit 135)
def ii136 : Int := Int.ofNat (nat_lit 136)
def ii137 : Int := Int.ofNat (nat_lit 137)
def ii138 : Int := Int.ofNat (nat_lit 138)
def ii139 : Int := Int.ofNat (nat_lit 139)
def ii14 : Int := Int.ofNat (nat_lit 14)
def ii140 : Int := Int.ofNat (nat_lit 140)
def ii141 : Int := Int.ofNat (nat_lit 141)
def ii142 : Int := Int.ofNat (nat_lit 142)
def ii143 : Int := Int.ofNat (nat_lit 143)
def ii144 : Int := Int.ofNat (nat_lit 144)
def ii145 : Int := Int.ofNat (nat_lit 145)
def ii146 : Int := Int.ofNat (nat_lit 146)
def ii147 : Int := Int.ofNat (nat_lit 147)
def ii148 : Int := Int.ofNat (nat_lit 148)
def ii149 : Int := Int.ofNat (nat_lit 149)
def ii15 : Int := Int.ofNat (nat_lit 15)
def ii150 : Int := Int.ofNat (nat_lit 150)
def ii1500 : Int := Int.ofNat (nat_lit 1500)
def ii151 : Int := Int.ofNat (nat_lit 151)
def ii1514 : Int := Int.ofNat (nat_lit 1514)
def ii152 : Int := Int.ofNat (nat_lit 152)
def ii153 : Int := Int.ofNat (nat_lit 153)
def ii154 : Int := Int.ofNat (nat_lit 154)
def ii155 : Int := Int.ofNat (nat_lit 155)
def ii156 : Int := Int.ofNat (nat_lit 156)
def ii157 : Int := Int.ofNat (nat_lit 157)
def ii158 : Int := Int.ofNat (nat_lit 158)
def ii159 : Int := Int.ofNat (nat_lit 159)
def ii16 : Int := Int.ofNat (nat_lit 16)
def ii160 : Int := Int.ofNat (nat_lit 160)
def ii161 : Int := Int.ofNat (nat_lit 161)
def ii162 : Int := Int.ofNat (nat_lit 162)
def ii163 : Int := Int.ofNat (nat_lit 163)
def ii164 : Int := Int.ofNat (nat_lit 164)
def ii165 : Int := Int.ofNat (nat_lit 165)
def ii166 : Int := Int.ofNat (nat_lit 166)
def ii167 : Int := Int.ofNat (nat_lit 167)
def ii168 : Int := Int.ofNat (nat_lit 168)
def ii169 : Int := Int.ofNat (nat_lit 169)
def ii17 : Int := Int.ofNat (nat_lit 17)
def ii170 : Int := Int.ofNat (nat_lit 170)
def ii171 : Int := Int.ofNat (nat_lit 171)
def ii172 : Int := Int.ofNat (nat_lit 172)
def ii173 : Int := Int.ofNat (nat_lit 173)
def ii174 : Int := Int.ofNat (nat_lit 174)
def ii175 : Int := Int.ofNat (nat_lit 175)
def ii176 : Int := Int.ofNat (nat_lit 176)
def ii177 : Int := Int.ofNat (nat_lit 177)
def ii178 : Int := Int.ofNat (nat_lit 178)
def ii179 : Int := Int.ofNat (nat_lit 179)
def ii18 : Int := Int.ofNat (nat_lit 18)
def ii180 : Int := Int.ofNat (nat_lit 180)
def ii181 : Int := Int.ofNat (nat_lit 181)
def ii182 : Int := Int.ofNat (nat_lit 182)
def ii183 : Int := Int.ofNat (nat_lit 183)
def ii184 : Int := Int.ofNat (nat_lit 184)
def ii185 : Int := Int.ofNat (nat_lit 185)
def ii186 : Int := Int.ofNat (nat_lit 186)
def ii187 : Int := Int.ofNat (nat_lit 187)
def ii188 : Int := Int.ofNat (nat_lit 188)
def ii189 : Int := Int.ofNat (nat_lit 189)
def ii19 : Int := Int.ofNat (nat_lit 19)
def ii190 : Int := Int.ofNat (nat_lit 190)
def ii191 : Int := Int.ofNat (nat_lit 191)
def ii192 : Int := Int.ofNat (nat_lit 192)
def ii193 : Int := Int.ofNat (nat_lit 193)
def ii194 : Int := Int.ofNat (nat_lit 194)
def ii195 : Int := Int.ofNat (nat_lit 195)
def ii196 : Int := Int.ofNat (nat_lit 196)
def ii1960 : Int := Int.ofNat (nat_lit 1960)
def ii197 : Int := Int.ofNat (nat_lit 197)
def ii198 : Int := Int.ofNat (nat_lit 198)
def ii199 : Int := Int.ofNat (nat_lit 199)
def ii2 : Int := Int.ofNat (nat_lit 2)
def ii20 : Int := Int.ofNat (nat_lit 20)
def ii200 : Int := Int.ofNat (nat_lit 200)
def ii20000 : Int := Int.ofNat (nat_lit 20000)
def ii200000 : Int := Int.ofNat (nat_lit 200000)
def ii2007 : Int := Int.ofNat (nat_lit 2007)
def ii201 : Int := Int.ofNat (nat_lit 201)
def ii202 : Int := Int.ofNat (nat_lit 202)
def ii203 : Int := Int.ofNat (nat_lit 203)
def ii204 : Int := Int.ofNat (nat_lit 204)
def ii2048 : Int := Int.ofNat (nat_lit 2048)
def ii205 : Int := Int.ofNat (nat_lit 205)
def ii206 : Int := Int.ofNat (nat_lit 206)
def ii207 : Int := Int.ofNat (nat_lit 207)
def ii208 : Int := Int.ofNat (nat_lit 208)
def ii209 : Int := Int.ofNat (nat_lit 209)
def ii21 : Int := Int.ofNat (nat_lit 21)
def ii210 : Int := Int.ofNat (nat_lit 210)
def ii211 : Int := Int.ofNat (nat_lit 211)
def ii212 : Int := Int.ofNat (nat_lit 212)
def ii213 : Int := Int.ofNat (nat_lit 213)
def ii214 : Int := Int.ofNat (nat_lit 214)
def ii2147483648 : Int := Int.ofNat (nat_lit 2147483648)
def ii215 : Int := Int.ofNat (nat_lit 215)
def ii216 : Int := Int.ofNat (nat_lit 216)
def ii217 : Int := Int.ofNat (nat_lit 217)
def ii218 : Int := Int.ofNat (nat_lit 218)
def ii219 : Int := Int.ofNat (nat_lit 219)
def ii22 : Int := Int.ofNat (nat_lit 22)
def ii220 : Int := Int.ofNat (nat_lit 220)
def ii221 : Int := Int.ofNat (nat_lit 221)
def ii222 : Int := Int.ofNat (nat_lit 222)
def ii223 : Int := Int.ofNat (nat_lit 223)
def ii224 : Int := Int.ofNat (nat_lit 224)
def ii225 : Int := Int.ofNat (nat_lit 225)
def ii226 : Int := Int.ofNat (nat_lit 226)
def ii227 : Int := Int.ofNat (nat_lit 227)
def ii228 : Int := Int.ofNat (nat_lit 228)
def ii229 : Int := Int.ofNat (nat_lit 229)
def ii23 : Int := Int.ofNat (nat_lit 23)
def ii230 : Int := Int.ofNat (nat_lit 230)
def ii231 : Int := Int.ofNat (nat_lit 231)
def ii232 : Int := Int.ofNat (nat_lit 232)
def ii233 : Int := Int.ofNat (nat_lit 233)
def ii234 : Int := Int.ofNat (nat_lit 234)
def ii235 : Int := Int.ofNat (nat_lit 235)
def ii236 : Int := Int.ofNat (nat_lit 236)
def ii237 : Int := Int.ofNat (nat_lit 237)
def ii238 : Int := Int.ofNat (nat_lit 238)
def ii239 : Int := Int.ofNat (nat_lit 239)
def ii24 : Int := Int.ofNat (nat_lit 24)
def ii240 : Int := Int.ofNat (nat_lit 240)
def ii241 : Int := Int.ofNat (nat_lit 241)
def ii242 : Int := Int.ofNat (nat_lit 242)
def ii243 : Int := Int.ofNat (nat_lit 243)
def ii244 : Int := Int.ofNat (nat_lit 244)
def ii245 : Int := Int.ofNat (nat_lit 245)
def ii246 : Int := Int.ofNat (nat_lit 246)
def ii247 : Int := Int.ofNat (nat_lit 247)
def ii248 : Int := Int.ofNat (nat_lit 248)
def ii249 : Int := Int.ofNat (nat_lit 249)
def ii25 : Int := Int.ofNat (nat_lit 25)
def ii250 : Int := Int.ofNat (nat_lit 250)
def ii251 : Int := Int.ofNat (nat_lit 251)
def ii252 : Int := Int.ofNat (nat_lit 252)
def ii253 : Int := Int.ofNat (nat_lit 253)
def ii254 : Int := Int.ofNat (nat_lit 254)
def ii255 : Int := Int.ofNat (nat_lit 255)
def ii256 : Int := Int.ofNat (nat_lit 256)
def ii26 : Int := Int.ofNat (nat_lit 26)
def ii27 : Int := Int.ofNat (nat_lit 27)
def ii28 : Int := Int.ofNat (nat_lit 28)
def ii29 : Int := Int.ofNat (nat_lit 29)
def ii3 : Int := Int.ofNat (nat_lit 3)
def ii30 : Int := Int.ofNat (nat_lit 30)
def ii300 : Int := Int.ofNat (nat_lit 300)
def ii31 : Int := Int.ofNat (nat_lit 31)
def ii32 : Int := Int.ofNat (nat_lit 32)
def ii320 : Int := Int.ofNat (nat_lit 320)
def ii33 : Int := Int.ofNat (nat_lit 33)
def ii34 : Int := Int.ofNat (nat_lit 34)
def ii35 : Int := Int.ofNat (nat_lit 35)
def ii36 : Int := Int.ofNat (nat_lit 36)
def ii360 : Int := Int.ofNat (nat_lit 360)
def ii37 : Int := Int.ofNat (nat_lit 37)
def ii38 : Int := Int.ofNat (nat_lit 38)
def ii39 : Int := Int.ofNat (nat_lit 39)
def ii4 : Int := Int.ofNat (nat_lit 4)
def ii40 : Int := Int.ofNat (nat_lit 40)
def ii4095 : Int := Int.ofNat (nat_lit 4095)
def ii4096 : Int := Int.ofNat (nat_lit 4096)
def ii41 : Int := Int.ofNat (nat_lit 41)
def ii42 : Int := Int.ofNat (nat_lit 42)
def ii4294967295 : Int := Int.ofNat (nat_lit 4294967295)
def ii4294967296 : Int := Int.ofNat (nat_lit 4294967296)
def ii43 : Int := Int.ofNat (nat_lit 43)
def ii44 : Int := Int.ofNat (nat_lit 44)
def ii45 : Int := Int.ofNat (nat_lit 45)
def ii46 : Int := Int.ofNat (nat_lit 46)
def ii468 : Int := Int.ofNat (nat_lit 468)
def ii47 : Int := Int.ofNat (nat_lit 47)
def ii48 : Int := Int.ofNat (nat_lit 48)
def ii49 : Int := Int.ofNat (nat_lit 49)
def ii49152 : Int := Int.ofNat (nat_lit 49152)
def ii5 : Int := Int.ofNat (nat_lit 5)
def ii50 : Int := Int.ofNat (nat_lit 50)
def ii50000 : Int := Int.ofNat (nat_lit 50000)
def ii51 : Int := Int.ofNat (nat_lit 51)
def ii512 : Int := Int.ofNat (nat_lit 512)
def ii52 : Int := Int.ofNat (nat_lit 52)
def ii53 : Int := Int.ofNat (nat_lit 53)
def ii54 : Int := Int.ofNat (nat_lit 54)
def ii54840 : Int := Int.ofNat (nat_lit 54840)
def ii55 : Int := Int.ofNat (nat_lit 55)
def ii56 : Int := Int.ofNat (nat_lit 56)
def ii57 : Int := Int.ofNat (nat_lit 57)
def ii58 : Int := Int.ofNat (nat_lit 58)
def ii59 : Int := Int.ofNat (nat_lit 59)
def ii6 : Int := Int.ofNat (nat_lit 6)
def ii60 : Int := Int.ofNat (nat_lit 60)
def ii600 : Int := Int.ofNat (nat_lit 600)
def ii61 : Int := Int.ofNat (nat_lit 61)
def ii62 : Int := Int.ofNat (nat_lit 62)
def ii63 : Int := Int.ofNat (nat_lit 63)
def ii64 : Int := Int.ofNat (nat_lit 64)
def ii65 : Int := Int.ofNat (nat_lit 65)
def ii65535 : Int := Int.ofNat (nat_lit 65535)
def ii65536 : Int := Int.ofNat (nat_lit 65536)
def ii66 : Int := Int.ofNat (nat_lit 66)
def ii67 : Int := Int.ofNat (nat_lit 67)
def ii68 : Int := Int.ofNat (nat_lit 68)
def ii69 : Int := Int.ofNat (nat_lit 69)
def ii7 : Int := Int.ofNat (nat_lit 7)
def ii70 : Int := Int.ofNat (nat_lit 70)
def ii71 : Int := Int.ofNat (nat_lit 71)
def ii72 : Int := Int.ofNat (nat_lit 72)
def ii73 : Int := Int.ofNat (nat_lit 73)
def ii73244475 : Int := Int.ofNat (nat_lit 73244475)
def ii74 : Int := Int.ofNat (nat_lit 74)
def ii75 : Int := Int.ofNat (nat_lit 75)
def ii76 : Int := Int.ofNat (nat_lit 76)
def ii77 : Int := Int.ofNat (nat_lit 77)
def ii78 : Int := Int.ofNat (nat_lit 78)
def ii79 : Int := Int.ofNat (nat_lit 79)
def ii8 : Int := Int.ofNat (nat_lit 8)
def ii80 : Int := Int.ofNat (nat_lit 80)
def ii8000 : Int := Int.ofNat (nat_lit 8000)
def ii81 : Int := Int.ofNat (nat_lit 81)
def ii82 : Int := Int.ofNat (nat_lit 82)
def ii83 : Int := Int.ofNat (nat_lit 83)
def ii84 : Int := Int.ofNat (nat_lit 84)
def ii85 : Int := Int.ofNat (nat_lit 85)
def ii86 : Int := Int.ofNat (nat_lit 86)
def ii87 : Int := Int.ofNat (nat_lit 87)
def ii88 : Int := Int.ofNat (nat_lit 88)
def ii89 : Int := Int.ofNat (nat_lit 89)
def ii9 : Int := Int.ofNat (nat_lit 9)
def ii90 : Int := Int.ofNat (nat_lit 90)
def ii91 : Int := Int.ofNat (nat_lit 91)
def ii92 : Int := Int.ofNat (nat_lit 92)
def ii93 : Int := Int.ofNat (nat_lit 93)
def ii94 : Int := Int.ofNat (nat_lit 94)
def ii95 : Int := Int.ofNat (nat_lit 95)
def ii96 : Int := Int.ofNat (nat_lit 96)
def ii97 : Int := Int.ofNat (nat_lit 97)
def ii98 : Int := Int.ofNat (nat_lit 98)
def ii980 : Int := Int.ofNat (nat_lit 980)
def ii99 : Int := Int.ofNat (nat_lit 99)
def im1 : Int := Int.negSucc (nat_lit 0)
def im63 : Int := Int.negSucc (nat_lit 62)
def nn0 : Nat := nat_lit 0
def nn1 : Nat := nat_lit 1
def nn10 : Nat := nat_lit 10
def nn100 : Nat := nat_lit 100
def nn101 : Nat := nat_lit 101
def nn102 : Nat := nat_lit 102
def nn103 : Nat := nat_lit 103
def nn104 : Nat := nat_lit 104
def nn105 : Nat := nat_lit 105
def nn106 : Nat := nat_lit 106
def nn107 : Nat := nat_lit 107
def nn108 : Nat := nat_lit 108
def nn109 : Nat := nat_lit 109
def nn11 : Nat := nat_lit 11
def nn110 : Nat := nat_lit 110
def nn111 : Nat := nat_lit 111
def nn112 : Nat := nat_lit 112
def nn113 : Nat := nat_lit 113
def nn114 : Nat := nat_lit 114
def nn115 : Nat := nat_lit 115
def nn116 : Nat := nat_lit 116
def nn117 : Nat := nat_lit 117
def nn118 : Nat := nat_lit 118
def nn119 : Nat := nat_lit 119
def nn12 : Nat := nat_lit 12
def nn120 : Nat := nat_lit 120
def nn121 : Nat := nat_lit 121
def nn122 : Nat := nat_lit 122
def nn123 : Nat := nat_lit 123
def nn124 : Nat := nat_lit 124
def nn125 : Nat := nat_lit 125
def nn126 : Nat := nat_lit 126
def nn127 : Nat := nat_lit 127
def nn128 : Nat := nat_lit 128
def nn129 : Nat := nat_lit 129
def nn13 : Nat := nat_lit 13
def nn130 : Nat := nat_lit 130
def nn131 : Nat := nat_lit 131
def nn132 : Nat := nat_lit 132
def nn133 : Nat := nat_lit 133
def nn134 : Nat := nat_lit 134
def nn135 : Nat := nat_lit 135
def nn136 : Nat := nat_lit 136
def nn137 : Nat := nat_lit 137
def nn138 : Nat := nat_lit 138
def nn139 : Nat := nat_lit 139
def nn14 : Nat := nat_lit 14
def nn140 : Nat := nat_lit 140
def nn141 : Nat := nat_lit 141
def nn142 : Nat := nat_lit 142
def nn143 : Nat := nat_lit 143
def nn144 : Nat := nat_lit 144
def nn145 : Nat := nat_lit 145
def nn146 : Nat := nat_lit 146
def nn147 : Nat := nat_lit 147
def nn148 : Nat := nat_lit 148
def nn149 : Nat := nat_lit 149
def nn15 : Nat := nat_lit 15
def nn150 : Nat := nat_lit 150
def nn151 : Nat := nat_lit 151
def nn152 : Nat := nat_lit 152
def nn153 : Nat := nat_lit 153
def nn154 : Nat := nat_lit 154
def nn155 : Nat := nat_lit 155
def nn156 : Nat := nat_lit 156
def nn157 : Nat := nat_lit 157
def nn158 : Nat := nat_lit 158
def nn159 : Nat := nat_lit 159
def nn16 : Nat := nat_lit 16
def nn160 : Nat := nat_lit 160
def nn161 : Nat := nat_lit 161
def nn162 : Nat := nat_lit 162
def nn163 : Nat := nat_lit 163
def nn164 : Nat := nat_lit 164
def nn165 : Nat := nat_lit 165
def nn166 : Nat := nat_lit 166
def nn167 : Nat := nat_lit 167
def nn168 : Nat := nat_lit 168
def nn169 : Nat := nat_lit 169
def nn17 : Nat := nat_lit 17
def nn170 : Nat := nat_lit 170
def nn171 : Nat := nat_lit 171
def nn172 : Nat := nat_lit 172
def nn173 : Nat := nat_lit 173
def nn174 : Nat := nat_lit 174
def nn175 : Nat := nat_lit 175
def nn176 : Nat := nat_lit 176
def nn177 : Nat := nat_lit 177
def nn178 : Nat := nat_lit 178
def nn179 : Nat := nat_lit 179
def nn18 : Nat := nat_lit 18
def nn180 : Nat := nat_lit 180
def nn181 : Nat := nat_lit 181
def nn182 : Nat := nat_lit 182
def nn183 : Nat := nat_lit 183
def nn184 : Nat := nat_lit 184
def nn185 : Nat := nat_lit 185
def nn186 : Nat := nat_lit 186
def nn187 : Nat := nat_lit 187
def nn188 : Nat := nat_lit 188
def nn189 : Nat := nat_lit 189
def nn19 : Nat := nat_lit 19
def nn190 : Nat := nat_lit 190
def nn191 : Nat := nat_lit 191
def nn192 : Nat := nat_lit 192
def nn193 : Nat := nat_lit 193
def nn194 : Nat := nat_lit 194
def nn195 : Nat := nat_lit 195
def nn196 : Nat := nat_lit 196
def nn197 : Nat := nat_lit 197
def nn198 : Nat := nat_lit 198
def nn199 : Nat := nat_lit 199
def nn2 : Nat := nat_lit 2
def nn20 : Nat := nat_lit 20
def nn200 : Nat := nat_lit 200
def nn201 : Nat := nat_lit 201
def nn202 : Nat := nat_lit 202
def nn203 : Nat := nat_lit 203
def nn204 : Nat := nat_lit 204
def nn205 : Nat := nat_lit 205
def nn206 : Nat := nat_lit 206
def nn207 : Nat := nat_lit 207
def nn208 : Nat := nat_lit 208
def nn209 : Nat := nat_lit 209
def nn21 : Nat := nat_lit 21
def nn210 : Nat := nat_lit 210
def nn211 : Nat := nat_lit 211
def nn212 : Nat := nat_lit 212
def nn213 : Nat := nat_lit 213
def nn214 : Nat := nat_lit 214
def nn215 : Nat := nat_lit 215
def nn216 : Nat := nat_lit 216
def nn217 : Nat := nat_lit 217
def nn218 : Nat := nat_lit 218
def nn219 : Nat := nat_lit 219
def nn22 : Nat := nat_lit 22
def nn220 : Nat := nat_lit 220
def nn221 : Nat := nat_lit 221
def nn222 : Nat := nat_lit 222
def nn223 : Nat := nat_lit 223
def nn224 : Nat := nat_lit 224
def nn225 : Nat := nat_lit 225
def nn226 : Nat := nat_lit 226
def nn227 : Nat := nat_lit 227
def nn228 : Nat := nat_lit 228
def nn229 : Nat := nat_lit 229
def nn23 : Nat := nat_lit 23
def nn230 : Nat := nat_lit 230
def nn231 : Nat := nat_lit 231
def nn232 : Nat := nat_lit 232
def nn233 : Nat := nat_lit 233
def nn234 : Nat := nat_lit 234
def nn235 : Nat := nat_lit 235
def nn236 : Nat := nat_lit 236
def nn237 : Nat := nat_lit 237
def nn238 : Nat := nat_lit 238
def nn239 : Nat := nat_lit 239
def nn24 : Nat := nat_lit 24
def nn240 : Nat := nat_lit 240
def nn241 : Nat := nat_lit 241
def nn242 : Nat := nat_lit 242
def nn243 : Nat := nat_lit 243
def nn244 : Nat := nat_lit 244
def nn245 : Nat := nat_lit 245
def nn246 : Nat := nat_lit 246
def nn247 : Nat := nat_lit 247
def nn248 : Nat := nat_lit 248
def nn249 : Nat := nat_lit 249
def nn25 : Nat := nat_lit 25
def nn250 : Nat := nat_lit 250
def nn251 : Nat := nat_lit 251
def nn252 : Nat := nat_lit 252
def nn253 : Nat := nat_lit 253
def nn254 : Nat := nat_lit 254
def nn255 : Nat := nat_lit 255
def nn256 : Nat := nat_lit 256
def nn257 : Nat := nat_lit 257
def nn258 : Nat := nat_lit 258
def nn26 : Nat := nat_lit 26
def nn260 : Nat := nat_lit 260
def nn261 : Nat := nat_lit 261
def nn262 : Nat := nat_lit 262
def nn263 : Nat := nat_lit 263
def nn264 : Nat := nat_lit 264
def nn265 : Nat := nat_lit 265
def nn266 : Nat := nat_lit 266
def nn267 : Nat := nat_lit 267
def nn268 : Nat := nat_lit 268
def nn269 : Nat := nat_lit 269
def nn27 : Nat := nat_lit 27
def nn270 : Nat := nat_lit 270
def nn271 : Nat := nat_lit 271
def nn272 : Nat := nat_lit 272
def nn273 : Nat := nat_lit 273
def nn274 : Nat := nat_lit 274
def nn275 : Nat := nat_lit 275
def nn276 : Nat := nat_lit 276
def nn277 : Nat := nat_lit 277
def nn278 : Nat := nat_lit 278
def nn279 : Nat := nat_lit 279
def nn28 : Nat := nat_lit 28
def nn280 : Nat := nat_lit 280
def nn281 : Nat := nat_lit 281
def nn282 : Nat := nat_lit 282
def nn283 : Nat := nat_lit 283
def nn284 : Nat := nat_lit 284
def nn285 : Nat := nat_lit 285
def nn286 : Nat := nat_lit 286
def nn287 : Nat := nat_lit 287
def nn288 : Nat := nat_lit 288
def nn289 : Nat := nat_lit 289
def nn29 : Nat := nat_lit 29
def nn290 : Nat := nat_lit 290
def nn291 : Nat := nat_lit 291
def nn292 : Nat := nat_lit 292
def nn293 : Nat := nat_lit 293
def nn294 : Nat := nat_lit 294
def nn295 : Nat := nat_lit 295
def nn296 : Nat := nat_lit 296
def nn297 : Nat := nat_lit 297
def nn298 : Nat := nat_lit 298
def nn299 : Nat := nat_lit 299
def nn3 : Nat := nat_lit 3
def nn30 : Nat := nat_lit 30
def nn300 : Nat := nat_lit 300
def nn301 : Nat := nat_lit 301
def nn302 : Nat := nat_lit 302
def nn303 : Nat := nat_lit 303
def nn304 : Nat := nat_lit 304
def nn31 : Nat := nat_lit 31
def nn310 : Nat := nat_lit 310
def nn311 : Nat := nat_lit 311
def nn312 : Nat := nat_lit 312
def nn313 : Nat := nat_lit 313
def nn317 : Nat := nat_lit 317
def nn32 : Nat := nat_lit 32
def nn325 : Nat := nat_lit 325
def nn326 : Nat := nat_lit 326
def nn327 : Nat := nat_lit 327
def nn328 : Nat := nat_lit 328
def nn329 : Nat := nat_lit 329
def nn33 : Nat := nat_lit 33
def nn34 : Nat := nat_lit 34
def nn345 : Nat := nat_lit 345
def nn346 : Nat := nat_lit 346
def nn35 : Nat := nat_lit 35
def nn36 : Nat := nat_lit 36
def nn37 : Nat := nat_lit 37
def nn38 : Nat := nat_lit 38
def nn39 : Nat := nat_lit 39
def nn4 : Nat := nat_lit 4
def nn40 : Nat := nat_lit 40
def nn41 : Nat := nat_lit 41
def nn42 : Nat := nat_lit 42
def nn43 : Nat := nat_lit 43
def nn44 : Nat := nat_lit 44
def nn45 : Nat := nat_lit 45
def nn46 : Nat := nat_lit 46
def nn47 : Nat := nat_lit 47
def nn48 : Nat := nat_lit 48
def nn49 : Nat := nat_lit 49
def nn5 : Nat := nat_lit 5
def nn50 : Nat := nat_lit 50
def nn51 : Nat := nat_lit 51
def nn52 : Nat := nat_lit 52
def nn53 : Nat := nat_lit 53
def nn54 : Nat := nat_lit 54
def nn55 : Nat := nat_lit 55
def nn56 : Nat := nat_lit 56
def nn57 : Nat := nat_lit 57
def nn58 : Nat := nat_lit 58
def nn59 : Nat := nat_lit 59
def nn6 : Nat := nat_lit 6
def nn60 : Nat := nat_lit 60
def nn61 : Nat := nat_lit 61
def nn62 : Nat := nat_lit 62
def nn63 : Nat := nat_lit 63
def nn64 : Nat := nat_lit 64
def nn65 : Nat := nat_lit 65
def nn66 : Nat := nat_lit 66
def nn67 : Nat := nat_lit 67
def nn68 : Nat := nat_lit 68
def nn69 : Nat := nat_lit 69
def nn7 : Nat := nat_lit 7
def nn70 : Nat := nat_lit 70
def nn71 : Nat := nat_lit 71
def nn72 : Nat := nat_lit 72
def nn73 : Nat := nat_lit 73
def nn74 : Nat := nat_lit 74
def nn75 : Nat := nat_lit 75
def nn76 : Nat := nat_lit 76
def nn77 : Nat := nat_lit 77
def nn78 : Nat := nat_lit 78
def nn79 : Nat := nat_lit 79
def nn8 : Nat := nat_lit 8
def nn80 : Nat := nat_lit 80
def nn81 : Nat := nat_lit 81
def nn82 : Nat := nat_lit 82
def nn83 : Nat := nat_lit 83
def nn84 : Nat := nat_lit 84
def nn85 : Nat := nat_lit 85
def nn86 : Nat := nat_lit 86
def nn87 : Nat := nat_lit 87
def nn88 : Nat := nat_lit 88
def nn89 : Nat := nat_lit 89
def nn9 : Nat := nat_lit 9
def nn90 : Nat := nat_lit 90
def nn91 : Nat := nat_lit 91
def nn92 : Nat := nat_lit 92
def nn93 : Nat := nat_lit 93
def nn94 : Nat := nat_lit 94
def nn95 : Nat := nat_lit 95
def nn96 : Nat := nat_lit 96
def nn97 : Nat := nat_lit 97
def nn98 : Nat := nat_lit 98
def nn99 : Nat := nat_lit 99
def yy0 : AV := (AV.i .i64 ii0)
def yy1 : AV := (AV.i .u32 ii0)
def yy10 : AV := (AV.i .i64 ii160)
def yy11 : AV := (AV.i .i64 ii10)
def yy12 : AV := (AV.i .i64 ii50)
def yy13 : AV := (AV.i .i64 ii100)
def yy14 : AV := (AV.i .u8 ii208)
def yy15 : AV := (AV.i .u8 ii3)
def yy16 : AV := (AV.i .u8 ii1)
def yy17 : AV := (AV.i .u8 ii2)
def yy18 : AV := AV.nf
def yy19 : AV := (AV.i .i64 ii15)
def yy2 : AV := (AV.b false)
def yy20 : AV := (AV.i .i64 ii7)
def yy21 : AV := (AV.i .i64 ii3)
def yy22 : AV := (AV.i .i64 ii2)
def yy23 : AV := (AV.i .i64 ii1023)
def yy24 : AV := (AV.i .i64 ii63)
def yy25 : AV := (AV.i .u8 ii78)
def yy26 : AV := (AV.i .i64 ii6)
def yy27 : AV := (AV.i .i64 ii4)
def yy28 : AV := (AV.i .i64 ii5)
def yy29 : AV := (AV.i .i64 ii8)
def yy3 : AV := (AV.s AS.nil)
def yy30 : AV := (AV.i .i64 ii234)
def yy31 : AV := (AV.i .i64 ii468)
def yy32 : AV := (AV.i .i64 ii980)
def yy33 : AV := (AV.i .i64 ii1960)
def yy34 : AV := (AV.i .i64 ii52)
def yy35 : AV := (AV.i .i64 ii108)
def yy36 : AV := (AV.i .i64 ii24)
def yy37 : AV := (AV.i .i64 ii36)
def yy38 : AV := (AV.i .i64 ii144)
def yy39 : AV := (AV.i .i64 ii48)
def yy4 : AV := (AV.p AP.nil)
def yy40 : AV := (AV.i .i64 ii192)
def yy41 : AV := (AV.i .i64 ii72)
def yy42 : AV := (AV.i .i64 ii216)
def yy43 : AV := (AV.i .i64 ii96)
def yy44 : AV := (AV.i .i64 ii136)
def yy45 : AV := (AV.i .u8 ii136)
def yy46 : AV := (AV.i .u64 ii0)
def yy47 : AV := (AV.i .u8 ii164)
def yy48 : AV := (AV.i .u8 ii7)
def yy5 : AV := (AV.i .i64 ii1)
def yy6 : AV := (AV.i .u8 ii0)
def yy7 : AV := (AV.i .i64 ii20)
def yy8 : AV := (AV.i .i64 ii40)
def yy9 : AV := (AV.i .i64 ii80)
def g114x1 := alB H1 (@T4.n AV (AV.i .u32 n1) (@T4.n AV (AV.i .i64 n2) (@T4.n AV yy0 (@T4.n AV yy0 (@T4.n AV yy0 te te te te) te te te) (@T4.n AV yy0 (@T4.n AV yy0 te te te te) te te te) (@T4.n AV yy0 (@T4.n AV yy0 te te te te) te te te) (@T4.n AV yy0 (@T4.n AV yy0 te te te te) te te te)) (@T4.n AV yy1 (@T4.n AV yy1 (@T4.n AV yy1 te te te te) te te te) (@T4.n AV yy1 (@T4.n AV yy1 te te te te) te te te) (@T4.n AV yy1 (@T4.n AV yy1 te te te te) te te te) (@T4.n AV yy1 te te te te)) (@T4.n AV yy0 (@T4.n AV yy0 (@T4.n AV yy0 te te te te) te te te) (@T4.n AV yy0 (@T4.n AV yy0 te te te te) te te te) (@T4.n AV yy0 (@T4.n AV yy0 te te te te) te te te) (@T4.n AV yy0 te te te te)) (@T4.n AV yy1 (@T4.n AV yy1 (@T4.n AV yy1 te te te te) te te te) (@T4.n AV yy1 (@T4.n AV yy1 te te te te) te te te) (@T4.n AV yy1 (@T4.n AV yy1 te te te te) te te te) (@T4.n AV yy1 te te te te))) (@T4.n AV (AV.i .i64 n3) (@T4.n AV yy0 (@T4.n AV yy0 (@T4.n AV yy0 te te te te) te te te) (@T4.n AV yy0 (@T4.n AV yy0 te te te te) te te te) (@T4.n AV yy0 (@T4.n AV yy0 te te te te) te te te) (@T4.n AV yy0 (@T4.n AV yy0 te te te te) te te te)) (@T4.n AV yy2 (@T4.n AV yy2 (@T4.n AV yy2 te te te te) te te te) (@T4.n AV yy2 (@T4.n AV yy2 te te te te) te te te) (@T4.n AV yy2 (@T4.n AV yy2 te te te te) te te te) (@T4.n AV yy2 te te te te)) (@T4.n AV yy0 (@T4.n AV yy0 (@T4.n AV yy0 te te te te) te te te) (@T4.n AV yy0 (@T4.n AV yy0 te te te te) te te te) (@T4.n AV yy0 (@T4.n AV yy0 te te te te) te te te) (@T4.n AV yy0 te te te te)) (@T4.n AV yy2 (@T4.n AV yy2 (@T4.n AV yy2 te te te te) te te te) (@T4.n AV yy2 (@T4.n AV yy2 te te te te) te te te) (@T4.n AV yy2 (@T4.n AV yy2 te te te te) te te te) (@T4.n AV yy2 te te te te))) (@T4.n AV yy3 (@T4.n AV yy0 (@T4.n AV yy0 (@T4.n AV yy0 te te te te) te te te) (@T4.n AV yy0 (@T4.n AV yy0 te te te te) te te te) (@T4.n AV yy0 (@T4.n AV yy0 te te te te) te te te) (@T4.n AV yy0 te te te te)) (@T4.n AV yy3 (@T4.n AV yy3 (@T4.n AV yy3 te te te te) te te te) (@T4.n AV yy3 (@T4.n AV yy3 te te te te) te te te) (@T4.n AV yy3 (@T4.n AV yy3 te te te te) te te te) (@T4.n AV yy3 te te te te)) (@T4.n AV yy0 (@T4.n AV yy0 (@T4.n AV yy0 te te te te) te te te) (@T4.n AV yy0 (@T4.n AV yy0 te te te te) te te te) (@T4.n AV yy0 (@T4.n AV yy0 te te te te) te te te) (@T4.n AV yy0 te te te te)) (@T4.n AV yy3 (@T4.n AV yy3 (@T4.n AV yy3 te te te te) te te te) (@T4.n AV yy3 (@T4.n AV yy3 te te te te) te te te) (@T4.n AV yy3 (@T4.n AV yy3 te te te te) te te te) (@T4.n AV yy3 te te te te))) (@T4.n AV yy0 (@T4.n AV yy1 (@T4.n AV yy1 (@T4.n AV yy1 te te te te) te te te) (@T4.n AV yy1 (@T4.n AV yy1 te te te te) te te te) (@T4.n AV yy1 (@T4.n AV yy1 te te te te) te te te) (@T4.n AV yy1 te te te te)) (@T4.n AV yy0 (@T4.n AV yy0 (@T4.n AV yy0 te te te te) te te te) (@T4.n AV yy0 (@T4.n AV yy0 te te te te) te te te) (@T4.n AV yy0 (@T4.n AV yy0 te te te te) te te te) (@T4.n AV yy0 te te te te)) (@T4.n AV yy1 (@T4.n AV yy1 (@T4.n AV yy1 te te te te) te te te) (@T4.n AV yy1 (@T4.n AV yy1 te te te te) te te te) (@T4.n AV yy1 (@T4.n AV yy1 te te te te) te te te) (@T4.n AV yy1 te te te te)) (@T4.n AV yy0 (@T4.n AV yy0 (@T4.n AV yy0 te te te te) te te te) (@T4.n AV yy0 (@T4.n AV yy0 te te te te) te te te) (@T4.n AV yy0 (@T4.n AV yy3 te te te te) te te te) (@T4.n AV yy0 te te te te)))) nn135 nn0 fun b1 H2 => Kb1 (DV.v (AV.p (AP.at b1 nn0))) H2
/-- fq.New -/
def g114 : G DV := fun R1 H1 Kb1 => lc R1 fun d1 R2 => onV d1 fun v1 => isI .u32 v1 fun n1 => lc R2 fun d2 R3 => onV d2 fun v2 => isI .i64 v2 fun n2 => lc R3 fun d3 R4 => onV d3 fun v3 => isI .i64 v3 fun n3 => ln R4 <| g114x1 n1 n2 n3 H1 Kb1
def G114 : G DV := g114

def g56x1 := isI .i64 v1 fun n4 => onA p1 fun b1 m1 => rdK H1 b1 (Nat.add m1 nn2) fun v2 => isI .i64 v2 fun n5 => onA p1 fun b2 m2 => rng n1 nn16 <| c1 [(DV.v (AV.i .u32 n2)), (DV.v (AV.i .i64 n4)), (DV.v (AV.i .i64 n5))] H1 fun d1 H2 => onV d1 fun v3 => isP v3 fun p2 => rng n3 nn8 <| wrK H2 b2 (Nat.add (Nat.add (Nat.add m2 nn5) (Nat.mul (itn n1) nn8)) (itn n3)) (AV.p p2) fun H3 => wrp .i64 (iadd n3 ii1) fun n6 => Kb1 (DV.v (AV.i .i64 n6)) H3
def g56x2 := isP v1 fun p1 => lc R1 fun d1 R2 => onV d1 fun v2 => isI .i64 v2 fun n1 => ln R2 <| lpR (failF [(5 , .int .i64)]) (fun Kb2 => fun d2 H2 => onV d2 fun v3 => isI .i64 v3 fun n2 => frcB (ilt n2 ii8) fun t1 => br t1 (onA p1 fun b1 m1 => rdK H2 b1 m1 fun v4 => isI .u32 v4 fun n3 => onA p1 fun b2 m2 => rdK H2 b2 (Nat.add m2 nn1) fun v5 => g56x1 v5 n1 n3 n2 p1 H2 c1 Kb2) (Kb1 DV.n H2)) (nat_lit 100000) (DV.v (AV.i .i64 ii0)) H1
/-- (*pool.Pool).renew -/
def g56 : G DV := fun R1 H1 Kb1 => lc R1 fun d1 R2 => onV d1 fun v1 => g56x2 v1 R2 H1 c1 Kb1
def G56 : G DV := g56 G114

def g27x1 := alB H1 (@T4.n AV (AV.i .u32 n1) (@T4.n AV (AV.i .i64 n2) (@T4.n AV yy4 (@T4.n AV yy4 (@T4.n AV yy4 te te te te) te te te) (@T4.n AV yy4 (@T4.n AV yy4 te te te te) te te te) (@T4.n AV yy4 (@T4.n AV yy4 te te te te) te te te) (@T4.n AV yy4 te te te te)) (@T4.n AV yy4 (@T4.n AV yy4 (@T4.n AV yy4 te te te te) te te te) (@T4.n AV yy4 (@T4.n AV yy4 te te te te) te te te) (@T4.n AV yy4 (@T4.n AV yy4 te te te te) te te te) (@T4.n AV yy4 te te te te)) (@T4.n AV yy4 (@T4.n AV yy4 (@T4.n AV yy4 te te te te) te te te) (@T4.n AV yy4 (@T4.n AV yy4 te te te te) te te te) (@T4.n AV yy4 (@T4.n AV yy4 te te te te) te te te) (@T4.n AV yy4 te te te te)) (@T4.n AV yy4 (@T4.n AV yy4 (@T4.n AV yy4 te te te te) te te te) (@T4.n AV yy4 (@T4.n AV yy4 te te te te) te te te) (@T4.n AV yy4 (@T4.n AV yy4 te te te te) te te te) (@T4.n AV yy4 te te te te))) (@T4.n AV (AV.i .i64 n3) (@T4.n AV yy4 (@T4.n AV yy4 (@T4.n AV yy4 te te te te) te te te) (@T4.n AV yy4 (@T4.n AV yy4 te te te te) te te te) (@T4.n AV yy4 (@T4.n AV yy4 te te te te) te te te) (@T4.n AV yy4 te te te te)) (@T4.n AV yy4 (@T4.n AV yy4 (@T4.n AV yy4 te te te te) te te te) (@T4.n AV yy4 (@T4.n AV yy4 te te te te) te te te) (@T4.n AV yy4 (@T4.n AV yy4 te te te te) te te te) (@T4.n AV yy4 te te te te)) (@T4.n AV yy4 (@T4.n AV yy4 (@T4.n AV yy4 te te te te) te te te) (@T4.n AV yy4 (@T4.n AV yy4 te te te te) te te te) (@T4.n AV yy4 (@T4.n AV yy4 te te te te) te te te) (@T4.n AV yy4 te te te te)) (@T4.n AV yy4 (@T4.n AV yy4 (@T4.n AV yy4 te te te te) te te te) (@T4.n AV yy4 (@T4.n AV yy4 te te te te) te te te) (@T4.n AV yy4 (@T4.n AV yy4 te te te te) te te te) (@T4.n AV yy4 te te te te))) (@T4.n AV (AV.i .i64 n4) (@T4.n AV yy4 (@T4.n AV yy4 (@T4.n AV yy4 te te te te) te te te) (@T4.n AV yy4 (@T4.n AV yy4 te te te te) te te te) (@T4.n AV yy4 (@T4.n AV yy4 te te te te) te te te) (@T4.n AV yy4 te te te te)) (@T4.n AV yy4 (@T4.n AV yy4 (@T4.n AV yy4 te te te te) te te te) (@T4.n AV yy4 (@T4.n AV yy4 te te te te) te te te) (@T4.n AV yy4 (@T4.n AV yy4 te te te te) te te te) (@T4.n AV yy4 te te te te)) (@T4.n AV yy4 (@T4.n AV yy4 (@T4.n AV yy4 te te te te) te te te) (@T4.n AV yy4 (@T4.n AV yy4 te te te te) te te te) (@T4.n AV yy4 (@T4.n AV yy4 te te te te) te te te) (@T4.n AV yy4 te te te te)) (@T4.n AV yy4 (@T4.n AV yy4 (@T4.n AV yy4 te te te te) te te te) (@T4.n AV yy4 (@T4.n AV yy4 te te te te) te te te) (@T4.n AV yy4 (@T4.n AV yy4 te te te te) te te te) (@T4.n AV yy4 te te te te))) (@T4.n AV (AV.i .i64 n5) (@T4.n AV yy4 (@T4.n AV yy4 (@T4.n AV yy4 te te te te) te te te) (@T4.n AV yy4 (@T4.n AV yy4 te te te te) te te te) (@T4.n AV yy4 (@T4.n AV yy4 te te te te) te te te) (@T4.n AV yy4 te te te te)) (@T4.n AV yy4 (@T4.n AV yy4 (@T4.n AV yy4 te te te te) te te te) (@T4.n AV yy4 (@T4.n AV yy4 te te te te) te te te) (@T4.n AV yy4 (@T4.n AV yy4 te te te te) te te te) (@T4.n AV yy4 te te te te)) (@T4.n AV yy4 (@T4.n AV yy4 (@T4.n AV yy4 te te te te) te te te) (@T4.n AV yy4 (@T4.n AV yy4 te te te te) te te te) (@T4.n AV yy4 (@T4.n AV yy4 te te te te) te te te) (@T4.n AV yy4 te te te te)) (@T4.n AV yy4 (@T4.n AV yy4 (@T4.n AV yy4 te te te te) te te te) (@T4.n AV yy4 (@T4.n AV yy4 te te te te) te te te) (@T4.n AV yy4 (@T4.n AV yy4 te te te te) te te te) (@T4.n AV yy4 te te te te)))) nn133 nn0 fun b1 H2 => lpR (failF [(36 , .int .i64)]) (fun Kb2 => fun d1 H3 => onV d1 fun v1 => isI .i64 v1 fun n6 => frcB (ilt n6 ii16) fun t1 => br t1 (c1 [(DV.v (AV.p (AP.at b1 nn0))), (DV.v (AV.i .i64 n6))] H3 fun d2 H4 => wrp .i64 (iadd n6 ii1) fun n7 => Kb2 (DV.v (AV.i .i64 n7)) H4) (Kb1 (DV.c (DV.v (AV.p (AP.at b1 nn0))) (DV.c (DV.v AV.ni) DV.n)) H3)) (nat_lit 100000) (DV.v (AV.i .i64 ii0)) H2
def g27x2 := onV d1 fun v1 => isB v1 fun t1 => jn (fun d2 H2 => jn (fun d3 H3 => pickK t1 (DV.v (AV.b true)) d3 fun d4 => onV d4 fun v2 => isB v2 fun t2 => br t2 (Kb1 (DV.c (DV.v (AV.p AP.nil)) (DV.c (DV.v (AV.er (nat_lit 2))) DV.n)) H3) (g27x1 n1 n2 n3 n4 n5 H3 c1 Kb1)) fun Kb2 => br t1 (Kb2 DV.n H2) (onV d2 fun v2 => isI .i64 v2 fun n6 => frcB (ilt ii1048576 n6) fun t2 => Kb2 (DV.v (AV.b t2)) H2)) fun Kb2 => br t1 (Kb2 DV.n H1) (Kb2 (DV.v (AV.i .i64 n5)) H1)
def g27x3 := jn (fun d2 H2 => pickK t1 (DV.v (AV.b true)) d2 fun d3 => onV d3 fun v1 => isB v1 fun t2 => jn (fun d4 H3 => jn (fun d5 H4 => pickK t2 (DV.v (AV.b true)) d5 fun d6 => g27x2 d6 n1 n2 n3 n4 n5 H4 c1 Kb1) fun Kb2 => br t2 (Kb2 DV.n H3) (onV d4 fun v2 => isI .i64 v2 fun n6 => frcB (ilt n6 ii1) fun t3 => Kb2 (DV.v (AV.b t3)) H3)) fun Kb2 => br t2 (Kb2 DV.n H2) (Kb2 (DV.v (AV.i .i64 n5)) H2)) fun Kb2 => br t1 (Kb2 DV.n H1) (onV d1 fun v1 => isI .i64 v1 fun n6 => frcB (ilt ii512 n6) fun t2 => Kb2 (DV.v (AV.b t2)) H1)
def g27x4 := isI .u32 v1 fun n1 => lc R1 fun d1 R2 => onV d1 fun v2 => isI .i64 v2 fun n2 => lc R2 fun d2 R3 => onV d2 fun v3 => isI .i64 v3 fun n3 => lc R3 fun d3 R4 => onV d3 fun v4 => isI .i64 v4 fun n4 => lc R4 fun d4 R5 => onV d4 fun v5 => isI .i64 v5 fun n5 => ln R5 <| frcB (ilt n4 ii1) fun t1 => jn (fun d5 H2 => g27x3 d5 n1 n2 n3 n4 n5 t1 H2 c1 Kb1) fun Kb2 => br t1 (Kb2 DV.n H1) (Kb2 (DV.v (AV.i .i64 n4)) H1)
/-- pool.New -/
def g27 : G DV := fun R1 H1 Kb1 => lc R1 fun d1 R2 => onV d1 fun v1 => g27x4 v1 R2 H1 c1 Kb1
def G27 : G DV := g27 G56

def g57x1 := jn (fun d2 H2 => pickK t1 (DV.v (AV.b true)) d2 fun d3 => onV d3 fun v1 => isB v1 fun t2 => br t2 (Kb1 (DV.c (DV.v (AV.p AP.nil)) (DV.c (DV.v (AV.er (nat_lit 2))) DV.n)) H2) (alB H2 (@T4.n AV (AV.i .i64 n1) (@T4.n AV (AV.i .i64 n1) te te te te) (@T4.n AV (AV.i .i64 n2) te te te te) (@T4.n AV yy3 te te te te) te) nn4 nn0 fun b1 H3 => Kb1 (DV.c (DV.v (AV.p (AP.at b1 nn0))) (DV.c (DV.v AV.ni) DV.n)) H3)) fun Kb2 => br t1 (Kb2 DV.n H1) (onV d1 fun v1 => isI .i64 v1 fun n3 => frcB (ilt ii64 n3) fun t2 => Kb2 (DV.v (AV.b t2)) H1)
def g57x2 := onV d1 fun v1 => isB v1 fun t1 => jn (fun d2 H2 => jn (fun d3 H3 => pickK t1 (DV.v (AV.b true)) d3 fun d4 => onV d4 fun v2 => isB v2 fun t2 => jn (fun d5 H4 => g57x1 d5 n1 n2 t2 H4 Kb1) fun Kb2 => br t2 (Kb2 DV.n H3) (Kb2 (DV.v (AV.i .i64 n2)) H3)) fun Kb2 => br t1 (Kb2 DV.n H2) (onV d2 fun v2 => isI .i64 v2 fun n3 => frcB (ilt n3 ii1) fun t2 => Kb2 (DV.v (AV.b t2)) H2)) fun Kb2 => br t1 (Kb2 DV.n H1) (Kb2 (DV.v (AV.i .i64 n2)) H1)
def g57x3 := lc R1 fun d1 R2 => onV d1 fun v1 => isI .i64 v1 fun n1 => lc R2 fun d2 R3 => onV d2 fun v2 => isI .i64 v2 fun n2 => ln R3 <| frcB (ilt n1 ii0) fun t1 => jn (fun d3 H2 => jn (fun d4 H3 => pickK t1 (DV.v (AV.b true)) d4 fun d5 => g57x2 d5 n1 n2 H3 Kb1) fun Kb2 => br t1 (Kb2 DV.n H2) (onV d3 fun v3 => isI .i64 v3 fun n3 => frcB (ile ii4096 n3) fun t2 => Kb2 (DV.v (AV.b t2)) H2)) fun Kb2 => br t1 (Kb2 DV.n H1) (Kb2 (DV.v (AV.i .i64 n1)) H1)
/-- win.New -/
def g57 : G DV := fun R1 H1 Kb1 => g57x3 R1 H1 Kb1
def G57 : G DV := g57

def g28x1 := br t1 (Kb1 (DV.c (DV.v (AV.p AP.nil)) (DV.c (DV.v v1) DV.n)) H1) (alB H1 (@T4.n AV (AV.p p1) (@T4.n AV (AV.i .i64 n1) (@T4.n AV yy0 te te te te) te te te) (@T4.n AV (AV.i .i64 n2) (@T4.n AV yy3 te te te te) te te te) (@T4.n AV (AV.i .i64 n3) (@T4.n AV yy2 te te te te) te te te) (@T4.n AV yy5 (@T4.n AV yy0 te te te te) te te te)) nn9 nn0 fun b1 H2 => Kb1 (DV.c (DV.v (AV.p (AP.at b1 nn0))) (DV.c (DV.v AV.ni) DV.n)) H2)
def g28x2 := jn (fun d2 H2 => pickK t1 (DV.v (AV.b true)) d2 fun d3 => onV d3 fun v1 => isB v1 fun t2 => br t2 (Kb1 (DV.c (DV.v (AV.p AP.nil)) (DV.c (DV.v (AV.er (nat_lit 2))) DV.n)) H2) (c1 [(DV.v (AV.i .i64 ii0)), (DV.v (AV.i .i64 ii1))] H2 fun d4 H3 => onC d4 fun d5 d6 => onV d5 fun v2 => isP v2 fun p1 => onC d6 fun d7 d8 => onV d7 fun v3 => onN d8 <| ifA true true v3 AV.ni fun t3 => frcB (bnot t3) fun t4 => g28x1 v3 n1 n2 n3 t4 p1 H3 Kb1)) fun Kb2 => br t1 (Kb2 DV.n H1) (onV d1 fun v1 => isI .i64 v1 fun n4 => frcB (ilt ii1099511627776 n4) fun t2 => Kb2 (DV.v (AV.b t2)) H1)
def g28x3 := isB v1 fun t1 => jn (fun d1 H2 => jn (fun d2 H3 => pickK t1 (DV.v (AV.b true)) d2 fun d3 => onV d3 fun v2 => isB v2 fun t2 => jn (fun d4 H4 => g28x2 d4 n1 n2 n3 t2 H4 c1 Kb1) fun Kb2 => br t2 (Kb2 DV.n H3) (Kb2 (DV.v (AV.i .i64 n3)) H3)) fun Kb2 => br t1 (Kb2 DV.n H2) (onV d1 fun v2 => isI .i64 v2 fun n4 => frcB (ilt n4 ii1) fun t2 => Kb2 (DV.v (AV.b t2)) H2)) fun Kb2 => br t1 (Kb2 DV.n H1) (Kb2 (DV.v (AV.i .i64 n3)) H1)
def g28x4 := jn (fun d2 H2 => pickK t1 (DV.v (AV.b true)) d2 fun d3 => onV d3 fun v1 => isB v1 fun t2 => jn (fun d4 H3 => jn (fun d5 H4 => pickK t2 (DV.v (AV.b true)) d5 fun d6 => onV d6 fun v2 => g28x3 v2 n1 n2 n3 H4 c1 Kb1) fun Kb2 => br t2 (Kb2 DV.n H3) (onV d4 fun v2 => isI .i64 v2 fun n4 => frcB (ilt ii15 n4) fun t3 => Kb2 (DV.v (AV.b t3)) H3)) fun Kb2 => br t2 (Kb2 DV.n H2) (Kb2 (DV.v (AV.i .i64 n2)) H2)) fun Kb2 => br t1 (Kb2 DV.n H1) (onV d1 fun v1 => isI .i64 v1 fun n4 => frcB (ilt n4 ii0) fun t2 => Kb2 (DV.v (AV.b t2)) H1)
def g28x5 := frcB (ilt n1 ii1) fun t1 => jn (fun d1 H2 => jn (fun d2 H3 => pickK t1 (DV.v (AV.b true)) d2 fun d3 => onV d3 fun v1 => isB v1 fun t2 => jn (fun d4 H4 => g28x4 d4 n1 n2 n3 t2 H4 c1 Kb1) fun Kb2 => br t2 (Kb2 DV.n H3) (Kb2 (DV.v (AV.i .i64 n2)) H3)) fun Kb2 => br t1 (Kb2 DV.n H2) (onV d1 fun v1 => isI .i64 v1 fun n4 => frcB (ilt ii64 n4) fun t2 => Kb2 (DV.v (AV.b t2)) H2)) fun Kb2 => br t1 (Kb2 DV.n H1) (Kb2 (DV.v (AV.i .i64 n1)) H1)
/-- ba.New -/
def g28 : G DV := fun R1 H1 Kb1 => lc R1 fun d1 R2 => onV d1 fun v1 => isI .i64 v1 fun n1 => lc R2 fun d2 R3 => onV d2 fun v2 => isI .i64 v2 fun n2 => lc R3 fun d3 R4 => onV d3 fun v3 => isI .i64 v3 fun n3 => ln R4 <| g28x5 n1 n2 n3 H1 c1 Kb1
def G28 : G DV := g28 G57

/-- aql.fair -/
def g58 : G DV := fun R1 H1 Kb1 => lc R1 fun d1 R2 => onV d1 fun v1 => isI .i64 v1 fun n1 => ln R2 <| frcB (ile ii0 n1) fun t1 => jn (fun d2 H2 => jn (fun d3 H3 => pickK t1 d3 (DV.v (AV.b false)) fun d4 => onV d4 fun v2 => isB v2 fun t2 => Kb1 (DV.v (AV.b t2)) H3) fun Kb2 => br t1 (onV d2 fun v2 => isI .i64 v2 fun n2 => frcB (ile n2 ii1099511627776) fun t2 => Kb2 (DV.v (AV.b t2)) H2) (Kb2 DV.n H2)) fun Kb2 => br t1 (Kb2 (DV.v (AV.i .i64 n1)) H1) (Kb2 DV.n H1)
def G58 : G DV := g58

def g29x1 := alB H1 (@T4.n AV (AV.i .i64 n1) (@T4.n AV (AV.i .i64 n2) (@T4.n AV yy0 te te te te) (@T4.n AV yy0 te te te te) (@T4.n AV yy0 te te te te) (@T4.n AV yy0 te te te te)) (@T4.n AV yy0 (@T4.n AV yy0 te te te te) (@T4.n AV yy0 te te te te) (@T4.n AV yy0 te te te te) te) (@T4.n AV yy0 (@T4.n AV yy0 te te te te) (@T4.n AV yy0 te te te te) (@T4.n AV yy0 te te te te) te) (@T4.n AV yy0 (@T4.n AV yy0 te te te te) (@T4.n AV yy0 te te te te) (@T4.n AV yy0 te te te te) te)) nn18 nn0 fun b1 H2 => Kb1 (DV.c (DV.v (AV.p (AP.at b1 nn0))) (DV.c (DV.v AV.ni) DV.n)) H2
def g29x2 := jn (fun d2 H2 => jn (fun d3 H3 => pickK t1 (DV.v (AV.b true)) d3 fun d4 => onV d4 fun v1 => isB v1 fun t2 => br t2 (Kb1 (DV.c (DV.v (AV.p AP.nil)) (DV.c (DV.v (AV.er (nat_lit 2))) DV.n)) H3) (g29x1 n1 n2 H3 Kb1)) fun Kb2 => br t1 (Kb2 DV.n H2) (onV d2 fun v1 => isB v1 fun t2 => frcB (bnot t2) fun t3 => Kb2 (DV.v (AV.b t3)) H2)) fun Kb2 => br t1 (Kb2 DV.n H1) (c1 [d1] H1 fun d2 H2 => onV d2 fun v1 => isB v1 fun t2 => Kb2 (DV.v (AV.b t2)) H2)
/-- aql.New -/
def g29 : G DV := fun R1 H1 Kb1 => lc R1 fun d1 R2 => onV d1 fun v1 => isI .i64 v1 fun n1 => lc R2 fun d2 R3 => onV d2 fun v2 => isI .i64 v2 fun n2 => ln R3 <| c1 [(DV.v (AV.i .i64 n1))] H1 fun d3 H2 => onV d3 fun v3 => isB v3 fun t1 => frcB (bnot t1) fun t2 => jn (fun d4 H3 => g29x2 d4 n1 n2 t2 H3 c1 Kb1) fun Kb2 => br t2 (Kb2 DV.n H2) (Kb2 (DV.v (AV.i .i64 n2)) H2)
def G29 : G DV := g29 G58

/-- ap.New$1 -/
def g30 : G DV := fun R1 H1 Kb1 => lc R1 fun d1 R2 => onV d1 fun v1 => isI .i64 v1 fun n1 => ln R2 <| frcB (ilt n1 ii0) fun t1 => jn (fun d2 H2 => jn (fun d3 H3 => pickK t1 (DV.v (AV.b true)) d3 fun d4 => onV d4 fun v2 => isB v2 fun t2 => Kb1 (DV.v (AV.b t2)) H3) fun Kb2 => br t1 (Kb2 DV.n H2) (onV d2 fun v2 => isI .i64 v2 fun n2 => frcB (ilt ii54840 n2) fun t2 => Kb2 (DV.v (AV.b t2)) H2)) fun Kb2 => br t1 (Kb2 DV.n H1) (Kb2 (DV.v (AV.i .i64 n1)) H1)
def G30 : G DV := g30

def g59x1 := frcB (ilt n1 (Int.ofNat m1)) fun t1 => br t1 (ixA s1 n1 (fun x => x) fun b1 m2 => rdK H1 b1 m2 fun v1 => isI .i64 v1 fun n2 => onV d1 fun v2 => fnK v2 fun m3 L1 L2 => lookD [((nat_lit 30) , c1)] m3 (appA (mapP L1) (appA [(DV.v (AV.i .i64 n2))] (mapP L2))) H1 fun d2 H2 => onV d2 fun v3 => isB v3 fun t2 => br t2 (Kb1 (DV.v (AV.i .i64 n1)) H2) (wrp .i64 (iadd n1 ii1) fun n3 => Kb2 (DV.v (AV.i .i64 n3)) H2)) (Kb1 (DV.v (AV.i .i64 im1)) H1)
/-- slices.IndexFunc[[]int64,int64] -/
def g59 : G DV := fun R1 H1 Kb1 => lc R1 fun d1 R2 => onV d1 fun v1 => isS v1 fun s1 => lc R2 fun d2 R3 => ln R3 <| lenA s1 fun m1 => lpR (failF [(8 , .int .i64)]) (fun Kb2 => fun d3 H2 => onV d3 fun v2 => isI .i64 v2 fun n1 => g59x1 d2 n1 m1 s1 H2 c1 Kb1 Kb2) (nat_lit 100000) (DV.v (AV.i .i64 ii0)) H1
def G59 : G DV := g59 G30

/-- slices.ContainsFunc[[]int64,int64] -/
def g31 : G DV := fun R1 H1 Kb1 => lc R1 fun d1 R2 => onV d1 fun v1 => isS v1 fun s1 => lc R2 fun d2 R3 => ln R3 <| c1 [(DV.v (AV.s s1)), d2] H1 fun d3 H2 => onV d3 fun v2 => isI .i64 v2 fun n1 => frcB (ile ii0 n1) fun t1 => Kb1 (DV.v (AV.b t1)) H2
def G31 : G DV := g31 G59

def z0 : List AV := [(AV.i .u8 ii0), (AV.i .u8 ii0), (AV.i .u8 ii0), (AV.i .u8 ii0), (AV.i .u8 ii0), (AV.i .u8 ii0)]
def g32x1 := jn (fun d1 H2 => jn (fun d2 H3 => jn (fun d3 H4 => pickK t1 d3 (DV.v (AV.b false)) fun d4 => onV d4 fun v1 => isB v1 fun t2 => Kb1 (DV.v (AV.b t2)) H4) fun Kb2 => br t1 (onL d1 fun l1 => onL d2 fun l2 => intsK .u8 l1 fun x1 => intsK .u8 l2 fun x2 => must (Nat.beq (leni x1) nn6) <| must (Nat.beq (leni x2) nn6) <| frcB (bnot (leqI x1 x2)) fun t2 => Kb2 (DV.v (AV.b t2)) H3) (Kb2 DV.n H3)) fun Kb2 => br t1 (Kb2 (DV.a z0) H2) (Kb2 DV.n H2)) fun Kb2 => br t1 (rdR H1 b1 nn0 nn6 fun l1 => Kb2 (DV.a l1) H1) (Kb2 DV.n H1)
/-- sta.Fair -/
def g32 : G DV := fun R1 H1 Kb1 => lc R1 fun d1 R2 => ln R2 <| cellsD d1 fun l1 => alK H1 l1 fun b1 H2 => rdK H2 b1 nn0 fun v1 => isI .u8 v1 fun n1 => asI (bits .and .u8 n1 ii1) fun n2 => frcB (ieq n2 ii0) fun t1 => g32x1 t1 b1 H2 Kb1
def G32 : G DV := g32

def g33x1 := alB H1 (@T4.n AV yy4 (@T4.n AV yy4 (@T4.n AV yy4 te te te te) (@T4.n AV yy4 te te te te) (@T4.n AV yy4 te te te te) te) (@T4.n AV yy4 (@T4.n AV yy4 te te te te) (@T4.n AV yy4 te te te te) (@T4.n AV yy4 te te te te) te) (@T4.n AV yy4 (@T4.n AV yy4 te te te te) (@T4.n AV yy4 te te te te) (@T4.n AV yy4 te te te te) te) (@T4.n AV yy4 (@T4.n AV yy4 te te te te) (@T4.n AV yy4 te te te te) (@T4.n AV (AV.p (AP.at b1 nn0)) te te te te) te)) nn17 nn0 fun b2 H2 => Kb1 (DV.v (AV.p (AP.at b2 nn0))) H2
/-- sched.New -/
def g33 : G DV := fun R1 H1 Kb1 => ln R1 <| alB H1 (@T4.n AV yy3 te te te te) nn1 nn0 fun b1 H2 => g33x1 b1 H2 Kb1
def G33 : G DV := g33

def g15x1 := alK H1 (lapp l1 ((AV.i .i64 ii0) :: ((AV.b false) :: ((AV.i .u8 ii0) :: ((AV.i .u8 ii0) :: ((AV.i .u8 ii0) :: ((AV.i .u8 ii0) :: ((AV.i .u8 ii0) :: ((AV.i .u8 ii0) :: ((AV.i .i64 ii0) :: ((AV.b false) :: ((AV.i .u8 ii0) :: ((AV.i .u8 ii0) :: ((AV.i .u8 ii0) :: ((AV.i .u8 ii0) :: ((AV.i .u8 ii0) :: ((AV.i .u8 ii0) :: ((AV.i .i64 ii0) :: ((AV.b false) :: ((AV.i .u8 ii0) :: ((AV.i .u8 ii0) :: ((AV.i .u8 ii0) :: ((AV.i .u8 ii0) :: ((AV.i .u8 ii0) :: ((AV.i .u8 ii0) :: ((AV.i .i64 ii0) :: ((AV.b false) :: ((AV.i .u8 ii0) :: ((AV.i .u8 ii0) :: ((AV.i .u8 ii0) :: ((AV.i .u8 ii0) :: ((AV.i .u8 ii0) :: ((AV.i .u8 ii0) :: ((AV.i .i64 ii0) :: ((AV.b false) :: ((AV.i .u8 ii0) :: ((AV.i .u8 ii0) :: ((AV.i .u8 ii0) :: ((AV.i .u8 ii0) :: ((AV.i .u8 ii0) :: ((AV.i .u8 ii0) :: ((AV.i .i64 ii0) :: ((AV.b false) :: ((AV.i .u8 ii0) :: ((AV.i .u8 ii0) :: ((AV.i .u8 ii0) :: ((AV.i .u8 ii0) :: ((AV.i .u8 ii0) :: ((AV.i .u8 ii0) :: ((AV.i .i64 ii0) :: ((AV.b false) :: ((AV.i .u8 ii0) :: ((AV.i .u8 ii0) :: ((AV.i .u8 ii0) :: ((AV.i .u8 ii0) :: ((AV.i .u8 ii0) :: ((AV.i .u8 ii0) :: ((AV.i .i64 ii0) :: ((AV.b false) :: ((AV.i .u8 ii0) :: ((AV.i .u8 ii0) :: ((AV.i .u8 ii0) :: ((AV.i .u8 ii0) :: ((AV.i .u8 ii0) :: ((AV.i .u8 ii0) :: ((AV.i .i64 ii0) :: ((AV.b false) :: ((AV.i .u8 ii0) :: ((AV.i .u8 ii0) :: ((AV.i .u8 ii0) :: ((AV.i .u8 ii0) :: ((AV.i .u8 ii0) :: ((AV.i .u8 ii0) :: ((AV.i .i64 ii0) :: ((AV.b false) :: ((AV.i .u8 ii0) :: ((AV.i .u8 ii0) :: ((AV.i .u8 ii0) :: ((AV.i .u8 ii0) :: ((AV.i .u8 ii0) :: ((AV.i .u8 ii0) :: ((AV.i .i64 ii0) :: ((AV.b false) :: ((AV.i .u8 ii0) :: ((AV.i .u8 ii0) :: ((AV.i .u8 ii0) :: ((AV.i .u8 ii0) :: ((AV.i .u8 ii0) :: ((AV.i .u8 ii0) :: ((AV.i .i64 ii0) :: ((AV.b false) :: ((AV.i .u8 ii0) :: ((AV.i .u8 ii0) :: ((AV.i .u8 ii0) :: ((AV.i .u8 ii0) :: ((AV.i .u8 ii0) :: ((AV.i .u8 ii0) :: ((AV.i .i64 ii0) :: ((AV.b false) :: ((AV.i .u8 ii0) :: ((AV.i .u8 ii0) :: ((AV.i .u8 ii0) :: ((AV.i .u8 ii0) :: ((AV.i .u8 ii0) :: ((AV.i .u8 ii0) :: ((AV.i .i64 ii0) :: ((AV.b false) :: ((AV.i .u8 ii0) :: ((AV.i .u8 ii0) :: ((AV.i .u8 ii0) :: ((AV.i .u8 ii0) :: ((AV.i .u8 ii0) :: ((AV.i .u8 ii0) :: ((AV.i .i64 ii0) :: ((AV.b false) :: ((AV.i .u8 ii0) :: ((AV.i .u8 ii0) :: ((AV.i .u8 ii0) :: ((AV.i .u8 ii0) :: ((AV.i .u8 ii0) :: ((AV.i .u8 ii0) :: ((AV.i .i64 ii0) :: ((AV.b false) :: ((AV.i .u8 ii0) :: ((AV.i .u8 ii0) :: ((AV.i .u8 ii0) :: ((AV.i .u8 ii0) :: ((AV.i .u8 ii0) :: ((AV.i .u8 ii0) :: ((AV.i .i64 ii0) :: ((AV.b false) :: ((AV.b false) :: ((AV.b false) :: ((AV.b false) :: ((AV.b false) :: ((AV.b false) :: ((AV.b false) :: ((AV.b false) :: ((AV.i .i64 ii0) :: ((AV.i .i64 ii0) :: ((AV.b false) :: ((AV.b false) :: ((AV.b false) :: ((AV.b false) :: ((AV.b false) :: ((AV.b false) :: ((AV.b false) :: ((AV.b false) :: ((AV.i .i64 ii0) :: ((AV.i .i64 ii0) :: ((AV.b false) :: ((AV.b false) :: ((AV.b false) :: ((AV.b false) :: ((AV.b false) :: ((AV.b false) :: ((AV.b false) :: ((AV.b false) :: ((AV.i .i64 ii0) :: ((AV.i .i64 ii0) :: ((AV.b false) :: ((AV.b false) :: ((AV.b false) :: ((AV.b false) :: ((AV.b false) :: ((AV.b false) :: ((AV.b false) :: ((AV.b false) :: ((AV.i .i64 ii0) :: ((AV.i .i64 ii0) :: ((AV.b false) :: ((AV.b false) :: ((AV.b false) :: ((AV.b false) :: ((AV.b false) :: ((AV.b false) :: ((AV.b false) :: ((AV.b false) :: ((AV.i .i64 ii0) :: ((AV.i .i64 ii0) :: ((AV.b false) :: ((AV.b false) :: ((AV.b false) :: ((AV.b false) :: ((AV.b false) :: ((AV.b false) :: ((AV.b false) :: ((AV.b false) :: ((AV.i .i64 ii0) :: ((AV.i .i64 ii0) :: ((AV.b false) :: ((AV.b false) :: ((AV.b false) :: ((AV.b false) :: ((AV.b false) :: ((AV.b false) :: ((AV.b false) :: ((AV.b false) :: ((AV.i .i64 ii0) :: ((AV.i .i64 ii0) :: ((AV.b false) :: ((AV.b false) :: ((AV.b false) :: ((AV.b false) :: ((AV.b false) :: ((AV.b false) :: ((AV.b false) :: ((AV.b false) :: ((AV.i .i64 ii0) :: ((AV.i .i64 ii0) :: ((AV.b false) :: ((AV.b false) :: ((AV.b false) :: ((AV.b false) :: ((AV.b false) :: ((AV.b false) :: ((AV.b false) :: ((AV.b false) :: ((AV.i .i64 ii0) :: ((AV.i .i64 ii0) :: ((AV.b false) :: ((AV.b false) :: ((AV.b false) :: ((AV.b false) :: ((AV.b false) :: ((AV.b false) :: ((AV.b false) :: ((AV.b false) :: ((AV.i .i64 ii0) :: ((AV.i .i64 ii0) :: ((AV.b false) :: ((AV.b false) :: ((AV.b false) :: ((AV.b false) :: ((AV.b false) :: ((AV.b false) :: ((AV.b false) :: ((AV.b false) :: ((AV.i .i64 ii0) :: ((AV.i .i64 ii0) :: ((AV.b false) :: ((AV.b false) :: ((AV.b false) :: ((AV.b false) :: ((AV.b false) :: ((AV.b false) :: ((AV.b false) :: ((AV.b false) :: ((AV.i .i64 ii0) :: ((AV.i .i64 ii0) :: ((AV.b false) :: ((AV.b false) :: ((AV.b false) :: ((AV.b false) :: ((AV.b false) :: ((AV.b false) :: ((AV.b false) :: ((AV.b false) :: ((AV.i .i64 ii0) :: ((AV.i .i64 ii0) :: ((AV.b false) :: ((AV.b false) :: ((AV.b false) :: ((AV.b false) :: ((AV.b false) :: ((AV.b false) :: ((AV.b false) :: ((AV.b false) :: ((AV.i .i64 ii0) :: ((AV.i .i64 ii0) :: ((AV.b false) :: ((AV.b false) :: ((AV.b false) :: ((AV.b false) :: ((AV.b false) :: ((AV.b false) :: ((AV.b false) :: ((AV.b false) :: ((AV.i .i64 ii0) :: ((AV.i .i64 ii0) :: ((AV.b false) :: ((AV.b false) :: ((AV.b false) :: ((AV.b false) :: ((AV.b false) :: ((AV.b false) :: ((AV.b false) :: ((AV.b false) :: ((AV.i .i64 ii0) :: ((AV.i .i64 ii0) :: ((AV.s AS.nil) :: ((AV.p p1) :: ((AV.p p2) :: ((AV.p AP.nil) :: ((AV.p AP.nil) :: ((AV.p AP.nil) :: ((AV.p AP.nil) :: ((AV.b false) :: ((AV.i .i64 ii0) :: ((AV.i .i64 ii0) :: ((AV.b false) :: ((AV.i .i64 ii0) :: ((AV.i .i64 ii0) :: ((AV.b false) :: ((AV.i .i64 ii0) :: ((AV.i .i64 ii0) :: ((AV.b false) :: ((AV.i .i64 ii0) :: ((AV.i .i64 ii0) :: ((AV.p AP.nil) :: ((AV.p AP.nil) :: ((AV.p AP.nil) :: ((AV.p AP.nil) :: ((AV.p AP.nil) :: ((AV.p AP.nil) :: ((AV.p AP.nil) :: ((AV.p AP.nil) :: ((AV.p AP.nil) :: ((AV.p AP.nil) :: ((AV.p AP.nil) :: ((AV.p AP.nil) :: ((AV.p AP.nil) :: ((AV.p AP.nil) :: ((AV.p AP.nil) :: ((AV.p AP.nil) :: ((AV.i .i64 ii0) :: ((AV.s AS.nil) :: []))))))))))))))))))))))))))))))))))))))))))))))))))))))))))))))))))))))))))))))))))))))))))))))))))))))))))))))))))))))))))))))))))))))))))))))))))))))))))))))))))))))))))))))))))))))))))))))))))))))))))))))))))))))))))))))))))))))))))))))))))))))))))))))))))))))))))))))))))))))))))))))))))))))))))))))))))))))))))))))))))))))) fun b1 H2 => lpR (failF [(99 , .int .i64)]) (fun Kb2 => fun d1 H3 => onV d1 fun v1 => isI .i64 v1 fun n1 => frcB (ilt n1 ii4) fun t1 => br t1 (c1 [] H3 fun d2 H4 => onV d2 fun v2 => isP v2 fun p3 => rng n1 nn4 <| wrK H4 b1 (Nat.add nn313 (itn n1)) (AV.p p3) fun H5 => wrp .i64 (iadd n1 ii1) fun n2 => Kb2 (DV.v (AV.i .i64 n2)) H5) (Kb1 (DV.c (DV.v (AV.p (AP.at b1 nn0))) (DV.c (DV.v AV.ni) DV.n)) H3)) (nat_lit 100000) (DV.v (AV.i .i64 ii0)) H2
def g15x2 := jn (fun d2 H2 => jn (fun d3 H3 => pickK t1 (DV.v (AV.b true)) d3 fun d4 => onV d4 fun v1 => isB v1 fun t2 => br t2 (Kb1 (DV.c (DV.v (AV.p AP.nil)) (DV.c (DV.v (AV.er (nat_lit 2))) DV.n)) H3) (rdR H3 b1 nn0 nn21 fun l1 => must (Nat.beq (llen l1) nn21) <| g15x1 l1 p1 p2 H3 c1 Kb1)) fun Kb2 => br t1 (Kb2 DV.n H2) (onV d2 fun v1 => isB v1 fun t2 => frcB (bnot t2) fun t3 => Kb2 (DV.v (AV.b t3)) H2)) fun Kb2 => br t1 (Kb2 DV.n H1) (c2 [d1] H1 fun d2 H2 => onV d2 fun v1 => isB v1 fun t2 => Kb2 (DV.v (AV.b t2)) H2)
def g15x3 := jn (fun d3 H2 => pickK t1 (DV.v (AV.b true)) d3 fun d4 => onV d4 fun v1 => isB v1 fun t2 => jn (fun d5 H3 => jn (fun d6 H4 => g15x2 d6 t2 p1 p2 b1 H4 c1 c2 Kb1) fun Kb2 => br t2 (Kb2 DV.n H3) (onV d5 fun v2 => isP v2 fun p3 => onA p3 fun b2 m1 => rdR H3 b2 m1 nn6 fun l1 => Kb2 (DV.a l1) H3)) fun Kb2 => br t2 (Kb2 DV.n H2) (Kb2 (DV.v (AV.p (AP.at b1 nn0))) H2)) fun Kb2 => br t1 (Kb2 DV.n H1) (c3 [d1, d2] H1 fun d3 H2 => onV d3 fun v1 => isB v1 fun t2 => Kb2 (DV.v (AV.b t2)) H2)
def g15x4 := pickK t1 (DV.v (AV.b true)) d1 fun d2 => onV d2 fun v1 => isB v1 fun t2 => jn (fun d3 H2 => jn (fun d4 H3 => jn (fun d5 H4 => g15x3 d4 d5 t2 p1 p2 b1 H4 c1 c2 c3 Kb1) fun Kb2 => br t2 (Kb2 DV.n H3) (Kb2 (DV.v (AV.fn (nat_lit 30) [])) H3)) fun Kb2 => br t2 (Kb2 DV.n H2) (onV d3 fun v2 => isP v2 fun p3 => onA p3 fun b2 m1 => Kb2 (DV.v (AV.s (AS.sl b2 m1 nn4 nn4))) H2)) fun Kb2 => br t2 (Kb2 DV.n H1) (Kb2 (DV.v (AV.p (AP.at b1 nn15))) H1)
def g15x5 := jn (fun d1 H2 => jn (fun d2 H3 => jn (fun d3 H4 => g15x4 d3 t1 p1 p2 b1 H4 c1 c2 c3 Kb1) fun Kb2 => br t1 (Kb2 DV.n H3) (onV d2 fun v1 => isI .i64 v1 fun n1 => frcB (ilt ii65535 n1) fun t2 => Kb2 (DV.v (AV.b t2)) H3)) fun Kb2 => br t1 (Kb2 DV.n H2) (onV d1 fun v1 => isP v1 fun p3 => onA p3 fun b2 m1 => rdK H2 b2 m1 fun v2 => isI .i64 v2 fun n1 => Kb2 (DV.v (AV.i .i64 n1)) H2)) fun Kb2 => br t1 (Kb2 DV.n H1) (Kb2 (DV.v (AV.p (AP.at b1 nn14))) H1)
def g15x6 := jn (fun d2 H2 => jn (fun d3 H3 => pickK t1 (DV.v (AV.b true)) d3 fun d4 => onV d4 fun v1 => isB v1 fun t2 => g15x5 t2 p1 p2 b1 H3 c1 c2 c3 Kb1) fun Kb2 => br t1 (Kb2 DV.n H2) (onV d2 fun v1 => isI .i64 v1 fun n1 => frcB (ilt n1 ii1) fun t2 => Kb2 (DV.v (AV.b t2)) H2)) fun Kb2 => br t1 (Kb2 DV.n H1) (onV d1 fun v1 => isP v1 fun p3 => onA p3 fun b2 m1 => rdK H1 b2 m1 fun v2 => isI .i64 v2 fun n1 => Kb2 (DV.v (AV.i .i64 n1)) H1)
def g15x7 := jn (fun d2 H2 => jn (fun d3 H3 => pickK t1 (DV.v (AV.b true)) d3 fun d4 => onV d4 fun v1 => isB v1 fun t2 => jn (fun d5 H4 => g15x6 d5 t2 p1 p2 b1 H4 c1 c2 c3 Kb1) fun Kb2 => br t2 (Kb2 DV.n H3) (Kb2 (DV.v (AV.p (AP.at b1 nn14))) H3)) fun Kb2 => br t1 (Kb2 DV.n H2) (onV d2 fun v1 => isI .i64 v1 fun n1 => frcB (ilt ii1073741824 n1) fun t2 => Kb2 (DV.v (AV.b t2)) H2)) fun Kb2 => br t1 (Kb2 DV.n H1) (onV d1 fun v1 => isP v1 fun p3 => onA p3 fun b2 m1 => rdK H1 b2 m1 fun v2 => isI .i64 v2 fun n1 => Kb2 (DV.v (AV.i .i64 n1)) H1)
def g15x8 := jn (fun d2 H2 => jn (fun d3 H3 => pickK t1 (DV.v (AV.b true)) d3 fun d4 => onV d4 fun v1 => isB v1 fun t2 => jn (fun d5 H4 => g15x7 d5 t2 p1 p2 b1 H4 c1 c2 c3 Kb1) fun Kb2 => br t2 (Kb2 DV.n H3) (Kb2 (DV.v (AV.p (AP.at b1 nn10))) H3)) fun Kb2 => br t1 (Kb2 DV.n H2) (onV d2 fun v1 => isI .i64 v1 fun n1 => frcB (ilt n1 ii0) fun t2 => Kb2 (DV.v (AV.b t2)) H2)) fun Kb2 => br t1 (Kb2 DV.n H1) (onV d1 fun v1 => isP v1 fun p3 => onA p3 fun b2 m1 => rdK H1 b2 m1 fun v2 => isI .i64 v2 fun n1 => Kb2 (DV.v (AV.i .i64 n1)) H1)
def g15x9 := jn (fun d2 H2 => jn (fun d3 H3 => pickK t1 (DV.v (AV.b true)) d3 fun d4 => onV d4 fun v1 => isB v1 fun t2 => jn (fun d5 H4 => g15x8 d5 t2 p1 p2 b1 H4 c1 c2 c3 Kb1) fun Kb2 => br t2 (Kb2 DV.n H3) (Kb2 (DV.v (AV.p (AP.at b1 nn10))) H3)) fun Kb2 => br t1 (Kb2 DV.n H2) (onV d2 fun v1 => isI .i64 v1 fun n1 => frcB (ilt ii1073741824 n1) fun t2 => Kb2 (DV.v (AV.b t2)) H2)) fun Kb2 => br t1 (Kb2 DV.n H1) (onV d1 fun v1 => isP v1 fun p3 => onA p3 fun b2 m1 => rdK H1 b2 m1 fun v2 => isI .i64 v2 fun n1 => Kb2 (DV.v (AV.i .i64 n1)) H1)
def g15x10 := onC d1 fun d2 d3 => onV d2 fun v1 => isP v1 fun p2 => onC d3 fun d4 d5 => onV d4 fun v2 => onN d5 <| ifA true true v2 AV.ni fun t1 => frcB (bnot t1) fun t2 => br t2 (Kb1 (DV.c (DV.v (AV.p AP.nil)) (DV.c (DV.v v2) DV.n)) H1) (rdK H1 b1 nn9 fun v3 => isI .i64 v3 fun n1 => frcB (ilt n1 ii0) fun t3 => jn (fun d6 H2 => g15x9 d6 t3 p1 p2 b1 H2 c1 c2 c3 Kb1) fun Kb2 => br t3 (Kb2 DV.n H1) (Kb2 (DV.v (AV.p (AP.at b1 nn9))) H1))
def g15x11 := onC d1 fun d2 d3 => onV d2 fun v1 => isP v1 fun p2 => onC d3 fun d4 d5 => onV d4 fun v2 => onN d5 <| ifA true true v2 AV.ni fun t1 => frcB (bnot t1) fun t2 => br t2 (Kb1 (DV.c (DV.v (AV.p AP.nil)) (DV.c (DV.v v2) DV.n)) H1) (rdK H1 b1 nn19 fun v3 => isI .i64 v3 fun n1 => rdK H1 b1 nn20 fun v4 => isI .i64 v4 fun n2 => c1 [(DV.v (AV.i .i64 n1)), (DV.v (AV.i .i64 n2))] H1 fun d6 H2 => g15x10 d6 p1 b1 H2 c2 c3 c4 Kb1)
def g15x12 := onV d1 fun v1 => onN d2 <| ifA true true v1 AV.ni fun t1 => frcB (bnot t1) fun t2 => br t2 (Kb1 (DV.c (DV.v (AV.p AP.nil)) (DV.c (DV.v v1) DV.n)) H1) (rdK H1 b1 nn11 fun v2 => isI .i64 v2 fun n1 => rdK H1 b1 nn12 fun v3 => isI .i64 v3 fun n2 => rdK H1 b1 nn13 fun v4 => isI .i64 v4 fun n3 => c1 [(DV.v (AV.i .i64 n1)), (DV.v (AV.i .i64 n2)), (DV.v (AV.i .i64 n3))] H1 fun d3 H2 => g15x11 d3 p1 b1 H2 c2 c3 c4 c5 Kb1)
def g15x13 := isI .i64 v1 fun n2 => rdK H1 b1 nn10 fun v2 => isI .i64 v2 fun n3 => rdK H1 b1 nn7 fun v3 => isI .i64 v3 fun n4 => rdK H1 b1 nn8 fun v4 => isI .i64 v4 fun n5 => c1 [(DV.v (AV.i .u32 n1)), (DV.v (AV.i .i64 n2)), (DV.v (AV.i .i64 n3)), (DV.v (AV.i .i64 n4)), (DV.v (AV.i .i64 n5))] H1 fun d1 H2 => onC d1 fun d2 d3 => onV d2 fun v5 => isP v5 fun p1 => onC d3 fun d4 d5 => g15x12 d4 d5 p1 b1 H2 c2 c3 c4 c5 c6 Kb1
/-- ap.New -/
def g15 : G DV := fun R1 H1 Kb1 => lc R1 fun d1 R2 => ln R2 <| cellsD d1 fun l1 => alK H1 l1 fun b1 H2 => rdK H2 b1 nn6 fun v1 => isI .u32 v1 fun n1 => rdK H2 b1 nn9 fun v2 => g15x13 v2 n1 b1 H2 c1 c2 c3 c6 c5 c4 Kb1
def G15 : G DV := g15 G27 G28 G29 G31 G32 G33

def z1 : List AV := [(AV.b false), (AV.i .i64 ii0), (AV.i .i64 ii0), (AV.i .i64 ii0), (AV.i .u64 ii0), (AV.mp AP.nil), (AV.b false), (AV.i .i64 ii0), (AV.b false), (AV.i .i64 ii0), (AV.i .i64 ii0), (AV.i .i64 ii0), (AV.i .u64 ii0), (AV.mp AP.nil), (AV.b false), (AV.i .i64 ii0), (AV.b false), (AV.i .i64 ii0), (AV.i .i64 ii0), (AV.i .i64 ii0), (AV.i .u64 ii0), (AV.mp AP.nil), (AV.b false), (AV.i .i64 ii0), (AV.b false), (AV.i .i64 ii0), (AV.i .i64 ii0), (AV.i .i64 ii0), (AV.i .u64 ii0), (AV.mp AP.nil), (AV.b false), (AV.i .i64 ii0), (AV.b false), (AV.i .i64 ii0), (AV.i .i64 ii0), (AV.i .i64 ii0), (AV.i .u64 ii0), (AV.mp AP.nil), (AV.b false), (AV.i .i64 ii0), (AV.b false), (AV.i .i64 ii0), (AV.i .i64 ii0), (AV.i .i64 ii0), (AV.i .u64 ii0), (AV.mp AP.nil), (AV.b false), (AV.i .i64 ii0), (AV.b false), (AV.i .i64 ii0), (AV.i .i64 ii0), (AV.i .i64 ii0), (AV.i .u64 ii0), (AV.mp AP.nil), (AV.b false), (AV.i .i64 ii0), (AV.b false), (AV.i .i64 ii0), (AV.i .i64 ii0), (AV.i .i64 ii0), (AV.i .u64 ii0), (AV.mp AP.nil), (AV.b false), (AV.i .i64 ii0)]
def g16x1 := jn (fun d2 H2 => pickK t1 (DV.v (AV.b true)) d2 fun d3 => onV d3 fun v1 => isB v1 fun t2 => br t2 (Kb1 (DV.c (DV.v (AV.p AP.nil)) (DV.c (DV.v (AV.er (nat_lit 2))) DV.n)) H2) (rdR H2 b1 nn0 nn6 fun l1 => rdR H2 b2 nn0 nn6 fun l2 => must (Nat.beq (llen l1) nn6) <| must (Nat.beq (llen l2) nn6) <| alK H2 (lapp l1 (lapp l2 ((AV.i .i64 n1) :: z1))) fun b3 H3 => Kb1 (DV.c (DV.v (AV.p (AP.at b3 nn0))) (DV.c (DV.v AV.ni) DV.n)) H3)) fun Kb2 => br t1 (Kb2 DV.n H1) (onV d1 fun v1 => isI .i64 v1 fun n2 => frcB (ilt ii64 n2) fun t2 => Kb2 (DV.v (AV.b t2)) H1)
/-- recv.New -/
def g16 : G DV := fun R1 H1 Kb1 => lc R1 fun d1 R2 => lc R2 fun d2 R3 => lc R3 fun d3 R4 => onV d3 fun v1 => isI .i64 v1 fun n1 => ln R4 <| cellsD d1 fun l1 => alK H1 l1 fun b1 H2 => cellsD d2 fun l2 => alK H2 l2 fun b2 H3 => frcB (ilt n1 ii1) fun t1 => jn (fun d4 H4 => g16x1 d4 n1 t1 b1 b2 H4 Kb1) fun Kb2 => br t1 (Kb2 DV.n H3) (Kb2 (DV.v (AV.i .i64 n1)) H3)
def G16 : G DV := g16

def z2 : T4 AV := (@T4.n AV yy6 (@T4.n AV yy6 (@T4.n AV yy6 te te te te) te te te) (@T4.n AV yy6 te te te te) (@T4.n AV yy6 te te te te) (@T4.n AV yy6 te te te te))
/-- lab.addr -/
def g17 : G DV := fun R1 H1 Kb1 => lc R1 fun d1 R2 => onV d1 fun v1 => isI .i64 v1 fun n1 => ln R2 <| alB H1 z2 nn6 nn0 fun b1 H2 => wrp .u8 n1 fun n2 => wrL H2 b1 nn0 [(AV.i .u8 ii2), (AV.i .u8 ii0), (AV.i .u8 ii0), (AV.i .u8 ii0), (AV.i .u8 ii0), (AV.i .u8 n2)] fun H3 => rdR H3 b1 nn0 nn6 fun l1 => Kb1 (DV.a l1) H3
def G17 : G DV := g17

def g7x1 := alK H1 (lapp l1 ((AV.i .i64 n1) :: ((AV.p p1) :: ((AV.i .i64 ii0) :: ((AV.i .i64 ii0) :: ((AV.p AP.nil) :: ((AV.s AS.nil) :: ((AV.s AS.nil) :: ((AV.i .i64 ii0) :: ((AV.p AP.nil) :: ((AV.s AS.nil) :: ((AV.s AS.nil) :: ((AV.i .i64 ii0) :: ((AV.p AP.nil) :: ((AV.s AS.nil) :: ((AV.s AS.nil) :: ((AV.i .i64 ii0) :: ((AV.p AP.nil) :: ((AV.s AS.nil) :: ((AV.s AS.nil) :: ((AV.i .i64 ii0) :: ((AV.p AP.nil) :: ((AV.s AS.nil) :: ((AV.s AS.nil) :: ((AV.i .i64 ii0) :: ((AV.p AP.nil) :: ((AV.s AS.nil) :: ((AV.s AS.nil) :: ((AV.i .i64 ii0) :: ((AV.p AP.nil) :: ((AV.s AS.nil) :: ((AV.s AS.nil) :: ((AV.i .i64 ii0) :: ((AV.p AP.nil) :: ((AV.s AS.nil) :: ((AV.s AS.nil) :: ((AV.i .i64 ii0) :: ((AV.p AP.nil) :: ((AV.s AS.nil) :: ((AV.s AS.nil) :: ((AV.i .i64 ii0) :: ((AV.p AP.nil) :: ((AV.s AS.nil) :: ((AV.s AS.nil) :: ((AV.i .i64 ii0) :: ((AV.p AP.nil) :: ((AV.s AS.nil) :: ((AV.s AS.nil) :: ((AV.i .i64 ii0) :: ((AV.p AP.nil) :: ((AV.s AS.nil) :: ((AV.s AS.nil) :: ((AV.i .i64 ii0) :: ((AV.p AP.nil) :: ((AV.s AS.nil) :: ((AV.s AS.nil) :: ((AV.i .i64 ii0) :: ((AV.p AP.nil) :: ((AV.s AS.nil) :: ((AV.s AS.nil) :: ((AV.i .i64 ii0) :: ((AV.p AP.nil) :: ((AV.s AS.nil) :: ((AV.s AS.nil) :: ((AV.i .i64 ii0) :: ((AV.p AP.nil) :: ((AV.s AS.nil) :: ((AV.s AS.nil) :: ((AV.i .i64 ii0) :: ((AV.i .i64 ii0) :: ((AV.i .i64 ii0) :: ((AV.i .i64 ii0) :: ((AV.i .i64 ii0) :: ((AV.i .i64 ii0) :: ((AV.b false) :: ((AV.s AS.nil) :: ((AV.i .i64 ii0) :: ((AV.i .i64 ii0) :: ((AV.b false) :: []))))))))))))))))))))))))))))))))))))))))))))))))))))))))))))))))))))))))))))))) fun b1 H2 => Kb1 (DV.c (DV.v (AV.p (AP.at b1 nn0))) (DV.c (DV.v AV.ni) DV.n)) H2
def g7x2 := rdR H1 b1 nn0 nn6 fun l3 => must (aleq l1 l3) <| c1 [(DV.a l2), (DV.a l1), (DV.v (AV.i .i64 n1))] H1 fun d1 H2 => onC d1 fun d2 d3 => onV d2 fun v1 => isP v1 fun p2 => onC d3 fun d4 d5 => onV d4 fun v2 => onN d5 <| ifA true true v2 AV.ni fun t1 => frcB (bnot t1) fun t2 => br t2 (Kb1 (DV.c (DV.v (AV.p AP.nil)) (DV.c (DV.v v2) DV.n)) H2) (rdR H2 b1 nn0 nn21 fun l4 => must (Nat.beq (llen l4) nn21) <| g7x1 l4 n1 p1 H2 Kb1)
def g7x3 := rdR H1 b1 nn0 nn21 fun l1 => c1 [(DV.a l1)] H1 fun d1 H2 => onC d1 fun d2 d3 => onV d2 fun v1 => isP v1 fun p1 => onC d3 fun d4 d5 => onV d4 fun v2 => onN d5 <| ifA true true v2 AV.ni fun t1 => frcB (bnot t1) fun t2 => br t2 (Kb1 (DV.c (DV.v (AV.p AP.nil)) (DV.c (DV.v v2) DV.n)) H2) (rdR H2 b1 nn0 nn6 fun l2 => c2 [(DV.v (AV.i .i64 ii0))] H2 fun d6 H3 => onL d6 fun l3 => g7x2 l2 l3 n1 p1 b1 H3 c3 Kb1)
/-- lab.New -/
def g7 : G DV := fun R1 H1 Kb1 => lc R1 fun d1 R2 => lc R2 fun d2 R3 => onV d2 fun v1 => isI .i64 v1 fun n1 => ln R3 <| cellsD d1 fun l1 => alK H1 l1 fun b1 H2 => g7x3 n1 b1 H2 c1 c3 c2 Kb1
def G7 : G DV := g7 G15 G16 G17

def z3 : List AV := [(AV.i .u8 ii2), (AV.i .u8 ii0), (AV.i .u8 ii0), (AV.i .u8 ii0), (AV.i .u8 ii1), (AV.i .u8 ii0)]
/-- muezzinair.BSS -/
def g18 : G DV := fun R1 H1 Kb1 => ln R1 <| alB H1 z2 nn6 nn0 fun b1 H2 => wrL H2 b1 nn0 z3 fun H3 => rdR H3 b1 nn0 nn6 fun l1 => Kb1 (DV.a l1) H3
def G18 : G DV := g18

def z4 : T4 AV := (@T4.n AV yy6 (@T4.n AV yy6 (@T4.n AV yy6 te te te te) (@T4.n AV yy0 te te te te) (@T4.n AV yy0 te te te te) (@T4.n AV yy0 te te te te)) (@T4.n AV yy6 (@T4.n AV yy1 te te te te) (@T4.n AV yy0 te te te te) (@T4.n AV yy0 te te te te) (@T4.n AV yy0 te te te te)) (@T4.n AV yy6 (@T4.n AV yy0 te te te te) (@T4.n AV yy0 te te te te) (@T4.n AV yy0 te te te te) (@T4.n AV yy0 te te te te)) (@T4.n AV yy6 (@T4.n AV yy0 te te te te) (@T4.n AV yy0 te te te te) (@T4.n AV yy0 te te te te) (@T4.n AV yy0 te te te te)))
def z5 : List AV := [(AV.i .i64 ii600), (AV.i .i64 ii600), (AV.i .i64 ii600), (AV.i .i64 ii600)]
def g8x1 := br t1 (wrK H1 b1 nn11 (AV.i .i64 ii4) fun H2 => wrK H2 b1 nn13 (AV.i .i64 ii20000) fun H3 => wrK H3 b1 nn9 (AV.i .i64 ii100) fun H4 => wrK H4 b1 nn10 (AV.i .i64 ii1000) fun H5 => wrK H5 b1 nn8 (AV.i .i64 ii100000) fun H6 => Ka1 H6) (frcB (ieq n1 ii4) fun t2 => br t2 (wrK H1 b1 nn11 (AV.i .i64 ii8) fun H2 => wrK H2 b1 nn12 (AV.i .i64 ii5) fun H3 => wrK H3 b1 nn14 (AV.i .i64 ii300) fun H4 => wrL H4 b1 nn15 z5 fun H5 => Ka1 H5) (Ka1 H1))
def g8x2 := asI (irem n1 ii5) fun n2 => frcB (ieq n2 ii1) fun t1 => br t1 (wrK H1 b1 nn11 (AV.i .i64 ii1) fun H2 => wrK H2 b1 nn12 (AV.i .i64 ii0) fun H3 => Ka1 H3) (frcB (ieq n2 ii2) fun t2 => br t2 (wrK H1 b1 nn11 (AV.i .i64 ii64) fun H2 => wrK H2 b1 nn7 (AV.i .i64 ii9) fun H3 => wrK H3 b1 nn19 (AV.i .i64 ii0) fun H4 => wrK H4 b1 nn20 (AV.i .i64 ii0) fun H5 => Ka1 H5) (frcB (ieq n2 ii3) fun t3 => g8x1 n2 t3 b1 H1 Ka1))
def g8x3 := wrL H1 b1 nn0 (lapp l1 ((AV.i .u32 n1) :: ((AV.i .i64 ii40) :: ((AV.i .i64 ii8000) :: ((AV.i .i64 ii50000) :: ((AV.i .i64 ii1000000) :: ((AV.i .i64 ii16) :: ((AV.i .i64 ii2) :: ((AV.i .i64 ii1073741824) :: ((AV.i .i64 ii20000) :: ((AV.i .i64 ii0) :: ((AV.i .i64 ii0) :: ((AV.i .i64 ii0) :: ((AV.i .i64 ii0) :: ((AV.i .i64 ii100000) :: ((AV.i .i64 ii200000) :: [])))))))))))))))) fun H2 => jF [] (fun H3 => rdR H3 b1 nn0 nn21 fun l2 => must (Nat.beq (llen l2) nn21) <| wrL H3 b2 nn0 l2 fun H4 => rdR H4 b2 nn0 nn21 fun l3 => Kb1 (DV.a l3) H4) fun Ka1 => must (bnot (ieq ii5 ii0)) <| g8x2 n2 b1 H2 Ka1
def g8x4 := alB H1 z4 nn21 nn0 fun b2 H2 => must (Nat.beq (llen (lapp l1 ((AV.i .u32 n1) :: ((AV.i .i64 ii40) :: ((AV.i .i64 ii8000) :: ((AV.i .i64 ii50000) :: ((AV.i .i64 ii1000000) :: ((AV.i .i64 ii16) :: ((AV.i .i64 ii2) :: ((AV.i .i64 ii1073741824) :: ((AV.i .i64 ii20000) :: ((AV.i .i64 ii0) :: ((AV.i .i64 ii0) :: ((AV.i .i64 ii0) :: ((AV.i .i64 ii0) :: ((AV.i .i64 ii100000) :: ((AV.i .i64 ii200000) :: []))))))))))))))))) nn21) <| g8x3 l1 n1 n2 b2 b1 H2 Kb1
/-- muezzinair.Config -/
def g8 : G DV := fun R1 H1 Kb1 => lc R1 fun d1 R2 => onV d1 fun v1 => isI .i64 v1 fun n1 => ln R2 <| alB H1 z4 nn21 nn0 fun b1 H2 => c1 [(DV.v (AV.i .i64 n1)), (DV.v (AV.i .i64 ii1048576))] H2 fun d2 H3 => onV d2 fun v2 => isI .i64 v2 fun n2 => c2 [] H3 fun d3 H4 => onL d3 fun l1 => wrp .u32 n2 fun n3 => must (Nat.beq (llen l1) nn6) <| g8x4 l1 n3 n2 b1 H4 Kb1
def G8 : G DV := g8 gNumber.G G18

def g115x1 := br t1 (Kb1 (DV.c (DV.v (AV.i .i64 ii7)) (DV.c (DV.v (AV.i .i64 ii4)) (DV.c (DV.v (AV.i .i64 ii1)) DV.n))) H1) (frcB (ieq n1 ii3) fun t2 => br t2 (Kb1 (DV.c (DV.v (AV.i .i64 ii9)) (DV.c (DV.v (AV.i .i64 ii8)) (DV.c (DV.v (AV.i .i64 ii1)) DV.n))) H1) (frcB (ieq n1 ii4) fun t3 => br t3 (Kb1 (DV.c (DV.v (AV.i .i64 ii11)) (DV.c (DV.v (AV.i .i64 ii8)) (DV.c (DV.v (AV.i .i64 ii2)) DV.n))) H1) (Kb1 (DV.c (DV.v (AV.i .i64 im1)) (DV.c (DV.v (AV.i .i64 ii0)) (DV.c (DV.v (AV.i .i64 im1)) DV.n))) H1)))
/-- rate.tops -/
def g115 : G DV := fun R1 H1 Kb1 => lc R1 fun d1 R2 => onV d1 fun v1 => isI .i64 v1 fun n1 => ln R2 <| frcB (ieq n1 ii1) fun t1 => br t1 (Kb1 (DV.c (DV.v (AV.i .i64 ii7)) (DV.c (DV.v (AV.i .i64 ii1)) (DV.c (DV.v (AV.i .i64 ii0)) DV.n))) H1) (frcB (ieq n1 ii2) fun t2 => g115x1 n1 t2 H1 Kb1)
def G115 : G DV := g115

def g194x1 := lenA s1 fun m1 => lpR (failF [(8 , .int .i64)]) (fun Kb2 => fun d1 H2 => onV d1 fun v1 => isI .i64 v1 fun n2 => frcB (ilt n2 (Int.ofNat m1)) fun t1 => br t1 (ixA s1 n2 (fun x => x) fun b1 m2 => rdK H2 b1 m2 fun v2 => isI .i64 v2 fun n3 => frcB (ieq n1 n3) fun t2 => br t2 (Kb1 (DV.v (AV.i .i64 n2)) H2) (wrp .i64 (iadd n2 ii1) fun n4 => Kb2 (DV.v (AV.i .i64 n4)) H2)) (Kb1 (DV.v (AV.i .i64 im1)) H2)) (nat_lit 100000) (DV.v (AV.i .i64 ii0)) H1
/-- slices.Index[[]int,int] -/
def g194 : G DV := fun R1 H1 Kb1 => lc R1 fun d1 R2 => onV d1 fun v1 => isS v1 fun s1 => lc R2 fun d2 R3 => onV d2 fun v2 => isI .i64 v2 fun n1 => ln R3 <| g194x1 n1 s1 H1 Kb1
def G194 : G DV := g194

/-- slices.Contains[[]int,int] -/
def g116 : G DV := fun R1 H1 Kb1 => lc R1 fun d1 R2 => onV d1 fun v1 => isS v1 fun s1 => lc R2 fun d2 R3 => onV d2 fun v2 => isI .i64 v2 fun n1 => ln R3 <| c1 [(DV.v (AV.s s1)), (DV.v (AV.i .i64 n1))] H1 fun d3 H2 => onV d3 fun v3 => isI .i64 v3 fun n2 => frcB (ile ii0 n2) fun t1 => Kb1 (DV.v (AV.b t1)) H2
def G116 : G DV := g116 G194

def z6 : T4 AV := (@T4.n AV yy7 (@T4.n AV yy8 te te te te) (@T4.n AV yy9 te te te te) (@T4.n AV yy10 te te te te) te)
def g117x1 := br t1 (alB H1 (@T4.n AV yy7 (@T4.n AV yy8 te te te te) te te te) nn2 nn0 fun b1 H2 => Kb1 (DV.v (AV.s (AS.sl b1 nn0 nn2 nn2))) H2) (jF [(10 , .bool)] (fun d1 H2 => onV d1 fun v1 => isB v1 fun t2 => br t2 (alB H2 z6 nn4 nn0 fun b1 H3 => Kb1 (DV.v (AV.s (AS.sl b1 nn0 nn4 nn4))) H3) (Kb1 (DV.v (AV.s AS.nil)) H2)) fun Kb2 => frcB (ieq n1 ii3) fun t2 => br t2 (Kb2 (DV.v (AV.b t2)) H1) (frcB (ieq n1 ii4) fun t3 => Kb2 (DV.v (AV.b t3)) H1))
/-- rate.widths -/
def g117 : G DV := fun R1 H1 Kb1 => lc R1 fun d1 R2 => onV d1 fun v1 => isI .i64 v1 fun n1 => ln R2 <| frcB (ieq n1 ii1) fun t1 => br t1 (alB H1 (@T4.n AV yy7 te te te te) nn1 nn0 fun b1 H2 => Kb1 (DV.v (AV.s (AS.sl b1 nn0 nn1 nn1))) H2) (frcB (ieq n1 ii2) fun t2 => g117x1 n1 t2 H1 Kb1)
def G117 : G DV := g117

def g60x1 := must (aveq (AV.i .i64 n1) v1) <| c1 [(DV.v (AV.s s1)), (DV.v (AV.i .i64 n2))] H1 fun d1 H2 => onV d1 fun v2 => isB v2 fun t1 => rdK H2 b1 nn4 fun v3 => must (aveq (AV.i .i64 n3) v3) <| rdK H2 b1 nn2 fun v4 => must (aveq (AV.i .i64 n4) v4) <| rdK H2 b1 nn2 fun v5 => must (aveq (AV.i .i64 n5) v5) <| rdK H2 b1 nn1 fun v6 => must (aveq (AV.i .i64 n6) v6) <| rdK H2 b1 nn1 fun v7 => must (aveq (AV.i .i64 n1) v7) <| Kb1 (DV.v (AV.b t1)) H2
def g60x2 := c1 [(DV.v (AV.i .i64 n1))] H1 fun d1 H2 => onV d1 fun v1 => isS v1 fun s1 => rdK H2 b1 nn3 fun v2 => must (aveq (AV.i .i64 n2) v2) <| rdK H2 b1 nn4 fun v3 => must (aveq (AV.i .i64 n3) v3) <| rdK H2 b1 nn2 fun v4 => must (aveq (AV.i .i64 n4) v4) <| rdK H2 b1 nn2 fun v5 => must (aveq (AV.i .i64 n5) v5) <| rdK H2 b1 nn1 fun v6 => must (aveq (AV.i .i64 n6) v6) <| rdK H2 b1 nn1 fun v7 => g60x1 v7 n7 n2 n3 n4 n5 n6 b1 s1 H2 c2 Kb1
def g60x3 := frcB (ile n1 n2) fun t1 => br t1 (rdK H1 b1 nn4 fun v1 => isI .i64 v1 fun n7 => frcB (ile ii0 n7) fun t2 => br t2 (rdK H1 b1 nn4 fun v2 => isI .i64 v2 fun n8 => frcB (ile n8 n3) fun t3 => br t3 (rdK H1 b1 nn0 fun v3 => isI .i64 v3 fun n9 => rdK H1 b1 nn3 fun v4 => isI .i64 v4 fun n10 => g60x2 n9 n10 n7 n1 n4 n5 n6 b1 H1 c1 c2 Kb1) (Kb1 (DV.v (AV.b false)) H1)) (Kb1 (DV.v (AV.b false)) H1)) (Kb1 (DV.v (AV.b false)) H1)
def g60x4 := rdK H1 b1 nn1 fun v1 => isI .i64 v1 fun n4 => frcB (ile ii0 n4) fun t1 => br t1 (rdK H1 b1 nn1 fun v2 => isI .i64 v2 fun n5 => frcB (ile n5 n1) fun t2 => br t2 (rdK H1 b1 nn2 fun v3 => isI .i64 v3 fun n6 => frcB (ile ii1 n6) fun t3 => br t3 (rdK H1 b1 nn2 fun v4 => isI .i64 v4 fun n7 => g60x3 n7 n2 n3 n6 n5 n4 b1 H1 c1 c2 Kb1) (Kb1 (DV.v (AV.b false)) H1)) (Kb1 (DV.v (AV.b false)) H1)) (Kb1 (DV.v (AV.b false)) H1)
/-- rate.Valid -/
def g60 : G DV := fun R1 H1 Kb1 => lc R1 fun d1 R2 => ln R2 <| cellsD d1 fun l1 => alK H1 l1 fun b1 H2 => rdK H2 b1 nn0 fun v1 => isI .i64 v1 fun n1 => c1 [(DV.v (AV.i .i64 n1))] H2 fun d2 H3 => onC d2 fun d3 d4 => onV d3 fun v2 => isI .i64 v2 fun n2 => onC d4 fun d5 d6 => onV d5 fun v3 => isI .i64 v3 fun n3 => onC d6 fun d7 d8 => onV d7 fun v4 => isI .i64 v4 fun n4 => onN d8 <| g60x4 n2 n3 n4 b1 H3 c3 c2 Kb1
def G60 : G DV := pure1 (g60 G115 G116 G117)

def z7 : T4 AV := (@T4.n AV yy2 (@T4.n AV yy6 (@T4.n AV yy6 te te te te) te te te) (@T4.n AV yy6 (@T4.n AV yy6 te te te te) te te te) (@T4.n AV yy6 (@T4.n AV yy0 te te te te) te te te) (@T4.n AV yy6 te te te te))
def g95x1 := jn (fun d3 H2 => pickK t1 d3 (DV.v (AV.b false)) fun d4 => onV d4 fun v1 => isB v1 fun t2 => br t2 (wrp .i64 (iadd n1 ii1) fun n2 => Kb1 (DV.c (DV.v (AV.i .i64 n2)) (DV.c (DV.v (AV.b true)) DV.n)) H2) (wrp .i64 (iadd n1 ii1) fun n2 => Kb2 (DV.v (AV.i .i64 n2)) H2)) fun Kb3 => br t1 (onL d1 fun l1 => onL d2 fun l2 => intsK .u8 l1 fun x1 => intsK .u8 l2 fun x2 => must (Nat.beq (leni x1) nn6) <| must (Nat.beq (leni x2) nn6) <| frcB (leqI x1 x2) fun t2 => Kb3 (DV.v (AV.b t2)) H1) (Kb3 DV.n H1)
def g95x2 := wrL H1 b1 nn0 (ltake (nat_lit 8) (ldrop (Nat.mul (itn n1) nn8) l1)) fun H2 => rdK H2 b1 nn0 fun v1 => isB v1 fun t1 => jn (fun d1 H3 => jn (fun d2 H4 => jn (fun d3 H5 => g95x1 d2 d3 n1 t1 H5 Kb1 Kb2) fun Kb3 => br t1 (rdR H4 b2 nn0 nn6 fun l2 => Kb3 (DV.a l2) H4) (Kb3 DV.n H4)) fun Kb3 => br t1 (onV d1 fun v2 => isP v2 fun p1 => onA p1 fun b3 m1 => rdR H3 b3 m1 nn6 fun l2 => Kb3 (DV.a l2) H3) (Kb3 DV.n H3)) fun Kb3 => br t1 (Kb3 (DV.v (AV.p (AP.at b1 nn1))) H2) (Kb3 DV.n H2)
def g95x3 := onA p1 fun b2 m1 => rdR H1 b2 m1 nn128 fun l1 => lpR (failF [(12 , .int .i64)]) (fun Kb2 => fun d1 H2 => onV d1 fun v1 => isI .i64 v1 fun n1 => frcB (ilt n1 ii16) fun t1 => br t1 (rng n1 nn16 <| alB H2 z7 nn8 nn0 fun b3 H3 => must (Nat.beq (llen (ltake (nat_lit 8) (ldrop (Nat.mul (itn n1) nn8) l1))) nn8) <| g95x2 l1 n1 b3 b1 H3 Kb1 Kb2) (Kb1 (DV.c (DV.v (AV.i .i64 ii0)) (DV.c (DV.v (AV.b false)) DV.n)) H2)) (nat_lit 100000) (DV.v (AV.i .i64 ii0)) H1
/-- (*sta.Table).Find -/
def g95 : G DV := fun R1 H1 Kb1 => lc R1 fun d1 R2 => onV d1 fun v1 => isP v1 fun p1 => lc R2 fun d2 R3 => ln R3 <| cellsD d2 fun l1 => alK H1 l1 fun b1 H2 => g95x3 p1 b1 H2 Kb1
def G95 : G DV := g95

def g61x1 := rdR H1 b1 nn0 nn6 fun l2 => must (aleq l1 l2) <| must (Nat.beq (llen l1) nn6) <| wrL H1 b2 (Nat.add (Nat.add m1 (Nat.mul (itn n1) nn8)) nn1) l1 fun H2 => rdK H2 b2 (Nat.add (Nat.add m1 (Nat.mul (itn n1) nn8)) nn7) fun v1 => isI .i64 v1 fun n2 => wrp .i64 (iadd n2 ii1) fun n3 => wrK H2 b2 (Nat.add (Nat.add m1 (Nat.mul (itn n1) nn8)) nn7) (AV.i .i64 n3) fun H3 => wrp .i64 (iadd n1 ii1) fun n4 => Kb1 (DV.c (DV.v (AV.i .i64 n4)) (DV.c (DV.v AV.ni) DV.n)) H3
def g61x2 := frcB (ilt n1 ii16) fun t1 => br t1 (onA p1 fun b2 m1 => rng n1 nn16 <| rdK H1 b2 (Nat.add m1 (Nat.mul (itn n1) nn8)) fun v1 => isB v1 fun t2 => frcB (bnot t2) fun t3 => br t3 (rdR H1 b1 nn0 nn6 fun l1 => wrK H1 b2 (Nat.add m1 (Nat.mul (itn n1) nn8)) (AV.b true) fun H2 => g61x1 l1 n1 m1 b1 b2 H2 Kb1) (wrp .i64 (iadd n1 ii1) fun n2 => Kb2 (DV.v (AV.i .i64 n2)) H1)) (Kb1 (DV.c (DV.v (AV.i .i64 ii0)) (DV.c (DV.v (AV.er (nat_lit 8))) DV.n)) H1)
def g61x3 := rdR H1 b1 nn0 nn6 fun l1 => c1 [(DV.v (AV.p p1)), (DV.a l1)] H1 fun d1 H2 => onC d1 fun d2 d3 => onV d2 fun v1 => isI .i64 v1 fun n1 => onC d3 fun d4 d5 => onV d4 fun v2 => isB v2 fun t1 => onN d5 <| br t1 (Kb1 (DV.c (DV.v (AV.i .i64 ii0)) (DV.c (DV.v (AV.er (nat_lit 7))) DV.n)) H2) (lpR (failF [(22 , .int .i64)]) (fun Kb2 => fun d6 H3 => onV d6 fun v3 => isI .i64 v3 fun n2 => g61x2 n2 p1 b1 H3 Kb1 Kb2) (nat_lit 100000) (DV.v (AV.i .i64 ii0)) H2)
/-- (*sta.Table).Add -/
def g61 : G DV := fun R1 H1 Kb1 => lc R1 fun d1 R2 => onV d1 fun v1 => isP v1 fun p1 => lc R2 fun d2 R3 => ln R3 <| cellsD d2 fun l1 => alK H1 l1 fun b1 H2 => rdR H2 b1 nn0 nn6 fun l2 => c1 [(DV.a l2)] H2 fun d3 H3 => onV d3 fun v2 => isB v2 fun t1 => frcB (bnot t1) fun t2 => br t2 (Kb1 (DV.c (DV.v (AV.i .i64 ii0)) (DV.c (DV.v (AV.er (nat_lit 2))) DV.n)) H3) (g61x3 p1 b1 H3 c2 Kb1)
def G61 : G DV := g61 G32 G95

/-- sched.there -/
def g118 : G DV := fun R1 H1 Kb1 => lc R1 fun d1 R2 => onV d1 fun v1 => isI .i64 v1 fun n1 => ln R2 <| frcB (ile ii1 n1) fun t1 => jn (fun d2 H2 => jn (fun d3 H3 => pickK t1 d3 (DV.v (AV.b false)) fun d4 => onV d4 fun v2 => isB v2 fun t2 => Kb1 (DV.v (AV.b t2)) H3) fun Kb2 => br t1 (onV d2 fun v2 => isI .i64 v2 fun n2 => frcB (ile n2 ii16) fun t2 => Kb2 (DV.v (AV.b t2)) H2) (Kb2 DV.n H2)) fun Kb2 => br t1 (Kb2 (DV.v (AV.i .i64 n1)) H1) (Kb2 DV.n H1)
def G118 : G DV := g118

/-- sched.fair -/
def g119 : G DV := fun R1 H1 Kb1 => lc R1 fun d1 R2 => onV d1 fun v1 => isI .i64 v1 fun n1 => ln R2 <| frcB (ile ii1 n1) fun t1 => jn (fun d2 H2 => jn (fun d3 H3 => pickK t1 d3 (DV.v (AV.b false)) fun d4 => onV d4 fun v2 => isB v2 fun t2 => Kb1 (DV.v (AV.b t2)) H3) fun Kb2 => br t1 (onV d2 fun v2 => isI .i64 v2 fun n2 => frcB (ile n2 ii100) fun t2 => Kb2 (DV.v (AV.b t2)) H2) (Kb2 DV.n H2)) fun Kb2 => br t1 (Kb2 (DV.v (AV.i .i64 n1)) H1) (Kb2 DV.n H1)
def G119 : G DV := g119

/-- (*sched.Sched).of -/
def g120 : G DV := fun R1 H1 Kb1 => lc R1 fun d1 R2 => onV d1 fun v1 => isP v1 fun p1 => lc R2 fun d2 R3 => onV d2 fun v2 => isI .i64 v2 fun n1 => ln R3 <| c1 [(DV.v (AV.i .i64 n1))] H1 fun d3 H2 => onV d3 fun v3 => isB v3 fun t1 => frcB (bnot t1) fun t2 => br t2 (Kb1 (DV.v (AV.p AP.nil)) H2) (wrp .i64 (isub n1 ii1) fun n2 => onA p1 fun b1 m1 => rng n2 nn16 <| rdK H2 b1 (Nat.add m1 (itn n2)) fun v4 => isP v4 fun p2 => Kb1 (DV.v (AV.p p2)) H2)
def G120 : G DV := g120 G118

def g62x1 := frcB (bnot (isNilA p1)) fun t1 => br t1 (Kb1 (DV.v (AV.er (nat_lit 7))) H1) (wrp .i64 (isub n1 ii1) fun n3 => alB H1 (@T4.n AV (AV.i .i64 n1) (@T4.n AV (AV.i .i64 n2) te te te te) (@T4.n AV yy0 te te te te) (@T4.n AV yy2 te te te te) (@T4.n AV yy0 te te te te)) nn5 nn0 fun b1 H2 => onA p2 fun b2 m1 => rng n3 nn16 <| wrK H2 b2 (Nat.add m1 (itn n3)) (AV.p (AP.at b1 nn0)) fun H3 => Kb1 (DV.v AV.ni) H3)
def g62x2 := jn (fun d2 H2 => jn (fun d3 H3 => pickK t1 (DV.v (AV.b true)) d3 fun d4 => onV d4 fun v1 => isB v1 fun t2 => br t2 (Kb1 (DV.v (AV.er (nat_lit 2))) H3) (c1 [(DV.v (AV.p p1)), (DV.v (AV.i .i64 n1))] H3 fun d5 H4 => onV d5 fun v2 => isP v2 fun p2 => g62x1 n1 n2 p2 p1 H4 Kb1)) fun Kb2 => br t1 (Kb2 DV.n H2) (onV d2 fun v1 => isB v1 fun t2 => frcB (bnot t2) fun t3 => Kb2 (DV.v (AV.b t3)) H2)) fun Kb2 => br t1 (Kb2 DV.n H1) (c2 [d1] H1 fun d2 H2 => onV d2 fun v1 => isB v1 fun t2 => Kb2 (DV.v (AV.b t2)) H2)
/-- (*sched.Sched).Add -/
def g62 : G DV := fun R1 H1 Kb1 => lc R1 fun d1 R2 => onV d1 fun v1 => isP v1 fun p1 => lc R2 fun d2 R3 => onV d2 fun v2 => isI .i64 v2 fun n1 => lc R3 fun d3 R4 => onV d3 fun v3 => isI .i64 v3 fun n2 => ln R4 <| c1 [(DV.v (AV.i .i64 n1))] H1 fun d4 H2 => onV d4 fun v4 => isB v4 fun t1 => frcB (bnot t1) fun t2 => jn (fun d5 H3 => g62x2 d5 n1 n2 t2 p1 H3 c3 c2 Kb1) fun Kb2 => br t2 (Kb2 DV.n H2) (Kb2 (DV.v (AV.i .i64 n2)) H2)
def G62 : G DV := g62 G118 G119 G120

def g121x1 := jn (fun d2 H2 => jn (fun d3 H3 => pickK t1 (DV.v (AV.b true)) d3 fun d4 => onV d4 fun v1 => isB v1 fun t2 => br t2 (Kb1 (DV.v (AV.p AP.nil)) H3) (wrp .i64 (isub n1 ii1) fun n2 => onA p1 fun b1 m1 => rng n2 nn16 <| Kb1 (DV.v (AV.p (AP.at b1 (Nat.add m1 (Nat.mul (itn n2) nn10))))) H3)) fun Kb2 => br t1 (Kb2 DV.n H2) (onV d2 fun v1 => isB v1 fun t2 => frcB (bnot t2) fun t3 => Kb2 (DV.v (AV.b t3)) H2)) fun Kb2 => br t1 (Kb2 DV.n H1) (onV d1 fun v1 => isP v1 fun p2 => onA p2 fun b1 m1 => rdK H1 b1 m1 fun v2 => isB v2 fun t2 => Kb2 (DV.v (AV.b t2)) H1)
def g121x2 := jn (fun d3 H2 => jn (fun d4 H3 => jn (fun d5 H4 => g121x1 d5 n1 t1 p1 H4 Kb1) fun Kb2 => br t1 (Kb2 DV.n H3) (onV d4 fun v1 => isP v1 fun p2 => onA p2 fun b1 m1 => Kb2 (DV.v (AV.p (AP.at b1 m1))) H3)) fun Kb2 => br t1 (Kb2 DV.n H2) (onV d1 fun v1 => isJ v1 fun n2 => onV d3 fun v2 => isP v2 fun p2 => onA p2 fun b1 m1 => rng n2 nn16 <| Kb2 (DV.v (AV.p (AP.at b1 (Nat.add m1 (Nat.mul (itn n2) nn10))))) H2)) fun Kb2 => br t1 (Kb2 DV.n H1) (onV d2 fun v1 => isP v1 fun p2 => onA p2 fun b1 m1 => Kb2 (DV.v (AV.p (AP.at b1 m1))) H1)
def g121x3 := jn (fun d1 H2 => jn (fun d2 H3 => jn (fun d3 H4 => jn (fun d4 H5 => g121x2 d3 d4 n1 t1 p1 H5 Kb1) fun Kb2 => br t1 (Kb2 DV.n H4) (onV d1 fun v1 => isP v1 fun p2 => onA p2 fun b1 m1 => Kb2 (DV.v (AV.p (AP.at b1 m1))) H4)) fun Kb2 => br t1 (Kb2 DV.n H3) (onV d2 fun v1 => isI .i64 v1 fun n2 => wrp .i64 (isub n2 ii1) fun n3 => Kb2 (DV.v (AV.i .i64 n3)) H3)) fun Kb2 => br t1 (Kb2 DV.n H2) (Kb2 (DV.v (AV.i .i64 n1)) H2)) fun Kb2 => br t1 (Kb2 DV.n H1) (Kb2 (DV.v (AV.p p1)) H1)
def g121x4 := isP v1 fun p1 => lc R1 fun d1 R2 => onV d1 fun v2 => isI .i64 v2 fun n1 => ln R2 <| frcB (ilt n1 ii1) fun t1 => jn (fun d2 H2 => jn (fun d3 H3 => pickK t1 (DV.v (AV.b true)) d3 fun d4 => onV d4 fun v3 => isB v3 fun t2 => g121x3 n1 t2 p1 H3 Kb1) fun Kb2 => br t1 (Kb2 DV.n H2) (onV d2 fun v3 => isI .i64 v3 fun n2 => frcB (ilt ii16 n2) fun t2 => Kb2 (DV.v (AV.b t2)) H2)) fun Kb2 => br t1 (Kb2 DV.n H1) (Kb2 (DV.v (AV.i .i64 n1)) H1)
/-- (*ps.Power).of -/
def g121 : G DV := fun R1 H1 Kb1 => lc R1 fun d1 R2 => onV d1 fun v1 => g121x4 v1 R2 H1 Kb1
def G121 : G DV := g121

def g63x1 := rdR H1 b1 nn0 nn4 fun l1 => must (Nat.beq (llen l1) nn4) <| onA p1 fun b2 m1 => rng n1 nn16 <| must (Nat.beq (llen ((AV.b true) :: ((AV.b false) :: ((AV.b false) :: ((AV.b false) :: (lapp l1 ((AV.i .i64 n2) :: ((AV.i .i64 ii0) :: [])))))))) nn10) <| wrL H1 b2 (Nat.add m1 (Nat.mul (itn n1) nn10)) ((AV.b true) :: ((AV.b false) :: ((AV.b false) :: ((AV.b false) :: (lapp l1 ((AV.i .i64 n2) :: ((AV.i .i64 ii0) :: []))))))) fun H2 => Kb1 (DV.v AV.ni) H2
def g63x2 := jn (fun d2 H2 => pickK t1 (DV.v (AV.b true)) d2 fun d3 => onV d3 fun v1 => isB v1 fun t2 => br t2 (Kb1 (DV.v (AV.er (nat_lit 2))) H2) (c1 [(DV.v (AV.p p1)), (DV.v (AV.i .i64 n1))] H2 fun d4 H3 => onV d4 fun v2 => isP v2 fun p2 => frcB (bnot (isNilA p2)) fun t3 => br t3 (Kb1 (DV.v (AV.er (nat_lit 7))) H3) (wrp .i64 (isub n1 ii1) fun n3 => g63x1 n3 n2 p1 b1 H3 Kb1))) fun Kb2 => br t1 (Kb2 DV.n H1) (onV d1 fun v1 => isI .i64 v1 fun n3 => frcB (ilt ii8 n3) fun t2 => Kb2 (DV.v (AV.b t2)) H1)
def g63x3 := isB v1 fun t1 => jn (fun d1 H2 => jn (fun d2 H3 => pickK t1 (DV.v (AV.b true)) d2 fun d3 => onV d3 fun v2 => isB v2 fun t2 => jn (fun d4 H4 => g63x2 d4 n1 n2 t2 p1 b1 H4 c1 Kb1) fun Kb2 => br t2 (Kb2 DV.n H3) (Kb2 (DV.v (AV.i .i64 n2)) H3)) fun Kb2 => br t1 (Kb2 DV.n H2) (onV d1 fun v2 => isI .i64 v2 fun n3 => frcB (ilt n3 ii0) fun t2 => Kb2 (DV.v (AV.b t2)) H2)) fun Kb2 => br t1 (Kb2 DV.n H1) (Kb2 (DV.v (AV.i .i64 n2)) H1)
def g63x4 := onV d1 fun v1 => isI .i64 v1 fun n2 => ln R1 <| cellsD d2 fun l1 => alK H1 l1 fun b1 H2 => frcB (ilt n1 ii1) fun t1 => jn (fun d3 H3 => jn (fun d4 H4 => pickK t1 (DV.v (AV.b true)) d4 fun d5 => onV d5 fun v2 => g63x3 v2 n1 n2 p1 b1 H4 c1 Kb1) fun Kb2 => br t1 (Kb2 DV.n H3) (onV d3 fun v2 => isI .i64 v2 fun n3 => frcB (ilt ii16 n3) fun t2 => Kb2 (DV.v (AV.b t2)) H3)) fun Kb2 => br t1 (Kb2 DV.n H2) (Kb2 (DV.v (AV.i .i64 n1)) H2)
/-- (*ps.Power).Add -/
def g63 : G DV := fun R1 H1 Kb1 => lc R1 fun d1 R2 => onV d1 fun v1 => isP v1 fun p1 => lc R2 fun d2 R3 => onV d2 fun v2 => isI .i64 v2 fun n1 => lc R3 fun d3 R4 => lc R4 fun d4 R5 => g63x4 d4 d3 R5 n1 p1 H1 c1 Kb1
def G63 : G DV := g63 G121

def z8 : List AV := [(AV.i .i64 ii0), (AV.i .i64 ii0), (AV.i .i64 ii0), (AV.i .i64 ii0)]
def g34x1 := c1 [(DV.v (AV.i .i64 n1)), (DV.v (AV.i .i64 n2)), (DV.v (AV.i .i64 n3))] H1 fun d1 H2 => onC d1 fun d2 d3 => onV d2 fun v1 => isP v1 fun p1 => onC d3 fun d4 d5 => onV d4 fun v2 => onN d5 <| rng n4 nn8 <| wrK H2 b1 (Nat.add nn6 (Nat.mul (itn n4) nn5)) (AV.p p1) fun H3 => ifA true true v2 AV.ni fun t1 => frcB (bnot t1) fun t2 => br t2 (Kb1 (DV.c (DV.v (AV.i .i64 ii0)) (DV.c (DV.v v2) DV.n)) H3) (wrp .i64 (iadd n4 ii1) fun n5 => Kb2 (DV.v (AV.i .i64 n5)) H3)
def g34x2 := c1 [(DV.v (AV.p (AP.at b1 (Nat.add m1 nn150)))), (DV.v (AV.i .i64 n1)), (DV.a l1), (DV.v (AV.i .i64 n2))] H1 fun d1 H2 => onV d1 fun v1 => ifA true true v1 AV.ni fun t1 => frcB (bnot t1) fun t2 => br t2 (Kb1 (DV.c (DV.v (AV.i .i64 ii0)) (DV.c (DV.v v1) DV.n)) H2) (wrp .i64 (isub n1 ii1) fun n3 => onA p1 fun b3 m2 => rng n3 nn16 <| wrK H2 b3 (Nat.add (Nat.add m2 nn329) (itn n3)) (AV.p (AP.at b2 nn0)) fun H3 => Kb1 (DV.c (DV.v (AV.i .i64 n1)) (DV.c (DV.v AV.ni) DV.n)) H3)
def g34x3 := br t1 (rng n1 nn4 <| lgetK (itn n1) l1 fun v1 => isP v1 fun p2 => c1 [(DV.v (AV.p p2)), (DV.v (AV.i .i64 n2)), (DV.v (AV.i .i64 n3))] H1 fun d1 H2 => onV d1 fun v2 => ifA true true v2 AV.ni fun t2 => frcB (bnot t2) fun t3 => br t3 (Kb1 (DV.c (DV.v (AV.i .i64 ii0)) (DV.c (DV.v v2) DV.n)) H2) (wrp .i64 (iadd n1 ii1) fun n5 => Kb2 (DV.v (AV.i .i64 n5)) H2)) (onA p1 fun b3 m1 => rdR H1 b1 nn0 nn4 fun l2 => g34x2 l2 n2 n4 m1 p1 b3 b2 H1 c2 Kb1)
def g34x4 := br t1 (onA p1 fun b3 m1 => rdK H1 b3 (Nat.add m1 nn11) fun v1 => isI .i64 v1 fun n5 => onA p1 fun b4 m2 => rdK H1 b4 (Nat.add m2 nn12) fun v2 => isI .i64 v2 fun n6 => onA p1 fun b5 m3 => rdK H1 b5 (Nat.add m3 nn13) fun v3 => isI .i64 v3 fun n7 => g34x1 n5 n6 n7 n1 b1 H1 c1 Kb1 Kb2) (onA p1 fun b3 m1 => rdR H1 b3 (Nat.add m1 nn313) nn4 fun l1 => lpR (failF [(107 , .int .i64)]) (fun Kb3 => fun d1 H2 => onV d1 fun v1 => isI .i64 v1 fun n5 => frcB (ilt n5 ii4) fun t2 => g34x3 l1 n5 n2 n3 n4 t2 p1 b2 b1 H2 c2 c3 Kb1 Kb3) (nat_lit 100000) (DV.v (AV.i .i64 ii0)) H1)
def g34x5 := alK H1 (lapp l1 ((AV.i .i64 ii0) :: ((AV.p AP.nil) :: ((AV.i .i64 ii0) :: ((AV.b false) :: ((AV.b false) :: ((AV.b false) :: ((AV.p AP.nil) :: ((AV.i .i64 ii0) :: ((AV.b false) :: ((AV.b false) :: ((AV.b false) :: ((AV.p AP.nil) :: ((AV.i .i64 ii0) :: ((AV.b false) :: ((AV.b false) :: ((AV.b false) :: ((AV.p AP.nil) :: ((AV.i .i64 ii0) :: ((AV.b false) :: ((AV.b false) :: ((AV.b false) :: ((AV.p AP.nil) :: ((AV.i .i64 ii0) :: ((AV.b false) :: ((AV.b false) :: ((AV.b false) :: ((AV.p AP.nil) :: ((AV.i .i64 ii0) :: ((AV.b false) :: ((AV.b false) :: ((AV.b false) :: ((AV.p AP.nil) :: ((AV.i .i64 ii0) :: ((AV.b false) :: ((AV.b false) :: ((AV.b false) :: ((AV.p AP.nil) :: ((AV.i .i64 ii0) :: ((AV.b false) :: ((AV.b false) :: ((AV.b false) :: z8)))))))))))))))))))))))))))))))))))))))))) fun b2 H2 => lpR (failF [(71 , .int .i64)]) (fun Kb2 => fun d1 H3 => onV d1 fun v1 => isI .i64 v1 fun n4 => frcB (ilt n4 ii8) fun t1 => g34x4 n4 n1 n2 n3 t1 p1 b2 b1 H3 c1 c2 c3 Kb1 Kb2) (nat_lit 100000) (DV.v (AV.i .i64 ii0)) H2
def g34x6 := rdR H1 b1 nn0 nn6 fun l1 => c1 [(DV.v (AV.p (AP.at b2 (Nat.add m1 nn22)))), (DV.a l1)] H1 fun d1 H2 => onC d1 fun d2 d3 => onV d2 fun v1 => isI .i64 v1 fun n3 => onC d3 fun d4 d5 => onV d4 fun v2 => onN d5 <| ifA true true v2 AV.ni fun t1 => frcB (bnot t1) fun t2 => br t2 (Kb1 (DV.c (DV.v (AV.i .i64 ii0)) (DV.c (DV.v v2) DV.n)) H2) (rdR H2 b3 nn0 nn5 fun l2 => must (Nat.beq (llen l2) nn5) <| g34x5 l2 n3 n1 n2 p1 b4 H2 c2 c3 c4 Kb1)
def g34x7 := jn (fun d1 H2 => jn (fun d2 H3 => pickK t1 (DV.v (AV.b true)) d2 fun d3 => onV d3 fun v1 => isB v1 fun t2 => br t2 (Kb1 (DV.c (DV.v (AV.i .i64 ii0)) (DV.c (DV.v (AV.er (nat_lit 2))) DV.n)) H3) (onA p1 fun b4 m1 => g34x6 n1 n2 m1 p1 b1 b4 b2 b3 H3 c1 c2 c3 c4 Kb1)) fun Kb2 => br t1 (Kb2 DV.n H2) (onV d1 fun v1 => isI .i64 v1 fun n3 => frcB (ilt ii8 n3) fun t2 => Kb2 (DV.v (AV.b t2)) H2)) fun Kb2 => br t1 (Kb2 DV.n H1) (Kb2 (DV.v (AV.i .i64 n2)) H1)
def g34x8 := pickK t1 (DV.v (AV.b true)) d1 fun d2 => onV d2 fun v1 => isB v1 fun t2 => jn (fun d3 H2 => jn (fun d4 H3 => pickK t2 (DV.v (AV.b true)) d4 fun d5 => onV d5 fun v2 => isB v2 fun t3 => g34x7 n1 n2 t3 p1 b1 b2 b3 H3 c1 c2 c3 c4 Kb1) fun Kb2 => br t2 (Kb2 DV.n H2) (onV d3 fun v2 => isI .i64 v2 fun n3 => frcB (ilt n3 ii0) fun t3 => Kb2 (DV.v (AV.b t3)) H2)) fun Kb2 => br t2 (Kb2 DV.n H1) (Kb2 (DV.v (AV.i .i64 n2)) H1)
def g34x9 := jn (fun d2 H2 => pickK t1 (DV.v (AV.b true)) d2 fun d3 => onV d3 fun v1 => isB v1 fun t2 => jn (fun d4 H3 => jn (fun d5 H4 => g34x8 d5 n1 n2 t2 p1 b1 b2 b3 H4 c1 c2 c3 c4 Kb1) fun Kb2 => br t2 (Kb2 DV.n H3) (onV d4 fun v2 => isI .i64 v2 fun n3 => frcB (ilt ii100 n3) fun t3 => Kb2 (DV.v (AV.b t3)) H3)) fun Kb2 => br t2 (Kb2 DV.n H2) (Kb2 (DV.v (AV.i .i64 n1)) H2)) fun Kb2 => br t1 (Kb2 DV.n H1) (onV d1 fun v1 => isI .i64 v1 fun n3 => frcB (ilt n3 ii1) fun t2 => Kb2 (DV.v (AV.b t2)) H1)
def g34x10 := must (Nat.beq (leni x1) nn6) <| must (Nat.beq (leni x2) nn6) <| frcB (leqI x1 x2) fun t1 => br t1 (Kb1 (DV.c (DV.v (AV.i .i64 ii0)) (DV.c (DV.v (AV.er (nat_lit 7))) DV.n)) H1) (rdR H1 b1 nn0 nn5 fun l1 => c1 [(DV.a l1)] H1 fun d1 H2 => onV d1 fun v1 => isB v1 fun t2 => frcB (bnot t2) fun t3 => jn (fun d2 H3 => g34x9 d2 n1 n2 t3 p1 b2 b1 b3 H3 c2 c3 c4 c5 Kb1) fun Kb2 => br t3 (Kb2 DV.n H2) (Kb2 (DV.v (AV.i .i64 n1)) H2))
def g34x11 := alK H1 l1 fun b3 H2 => rdR H2 b1 nn0 nn6 fun l2 => c1 [(DV.a l2)] H2 fun d1 H3 => onV d1 fun v1 => isB v1 fun t1 => frcB (bnot t1) fun t2 => br t2 (Kb1 (DV.c (DV.v (AV.i .i64 ii0)) (DV.c (DV.v (AV.er (nat_lit 2))) DV.n)) H3) (rdR H3 b1 nn0 nn6 fun l3 => onA p1 fun b4 m1 => rdR H3 b4 m1 nn6 fun l4 => intsK .u8 l3 fun x1 => intsK .u8 l4 fun x2 => g34x10 n1 n2 p1 b2 b1 b3 H3 x1 x2 c2 c3 c4 c5 c6 Kb1)
/-- (*ap.AP).Join -/
def g34 : G DV := fun R1 H1 Kb1 => lc R1 fun d1 R2 => onV d1 fun v1 => isP v1 fun p1 => lc R2 fun d2 R3 => lc R3 fun d3 R4 => lc R4 fun d4 R5 => onV d4 fun v2 => isI .i64 v2 fun n1 => lc R5 fun d5 R6 => lc R6 fun d6 R7 => onV d6 fun v3 => isI .i64 v3 fun n2 => ln R7 <| cellsD d2 fun l1 => alK H1 l1 fun b1 H2 => cellsD d3 fun l2 => alK H2 l2 fun b2 H3 => cellsD d5 fun l3 => g34x11 l3 n1 n2 p1 b1 b2 H3 c2 c3 c4 c1 c5 c6 Kb1
def G34 : G DV := g34 G28 G32 G60 G61 G62 G63

def z9 : T4 AV := (@T4.n AV yy2 (@T4.n AV yy2 te te te te) (@T4.n AV yy2 te te te te) (@T4.n AV yy2 te te te te) te)
def z10 : T4 AV := (@T4.n AV yy5 (@T4.n AV yy11 te te te te) (@T4.n AV yy12 te te te te) (@T4.n AV yy13 te te te te) te)
def z11 : List AV := [(AV.i .i64 ii1), (AV.i .i64 ii4), (AV.i .i64 ii1), (AV.i .i64 ii20), (AV.i .i64 ii0)]
def g19x1 := rdR H1 b1 m1 nn6 fun l3 => must (aleq l1 l3) <| c1 [(DV.a l2), (DV.a l1), (DV.v (AV.i .i64 n1))] H1 fun d1 H2 => onC d1 fun d2 d3 => onV d2 fun v1 => isP v1 fun p2 => onC d3 fun d4 d5 => onV d4 fun v2 => onN d5 <| ifA true true v2 AV.ni fun t1 => frcB (bnot t1) fun t2 => br t2 (Kb1 (DV.v v2) H2) (onA p1 fun b2 m2 => wrL H2 b2 m2 [(AV.i .i64 n2), (AV.p p2), (AV.s AS.nil), (AV.s AS.nil)] fun H3 => Kb1 (DV.v AV.ni) H3)
def g19x2 := ifA true true v1 AV.ni fun t1 => frcB (bnot t1) fun t2 => br t2 (Kb1 d1 H1) (rdK H1 b1 nn1 fun v2 => isI .i64 v2 fun n2 => onA p1 fun b2 m1 => rdR H1 b2 m1 nn6 fun l1 => onA p1 fun b3 m2 => rdK H1 b3 (Nat.add m2 nn21) fun v3 => isI .i64 v3 fun n3 => c1 [(DV.v (AV.i .i64 n2))] H1 fun d2 H2 => onL d2 fun l2 => rdK H2 b3 (Nat.add m2 nn21) fun v4 => must (aveq (AV.i .i64 n3) v4) <| g19x1 l1 l2 n3 n1 m1 p2 b2 H2 c2 Kb1)
def g19x3 := must (aveq (AV.p p1) v1) <| alB H1 z10 nn4 nn0 fun b1 H2 => ixA (AS.sl b1 nn0 nn4 nn4) n1 (fun x => x) fun b2 m1 => rdK H2 b2 m1 fun v2 => isI .i64 v2 fun n2 => c1 [(DV.v (AV.p p1)), (DV.a l1), (DV.a z11), (DV.v (AV.i .i64 n2)), (DV.a l2), (DV.v (AV.i .i64 ii2))] H2 fun d1 H3 => onC d1 fun d2 d3 => onV d2 fun v3 => isI .i64 v3 fun n3 => onC d3 fun d4 d5 => onV d4 fun v4 => onN d5 <| Kc1 (DV.v (AV.i .i64 n3)) (DV.v v4) H3
def g19x4 := rdR H1 b1 nn0 nn4 fun l3 => must (aleq l1 l3) <| rdK H1 b2 nn3 fun v1 => must (aveq (AV.i .i64 n1) v1) <| rdK H1 b3 (Nat.add m1 nn22) fun v2 => must (aveq (AV.p p1) v2) <| c1 [(DV.v (AV.p p1)), (DV.a l2), (DV.a z11), (DV.v (AV.i .i64 n2)), (DV.a l1), (DV.v (AV.i .i64 ii2))] H1 fun d1 H2 => onC d1 fun d2 d3 => onV d2 fun v3 => isI .i64 v3 fun n3 => onC d3 fun d4 d5 => onV d4 fun v4 => onN d5 <| Kc1 (DV.v (AV.i .i64 n3)) (DV.v v4) H2
def g19x5 := andK deq (c1 [(DV.v (AV.i .i64 n1))] H1 fun d1 H2 => onL d1 fun l2 => rdR H2 b1 nn0 nn4 fun l3 => must (aleq l1 l3) <| rdK H2 b2 nn3 fun v1 => must (aveq (AV.i .i64 n2) v1) <| rdK H2 b3 (Nat.add m1 nn22) fun v2 => g19x3 v2 l2 l1 n2 p1 H2 c2 Kc1) (alB H1 z10 nn4 nn0 fun b4 H2 => ixA (AS.sl b4 nn0 nn4 nn4) n2 (fun x => x) fun b5 m2 => rdK H2 b5 m2 fun v1 => isI .i64 v1 fun n3 => c1 [(DV.v (AV.i .i64 n1))] H2 fun d1 H3 => onL d1 fun l2 => rdK H3 b5 m2 fun v2 => must (aveq (AV.i .i64 n3) v2) <| g19x4 l1 l2 n2 n3 m1 p1 b1 b2 b3 H3 c2 Kc1)
def g19x6 := jF [(9 , .int .i64), (10 , .any)] (fun d1 d2 H2 => onV d1 fun v1 => isI .i64 v1 fun n1 => onV d2 fun v2 => g19x2 v2 d2 n1 p1 p2 b1 H2 c1 c2 Kb1) fun Kc1 => onA p1 fun b3 m1 => rdK H1 b3 (Nat.add m1 nn22) fun v1 => isP v1 fun p3 => rdK H1 b1 nn1 fun v2 => isI .i64 v2 fun n1 => rdK H1 b1 nn3 fun v3 => isI .i64 v3 fun n2 => rdR H1 b2 nn0 nn4 fun l1 => g19x5 l1 n1 n2 m1 p3 b2 b1 b3 H1 c1 c3 Kc1
def g19x7 := lpR (failF [(29 , .int .i64)]) (fun Kb2 => fun d1 H2 => onV d1 fun v1 => isI .i64 v1 fun n1 => frcB (ilt n1 ii4) fun t1 => br t1 (rdK H2 b1 nn2 fun v2 => isI .i64 v2 fun n2 => asI (bits .and .i64 n2 ii1) fun n3 => frcB (ieq n3 ii1) fun t2 => rng n1 nn4 <| wrK H2 b2 (Nat.add nn0 (itn n1)) (AV.b t2) fun H3 => wrp .i64 (iadd n1 ii1) fun n4 => Kb2 (DV.v (AV.i .i64 n4)) H3) (g19x6 p1 p2 b1 b2 H2 c1 c2 c3 Kb1)) (nat_lit 100000) (DV.v (AV.i .i64 ii0)) H1
def g19x8 := jn (fun d2 H2 => jn (fun d3 H3 => pickK t1 (DV.v (AV.b true)) d3 fun d4 => onV d4 fun v1 => isB v1 fun t2 => br t2 (Kb1 (DV.v (AV.er (nat_lit 2))) H3) (alB H3 z9 nn4 nn0 fun b2 H4 => g19x7 p1 p2 b1 b2 H4 c1 c2 c3 Kb1)) fun Kb2 => br t1 (Kb2 DV.n H2) (onV d2 fun v1 => isI .i64 v1 fun n1 => frcB (ile ii4 n1) fun t2 => Kb2 (DV.v (AV.b t2)) H2)) fun Kb2 => br t1 (Kb2 DV.n H1) (onV d1 fun v1 => isP v1 fun p3 => onA p3 fun b2 m1 => rdK H1 b2 m1 fun v2 => isI .i64 v2 fun n1 => Kb2 (DV.v (AV.i .i64 n1)) H1)
def g19x9 := lc R1 fun d1 R2 => ln R2 <| cellsD d1 fun l1 => alK H1 l1 fun b1 H2 => onA p1 fun b2 m1 => rdK H2 b2 m1 fun v1 => isI .i64 v1 fun n1 => frcB (bnot (ieq n1 ii0)) fun t1 => br t1 (Kb1 (DV.v (AV.er (nat_lit 7))) H2) (rdK H2 b1 nn3 fun v2 => isI .i64 v2 fun n2 => frcB (ilt n2 ii0) fun t2 => jn (fun d2 H3 => g19x8 d2 t2 p2 p1 b1 H3 c1 c2 c3 Kb1) fun Kb2 => br t2 (Kb2 DV.n H2) (Kb2 (DV.v (AV.p (AP.at b1 nn3))) H2))
/-- (*lab.Lab).join -/
def g19 : G DV := fun R1 H1 Kb1 => lc R1 fun d1 R2 => onV d1 fun v1 => isP v1 fun p1 => lc R2 fun d2 R3 => onV d2 fun v2 => isP v2 fun p2 => g19x9 R3 p2 p1 H1 c2 c1 c3 Kb1
def G19 : G DV := g19 G16 G17 G34

/-- (*ap.AP).other -/
def g44 : G DV := fun R1 H1 Kb1 => lc R1 fun d1 R2 => onV d1 fun v1 => isP v1 fun p1 => lc R2 fun d2 R3 => onV d2 fun v2 => isS v2 fun s1 => ln R3 <| Kb1 (DV.v (AV.er (nat_lit 4))) H1
def G44 : G DV := g44

def g45x1 := jF [(9 , .bool)] (fun d1 H2 => onV d1 fun v1 => isB v1 fun t1 => br t1 (ixA s1 ii0 (fun x => x) fun b1 m1 => rdK H2 b1 m1 fun v2 => isI .u8 v2 fun n2 => wrp .i64 n2 fun n3 => Kb1 (DV.v (AV.i .i64 n3)) H2) (Kb1 (DV.v (AV.i .i64 ii0)) H2)) fun Kb2 => frcB (ieq n1 ii132) fun t1 => br t1 (Kb2 (DV.v (AV.b t1)) H1) (frcB (ieq n1 ii148) fun t2 => br t2 (Kb2 (DV.v (AV.b t2)) H1) (frcB (ieq n1 ii164) fun t3 => br t3 (Kb2 (DV.v (AV.b t3)) H1) (frcB (ieq n1 ii136) fun t4 => br t4 (Kb2 (DV.v (AV.b t4)) H1) (frcB (ieq n1 ii208) fun t5 => Kb2 (DV.v (AV.b t5)) H1))))
/-- ctl.Kind -/
def g45 : G DV := fun R1 H1 Kb1 => lc R1 fun d1 R2 => onV d1 fun v1 => isS v1 fun s1 => ln R2 <| lenA s1 fun m1 => frcB (ieq (Int.ofNat m1) ii0) fun t1 => br t1 (Kb1 (DV.v (AV.i .i64 ii0)) H1) (ixA s1 ii0 (fun x => x) fun b1 m2 => rdK H1 b1 m2 fun v2 => isI .u8 v2 fun n1 => g45x1 n1 s1 H1 Kb1)
def G45 : G DV := g45

def g158x1 := jn (fun d3 H2 => pickK t1 d3 (DV.v (AV.b false)) fun d4 => onV d4 fun v1 => isB v1 fun t2 => br t2 (Kb1 (DV.v (AV.er (nat_lit 4))) H2) (lenA s1 fun m1 => frcB (ilt (Int.ofNat m1) n1) fun t3 => br t3 (Kb1 (DV.v (AV.er (nat_lit 0))) H2) (lenA s1 fun m2 => frcB (ilt n1 (Int.ofNat m2)) fun t4 => br t4 (Kb1 (DV.v (AV.er (nat_lit 1))) H2) (Kb1 (DV.v AV.ni) H2)))) fun Kb2 => br t1 (onV d1 fun v1 => onV d2 fun v2 => isI .u8 v1 fun n2 => isI .u8 v2 fun n3 => frcB (bnot (ieq n2 n3)) fun t2 => Kb2 (DV.v (AV.b t2)) H1) (Kb2 DV.n H1)
def g158x2 := jn (fun d2 H2 => jn (fun d3 H3 => jn (fun d4 H4 => g158x1 d3 d4 n1 t1 s1 H4 Kb1) fun Kb2 => br t1 (Kb2 (DV.v (AV.i .u8 n2)) H3) (Kb2 DV.n H3)) fun Kb2 => br t1 (onV d2 fun v1 => isP v1 fun p1 => onA p1 fun b1 m1 => rdK H2 b1 m1 fun v2 => isI .u8 v2 fun n3 => Kb2 (DV.v (AV.i .u8 n3)) H2) (Kb2 DV.n H2)) fun Kb2 => br t1 (onV d1 fun v1 => isS v1 fun s2 => ixA s2 ii0 (fun x => x) fun b1 m1 => Kb2 (DV.v (AV.p (AP.at b1 m1))) H1) (Kb2 DV.n H1)
/-- ctl.long -/
def g158 : G DV := fun R1 H1 Kb1 => lc R1 fun d1 R2 => onV d1 fun v1 => isS v1 fun s1 => lc R2 fun d2 R3 => onV d2 fun v2 => isI .u8 v2 fun n1 => lc R3 fun d3 R4 => onV d3 fun v3 => isI .i64 v3 fun n2 => ln R4 <| lenA s1 fun m1 => frcB (ilt ii0 (Int.ofNat m1)) fun t1 => jn (fun d4 H2 => g158x2 d4 n2 n1 t1 s1 H2 Kb1) fun Kb2 => br t1 (Kb2 (DV.v (AV.s s1)) H1) (Kb2 DV.n H1)
def G158 : G DV := g158

/-- ctl.number -/
def g181 : G DV := fun R1 H1 Kb1 => lc R1 fun d1 R2 => onV d1 fun v1 => isS v1 fun s1 => ln R2 <| ixA s1 ii0 (fun x => x) fun b1 m1 => rdK H1 b1 m1 fun v2 => isI .u8 v2 fun n1 => wrp .i64 n1 fun n2 => ixA s1 ii1 (fun x => x) fun b2 m2 => rdK H1 b2 m2 fun v3 => isI .u8 v3 fun n3 => wrp .i64 n3 fun n4 => wrp .i64 (imul n4 (ip2 ii8)) fun n5 => asI (bits .or .i64 n2 n5) fun n6 => Kb1 (DV.v (AV.i .i64 n6)) H1
def G181 : G DV := g181

def z12 : T4 AV := (@T4.n AV yy0 (@T4.n AV yy6 (@T4.n AV yy6 te te te te) (@T4.n AV yy6 te te te te) te te) (@T4.n AV yy6 (@T4.n AV yy6 te te te te) (@T4.n AV yy6 te te te te) te te) (@T4.n AV yy6 (@T4.n AV yy6 te te te te) (@T4.n AV yy6 te te te te) te te) (@T4.n AV yy6 (@T4.n AV yy6 te te te te) (@T4.n AV yy6 te te te te) te te))
def z13 : List AV := [(AV.i .i64 ii0), (AV.i .u8 ii0), (AV.i .u8 ii0), (AV.i .u8 ii0), (AV.i .u8 ii0), (AV.i .u8 ii0), (AV.i .u8 ii0), (AV.i .u8 ii0), (AV.i .u8 ii0), (AV.i .u8 ii0), (AV.i .u8 ii0), (AV.i .u8 ii0), (AV.i .u8 ii0)]
def g94x1 := br t1 (wrL H1 b1 nn0 z13 fun H2 => rdR H2 b1 nn0 nn13 fun l1 => Kb1 (DV.c (DV.a l1) (DV.c (DV.v (AV.er (nat_lit 2))) DV.n)) H2) (lenA s1 fun m1 => slA s1 nn4 m1 (fun x => x) fun s2 => copyD (nat_lit 1) (AS.sl b2 nn1 nn6 nn6) s2 H1 fun d1 H2 => lenA s1 fun m2 => slA s1 nn10 m2 (fun x => x) fun s3 => copyD (nat_lit 1) (AS.sl b2 nn7 nn6 nn6) s3 H2 fun d2 H3 => rdR H3 b2 nn0 nn13 fun l1 => must (Nat.beq (llen l1) nn13) <| wrL H3 b1 nn0 l1 fun H4 => rdR H4 b1 nn0 nn13 fun l2 => Kb1 (DV.c (DV.a l2) (DV.c (DV.v AV.ni) DV.n)) H4)
def g94x2 := jn (fun d1 H2 => jn (fun d2 H3 => jn (fun d3 H4 => pickK t1 (DV.v (AV.b true)) d3 fun d4 => onV d4 fun v1 => isB v1 fun t2 => g94x1 t2 b1 b2 s1 H4 Kb1) fun Kb2 => br t1 (Kb2 DV.n H3) (onV d2 fun v1 => isI .i64 v1 fun n1 => frcB (ilt ii2007 n1) fun t2 => Kb2 (DV.v (AV.b t2)) H3)) fun Kb2 => br t1 (Kb2 DV.n H2) (onV d1 fun v1 => isP v1 fun p1 => onA p1 fun b3 m1 => rdK H2 b3 m1 fun v2 => isI .i64 v2 fun n1 => Kb2 (DV.v (AV.i .i64 n1)) H2)) fun Kb2 => br t1 (Kb2 DV.n H1) (Kb2 (DV.v (AV.p (AP.at b2 nn0))) H1)
def g94x3 := br t1 (wrL H1 b1 nn0 z13 fun H2 => rdR H2 b1 nn0 nn13 fun l1 => Kb1 (DV.c (DV.a l1) (DV.c (DV.v (AV.er (nat_lit 1))) DV.n)) H2) (wrp .i64 (isub n1 ii49152) fun n2 => alB H1 z12 nn13 nn0 fun b2 H2 => wrL H2 b2 nn0 [(AV.i .i64 n2), (AV.i .u8 ii0), (AV.i .u8 ii0), (AV.i .u8 ii0), (AV.i .u8 ii0), (AV.i .u8 ii0), (AV.i .u8 ii0), (AV.i .u8 ii0), (AV.i .u8 ii0), (AV.i .u8 ii0), (AV.i .u8 ii0), (AV.i .u8 ii0), (AV.i .u8 ii0)] fun H3 => rdK H3 b2 nn0 fun v1 => isI .i64 v1 fun n3 => frcB (ilt n3 ii1) fun t2 => g94x2 t2 b1 b2 s1 H3 Kb1)
def g94x4 := ixA s1 ii1 (fun x => x) fun b2 m1 => rdK H1 b2 m1 fun v1 => isI .u8 v1 fun n2 => frcB (bnot (ieq n2 ii0)) fun t1 => jn (fun d1 H2 => jn (fun d2 H3 => pickK t1 (DV.v (AV.b true)) d2 fun d3 => onV d3 fun v2 => isB v2 fun t2 => g94x3 n1 t2 b1 s1 H3 Kb1) fun Kb2 => br t1 (Kb2 DV.n H2) (onV d1 fun v2 => isI .i64 v2 fun n3 => frcB (ilt n3 ii49152) fun t2 => Kb2 (DV.v (AV.b t2)) H2)) fun Kb2 => br t1 (Kb2 DV.n H1) (Kb2 (DV.v (AV.i .i64 n1)) H1)
def g94x5 := c1 [(DV.v (AV.s s1)), (DV.v (AV.i .u8 ii164)), (DV.v (AV.i .i64 ii16))] H1 fun d1 H2 => onV d1 fun v1 => ifA true true v1 AV.ni fun t1 => frcB (bnot t1) fun t2 => br t2 (wrL H2 b1 nn0 z13 fun H3 => rdR H3 b1 nn0 nn13 fun l1 => Kb1 (DV.c (DV.a l1) (DV.c (DV.v v1) DV.n)) H3) (lenA s1 fun m1 => slA s1 nn2 m1 (fun x => x) fun s2 => c2 [(DV.v (AV.s s2))] H2 fun d2 H3 => onV d2 fun v2 => isI .i64 v2 fun n1 => g94x4 n1 b1 s1 H3 Kb1)
/-- ctl.ReadPoll -/
def g94 : G DV := fun R1 H1 Kb1 => lc R1 fun d1 R2 => onV d1 fun v1 => isS v1 fun s1 => ln R2 <| alB H1 z12 nn13 nn0 fun b1 H2 => g94x5 b1 s1 H2 c1 c2 Kb1
def G94 : G DV := g94 G158 G181

def g96x1 := jn (fun d2 H2 => jn (fun d3 H3 => pickK t1 (DV.v (AV.b true)) d3 fun d4 => onV d4 fun v1 => isB v1 fun t2 => br t2 (Kb1 (DV.v (AV.er (nat_lit 9))) H3) (onA p1 fun b1 m1 => wrK H3 b1 (Nat.add m1 nn2) (AV.b true) fun H4 => Kb1 (DV.v AV.ni) H4)) fun Kb2 => br t1 (Kb2 DV.n H2) (onV d2 fun v1 => isP v1 fun p2 => onA p2 fun b1 m1 => rdK H2 b1 m1 fun v2 => isB v2 fun t2 => Kb2 (DV.v (AV.b t2)) H2)) fun Kb2 => br t1 (Kb2 DV.n H1) (onV d1 fun v1 => isP v1 fun p2 => onA p2 fun b1 m1 => Kb2 (DV.v (AV.p (AP.at b1 (Nat.add m1 nn3)))) H1)
def g96x2 := onV d1 fun v1 => isP v1 fun p1 => frcB (isNilA p1) fun t1 => br t1 (Kb1 (DV.v (AV.er (nat_lit 6))) H1) (onA p1 fun b1 m1 => rdK H1 b1 (Nat.add m1 nn1) fun v2 => isB v2 fun t2 => frcB (bnot t2) fun t3 => jn (fun d2 H2 => jn (fun d3 H3 => g96x1 d3 t3 p1 H3 Kb1) fun Kb2 => br t3 (Kb2 DV.n H2) (onV d2 fun v3 => isP v3 fun p2 => onA p2 fun b2 m2 => Kb2 (DV.v (AV.p (AP.at b2 m2))) H2)) fun Kb2 => br t3 (Kb2 DV.n H1) (Kb2 (DV.v (AV.p p1)) H1))
/-- (*ps.Power).Poll -/
def g96 : G DV := fun R1 H1 Kb1 => lc R1 fun d1 R2 => onV d1 fun v1 => isP v1 fun p1 => lc R2 fun d2 R3 => onV d2 fun v2 => isI .i64 v2 fun n1 => ln R3 <| c1 [(DV.v (AV.p p1)), (DV.v (AV.i .i64 n1))] H1 fun d3 H2 => g96x2 d3 H2 Kb1
def G96 : G DV := g96 G121

def g46x1 := br t1 (Kb1 (DV.v (AV.er (nat_lit 6))) H1) (rdR H1 b1 nn1 nn6 fun l1 => onA p1 fun b2 m1 => rdR H1 b2 m1 nn6 fun l2 => intsK .u8 l1 fun x1 => intsK .u8 l2 fun x2 => must (Nat.beq (leni x1) nn6) <| must (Nat.beq (leni x2) nn6) <| frcB (bnot (leqI x1 x2)) fun t2 => br t2 (Kb1 (DV.v (AV.er (nat_lit 4))) H1) (onA p1 fun b3 m2 => c1 [(DV.v (AV.p (AP.at b3 (Nat.add m2 nn150)))), (DV.v (AV.i .i64 n1))] H1 fun d1 H2 => onV d1 fun v1 => Kb1 (DV.v v1) H2))
def g46x2 := jn (fun d3 H2 => jn (fun d4 H3 => pickK t1 (DV.v (AV.b true)) d4 fun d5 => onV d5 fun v1 => isB v1 fun t2 => g46x1 n1 t2 p1 b1 H3 c1 Kb1) fun Kb2 => br t1 (Kb2 DV.n H2) (onV d1 fun v1 => onV d3 fun v2 => isI .i64 v1 fun n2 => isI .i64 v2 fun n3 => frcB (bnot (ieq n2 n3)) fun t2 => Kb2 (DV.v (AV.b t2)) H2)) fun Kb2 => br t1 (Kb2 DV.n H1) (onV d2 fun v1 => isP v1 fun p2 => onA p2 fun b2 m1 => rdK H1 b2 m1 fun v2 => isI .i64 v2 fun n2 => Kb2 (DV.v (AV.i .i64 n2)) H1)
def g46x3 := c1 [(DV.v (AV.p (AP.at b1 (Nat.add m1 nn22)))), (DV.a l1)] H1 fun d1 H2 => onC d1 fun d2 d3 => onV d2 fun v1 => isI .i64 v1 fun n1 => onC d3 fun d4 d5 => onV d4 fun v2 => isB v2 fun t1 => onN d5 <| frcB (bnot t1) fun t2 => jn (fun d6 H3 => jn (fun d7 H4 => g46x2 d6 d7 n1 t2 p1 b2 H4 c2 Kb1) fun Kb2 => br t2 (Kb2 DV.n H3) (Kb2 (DV.v (AV.p (AP.at b2 nn0))) H3)) fun Kb2 => br t2 (Kb2 DV.n H2) (Kb2 (DV.v (AV.i .i64 n1)) H2)
def g46x4 := isS v1 fun s1 => ln R1 <| c1 [(DV.v (AV.s s1))] H1 fun d1 H2 => onC d1 fun d2 d3 => onL d2 fun l1 => onC d3 fun d4 d5 => onV d4 fun v2 => onN d5 <| alB H2 z12 nn13 nn0 fun b1 H3 => must (Nat.beq (llen l1) nn13) <| wrL H3 b1 nn0 l1 fun H4 => ifA true true v2 AV.ni fun t1 => frcB (bnot t1) fun t2 => br t2 (Kb1 (DV.v v2) H4) (onA p1 fun b2 m1 => rdR H4 b1 nn7 nn6 fun l2 => g46x3 l2 m1 p1 b2 b1 H4 c2 c3 Kb1)
/-- (*ap.AP).poll -/
def g46 : G DV := fun R1 H1 Kb1 => lc R1 fun d1 R2 => onV d1 fun v1 => isP v1 fun p1 => lc R2 fun d2 R3 => onV d2 fun v2 => g46x4 v2 R3 p1 H1 c1 c2 c3 Kb1
def G46 : G DV := g46 G94 G95 G96

def g209x1 := jn (fun d1 H2 => jn (fun d2 H3 => jn (fun d3 H4 => pickK t1 d3 (DV.v (AV.b false)) fun d4 => onV d4 fun v1 => isB v1 fun t2 => Kb1 (DV.v (AV.b t2)) H4) fun Kb2 => br t1 (onV d1 fun v1 => onV d2 fun v2 => isI .i64 v1 fun n3 => isI .i64 v2 fun n4 => frcB (ile n3 n4) fun t2 => Kb2 (DV.v (AV.b t2)) H3) (Kb2 DV.n H3)) fun Kb2 => br t1 (Kb2 (DV.v (AV.i .i64 n1)) H2) (Kb2 DV.n H2)) fun Kb2 => br t1 (Kb2 (DV.v (AV.i .i64 n2)) H1) (Kb2 DV.n H1)
/-- act.top -/
def g209 : G DV := fun R1 H1 Kb1 => lc R1 fun d1 R2 => onV d1 fun v1 => isI .i64 v1 fun n1 => lc R2 fun d2 R3 => onV d2 fun v2 => isI .i64 v2 fun n2 => ln R3 <| frcB (ile ii0 n1) fun t1 => g209x1 n2 n1 t1 H1 Kb1
def G209 : G DV := g209

def z14 : T4 AV := (@T4.n AV yy14 (@T4.n AV yy6 te te te te) (@T4.n AV yy6 te te te te) (@T4.n AV yy6 te te te te) te)
def g210x1 := br t1 (ixA (AS.sl b1 nn0 nn3 nn3) n1 (fun x => Nat.mul x nn6) fun b2 m1 => rdR H1 b2 m1 nn6 fun l1 => alB H1 z2 nn6 nn0 fun b3 H2 => must (Nat.beq (llen l1) nn6) <| wrL H2 b3 nn0 l1 fun H3 => appD nn1 nn1 s1 (AS.sl b3 nn0 nn6 nn6) H3 fun s2 H4 => wrp .i64 (iadd n1 ii1) fun n3 => Kc1 (DV.v (AV.s s2)) (DV.v (AV.i .i64 n3)) H4) (alB H1 (@T4.n AV yy6 (@T4.n AV yy6 te te te te) (@T4.n AV yy15 te te te te) (@T4.n AV (AV.i .u8 n2) te te te te) te) nn4 nn0 fun b2 H2 => appD nn1 nn1 s1 (AS.sl b2 nn0 nn4 nn4) H2 fun s2 H3 => Kb1 (DV.v (AV.s s2)) H3)
def g210x2 := must (Nat.beq (llen l1) nn6) <| must (Nat.beq (llen l2) nn6) <| alK H1 (lapp l3 (lapp l1 (lapp l2 []))) fun b2 H2 => lenA (AS.sl b2 nn0 nn3 nn3) fun m1 => lpR (failF [(9 , .slice), (18 , .int .i64)]) (fun Kc1 => fun d1 d2 H3 => onV d1 fun v1 => isS v1 fun s1 => onV d2 fun v2 => isI .i64 v2 fun n2 => frcB (ilt n2 (Int.ofNat m1)) fun t1 => g210x1 n2 n1 t1 b2 s1 H3 Kb1 Kc1) (nat_lit 100000) (DV.v (AV.s (AS.sl b1 nn0 nn4 nn4))) (DV.v (AV.i .i64 ii0)) H2
def g210x3 := lc R1 fun d2 R2 => lc R2 fun d3 R3 => lc R3 fun d4 R4 => onV d4 fun v1 => isI .u8 v1 fun n1 => ln R4 <| cellsD d1 fun l1 => alK H1 l1 fun b1 H2 => cellsD d2 fun l2 => alK H2 l2 fun b2 H3 => cellsD d3 fun l3 => alK H3 l3 fun b3 H4 => alB H4 z14 nn4 nn0 fun b4 H5 => rdR H5 b1 nn0 nn6 fun l4 => rdR H5 b2 nn0 nn6 fun l5 => rdR H5 b3 nn0 nn6 fun l6 => must (Nat.beq (llen l4) nn6) <| g210x2 l5 l6 l4 n1 b4 H5 Kb1
/-- act.front -/
def g210 : G DV := fun R1 H1 Kb1 => lc R1 fun d1 R2 => g210x3 d1 R2 H1 Kb1
def G210 : G DV := g210

/-- act.two -/
def g211 : G DV := fun R1 H1 Kb1 => lc R1 fun d1 R2 => onV d1 fun v1 => isI .i64 v1 fun n1 => ln R2 <| wrp .u8 n1 fun n2 => asI (idiv n1 (ip2 ii8)) fun n3 => wrp .u8 n3 fun n4 => alB H1 (@T4.n AV (AV.i .u8 n2) (@T4.n AV (AV.i .u8 n4) te te te te) te te te) nn2 nn0 fun b1 H2 => Kb1 (DV.v (AV.s (AS.sl b1 nn0 nn2 nn2))) H2
def G211 : G DV := g211

def g144x1 := jF [(5 , .slice)] (fun d1 H2 => onV d1 fun v1 => isS v1 fun s2 => Kb1 (DV.c (DV.v (AV.s s2)) (DV.c (DV.v AV.ni) DV.n)) H2) fun Kb2 => rdK H1 b1 nn18 fun v1 => isB v1 fun t1 => frcB (bnot t1) fun t2 => br t2 (rdK H1 b1 nn23 fun v2 => isI .i64 v2 fun n1 => wrp .i64 (imul n1 ii16) fun n2 => c1 [(DV.v (AV.i .i64 n2))] H1 fun d1 H2 => onV d1 fun v3 => isS v3 fun s2 => appD nn1 nn1 s1 s2 H2 fun s3 H3 => Kb2 (DV.v (AV.s s3)) H3) (Kb2 (DV.v (AV.s s1)) H1)
def g144x2 := rdK H1 b1 nn21 fun v1 => isI .i64 v1 fun n2 => wrp .i64 (imul n2 ii64) fun n3 => wrp .i64 (iadd n1 n3) fun n4 => c1 [(DV.v (AV.i .i64 n4))] H1 fun d1 H2 => onV d1 fun v2 => isS v2 fun s2 => appD nn1 nn1 s1 s2 H2 fun s3 H3 => rdK H3 b1 nn22 fun v3 => isI .i64 v3 fun n5 => c1 [(DV.v (AV.i .i64 n5))] H3 fun d2 H4 => onV d2 fun v4 => isS v4 fun s4 => appD nn1 nn1 s3 s4 H4 fun s5 H5 => g144x1 b1 s5 H5 c1 Kb1
def g144x3 := jF [(5 , .slice)] (fun d1 H2 => onV d1 fun v1 => isS v1 fun s2 => rdK H2 b1 nn20 fun v2 => isI .i64 v2 fun n1 => wrp .i64 (imul n1 ii4) fun n2 => wrp .i64 (iadd ii2 n2) fun n3 => g144x2 n3 b1 s2 H2 c1 Kb1) fun Kb2 => rdK H1 b1 nn18 fun v1 => isB v1 fun t1 => br t1 (rdK H1 b1 nn24 fun v2 => isI .i64 v2 fun n1 => c1 [(DV.v (AV.i .i64 n1))] H1 fun d1 H2 => onV d1 fun v3 => isS v3 fun s2 => appD nn1 nn1 s1 s2 H2 fun s3 H3 => Kb2 (DV.v (AV.s s3)) H3) (Kb2 (DV.v (AV.s s1)) H1)
def g144x4 := rdR H1 b1 nn12 nn6 fun l3 => rdK H1 b1 nn19 fun v1 => isI .i64 v1 fun n2 => wrp .u8 n2 fun n3 => c1 [(DV.a l1), (DV.a l2), (DV.a l3), (DV.v (AV.i .u8 n1))] H1 fun d1 H2 => onV d1 fun v2 => isS v2 fun s1 => rdK H2 b1 nn19 fun v3 => must (aveq (AV.i .i64 n2) v3) <| alB H2 (@T4.n AV (AV.i .u8 n3) te te te te) nn1 nn0 fun b2 H3 => appD nn1 nn1 s1 (AS.sl b2 nn0 nn1 nn1) H3 fun s2 H4 => g144x3 b1 s2 H4 c2 Kb1
def g144x5 := pickK t1 (DV.v (AV.b true)) d1 fun d2 => onV d2 fun v1 => isB v1 fun t2 => br t2 (Kb1 (DV.c (DV.v (AV.s AS.nil)) (DV.c (DV.v (AV.er (nat_lit 2))) DV.n)) H1) (jF [(4 , .int .u8)] (fun d3 H2 => onV d3 fun v2 => isI .u8 v2 fun n1 => rdR H2 b1 nn0 nn6 fun l1 => rdR H2 b1 nn6 nn6 fun l2 => g144x4 l1 l2 n1 b1 H2 c1 c2 Kb1) fun Kb2 => rdK H1 b1 nn18 fun v2 => isB v2 fun t3 => br t3 (Kb2 (DV.v (AV.i .u8 ii1)) H1) (Kb2 (DV.v (AV.i .u8 ii0)) H1))
def g144x6 := jn (fun d3 H2 => jn (fun d4 H3 => jn (fun d5 H4 => g144x5 d5 t1 b1 H4 c1 c2 Kb1) fun Kb2 => br t1 (Kb2 DV.n H3) (onV d1 fun v1 => isB v1 fun t2 => pickK t2 d4 (DV.v (AV.b false)) fun d5 => onV d5 fun v2 => isB v2 fun t3 => Kb2 (DV.v (AV.b t3)) H3)) fun Kb2 => grd d1 true (onV d3 fun v1 => isI .i64 v1 fun n1 => frcB (bnot (ieq n1 ii0)) fun t2 => Kb2 (DV.v (AV.b t2)) H2) (Kb2 DV.n H2)) fun Kb2 => grd d1 true (onV d2 fun v1 => isP v1 fun p1 => onA p1 fun b2 m1 => rdK H1 b2 m1 fun v2 => isI .i64 v2 fun n1 => Kb2 (DV.v (AV.i .i64 n1)) H1) (Kb2 DV.n H1)
def g144x7 := jn (fun d1 H2 => jn (fun d2 H3 => jn (fun d3 H4 => jn (fun d4 H5 => g144x6 d3 d4 t1 b1 H5 c1 c2 Kb1) fun Kb2 => grd d3 true (Kb2 (DV.v (AV.p (AP.at b1 nn23))) H4) (Kb2 DV.n H4)) fun Kb2 => br t1 (Kb2 DV.n H3) (Kb2 d2 H3)) fun Kb2 => br t1 (Kb2 DV.n H2) (onV d1 fun v1 => isP v1 fun p1 => onA p1 fun b2 m1 => rdK H2 b2 m1 fun v2 => isB v2 fun t2 => Kb2 (DV.v (AV.b t2)) H2)) fun Kb2 => br t1 (Kb2 DV.n H1) (Kb2 (DV.v (AV.p (AP.at b1 nn18))) H1)
def g144x8 := jn (fun d3 H2 => jn (fun d4 H3 => pickK t1 (DV.v (AV.b true)) d4 fun d5 => onV d5 fun v1 => isB v1 fun t2 => g144x7 t2 b1 H3 c1 c2 Kb1) fun Kb2 => br t1 (Kb2 DV.n H2) (onV d1 fun v1 => isB v1 fun t2 => pickK t2 d3 (DV.v (AV.b false)) fun d4 => onV d4 fun v2 => isB v2 fun t3 => Kb2 (DV.v (AV.b t3)) H2)) fun Kb2 => grd d1 true (onV d2 fun v1 => isI .i64 v1 fun n1 => frcB (bnot (ieq n1 ii0)) fun t2 => Kb2 (DV.v (AV.b t2)) H1) (Kb2 DV.n H1)
def g144x9 := jn (fun d2 H2 => jn (fun d3 H3 => jn (fun d4 H4 => jn (fun d5 H5 => g144x8 d3 d5 t1 b1 H5 c1 c2 Kb1) fun Kb2 => grd d3 true (onV d4 fun v1 => isP v1 fun p1 => onA p1 fun b2 m1 => rdK H4 b2 m1 fun v2 => isI .i64 v2 fun n1 => Kb2 (DV.v (AV.i .i64 n1)) H4) (Kb2 DV.n H4)) fun Kb2 => grd d3 true (Kb2 (DV.v (AV.p (AP.at b1 nn24))) H3) (Kb2 DV.n H3)) fun Kb2 => br t1 (Kb2 DV.n H2) (Kb2 d2 H2)) fun Kb2 => br t1 (Kb2 DV.n H1) (onV d1 fun v1 => isB v1 fun t2 => frcB (bnot t2) fun t3 => Kb2 (DV.v (AV.b t3)) H1)
def g144x10 := jn (fun d2 H2 => pickK t1 (DV.v (AV.b true)) d2 fun d3 => onV d3 fun v1 => isB v1 fun t2 => jn (fun d4 H3 => jn (fun d5 H4 => g144x9 d5 t2 b1 H4 c1 c2 Kb1) fun Kb2 => br t2 (Kb2 DV.n H3) (onV d4 fun v2 => isP v2 fun p1 => onA p1 fun b2 m1 => rdK H3 b2 m1 fun v3 => isB v3 fun t3 => Kb2 (DV.v (AV.b t3)) H3)) fun Kb2 => br t2 (Kb2 DV.n H2) (Kb2 (DV.v (AV.p (AP.at b1 nn18))) H2)) fun Kb2 => br t1 (Kb2 DV.n H1) (onV d1 fun v1 => isB v1 fun t2 => frcB (bnot t2) fun t3 => Kb2 (DV.v (AV.b t3)) H1)
def g144x11 := jn (fun d1 H2 => jn (fun d2 H3 => jn (fun d3 H4 => g144x10 d3 t1 b1 H4 c1 c2 Kb1) fun Kb2 => br t1 (Kb2 DV.n H3) (c3 [d2, (DV.v (AV.i .i64 ii4095))] H3 fun d3 H4 => onV d3 fun v1 => isB v1 fun t2 => Kb2 (DV.v (AV.b t2)) H4)) fun Kb2 => br t1 (Kb2 DV.n H2) (onV d1 fun v1 => isP v1 fun p1 => onA p1 fun b2 m1 => rdK H2 b2 m1 fun v2 => isI .i64 v2 fun n1 => Kb2 (DV.v (AV.i .i64 n1)) H2)) fun Kb2 => br t1 (Kb2 DV.n H1) (Kb2 (DV.v (AV.p (AP.at b1 nn23))) H1)
def g144x12 := jn (fun d2 H2 => jn (fun d3 H3 => jn (fun d4 H4 => pickK t1 (DV.v (AV.b true)) d4 fun d5 => onV d5 fun v1 => isB v1 fun t2 => g144x11 t2 b1 H4 c1 c2 c3 Kb1) fun Kb2 => br t1 (Kb2 DV.n H3) (onV d3 fun v1 => isB v1 fun t2 => frcB (bnot t2) fun t3 => Kb2 (DV.v (AV.b t3)) H3)) fun Kb2 => br t1 (Kb2 DV.n H2) (c3 [d2, (DV.v (AV.i .i64 ii65535))] H2 fun d3 H3 => onV d3 fun v1 => isB v1 fun t2 => Kb2 (DV.v (AV.b t2)) H3)) fun Kb2 => br t1 (Kb2 DV.n H1) (onV d1 fun v1 => isP v1 fun p1 => onA p1 fun b2 m1 => rdK H1 b2 m1 fun v2 => isI .i64 v2 fun n1 => Kb2 (DV.v (AV.i .i64 n1)) H1)
def g144x13 := jn (fun d2 H2 => jn (fun d3 H3 => pickK t1 (DV.v (AV.b true)) d3 fun d4 => onV d4 fun v1 => isB v1 fun t2 => jn (fun d5 H4 => g144x12 d5 t2 b1 H4 c1 c2 c3 Kb1) fun Kb2 => br t2 (Kb2 DV.n H3) (Kb2 (DV.v (AV.p (AP.at b1 nn24))) H3)) fun Kb2 => br t1 (Kb2 DV.n H2) (onV d2 fun v1 => isB v1 fun t2 => frcB (bnot t2) fun t3 => Kb2 (DV.v (AV.b t3)) H2)) fun Kb2 => br t1 (Kb2 DV.n H1) (c3 [d1, (DV.v (AV.i .i64 ii65535))] H1 fun d2 H2 => onV d2 fun v1 => isB v1 fun t2 => Kb2 (DV.v (AV.b t2)) H2)
def g144x14 := jn (fun d2 H2 => pickK t1 (DV.v (AV.b true)) d2 fun d3 => onV d3 fun v1 => isB v1 fun t2 => jn (fun d4 H3 => jn (fun d5 H4 => g144x13 d5 t2 b1 H4 c1 c2 c3 Kb1) fun Kb2 => br t2 (Kb2 DV.n H3) (onV d4 fun v2 => isP v2 fun p1 => onA p1 fun b2 m1 => rdK H3 b2 m1 fun v3 => isI .i64 v3 fun n1 => Kb2 (DV.v (AV.i .i64 n1)) H3)) fun Kb2 => br t2 (Kb2 DV.n H2) (Kb2 (DV.v (AV.p (AP.at b1 nn22))) H2)) fun Kb2 => br t1 (Kb2 DV.n H1) (onV d1 fun v1 => isB v1 fun t2 => frcB (bnot t2) fun t3 => Kb2 (DV.v (AV.b t3)) H1)
def g144x15 := jn (fun d1 H2 => jn (fun d2 H3 => jn (fun d3 H4 => g144x14 d3 t1 b1 H4 c1 c2 c3 Kb1) fun Kb2 => br t1 (Kb2 DV.n H3) (c3 [d2, (DV.v (AV.i .i64 ii1023))] H3 fun d3 H4 => onV d3 fun v1 => isB v1 fun t2 => Kb2 (DV.v (AV.b t2)) H4)) fun Kb2 => br t1 (Kb2 DV.n H2) (onV d1 fun v1 => isP v1 fun p1 => onA p1 fun b2 m1 => rdK H2 b2 m1 fun v2 => isI .i64 v2 fun n1 => Kb2 (DV.v (AV.i .i64 n1)) H2)) fun Kb2 => br t1 (Kb2 DV.n H1) (Kb2 (DV.v (AV.p (AP.at b1 nn21))) H1)
def g144x16 := jn (fun d2 H2 => jn (fun d3 H3 => jn (fun d4 H4 => pickK t1 (DV.v (AV.b true)) d4 fun d5 => onV d5 fun v1 => isB v1 fun t2 => g144x15 t2 b1 H4 c1 c2 c3 Kb1) fun Kb2 => br t1 (Kb2 DV.n H3) (onV d3 fun v1 => isB v1 fun t2 => frcB (bnot t2) fun t3 => Kb2 (DV.v (AV.b t3)) H3)) fun Kb2 => br t1 (Kb2 DV.n H2) (c3 [d2, (DV.v (AV.i .i64 ii7))] H2 fun d3 H3 => onV d3 fun v1 => isB v1 fun t2 => Kb2 (DV.v (AV.b t2)) H3)) fun Kb2 => br t1 (Kb2 DV.n H1) (onV d1 fun v1 => isP v1 fun p1 => onA p1 fun b2 m1 => rdK H1 b2 m1 fun v2 => isI .i64 v2 fun n1 => Kb2 (DV.v (AV.i .i64 n1)) H1)
/-- act.AddBytes -/
def g144 : G DV := fun R1 H1 Kb1 => lc R1 fun d1 R2 => ln R2 <| cellsD d1 fun l1 => alK H1 l1 fun b1 H2 => rdK H2 b1 nn19 fun v1 => isI .i64 v1 fun n1 => c1 [(DV.v (AV.i .i64 n1)), (DV.v (AV.i .i64 ii255))] H2 fun d2 H3 => onV d2 fun v2 => isB v2 fun t1 => frcB (bnot t1) fun t2 => jn (fun d3 H4 => g144x16 d3 t2 b1 H4 c2 c3 c1 Kb1) fun Kb2 => br t2 (Kb2 DV.n H3) (Kb2 (DV.v (AV.p (AP.at b1 nn20))) H3)
def G144 : G DV := g144 G209 G210 G211

def g165x1 := jn (fun d2 H2 => pickK t1 (DV.v (AV.b true)) d2 fun d3 => onV d3 fun v1 => isB v1 fun t2 => br t2 (Kb1 (DV.v (AV.er (nat_lit 4))) H2) (lenA s1 fun m1 => frcB (ilt (Int.ofNat m1) n1) fun t3 => br t3 (Kb1 (DV.v (AV.er (nat_lit 0))) H2) (lenA s1 fun m2 => frcB (ilt n1 (Int.ofNat m2)) fun t4 => br t4 (Kb1 (DV.v (AV.er (nat_lit 1))) H2) (Kb1 (DV.v AV.ni) H2)))) fun Kb2 => br t1 (Kb2 DV.n H1) (onV d1 fun v1 => isI .i64 v1 fun n2 => frcB (ilt n2 ii0) fun t2 => Kb2 (DV.v (AV.b t2)) H1)
def g165x2 := jn (fun d3 H2 => jn (fun d4 H3 => jn (fun d5 H4 => g165x1 d5 n1 t1 s1 H4 Kb1) fun Kb2 => br t1 (Kb2 DV.n H3) (c1 [d1, d4] H3 fun d5 H4 => onV d5 fun v1 => isI .i64 v1 fun n2 => Kb2 (DV.v (AV.i .i64 n2)) H4)) fun Kb2 => br t1 (Kb2 DV.n H2) (onV d3 fun v1 => isP v1 fun p1 => onA p1 fun b1 m1 => rdK H2 b1 m1 fun v2 => isI .u8 v2 fun n2 => Kb2 (DV.v (AV.i .u8 n2)) H2)) fun Kb2 => br t1 (Kb2 DV.n H1) (onV d2 fun v1 => isS v1 fun s2 => ixA s2 ii25 (fun x => x) fun b1 m1 => Kb2 (DV.v (AV.p (AP.at b1 m1))) H1)
def g165x3 := jn (fun d2 H2 => jn (fun d3 H3 => pickK t1 (DV.v (AV.b true)) d3 fun d4 => onV d4 fun v1 => isB v1 fun t2 => jn (fun d5 H4 => jn (fun d6 H5 => g165x2 d5 d6 n1 t2 s1 H5 c1 Kb1) fun Kb2 => br t2 (Kb2 DV.n H4) (Kb2 (DV.v (AV.s s1)) H4)) fun Kb2 => br t2 (Kb2 DV.n H3) (Kb2 (DV.v (AV.s s2)) H3)) fun Kb2 => br t1 (Kb2 DV.n H2) (onV d2 fun v1 => isI .u8 v1 fun n2 => frcB (bnot (ieq n2 ii3)) fun t2 => Kb2 (DV.v (AV.b t2)) H2)) fun Kb2 => br t1 (Kb2 DV.n H1) (onV d1 fun v1 => isP v1 fun p1 => onA p1 fun b1 m1 => rdK H1 b1 m1 fun v2 => isI .u8 v2 fun n2 => Kb2 (DV.v (AV.i .u8 n2)) H1)
def g165x4 := br t1 (Kb1 (DV.v (AV.er (nat_lit 0))) H1) (ixA s1 ii0 (fun x => x) fun b1 m1 => rdK H1 b1 m1 fun v1 => isI .u8 v1 fun n2 => frcB (bnot (ieq n2 ii208)) fun t2 => jn (fun d1 H2 => jn (fun d2 H3 => g165x3 d2 n1 t2 s1 s2 H3 c1 Kb1) fun Kb2 => br t2 (Kb2 DV.n H2) (onV d1 fun v2 => isS v2 fun s3 => ixA s3 ii24 (fun x => x) fun b2 m2 => Kb2 (DV.v (AV.p (AP.at b2 m2))) H2)) fun Kb2 => br t2 (Kb2 DV.n H1) (Kb2 (DV.v (AV.s s1)) H1))
/-- act.long -/
def g165 : G DV := fun R1 H1 Kb1 => lc R1 fun d1 R2 => onV d1 fun v1 => isS v1 fun s1 => lc R2 fun d2 R3 => onV d2 fun v2 => isI .i64 v2 fun n1 => lc R3 fun d3 R4 => onV d3 fun v3 => isS v3 fun s2 => ln R4 <| lenA s1 fun m1 => frcB (ilt (Int.ofNat m1) ii26) fun t1 => g165x4 n1 t1 s1 s2 H1 c1 Kb1
def G165 : G DV := g165 gIndexByte.G

def z15 : T4 AV := (@T4.n AV yy6 (@T4.n AV yy6 (@T4.n AV yy6 te te te te) (@T4.n AV yy6 te te te te) (@T4.n AV yy6 te te te te) (@T4.n AV yy6 te te te te)) (@T4.n AV yy6 (@T4.n AV yy6 te te te te) (@T4.n AV yy6 te te te te) (@T4.n AV yy6 te te te te) te) (@T4.n AV yy6 (@T4.n AV yy6 te te te te) (@T4.n AV yy6 te te te te) (@T4.n AV yy6 te te te te) te) (@T4.n AV yy6 (@T4.n AV yy6 te te te te) (@T4.n AV yy6 te te te te) (@T4.n AV yy6 te te te te) te))
def g166x1 := rdR H1 b1 nn12 nn6 fun l3 => must (aleq l1 l3) <| rdR H1 b1 nn6 nn6 fun l4 => must (aleq l2 l4) <| must (Nat.beq (llen l2) nn6) <| wrL H1 b2 nn0 l2 fun H2 => rdR H2 b1 nn12 nn6 fun l5 => must (aleq l1 l5) <| must (Nat.beq (llen l1) nn6) <| wrL H2 b3 nn0 l1 fun H3 => rdR H3 b4 nn0 nn6 fun l6 => rdR H3 b2 nn0 nn6 fun l7 => rdR H3 b3 nn0 nn6 fun l8 => Kb1 (DV.c (DV.a l6) (DV.c (DV.a l7) (DV.c (DV.a l8) DV.n))) H3
def g166x2 := br t1 (rng n1 nn3 <| wrp .i64 (imul n1 ii6) fun n2 => wrp .i64 (iadd ii4 n2) fun n3 => natK n3 fun m1 => lenA s1 fun m2 => slA s1 m1 m2 (fun x => x) fun s2 => copyD (nat_lit 1) (AS.sl b1 (Nat.add nn0 (Nat.mul (itn n1) nn6)) nn6 nn6) s2 H1 fun d1 H2 => wrp .i64 (iadd n1 ii1) fun n4 => Kb1 (DV.v (AV.i .i64 n4)) H2) (rdR H1 b1 nn0 nn6 fun l1 => rdR H1 b1 nn6 nn6 fun l2 => rdR H1 b1 nn12 nn6 fun l3 => must (Nat.beq (llen l1) nn6) <| wrL H1 b2 nn0 l1 fun H2 => g166x1 l3 l2 b1 b3 b4 b2 H2 Kb2)
/-- act.addrs -/
def g166 : G DV := fun R1 H1 Kb1 => lc R1 fun d1 R2 => onV d1 fun v1 => isS v1 fun s1 => ln R2 <| alB H1 z2 nn6 nn0 fun b1 H2 => alB H2 z2 nn6 nn0 fun b2 H3 => alB H3 z2 nn6 nn0 fun b3 H4 => alB H4 z15 nn18 nn0 fun b4 H5 => lpR (failF [(7 , .int .i64)]) (fun Kb2 => fun d2 H6 => onV d2 fun v2 => isI .i64 v2 fun n1 => frcB (ilt n1 ii3) fun t1 => g166x2 n1 t1 b4 b1 b2 b3 s1 H6 Kb2 Kb1) (nat_lit 100000) (DV.v (AV.i .i64 ii0)) H5
def G166 : G DV := g166

/-- act.number -/
def g167 : G DV := fun R1 H1 Kb1 => lc R1 fun d1 R2 => onV d1 fun v1 => isS v1 fun s1 => ln R2 <| ixA s1 ii0 (fun x => x) fun b1 m1 => rdK H1 b1 m1 fun v2 => isI .u8 v2 fun n1 => wrp .i64 n1 fun n2 => ixA s1 ii1 (fun x => x) fun b2 m2 => rdK H1 b2 m2 fun v3 => isI .u8 v3 fun n3 => wrp .i64 n3 fun n4 => wrp .i64 (imul n4 (ip2 ii8)) fun n5 => asI (bits .or .i64 n2 n5) fun n6 => Kb1 (DV.v (AV.i .i64 n6)) H1
def G167 : G DV := g167

def z16 : T4 AV := (@T4.n AV yy6 (@T4.n AV yy6 (@T4.n AV yy6 (@T4.n AV yy0 te te te te) te te te) (@T4.n AV yy6 te te te te) (@T4.n AV yy6 te te te te) (@T4.n AV yy6 te te te te)) (@T4.n AV yy6 (@T4.n AV yy6 (@T4.n AV yy0 te te te te) te te te) (@T4.n AV yy6 te te te te) (@T4.n AV yy6 te te te te) (@T4.n AV yy2 te te te te)) (@T4.n AV yy6 (@T4.n AV yy6 (@T4.n AV yy0 te te te te) te te te) (@T4.n AV yy6 te te te te) (@T4.n AV yy6 te te te te) (@T4.n AV yy0 te te te te)) (@T4.n AV yy6 (@T4.n AV yy6 (@T4.n AV yy0 te te te te) te te te) (@T4.n AV yy6 te te te te) (@T4.n AV yy6 te te te te) (@T4.n AV yy0 te te te te)))
def z17 : List AV := [(AV.i .u8 ii0), (AV.i .u8 ii0), (AV.i .u8 ii0), (AV.i .u8 ii0), (AV.i .u8 ii0), (AV.i .u8 ii0), (AV.i .u8 ii0), (AV.i .u8 ii0), (AV.i .u8 ii0), (AV.i .u8 ii0), (AV.i .u8 ii0), (AV.i .u8 ii0), (AV.i .u8 ii0), (AV.i .u8 ii0), (AV.i .u8 ii0), (AV.i .u8 ii0), (AV.i .u8 ii0), (AV.i .u8 ii0), (AV.b false), (AV.i .i64 ii0), (AV.i .i64 ii0), (AV.i .i64 ii0), (AV.i .i64 ii0), (AV.i .i64 ii0), (AV.i .i64 ii0)]
def g78x1 := jn (fun d2 H2 => pickK t1 (DV.v (AV.b true)) d2 fun d3 => onV d3 fun v1 => isB v1 fun t2 => br t2 (wrL H2 b1 nn0 z17 fun H3 => rdR H3 b1 nn0 nn25 fun l1 => Kb1 (DV.c (DV.a l1) (DV.c (DV.v (AV.er (nat_lit 1))) DV.n)) H3) (rdR H2 b2 nn0 nn25 fun l1 => must (Nat.beq (llen l1) nn25) <| wrL H2 b1 nn0 l1 fun H3 => rdR H3 b1 nn0 nn25 fun l2 => Kb1 (DV.c (DV.a l2) (DV.c (DV.v AV.ni) DV.n)) H3)) fun Kb2 => br t1 (Kb2 DV.n H1) (onV d1 fun v1 => isB v1 fun t2 => frcB (bnot t2) fun t3 => Kb2 (DV.v (AV.b t3)) H1)
def g78x2 := onC d1 fun d2 d3 => onV d2 fun v1 => onN d3 <| ifA true true v1 AV.ni fun t1 => frcB (bnot t1) fun t2 => jn (fun d4 H2 => jn (fun d5 H3 => jn (fun d6 H4 => g78x1 d6 t2 b1 b2 H4 Kb1) fun Kb2 => br t2 (Kb2 DV.n H3) (c1 [d4, d5] H3 fun d6 H4 => onV d6 fun v2 => isB v2 fun t3 => Kb2 (DV.v (AV.b t3)) H4)) fun Kb2 => br t2 (Kb2 DV.n H2) (Kb2 (DV.v (AV.s s1)) H2)) fun Kb2 => br t2 (Kb2 DV.n H1) (Kb2 (DV.v (AV.s s2)) H1)
def g78x3 := jF [] (fun H2 => rdR H2 b1 nn0 nn25 fun l1 => c1 [(DV.a l1)] H2 fun d1 H3 => onC d1 fun d2 d3 => onV d2 fun v1 => isS v1 fun s3 => g78x2 d3 b2 b1 s1 s3 H3 c2 Kb1) fun Ka1 => rdK H1 b1 nn18 fun v1 => isB v1 fun t1 => frcB (bnot t1) fun t2 => br t2 (lenA s2 fun m1 => slA s2 nn4 m1 (fun x => x) fun s3 => c3 [(DV.v (AV.s s3))] H1 fun d1 H2 => onV d1 fun v2 => isI .i64 v2 fun n1 => must (bnot (ieq ii16 ii0)) <| wrp .i64 (iquo n1 ii16) fun n2 => wrK H2 b1 nn23 (AV.i .i64 n2) fun H3 => Ka1 H3) (Ka1 H1)
def g78x4 := must (bnot (ieq ii4 ii0)) <| wrp .i64 (iquo n1 ii4) fun n3 => must (bnot (ieq ii64 ii0)) <| wrp .i64 (iquo n2 ii64) fun n4 => lenA s1 fun m1 => slA s1 nn2 m1 (fun x => x) fun s3 => c1 [(DV.v (AV.s s3))] H1 fun d1 H2 => onV d1 fun v1 => isI .i64 v1 fun n5 => wrK H2 b1 nn20 (AV.i .i64 n3) fun H3 => wrK H3 b1 nn21 (AV.i .i64 n4) fun H4 => wrK H4 b1 nn22 (AV.i .i64 n5) fun H5 => g78x3 b1 b2 s2 s1 H5 c2 c3 c1 Kb1
def g78x5 := jF [(6 , .slice)] (fun d1 H2 => onV d1 fun v1 => isS v1 fun s3 => c1 [(DV.v (AV.s s3))] H2 fun d2 H3 => onV d2 fun v2 => isI .i64 v2 fun n1 => must (bnot (ieq ii64 ii0)) <| asI (irem n1 ii64) fun n2 => g78x4 n2 n1 b1 b2 s3 s1 H3 c1 c2 c3 Kb1) fun Kb2 => rdK H1 b1 nn18 fun v1 => isB v1 fun t1 => br t1 (c1 [(DV.v (AV.s s2))] H1 fun d1 H2 => onV d1 fun v2 => isI .i64 v2 fun n1 => wrK H2 b1 nn24 (AV.i .i64 n1) fun H3 => lenA s2 fun m1 => slA s2 nn2 m1 (fun x => x) fun s3 => Kb2 (DV.v (AV.s s3)) H3) (Kb2 (DV.v (AV.s s2)) H1)
def g78x6 := c1 [(DV.v (AV.s s1))] H1 fun d1 H2 => onC d1 fun d2 d3 => onL d2 fun l1 => onC d3 fun d4 d5 => onL d4 fun l2 => onC d5 fun d6 d7 => onL d6 fun l3 => onN d7 <| must (Nat.beq (llen l1) nn6) <| wrL H2 b1 nn0 l1 fun H3 => must (Nat.beq (llen l2) nn6) <| wrL H3 b1 nn6 l2 fun H4 => must (Nat.beq (llen l3) nn6) <| wrL H4 b1 nn12 l3 fun H5 => lenA s1 fun m1 => slA s1 nn27 m1 (fun x => x) fun s2 => g78x5 b1 b2 s1 s2 H5 c2 c3 c4 Kb1
def g78x7 := wrL H1 b1 nn0 [(AV.i .u8 ii0), (AV.i .u8 ii0), (AV.i .u8 ii0), (AV.i .u8 ii0), (AV.i .u8 ii0), (AV.i .u8 ii0), (AV.i .u8 ii0), (AV.i .u8 ii0), (AV.i .u8 ii0), (AV.i .u8 ii0), (AV.i .u8 ii0), (AV.i .u8 ii0), (AV.i .u8 ii0), (AV.i .u8 ii0), (AV.i .u8 ii0), (AV.i .u8 ii0), (AV.i .u8 ii0), (AV.i .u8 ii0), (AV.b t1), (AV.i .i64 n1), (AV.i .i64 ii0), (AV.i .i64 ii0), (AV.i .i64 ii0), (AV.i .i64 ii0), (AV.i .i64 ii0)] fun H2 => g78x6 b1 b2 s1 H2 c1 c2 c3 c4 Kb1
def g78x8 := br t1 (wrL H1 b1 nn0 z17 fun H2 => rdR H2 b1 nn0 nn25 fun l1 => Kb1 (DV.c (DV.a l1) (DV.c (DV.v v1) DV.n)) H2) (ixA s1 ii25 (fun x => x) fun b2 m1 => rdK H1 b2 m1 fun v2 => isI .u8 v2 fun n1 => frcB (ieq n1 ii1) fun t2 => ixA s1 ii26 (fun x => x) fun b3 m2 => rdK H1 b3 m2 fun v3 => isI .u8 v3 fun n2 => wrp .i64 n2 fun n3 => alB H1 z16 nn25 nn0 fun b4 H2 => g78x7 n3 t2 b4 b1 s1 H2 c1 c2 c3 c4 Kb1)
def g78x9 := lc R1 fun d1 R2 => onV d1 fun v1 => isS v1 fun s1 => ln R2 <| alB H1 z16 nn25 nn0 fun b1 H2 => alB H2 (@T4.n AV yy6 (@T4.n AV yy16 te te te te) te te te) nn2 nn0 fun b2 H3 => c1 [(DV.v (AV.s s1)), (DV.v (AV.i .i64 ii33)), (DV.v (AV.s (AS.sl b2 nn0 nn2 nn2)))] H3 fun d2 H4 => onV d2 fun v2 => ifA true true v2 AV.ni fun t1 => frcB (bnot t1) fun t2 => g78x8 v2 t2 b1 s1 H4 c2 c3 c4 c5 Kb1
/-- act.ReadAdd -/
def g78 : G DV := fun R1 H1 Kb1 => g78x9 R1 H1 c3 c4 c5 c1 c2 Kb1
def G78 : G DV := g78 G144 gEqual.G G165 G166 G167

def g65x1 := jn (fun d1 H2 => jn (fun d2 H3 => pickK t1 (DV.v (AV.b true)) d2 fun d3 => onV d3 fun v1 => isB v1 fun t2 => br t2 (Kb1 (DV.v (AV.p AP.nil)) H3) (wrp .i64 (isub n1 ii1) fun n2 => onA p1 fun b1 m1 => rng n2 nn16 <| rdK H3 b1 (Nat.add (Nat.add m1 nn329) (itn n2)) fun v2 => isP v2 fun p2 => Kb1 (DV.v (AV.p p2)) H3)) fun Kb2 => br t1 (Kb2 DV.n H2) (onV d1 fun v1 => isI .i64 v1 fun n2 => frcB (ilt ii16 n2) fun t2 => Kb2 (DV.v (AV.b t2)) H2)) fun Kb2 => br t1 (Kb2 DV.n H1) (Kb2 (DV.v (AV.i .i64 n1)) H1)
/-- (*ap.AP).of -/
def g65 : G DV := fun R1 H1 Kb1 => lc R1 fun d1 R2 => onV d1 fun v1 => isP v1 fun p1 => lc R2 fun d2 R3 => onV d2 fun v2 => isI .i64 v2 fun n1 => ln R3 <| frcB (ilt n1 ii1) fun t1 => g65x1 n1 t1 p1 H1 Kb1
def G65 : G DV := g65

def g97x1 := onV d1 fun v1 => isI .i64 v1 fun n2 => onC d2 fun d3 d4 => onV d3 fun v2 => isB v2 fun t1 => onN d4 <| frcB (bnot t1) fun t2 => br t2 (Kb1 (DV.c (DV.v (AV.p AP.nil)) (DV.c (DV.v (AV.er (nat_lit 6))) DV.n)) H1) (c1 [(DV.v (AV.p p1)), (DV.v (AV.i .i64 n2))] H1 fun d5 H2 => onV d5 fun v3 => isP v3 fun p2 => onA p2 fun b1 m1 => rng n1 nn8 <| Kb1 (DV.c (DV.v (AV.p (AP.at b1 (Nat.add (Nat.add m1 nn6) (Nat.mul (itn n1) nn5))))) (DV.c (DV.v AV.ni) DV.n)) H2)
def g97x2 := rdR H1 b1 m1 nn6 fun l2 => intsK .u8 l1 fun x1 => intsK .u8 l2 fun x2 => must (Nat.beq (leni x1) nn6) <| must (Nat.beq (leni x2) nn6) <| frcB (bnot (leqI x1 x2)) fun t1 => br t1 (Kb1 (DV.v (AV.b true)) H1) (rdR H1 b2 nn0 nn6 fun l3 => onA p1 fun b3 m2 => rdR H1 b3 m2 nn6 fun l4 => intsK .u8 l3 fun x3 => intsK .u8 l4 fun x4 => must (Nat.beq (leni x3) nn6) <| must (Nat.beq (leni x4) nn6) <| frcB (bnot (leqI x3 x4)) fun t2 => Kb1 (DV.v (AV.b t2)) H1)
def g97x3 := jF [(29 , .bool)] (fun d1 H2 => onV d1 fun v1 => isB v1 fun t1 => br t1 (Kb1 (DV.c (DV.v (AV.p AP.nil)) (DV.c (DV.v (AV.er (nat_lit 4))) DV.n)) H2) (onA p1 fun b4 m1 => rdR H2 b1 nn0 nn6 fun l1 => c1 [(DV.v (AV.p (AP.at b4 (Nat.add m1 nn22)))), (DV.a l1)] H2 fun d2 H3 => onC d2 fun d3 d4 => g97x1 d3 d4 n1 p1 H3 c2 Kb1)) fun Kb2 => rdR H1 b2 nn0 nn6 fun l1 => onA p1 fun b4 m1 => g97x2 l1 m1 p1 b4 b3 H1 Kb2
/-- (*ap.AP).line -/
def g97 : G DV := fun R1 H1 Kb1 => lc R1 fun d1 R2 => onV d1 fun v1 => isP v1 fun p1 => lc R2 fun d2 R3 => lc R3 fun d3 R4 => lc R4 fun d4 R5 => lc R5 fun d5 R6 => onV d5 fun v2 => isI .i64 v2 fun n1 => ln R6 <| cellsD d2 fun l1 => alK H1 l1 fun b1 H2 => cellsD d3 fun l2 => alK H2 l2 fun b2 H3 => cellsD d4 fun l3 => alK H3 l3 fun b3 H4 => g97x3 n1 p1 b3 b1 b2 H4 c2 c1 Kb1
def G97 : G DV := g97 G65 G95

def g182x1 := jn (fun d2 H2 => pickK t1 (DV.v (AV.b true)) d2 fun d3 => onV d3 fun v1 => isB v1 fun t2 => br t2 (Kb1 (DV.v (AV.er (nat_lit 2))) H2) (onA p1 fun b1 m1 => rdK H2 b1 (Nat.add m1 nn3) fun v2 => isS v2 fun s1 => lenA s1 fun m2 => frcB (ilt ii0 (Int.ofNat m2)) fun t3 => br t3 (Kb1 (DV.v (AV.er (nat_lit 9))) H2) (onA p1 fun b2 m3 => wrK H2 b2 (Nat.add m3 nn2) (AV.i .i64 n1) fun H3 => Kb1 (DV.v AV.ni) H3))) fun Kb2 => br t1 (Kb2 DV.n H1) (onV d1 fun v1 => isI .i64 v1 fun n2 => frcB (ilt ii64 n2) fun t2 => Kb2 (DV.v (AV.b t2)) H1)
/-- (*win.Win).Resize -/
def g182 : G DV := fun R1 H1 Kb1 => lc R1 fun d1 R2 => onV d1 fun v1 => isP v1 fun p1 => lc R2 fun d2 R3 => onV d2 fun v2 => isI .i64 v2 fun n1 => ln R3 <| frcB (ilt n1 ii1) fun t1 => jn (fun d3 H2 => g182x1 d3 n1 t1 p1 H2 Kb1) fun Kb2 => br t1 (Kb2 DV.n H1) (Kb2 (DV.v (AV.i .i64 n1)) H1)
def G182 : G DV := g182

def g98x1 := jF [(9 , .int .i64)] (fun d1 H2 => onV d1 fun v1 => isI .i64 v1 fun n3 => onA p1 fun b1 m1 => rdK H2 b1 m1 fun v2 => isP v2 fun p2 => c1 [(DV.v (AV.p p2)), (DV.v (AV.i .i64 n3))] H2 fun d2 H3 => onV d2 fun v3 => ifA true true v3 AV.ni fun t1 => frcB (bnot t1) fun t2 => br t2 (Kb1 (DV.v v3) H3) (onA p1 fun b2 m2 => wrK H3 b2 (Nat.add m2 nn4) (AV.i .i64 ii3) fun H4 => Kb1 (DV.v AV.ni) H4)) fun Kb2 => frcB (ilt ii0 n1) fun t1 => br t1 (asI (imin n2 n1) fun n3 => Kb2 (DV.v (AV.i .i64 n3)) H1) (Kb2 (DV.v (AV.i .i64 n2)) H1)
def g98x2 := jn (fun d1 H2 => jn (fun d2 H3 => pickK t1 (DV.v (AV.b true)) d2 fun d3 => onV d3 fun v1 => isB v1 fun t2 => br t2 (Kb1 (DV.v (AV.er (nat_lit 2))) H3) (onA p1 fun b1 m1 => rdK H3 b1 (Nat.add m1 nn1) fun v2 => isI .i64 v2 fun n2 => g98x1 n1 n2 p1 H3 c1 Kb1)) fun Kb2 => br t1 (Kb2 DV.n H2) (onV d1 fun v1 => isI .i64 v1 fun n2 => frcB (ile ii1024 n2) fun t2 => Kb2 (DV.v (AV.b t2)) H2)) fun Kb2 => br t1 (Kb2 DV.n H1) (Kb2 (DV.v (AV.i .i64 n1)) H1)
def g98x3 := jn (fun d3 H2 => pickK t1 (DV.v (AV.b true)) d3 fun d4 => onV d4 fun v1 => isB v1 fun t2 => br t2 (Kb1 (DV.v (AV.er (nat_lit 9))) H2) (frcB (bnot (ieq n1 ii0)) fun t3 => br t3 (onA p1 fun b1 m1 => wrK H2 b1 (Nat.add m1 nn4) (AV.i .i64 ii1) fun H3 => Kb1 (DV.v AV.ni) H3) (frcB (ilt n2 ii0) fun t4 => g98x2 n2 t4 p1 H2 c1 Kb1))) fun Kb2 => br t1 (Kb2 DV.n H1) (onV d1 fun v1 => onV d2 fun v2 => isI .i64 v1 fun n3 => isI .i64 v2 fun n4 => frcB (bnot (ieq n3 n4)) fun t2 => Kb2 (DV.v (AV.b t2)) H1)
def g98x4 := jn (fun d3 H2 => jn (fun d4 H3 => jn (fun d5 H4 => g98x3 d1 d5 n1 n2 t1 p1 H4 c1 Kb1) fun Kb2 => br t1 (Kb2 DV.n H3) (onV d4 fun v1 => isP v1 fun p2 => onA p2 fun b1 m1 => rdK H3 b1 m1 fun v2 => isI .i64 v2 fun n3 => Kb2 (DV.v (AV.i .i64 n3)) H3)) fun Kb2 => br t1 (Kb2 DV.n H2) (onV d3 fun v1 => isP v1 fun p2 => onA p2 fun b1 m1 => Kb2 (DV.v (AV.p (AP.at b1 (Nat.add m1 nn5)))) H2)) fun Kb2 => br t1 (Kb2 DV.n H1) (onV d2 fun v1 => isP v1 fun p2 => onA p2 fun b1 m1 => Kb2 (DV.v (AV.p (AP.at b1 m1))) H1)
def g98x5 := lc R1 fun d1 R2 => onV d1 fun v1 => isI .i64 v1 fun n2 => lc R2 fun d2 R3 => onV d2 fun v2 => isI .i64 v2 fun n3 => ln R3 <| onA p1 fun b1 m1 => rdK H1 b1 (Nat.add m1 nn4) fun v3 => isI .i64 v3 fun n4 => frcB (bnot (ieq n4 ii2)) fun t1 => jn (fun d3 H2 => jn (fun d4 H3 => g98x4 d3 d4 n2 n3 t1 p1 H3 c1 Kb1) fun Kb2 => br t1 (Kb2 DV.n H2) (Kb2 (DV.v (AV.p p1)) H2)) fun Kb2 => br t1 (Kb2 DV.n H1) (Kb2 (DV.v (AV.i .i64 n1)) H1)
/-- (*ba.Session).Answer -/
def g98 : G DV := fun R1 H1 Kb1 => lc R1 fun d1 R2 => onV d1 fun v1 => isP v1 fun p1 => lc R2 fun d2 R3 => onV d2 fun v2 => isI .i64 v2 fun n1 => g98x5 R3 n1 p1 H1 c1 Kb1
def G98 : G DV := g98 G182

/-- (*ba.Session).State -/
def g99 : G DV := fun R1 H1 Kb1 => lc R1 fun d1 R2 => onV d1 fun v1 => isP v1 fun p1 => ln R2 <| onA p1 fun b1 m1 => rdK H1 b1 (Nat.add m1 nn4) fun v2 => isI .i64 v2 fun n1 => Kb1 (DV.v (AV.i .i64 n1)) H1
def G99 : G DV := g99

def g47x1 := pickK t1 (DV.v (AV.b true)) d1 fun d2 => onV d2 fun v1 => isB v1 fun t2 => onA p1 fun b1 m1 => wrK H1 b1 (Nat.add m1 nn2) (AV.b t2) fun H2 => jF [] (fun H3 => Kb1 (DV.v AV.ni) H3) fun Ka1 => onA p1 fun b2 m2 => rdK H2 b2 m2 fun v2 => isP v2 fun p2 => c1 [(DV.v (AV.p p2))] H2 fun d3 H3 => onV d3 fun v3 => isI .i64 v3 fun n1 => frcB (ieq n1 ii3) fun t3 => br t3 (onA p1 fun b3 m3 => wrK H3 b3 (Nat.add m3 nn1) (AV.i .i64 ii0) fun H4 => Ka1 H4) (Ka1 H3)
def g47x2 := jn (fun d1 H2 => jn (fun d2 H3 => jn (fun d3 H4 => g47x1 d3 t1 p1 H4 c1 Kb1) fun Kb2 => br t1 (Kb2 DV.n H3) (onV d2 fun v1 => isI .i64 v1 fun n1 => frcB (bnot (ieq n1 ii0)) fun t2 => Kb2 (DV.v (AV.b t2)) H3)) fun Kb2 => br t1 (Kb2 DV.n H2) (onV d1 fun v1 => isP v1 fun p2 => onA p2 fun b2 m1 => rdK H2 b2 m1 fun v2 => isI .i64 v2 fun n1 => Kb2 (DV.v (AV.i .i64 n1)) H2)) fun Kb2 => br t1 (Kb2 DV.n H1) (Kb2 (DV.v (AV.p (AP.at b1 nn24))) H1)
def g47x3 := isI .i64 v1 fun n1 => rdK H1 b1 nn24 fun v2 => isI .i64 v2 fun n2 => rdK H1 b1 nn21 fun v3 => isI .i64 v3 fun n3 => c1 [(DV.v (AV.p p1)), (DV.v (AV.i .i64 n1)), (DV.v (AV.i .i64 n2)), (DV.v (AV.i .i64 n3))] H1 fun d1 H2 => onV d1 fun v4 => ifA true true v4 AV.ni fun t1 => frcB (bnot t1) fun t2 => br t2 (Kb1 (DV.v v4) H2) (onA p2 fun b2 m1 => rdK H2 b2 (Nat.add m1 nn2) fun v5 => isB v5 fun t3 => g47x2 t3 p2 b1 H2 c2 Kb1)
def g47x4 := isI .i64 v1 fun n1 => c1 [(DV.v (AV.p p1)), (DV.a l1), (DV.a l2), (DV.a l3), (DV.v (AV.i .i64 n1))] H1 fun d1 H2 => onC d1 fun d2 d3 => onV d2 fun v2 => isP v2 fun p2 => onC d3 fun d4 d5 => onV d4 fun v3 => onN d5 <| ifA true true v3 AV.ni fun t1 => frcB (bnot t1) fun t2 => br t2 (Kb1 (DV.v v3) H2) (onA p2 fun b2 m1 => rdK H2 b2 m1 fun v4 => isP v4 fun p3 => rdK H2 b1 nn19 fun v5 => g47x3 v5 p3 p2 b1 H2 c2 c3 Kb1)
def g47x5 := must (Nat.beq (llen l1) nn25) <| wrL H1 b1 nn0 l1 fun H2 => ifA true true v1 AV.ni fun t1 => frcB (bnot t1) fun t2 => br t2 (Kb1 (DV.v v1) H2) (rdK H2 b1 nn18 fun v2 => isB v2 fun t3 => frcB (bnot t3) fun t4 => br t4 (Kb1 (DV.v (AV.er (nat_lit 4))) H2) (rdR H2 b1 nn0 nn6 fun l2 => rdR H2 b1 nn12 nn6 fun l3 => rdR H2 b1 nn6 nn6 fun l4 => rdK H2 b1 nn20 fun v3 => g47x4 v3 l2 l3 l4 p1 b1 H2 c1 c2 c3 Kb1))
/-- (*ap.AP).add -/
def g47 : G DV := fun R1 H1 Kb1 => lc R1 fun d1 R2 => onV d1 fun v1 => isP v1 fun p1 => lc R2 fun d2 R3 => onV d2 fun v2 => isS v2 fun s1 => ln R3 <| c1 [(DV.v (AV.s s1))] H1 fun d3 H2 => onC d3 fun d4 d5 => onL d4 fun l1 => onC d5 fun d6 d7 => onV d6 fun v3 => onN d7 <| alB H2 z16 nn25 nn0 fun b1 H3 => g47x5 v3 l1 p1 b1 H3 c2 c3 c4 Kb1
def G47 : G DV := g47 G78 G97 G98 G99

def g168x1 := must (aveq (AV.i .i64 n1) v1) <| c1 [(DV.v (AV.i .i64 n2))] H1 fun d1 H2 => onV d1 fun v2 => isS v2 fun s2 => rdK H2 b1 nn20 fun v3 => must (aveq (AV.i .i64 n1) v3) <| appD nn1 nn1 s1 s2 H2 fun s3 H3 => rdK H3 b1 nn20 fun v4 => must (aveq (AV.i .i64 n1) v4) <| c1 [(DV.v (AV.i .i64 n1))] H3 fun d2 H4 => onV d2 fun v5 => isS v5 fun s4 => appD nn1 nn1 s3 s4 H4 fun s5 H5 => Kb1 (DV.c (DV.v (AV.s s5)) (DV.c (DV.v AV.ni) DV.n)) H5
def g168x2 := jF [(4 , .int .i64)] (fun d1 H2 => onV d1 fun v1 => isI .i64 v1 fun n2 => rdR H2 b1 nn0 nn6 fun l1 => rdR H2 b1 nn6 nn6 fun l2 => rdR H2 b1 nn12 nn6 fun l3 => rdK H2 b1 nn20 fun v2 => isI .i64 v2 fun n3 => c1 [(DV.a l1), (DV.a l2), (DV.a l3), (DV.v (AV.i .u8 ii2))] H2 fun d2 H3 => onV d2 fun v3 => isS v3 fun s1 => rdK H3 b1 nn20 fun v4 => g168x1 v4 n3 n2 b1 s1 H3 c2 Kb1) fun Kb2 => rdK H1 b1 nn18 fun v1 => isB v1 fun t1 => br t1 (wrp .i64 (iadd n1 ii2048) fun n2 => Kb2 (DV.v (AV.i .i64 n2)) H1) (Kb2 (DV.v (AV.i .i64 n1)) H1)
def g168x3 := jn (fun d2 H2 => jn (fun d3 H3 => pickK t1 (DV.v (AV.b true)) d3 fun d4 => onV d4 fun v1 => isB v1 fun t2 => br t2 (Kb1 (DV.c (DV.v (AV.s AS.nil)) (DV.c (DV.v (AV.er (nat_lit 2))) DV.n)) H3) (rdK H3 b1 nn19 fun v2 => isI .i64 v2 fun n1 => wrp .i64 (imul n1 ii4096) fun n2 => g168x2 n2 b1 H3 c1 c2 Kb1)) fun Kb2 => br t1 (Kb2 DV.n H2) (onV d2 fun v1 => isB v1 fun t2 => frcB (bnot t2) fun t3 => Kb2 (DV.v (AV.b t3)) H2)) fun Kb2 => br t1 (Kb2 DV.n H1) (c3 [d1, (DV.v (AV.i .i64 ii65535))] H1 fun d2 H2 => onV d2 fun v1 => isB v1 fun t2 => Kb2 (DV.v (AV.b t2)) H2)
def g168x4 := c1 [(DV.v (AV.i .i64 n1)), (DV.v (AV.i .i64 ii7))] H1 fun d1 H2 => onV d1 fun v1 => isB v1 fun t1 => frcB (bnot t1) fun t2 => jn (fun d2 H3 => jn (fun d3 H4 => g168x3 d3 t2 b1 H4 c2 c3 c1 Kb1) fun Kb2 => br t2 (Kb2 DV.n H3) (onV d2 fun v2 => isP v2 fun p1 => onA p1 fun b2 m1 => rdK H3 b2 m1 fun v3 => isI .i64 v3 fun n2 => Kb2 (DV.v (AV.i .i64 n2)) H3)) fun Kb2 => br t2 (Kb2 DV.n H2) (Kb2 (DV.v (AV.p (AP.at b1 nn20))) H2)
/-- act.DelBytes -/
def g168 : G DV := fun R1 H1 Kb1 => lc R1 fun d1 R2 => ln R2 <| cellsD d1 fun l1 => alK H1 l1 fun b1 H2 => rdK H2 b1 nn19 fun v1 => isI .i64 v1 fun n1 => g168x4 n1 b1 H2 c1 c2 c3 Kb1
def G168 : G DV := g168 G209 G210 G211

def z18 : T4 AV := (@T4.n AV yy6 (@T4.n AV yy6 (@T4.n AV yy6 te te te te) (@T4.n AV yy6 te te te te) (@T4.n AV yy6 te te te te) (@T4.n AV yy6 te te te te)) (@T4.n AV yy6 (@T4.n AV yy6 te te te te) (@T4.n AV yy6 te te te te) (@T4.n AV yy6 te te te te) (@T4.n AV yy2 te te te te)) (@T4.n AV yy6 (@T4.n AV yy6 te te te te) (@T4.n AV yy6 te te te te) (@T4.n AV yy6 te te te te) (@T4.n AV yy0 te te te te)) (@T4.n AV yy6 (@T4.n AV yy6 te te te te) (@T4.n AV yy6 te te te te) (@T4.n AV yy6 te te te te) (@T4.n AV yy0 te te te te)))
def z19 : List AV := [(AV.i .u8 ii0), (AV.i .u8 ii0), (AV.i .u8 ii0), (AV.i .u8 ii0), (AV.i .u8 ii0), (AV.i .u8 ii0), (AV.i .u8 ii0), (AV.i .u8 ii0), (AV.i .u8 ii0), (AV.i .u8 ii0), (AV.i .u8 ii0), (AV.i .u8 ii0), (AV.i .u8 ii0), (AV.i .u8 ii0), (AV.i .u8 ii0), (AV.i .u8 ii0), (AV.i .u8 ii0), (AV.i .u8 ii0), (AV.b false), (AV.i .i64 ii0), (AV.i .i64 ii0)]
def g80x1 := jn (fun d2 H2 => pickK t1 (DV.v (AV.b true)) d2 fun d3 => onV d3 fun v1 => isB v1 fun t2 => br t2 (wrL H2 b1 nn0 z19 fun H3 => rdR H3 b1 nn0 nn21 fun l1 => Kb1 (DV.c (DV.a l1) (DV.c (DV.v (AV.er (nat_lit 1))) DV.n)) H3) (rdR H2 b2 nn0 nn21 fun l1 => must (Nat.beq (llen l1) nn21) <| wrL H2 b1 nn0 l1 fun H3 => rdR H3 b1 nn0 nn21 fun l2 => Kb1 (DV.c (DV.a l2) (DV.c (DV.v AV.ni) DV.n)) H3)) fun Kb2 => br t1 (Kb2 DV.n H1) (onV d1 fun v1 => isB v1 fun t2 => frcB (bnot t2) fun t3 => Kb2 (DV.v (AV.b t3)) H1)
def g80x2 := onC d1 fun d2 d3 => onV d2 fun v1 => onN d3 <| ifA true true v1 AV.ni fun t1 => frcB (bnot t1) fun t2 => jn (fun d4 H2 => jn (fun d5 H3 => jn (fun d6 H4 => g80x1 d6 t2 b1 b2 H4 Kb1) fun Kb2 => br t2 (Kb2 DV.n H3) (c1 [d4, d5] H3 fun d6 H4 => onV d6 fun v2 => isB v2 fun t3 => Kb2 (DV.v (AV.b t3)) H4)) fun Kb2 => br t2 (Kb2 DV.n H2) (Kb2 (DV.v (AV.s s1)) H2)) fun Kb2 => br t2 (Kb2 DV.n H1) (Kb2 (DV.v (AV.s s2)) H1)
def g80x3 := onC d1 fun d2 d3 => onL d2 fun l2 => onC d3 fun d4 d5 => onL d4 fun l3 => onN d5 <| must (Nat.beq (llen l1) nn6) <| wrL H1 b1 nn0 l1 fun H2 => must (Nat.beq (llen l2) nn6) <| wrL H2 b1 nn6 l2 fun H3 => must (Nat.beq (llen l3) nn6) <| wrL H3 b1 nn12 l3 fun H4 => rdR H4 b1 nn0 nn21 fun l4 => c1 [(DV.a l4)] H4 fun d6 H5 => onC d6 fun d7 d8 => onV d7 fun v1 => isS v1 fun s2 => g80x2 d8 b2 b1 s1 s2 H5 c2 Kb1
def g80x4 := wrL H1 b1 nn0 [(AV.i .u8 ii0), (AV.i .u8 ii0), (AV.i .u8 ii0), (AV.i .u8 ii0), (AV.i .u8 ii0), (AV.i .u8 ii0), (AV.i .u8 ii0), (AV.i .u8 ii0), (AV.i .u8 ii0), (AV.i .u8 ii0), (AV.i .u8 ii0), (AV.i .u8 ii0), (AV.i .u8 ii0), (AV.i .u8 ii0), (AV.i .u8 ii0), (AV.i .u8 ii0), (AV.i .u8 ii0), (AV.i .u8 ii0), (AV.b t1), (AV.i .i64 n1), (AV.i .i64 n2)] fun H2 => c1 [(DV.v (AV.s s1))] H2 fun d1 H3 => onC d1 fun d2 d3 => onL d2 fun l1 => g80x3 l1 d3 b1 b2 s1 H3 c2 c3 Kb1
def g80x5 := c1 [(DV.v (AV.s s1))] H1 fun d1 H2 => onV d1 fun v1 => isI .i64 v1 fun n1 => asI (bits .and .i64 n1 ii2048) fun n2 => frcB (ilt ii0 n2) fun t1 => must (bnot (ieq ii4096 ii0)) <| wrp .i64 (iquo n1 ii4096) fun n3 => lenA s2 fun m1 => slA s2 nn28 m1 (fun x => x) fun s3 => c1 [(DV.v (AV.s s3))] H2 fun d2 H3 => onV d2 fun v2 => isI .i64 v2 fun n4 => alB H3 z18 nn21 nn0 fun b2 H4 => g80x4 n3 n4 t1 b2 b1 s2 H4 c2 c3 c4 Kb1
def g80x6 := alB H1 (@T4.n AV yy17 te te te te) nn1 nn0 fun b2 H2 => c1 [(DV.v (AV.s s1)), (DV.v (AV.i .i64 ii30)), (DV.v (AV.s (AS.sl b2 nn0 nn1 nn1)))] H2 fun d1 H3 => onV d1 fun v1 => ifA true true v1 AV.ni fun t1 => frcB (bnot t1) fun t2 => br t2 (wrL H3 b1 nn0 z19 fun H4 => rdR H4 b1 nn0 nn21 fun l1 => Kb1 (DV.c (DV.a l1) (DV.c (DV.v v1) DV.n)) H4) (lenA s1 fun m1 => slA s1 nn26 m1 (fun x => x) fun s2 => g80x5 b1 s2 s1 H3 c2 c3 c4 c5 Kb1)
/-- act.ReadDel -/
def g80 : G DV := fun R1 H1 Kb1 => lc R1 fun d1 R2 => onV d1 fun v1 => isS v1 fun s1 => ln R2 <| alB H1 z18 nn21 nn0 fun b1 H2 => g80x6 b1 s1 H2 c2 c4 c3 c5 c1 Kb1
def G80 : G DV := g80 gEqual.G G165 G166 G167 G168

/-- (*ba.Session).Out$1 -/
def g184 : G DV := fun R1 H1 Kb1 => lc R1 fun d1 R2 => ln R2 <| cellsD d1 fun l1 => alK H1 l1 fun b1 H2 => Kb1 (DV.v (AV.b true)) H2
def G184 : G DV := g184

def g195x1 := isI .i64 v1 fun n1 => onA p1 fun b2 m1 => rdK H1 b2 m1 fun v2 => isP v2 fun p3 => onA p3 fun b3 m2 => rdK H1 b3 (Nat.add m2 nn2) fun v3 => isI .i64 v3 fun n2 => frcB (ilt n2 n1) fun t1 => br t1 (Kb1 (DV.v (AV.i .i64 ii3)) H1) (rdK H1 b1 nn7 fun v4 => isI .i64 v4 fun n3 => onA p2 fun b4 m3 => rdK H1 b4 m3 fun v5 => isI .i64 v5 fun n4 => frcB (ilt n3 n4) fun t2 => br t2 (Kb1 (DV.v (AV.i .i64 ii4)) H1) (Ka1 H1))
/-- (*ba.Session).Sweep$1 -/
def g195 : G DV := fun R1 H1 Kb1 => lc R1 fun d1 R2 => lc R2 fun d2 R3 => onV d2 fun v1 => isP v1 fun p1 => lc R3 fun d3 R4 => onV d3 fun v2 => isP v2 fun p2 => ln R4 <| cellsD d1 fun l1 => alK H1 l1 fun b1 H2 => jF [] (fun H3 => Kb1 (DV.v (AV.i .i64 ii0)) H3) fun Ka1 => rdK H2 b1 nn8 fun v3 => isB v3 fun t1 => br t1 (Ka1 H2) (rdK H2 b1 nn6 fun v4 => g195x1 v4 p1 p2 b1 H2 Ka1 Kb1)
def G195 : G DV := g195

def g197x1 := lc R1 fun d1 R2 => lc R2 fun d2 R3 => onV d2 fun v1 => isP v1 fun p1 => ln R3 <| cellsD d1 fun l1 => alK H1 l1 fun b1 H2 => onA p1 fun b2 m1 => rdK H2 b2 m1 fun v2 => rdR H2 b1 nn0 nn9 fun l2 => fnK v2 fun m2 L1 L2 => lookD [((nat_lit 195) , c1)] m2 (appA (mapP L1) (appA [(DV.a l2)] (mapP L2))) H2 fun d3 H3 => onV d3 fun v3 => isI .i64 v3 fun n1 => frcB (bnot (ieq n1 ii0)) fun t1 => Kb1 (DV.v (AV.b t1)) H3
/-- (*ba.Session).Sweep$2 -/
def g197 : G DV := fun R1 H1 Kb1 => g197x1 R1 H1 c1 Kb1
def G197 : G DV := g197 G195

/-- (*ba.Session).Due$1 -/
def g207 : G DV := fun R1 H1 Kb1 => lc R1 fun d1 R2 => ln R2 <| cellsD d1 fun l1 => alK H1 l1 fun b1 H2 => rdK H2 b1 nn8 fun v1 => isB v1 fun t1 => frcB (bnot t1) fun t2 => Kb1 (DV.v (AV.b t2)) H2
def G207 : G DV := g207

/-- seq.mod -/
def g222 : G DV := fun R1 H1 Kb1 => lc R1 fun d1 R2 => onV d1 fun v1 => isI .i64 v1 fun n1 => ln R2 <| must (bnot (ieq ii4096 ii0)) <| asI (irem n1 ii4096) fun n2 => wrp .i64 (iadd n2 ii4096) fun n3 => must (bnot (ieq ii4096 ii0)) <| asI (irem n3 ii4096) fun n4 => Kb1 (DV.v (AV.i .i64 n4)) H1
def G222 : G DV := g222

def g161x1 := lc R1 fun d1 R2 => onV d1 fun v1 => isI .i64 v1 fun n1 => lc R2 fun d2 R3 => onV d2 fun v2 => isI .i64 v2 fun n2 => ln R3 <| c1 [(DV.v (AV.i .i64 n2))] H1 fun d3 H2 => onV d3 fun v3 => isI .i64 v3 fun n3 => c1 [(DV.v (AV.i .i64 n1))] H2 fun d4 H3 => onV d4 fun v4 => isI .i64 v4 fun n4 => wrp .i64 (isub n3 n4) fun n5 => c1 [(DV.v (AV.i .i64 n5))] H3 fun d5 H4 => onV d5 fun v5 => isI .i64 v5 fun n6 => Kb1 (DV.v (AV.i .i64 n6)) H4
/-- seq.Dist -/
def g161 : G DV := fun R1 H1 Kb1 => g161x1 R1 H1 c1 Kb1
def G161 : G DV := g161 G222

def g227x1 := jn (fun d3 H2 => jn (fun d4 H3 => jn (fun d5 H4 => pickK t1 d5 (DV.v (AV.b false)) fun d6 => onV d6 fun v1 => isB v1 fun t2 => Kb1 (DV.v (AV.b t2)) H4) fun Kb2 => br t1 (onV d4 fun v1 => isI .i64 v1 fun n1 => frcB (ilt n1 ii64) fun t2 => Kb2 (DV.v (AV.b t2)) H3) (Kb2 DV.n H3)) fun Kb2 => br t1 (c1 [d1, d3] H2 fun d4 H3 => onV d4 fun v1 => isI .i64 v1 fun n1 => Kb2 (DV.v (AV.i .i64 n1)) H3) (Kb2 DV.n H2)) fun Kb2 => br t1 (onV d2 fun v1 => isP v1 fun p1 => onA p1 fun b1 m1 => rdK H1 b1 m1 fun v2 => isI .i64 v2 fun n1 => Kb2 (DV.v (AV.i .i64 n1)) H1) (Kb2 DV.n H1)
def g227x2 := jn (fun d2 H2 => jn (fun d3 H3 => jn (fun d4 H4 => g227x1 d2 d4 t1 H4 c1 Kb1) fun Kb2 => br t1 (onV d3 fun v1 => isP v1 fun p1 => onA p1 fun b2 m1 => Kb2 (DV.v (AV.p (AP.at b2 (Nat.add m1 nn5)))) H3) (Kb2 DV.n H3)) fun Kb2 => br t1 (Kb2 (DV.v (AV.p (AP.at b1 nn0))) H2) (Kb2 DV.n H2)) fun Kb2 => br t1 (onV d1 fun v1 => isP v1 fun p1 => onA p1 fun b2 m1 => rdK H1 b2 m1 fun v2 => isI .i64 v2 fun n1 => Kb2 (DV.v (AV.i .i64 n1)) H1) (Kb2 DV.n H1)
/-- (*ba.Session).Heard$1 -/
def g227 : G DV := fun R1 H1 Kb1 => lc R1 fun d1 R2 => lc R2 fun d2 R3 => onV d2 fun v1 => isP v1 fun p1 => ln R3 <| cellsD d1 fun l1 => alK H1 l1 fun b1 H2 => rdK H2 b1 nn8 fun v2 => isB v2 fun t1 => jn (fun d3 H3 => g227x2 d3 t1 b1 H3 c1 Kb1) fun Kb2 => br t1 (onA p1 fun b2 m1 => Kb2 (DV.v (AV.p (AP.at b2 (Nat.add m1 nn13)))) H2) (Kb2 DV.n H2)
def G227 : G DV := g227 G161

def g230x1 := rdK H1 b1 (Nat.add m1 nn13) fun v1 => isI .i64 v1 fun n2 => rdK H1 b2 nn5 fun v2 => isI .i64 v2 fun n3 => c1 [(DV.v (AV.i .i64 n2)), (DV.v (AV.i .i64 n3))] H1 fun d1 H2 => onV d1 fun v3 => isI .i64 v3 fun n4 => rdK H2 b3 (Nat.add m2 nn14) fun v4 => must (aveq (AV.i .u64 n1) v4) <| must (ile ii0 n4) <| must (ile n4 ii64) <| asI (idiv n1 (ip2 n4)) fun n5 => asI (bits .and .u64 n5 ii1) fun n6 => frcB (ilt ii0 n6) fun t1 => Kb1 (DV.v (AV.b t1)) H2
def g230x2 := rdK H1 b1 m1 fun v1 => rdR H1 b2 nn0 nn9 fun l1 => fnK v1 fun m2 L1 L2 => lookD [((nat_lit 161) , c1), ((nat_lit 227) , c2)] m2 (appA (mapP L1) (appA [(DV.a l1)] (mapP L2))) H1 fun d1 H2 => onV d1 fun v2 => isB v2 fun t1 => br t1 (onA p1 fun b3 m3 => rdK H2 b3 (Nat.add m3 nn14) fun v3 => isI .u64 v3 fun n1 => onA p1 fun b4 m4 => g230x1 n1 m4 m3 b4 b2 b3 H2 c1 Kb1) (Kb1 (DV.v (AV.b false)) H2)
/-- (*ba.Session).Heard$2 -/
def g230 : G DV := fun R1 H1 Kb1 => lc R1 fun d1 R2 => lc R2 fun d2 R3 => onV d2 fun v1 => isP v1 fun p1 => lc R3 fun d3 R4 => onV d3 fun v2 => isP v2 fun p2 => ln R4 <| cellsD d1 fun l1 => alK H1 l1 fun b1 H2 => onA p1 fun b2 m1 => g230x2 m1 p2 b2 b1 H2 c1 c2 Kb1
def G230 : G DV := g230 G161 G227

/-- slices.Clone[[]byte,byte] -/
def g25 : G DV := fun R1 H1 Kb1 => lc R1 fun d1 R2 => onV d1 fun v1 => isS v1 fun s1 => ln R2 <| frcB (isNilS s1) fun t1 => br t1 (Kb1 (DV.v (AV.s AS.nil)) H1) (alB H1 te nn0 nn0 fun b1 H2 => appD nn1 nn1 (AS.sl b1 nn0 nn0 nn0) s1 H2 fun s2 H3 => Kb1 (DV.v (AV.s s2)) H3)
def G25 : G DV := g25

def z20 : T4 AV := (@T4.n AV yy0 (@T4.n AV yy1 (@T4.n AV yy0 te te te te) te te te) (@T4.n AV yy0 (@T4.n AV yy0 te te te te) te te te) (@T4.n AV yy0 (@T4.n AV yy0 te te te te) te te te) (@T4.n AV yy3 te te te te))
/-- ba.own -/
def g234 : G DV := fun R1 H1 Kb1 => lc R1 fun d1 R2 => ln R2 <| cellsD d1 fun l1 => alK H1 l1 fun b1 H2 => alB H2 z20 nn8 nn0 fun b2 H3 => rdK H3 b1 nn4 fun v1 => isS v1 fun s1 => c1 [(DV.v (AV.s s1))] H3 fun d2 H4 => onV d2 fun v2 => isS v2 fun s2 => wrK H4 b1 nn4 (AV.s s2) fun H5 => rdR H5 b1 nn0 nn8 fun l2 => must (Nat.beq (llen l2) nn8) <| wrL H5 b2 nn0 l2 fun H6 => rdR H6 b2 nn0 nn8 fun l3 => Kb1 (DV.a l3) H6
def G234 : G DV := g234 G25

def z21 : T4 AV := (@T4.n AV yy0 (@T4.n AV yy1 (@T4.n AV yy0 te te te te) te te te) (@T4.n AV yy0 (@T4.n AV yy0 te te te te) te te te) (@T4.n AV yy0 (@T4.n AV yy0 te te te te) te te te) (@T4.n AV yy3 (@T4.n AV yy2 te te te te) te te te))
def g183x1 := lookD [((nat_lit 184) , c1), ((nat_lit 197) , c2), ((nat_lit 207) , c3), ((nat_lit 230) , c4), ((nat_lit 234) , c5)] m1 (appA (mapP L1) (appA [(DV.a l1)] (mapP L2))) H1 fun d1 H2 => onV d1 fun v1 => isB v1 fun t1 => br t1 (rdR H2 b1 nn0 nn8 fun l2 => c5 [(DV.a l2)] H2 fun d2 H3 => onL d2 fun l3 => must (Nat.beq (llen l3) nn8) <| alK H3 (lapp l3 []) fun b2 H4 => appD nn8 nn80 s1 (AS.sl b2 nn0 nn1 nn1) H4 fun s2 H5 => Kb1 (DV.v (AV.s s2)) H5) (Kb1 (DV.v (AV.s s1)) H2)
def g183x2 := jF [(5 , .slice)] (fun d2 H2 => onV d2 fun v1 => isS v1 fun s3 => wrp .i64 (iadd n1 ii1) fun n2 => Kc1 (DV.v (AV.s s3)) (DV.v (AV.i .i64 n2)) H2) fun Kb1 => ixA s1 n1 (fun x => Nat.mul x nn9) fun b1 m1 => rdR H1 b1 m1 nn9 fun l1 => alB H1 z21 nn9 nn0 fun b2 H2 => must (Nat.beq (llen l1) nn9) <| wrL H2 b2 nn0 l1 fun H3 => rdR H3 b2 nn0 nn9 fun l2 => onV d1 fun v1 => fnK v1 fun m2 L1 L2 => g183x1 l2 L1 L2 m2 b2 s2 H3 c1 c2 c3 c4 c5 Kb1
def g183x3 := ln R1 <| onA p1 fun b1 m1 => rdK H1 b1 (Nat.add m1 nn6) fun v1 => isS v1 fun s1 => lenA s1 fun m2 => lpR (failF [(5 , .slice), (13 , .int .i64)]) (fun Kc1 => fun d2 d3 H2 => onV d2 fun v2 => isS v2 fun s2 => onV d3 fun v3 => isI .i64 v3 fun n1 => frcB (ilt n1 (Int.ofNat m2)) fun t1 => br t1 (g183x2 d1 n1 s1 s2 H2 c1 c2 c3 c4 c5 Kc1) (Kb1 (DV.v (AV.s s2)) H2)) (nat_lit 100000) (DV.v (AV.s AS.nil)) (DV.v (AV.i .i64 ii0)) H1
/-- (*ba.Session).list -/
def g183 : G DV := fun R1 H1 Kb1 => lc R1 fun d1 R2 => onV d1 fun v1 => isP v1 fun p1 => lc R2 fun d2 R3 => g183x3 d2 R3 p1 H1 c1 c2 c3 c4 c5 Kb1
def G183 : G DV := g183 G184 G197 G207 G230 G234

/-- (*ba.Session).Out -/
def g100 : G DV := fun R1 H1 Kb1 => lc R1 fun d1 R2 => onV d1 fun v1 => isP v1 fun p1 => ln R2 <| c1 [(DV.v (AV.p p1)), (DV.v (AV.fn (nat_lit 184) []))] H1 fun d2 H2 => onV d2 fun v2 => isS v2 fun s1 => Kb1 (DV.v (AV.s s1)) H2
def G100 : G DV := g100 G183

def g101x1 := rdK H1 b1 m1 fun v1 => isP v1 fun p2 => c1 [(DV.v (AV.p p2)), (DV.v (AV.i .i64 ii1))] H1 fun d1 H2 => onV d1 fun v2 => ifA true true v2 AV.ni fun t1 => frcB (bnot t1) fun t2 => br t2 (Kb1 (DV.v v2) H2) (onA p1 fun b2 m2 => wrK H2 b2 (Nat.add m2 nn4) (AV.i .i64 ii1) fun H3 => onA p1 fun b3 m3 => wrK H3 b3 (Nat.add m3 nn7) (AV.b false) fun H4 => onA p1 fun b4 m4 => wrK H4 b4 (Nat.add m4 nn8) (AV.i .i64 ii0) fun H5 => Kb1 (DV.v AV.ni) H5)
def g101x2 := jn (fun d2 H2 => jn (fun d3 H3 => pickK t1 (DV.v (AV.b true)) d3 fun d4 => onV d4 fun v1 => isB v1 fun t2 => br t2 (Kb1 (DV.v (AV.er (nat_lit 9))) H3) (onA p1 fun b1 m1 => g101x1 m1 p1 b1 H3 c1 Kb1)) fun Kb2 => br t1 (Kb2 DV.n H2) (onV d2 fun v1 => isI .i64 v1 fun n1 => frcB (ilt ii0 n1) fun t2 => Kb2 (DV.v (AV.b t2)) H2)) fun Kb2 => br t1 (Kb2 DV.n H1) (onV d1 fun v1 => isS v1 fun s1 => lenA s1 fun m1 => Kb2 (DV.v (AV.i .i64 (Int.ofNat m1))) H1)
def g101x3 := jn (fun d2 H2 => jn (fun d3 H3 => jn (fun d4 H4 => g101x2 d4 t1 p1 H4 c1 Kb1) fun Kb2 => br t1 (Kb2 DV.n H3) (onV d3 fun v1 => isP v1 fun p2 => onA p2 fun b1 m1 => rdK H3 b1 m1 fun v2 => isS v2 fun s1 => Kb2 (DV.v (AV.s s1)) H3)) fun Kb2 => br t1 (Kb2 DV.n H2) (onV d2 fun v1 => isP v1 fun p2 => onA p2 fun b1 m1 => Kb2 (DV.v (AV.p (AP.at b1 (Nat.add m1 nn6)))) H2)) fun Kb2 => br t1 (Kb2 DV.n H1) (onV d1 fun v1 => isP v1 fun p2 => onA p2 fun b1 m1 => Kb2 (DV.v (AV.p (AP.at b1 m1))) H1)
/-- (*ba.Session).End -/
def g101 : G DV := fun R1 H1 Kb1 => lc R1 fun d1 R2 => onV d1 fun v1 => isP v1 fun p1 => ln R2 <| onA p1 fun b1 m1 => rdK H1 b1 (Nat.add m1 nn4) fun v2 => isI .i64 v2 fun n1 => frcB (ieq n1 ii1) fun t1 => jn (fun d2 H2 => g101x3 d2 t1 p1 H2 c1 Kb1) fun Kb2 => br t1 (Kb2 DV.n H1) (Kb2 (DV.v (AV.p p1)) H1)
def G101 : G DV := g101 G182

def g48x1 := jn (fun d2 H2 => pickK t1 (DV.v (AV.b true)) d2 fun d3 => onV d3 fun v1 => isB v1 fun t2 => br t2 (onA p1 fun b1 m1 => wrK H2 b1 (Nat.add m1 nn3) (AV.b true) fun H3 => Kb1 (DV.v AV.ni) H3) (onA p1 fun b1 m1 => rdK H2 b1 m1 fun v2 => isP v2 fun p2 => c1 [(DV.v (AV.p p2))] H2 fun d4 H3 => onV d4 fun v3 => Kb1 (DV.v v3) H3)) fun Kb2 => br t1 (Kb2 DV.n H1) (onV d1 fun v1 => isI .i64 v1 fun n1 => frcB (ilt ii0 n1) fun t2 => Kb2 (DV.v (AV.b t2)) H1)
def g48x2 := jn (fun d2 H2 => jn (fun d3 H3 => jn (fun d4 H4 => g48x1 d4 t1 p1 H4 c1 Kb1) fun Kb2 => br t1 (Kb2 DV.n H3) (onV d3 fun v1 => isS v1 fun s1 => lenA s1 fun m1 => Kb2 (DV.v (AV.i .i64 (Int.ofNat m1))) H3)) fun Kb2 => br t1 (Kb2 DV.n H2) (c2 [d2] H2 fun d3 H3 => onV d3 fun v1 => isS v1 fun s1 => Kb2 (DV.v (AV.s s1)) H3)) fun Kb2 => br t1 (Kb2 DV.n H1) (onV d1 fun v1 => isP v1 fun p2 => onA p2 fun b1 m1 => rdK H1 b1 m1 fun v2 => isP v2 fun p3 => Kb2 (DV.v (AV.p p3)) H1)
def g48x3 := rdK H1 b1 (Nat.add m1 nn4) fun v1 => isB v1 fun t1 => jn (fun d1 H2 => jn (fun d2 H3 => jn (fun d3 H4 => g48x2 d3 t1 p1 H4 c1 c2 Kb1) fun Kb2 => br t1 (Kb2 DV.n H3) (onV d2 fun v2 => isP v2 fun p2 => onA p2 fun b2 m2 => Kb2 (DV.v (AV.p (AP.at b2 m2))) H3)) fun Kb2 => br t1 (Kb2 DV.n H2) (onV d1 fun v2 => isP v2 fun p2 => onA p2 fun b2 m2 => Kb2 (DV.v (AV.p (AP.at b2 m2))) H2)) fun Kb2 => br t1 (Kb2 DV.n H1) (Kb2 (DV.v (AV.p p1)) H1)
def g48x4 := rdR H1 b1 nn12 nn6 fun l2 => rdR H1 b1 nn6 nn6 fun l3 => rdK H1 b1 nn19 fun v1 => isI .i64 v1 fun n1 => c1 [(DV.v (AV.p p1)), (DV.a l1), (DV.a l2), (DV.a l3), (DV.v (AV.i .i64 n1))] H1 fun d1 H2 => onC d1 fun d2 d3 => onV d2 fun v2 => isP v2 fun p2 => onC d3 fun d4 d5 => onV d4 fun v3 => onN d5 <| ifA true true v3 AV.ni fun t1 => frcB (bnot t1) fun t2 => br t2 (Kb1 (DV.v v3) H2) (onA p2 fun b2 m1 => g48x3 m1 p2 b2 H2 c2 c3 Kb1)
def g48x5 := onV d1 fun v1 => isS v1 fun s1 => ln R1 <| c1 [(DV.v (AV.s s1))] H1 fun d2 H2 => onC d2 fun d3 d4 => onL d3 fun l1 => onC d4 fun d5 d6 => onV d5 fun v2 => onN d6 <| alB H2 z18 nn21 nn0 fun b1 H3 => must (Nat.beq (llen l1) nn21) <| wrL H3 b1 nn0 l1 fun H4 => ifA true true v2 AV.ni fun t1 => frcB (bnot t1) fun t2 => br t2 (Kb1 (DV.v v2) H4) (rdR H4 b1 nn0 nn6 fun l2 => g48x4 l2 p1 b1 H4 c2 c3 c4 Kb1)
/-- (*ap.AP).del -/
def g48 : G DV := fun R1 H1 Kb1 => lc R1 fun d1 R2 => onV d1 fun v1 => isP v1 fun p1 => lc R2 fun d2 R3 => g48x5 d2 R3 p1 H1 c1 c2 c4 c3 Kb1
def G48 : G DV := g48 G80 G97 G100 G101

def g21x1 := jn (fun d2 H2 => jn (fun d3 H3 => pickK t1 d3 (DV.v (AV.b false)) fun d4 => onV d4 fun v1 => isB v1 fun t2 => br t2 (Kb1 (DV.v (AV.fn (nat_lit 48) [])) H3) (Kb1 (DV.v (AV.fn (nat_lit 47) [])) H3)) fun Kb2 => br t1 (onV d2 fun v1 => isI .u8 v1 fun n1 => frcB (ieq n1 ii2) fun t2 => Kb2 (DV.v (AV.b t2)) H2) (Kb2 DV.n H2)) fun Kb2 => br t1 (onV d1 fun v1 => isP v1 fun p1 => onA p1 fun b1 m1 => rdK H1 b1 m1 fun v2 => isI .u8 v2 fun n1 => Kb2 (DV.v (AV.i .u8 n1)) H1) (Kb2 DV.n H1)
def g21x2 := jn (fun d2 H2 => pickK t1 d2 (DV.v (AV.b false)) fun d3 => onV d3 fun v1 => isB v1 fun t2 => jn (fun d4 H3 => jn (fun d5 H4 => g21x1 d5 t2 H4 Kb1) fun Kb2 => br t2 (onV d4 fun v2 => isS v2 fun s2 => ixA s2 ii25 (fun x => x) fun b1 m1 => Kb2 (DV.v (AV.p (AP.at b1 m1))) H3) (Kb2 DV.n H3)) fun Kb2 => br t2 (Kb2 (DV.v (AV.s s1)) H2) (Kb2 DV.n H2)) fun Kb2 => br t1 (onV d1 fun v1 => isI .u8 v1 fun n1 => frcB (ieq n1 ii3) fun t2 => Kb2 (DV.v (AV.b t2)) H1) (Kb2 DV.n H1)
def g21x3 := jn (fun d1 H2 => jn (fun d2 H3 => jn (fun d3 H4 => g21x2 d3 t1 s1 H4 Kb1) fun Kb2 => br t1 (onV d2 fun v1 => isP v1 fun p1 => onA p1 fun b1 m1 => rdK H3 b1 m1 fun v2 => isI .u8 v2 fun n1 => Kb2 (DV.v (AV.i .u8 n1)) H3) (Kb2 DV.n H3)) fun Kb2 => br t1 (onV d1 fun v1 => isS v1 fun s2 => ixA s2 ii24 (fun x => x) fun b1 m1 => Kb2 (DV.v (AV.p (AP.at b1 m1))) H2) (Kb2 DV.n H2)) fun Kb2 => br t1 (Kb2 (DV.v (AV.s s1)) H1) (Kb2 DV.n H1)
def g21x4 := jF [(5 , .any)] (fun d1 H2 => onV d1 fun v1 => fnK v1 fun m1 L1 L2 => lookD [((nat_lit 44) , c1), ((nat_lit 45) , c2), ((nat_lit 46) , c3), ((nat_lit 47) , c4), ((nat_lit 48) , c5)] m1 (appA (mapP L1) (appA [(DV.v (AV.p p1)), (DV.v (AV.s s1))] (mapP L2))) H2 fun d2 H3 => onV d2 fun v2 => Kb1 (DV.v v2) H3) fun Kb2 => c2 [(DV.v (AV.s s1))] H1 fun d1 H2 => onV d1 fun v1 => isI .i64 v1 fun n1 => frcB (ieq n1 ii164) fun t1 => br t1 (Kb2 (DV.v (AV.fn (nat_lit 46) [])) H2) (frcB (ieq n1 ii208) fun t2 => br t2 (lenA s1 fun m1 => frcB (ile ii26 (Int.ofNat m1)) fun t3 => g21x3 t3 s1 H2 Kb2) (Kb2 (DV.v (AV.fn (nat_lit 44) [])) H2))
/-- (*ap.AP).Handle -/
def g21 : G DV := fun R1 H1 Kb1 => lc R1 fun d1 R2 => onV d1 fun v1 => isP v1 fun p1 => lc R2 fun d2 R3 => onV d2 fun v2 => isS v2 fun s1 => ln R3 <| g21x4 p1 s1 H1 c1 c2 c3 c4 c5 Kb1
def G21 : G DV := g21 G44 G45 G46 G47 G48

def g64x1 := alB H1 z7 nn8 nn0 fun b1 H2 => must (Nat.beq (llen (ltake (nat_lit 8) (ldrop (Nat.mul (itn n1) nn8) l1))) nn8) <| wrL H2 b1 nn0 (ltake (nat_lit 8) (ldrop (Nat.mul (itn n1) nn8) l1)) fun H3 => rdK H3 b1 nn0 fun v1 => isB v1 fun t1 => br t1 (wrp .i64 (iadd n1 ii1) fun n2 => alB H3 (@T4.n AV (AV.i .i64 n2) te te te te) nn1 nn0 fun b2 H4 => appD nn1 nn8 s1 (AS.sl b2 nn0 nn1 nn1) H4 fun s2 H5 => Kb1 (DV.v (AV.s s2)) H5) (Kb1 (DV.v (AV.s s1)) H3)
def g64x2 := lpR (failF [(3 , .slice), (10 , .int .i64)]) (fun Kc1 => fun d1 d2 H2 => onV d1 fun v1 => isS v1 fun s1 => onV d2 fun v2 => isI .i64 v2 fun n1 => frcB (ilt n1 ii16) fun t1 => br t1 (jF [(3 , .slice)] (fun d3 H3 => onV d3 fun v3 => isS v3 fun s2 => wrp .i64 (iadd n1 ii1) fun n2 => Kc1 (DV.v (AV.s s2)) (DV.v (AV.i .i64 n2)) H3) fun Kb2 => rng n1 nn16 <| g64x1 l1 n1 s1 H2 Kb2) (Kb1 (DV.v (AV.s s1)) H2)) (nat_lit 100000) (DV.v (AV.s AS.nil)) (DV.v (AV.i .i64 ii0)) H1
/-- (*sta.Table).All -/
def g64 : G DV := fun R1 H1 Kb1 => lc R1 fun d1 R2 => onV d1 fun v1 => isP v1 fun p1 => ln R2 <| onA p1 fun b1 m1 => rdR H1 b1 m1 nn128 fun l1 => g64x2 l1 H1 Kb1
def G64 : G DV := g64

def g232x1 := jn (fun d3 H2 => pickK t1 (DV.v (AV.b true)) d3 fun d4 => onV d4 fun v1 => isB v1 fun t2 => br t2 (Kb1 (DV.c (DV.v (AV.p AP.nil)) (DV.c (DV.v (AV.er (nat_lit 6))) DV.n)) H2) (onA p1 fun b1 m1 => rdK H2 b1 m1 fun v2 => isS v2 fun s1 => wrp .i64 (isub n1 ii1) fun n2 => ixA s1 n2 (fun x => Nat.mul x nn2) fun b2 m2 => Kb1 (DV.c (DV.v (AV.p (AP.at b2 m2))) (DV.c (DV.v AV.ni) DV.n)) H2)) fun Kb2 => br t1 (Kb2 DV.n H1) (onV d1 fun v1 => onV d2 fun v2 => isI .i64 v1 fun n2 => isI .i64 v2 fun n3 => frcB (ilt n3 n2) fun t2 => Kb2 (DV.v (AV.b t2)) H1)
def g232x2 := jn (fun d3 H2 => jn (fun d4 H3 => jn (fun d5 H4 => g232x1 d1 d5 n1 t1 p1 H4 Kb1) fun Kb2 => br t1 (Kb2 DV.n H3) (onV d4 fun v1 => isS v1 fun s1 => lenA s1 fun m1 => Kb2 (DV.v (AV.i .i64 (Int.ofNat m1))) H3)) fun Kb2 => br t1 (Kb2 DV.n H2) (onV d3 fun v1 => isP v1 fun p2 => onA p2 fun b1 m1 => rdK H2 b1 m1 fun v2 => isS v2 fun s1 => Kb2 (DV.v (AV.s s1)) H2)) fun Kb2 => br t1 (Kb2 DV.n H1) (onV d2 fun v1 => isP v1 fun p2 => onA p2 fun b1 m1 => Kb2 (DV.v (AV.p (AP.at b1 m1))) H1)
def g232x3 := lc R1 fun d1 R2 => onV d1 fun v1 => isI .i64 v1 fun n1 => ln R2 <| frcB (ilt n1 ii1) fun t1 => jn (fun d2 H2 => jn (fun d3 H3 => jn (fun d4 H4 => g232x2 d2 d4 n1 t1 p1 H4 Kb1) fun Kb2 => br t1 (Kb2 DV.n H3) (onV d3 fun v2 => isP v2 fun p2 => onA p2 fun b1 m1 => Kb2 (DV.v (AV.p (AP.at b1 m1))) H3)) fun Kb2 => br t1 (Kb2 DV.n H2) (Kb2 (DV.v (AV.p p1)) H2)) fun Kb2 => br t1 (Kb2 DV.n H1) (Kb2 (DV.v (AV.i .i64 n1)) H1)
/-- (*count.Book).of -/
def g232 : G DV := fun R1 H1 Kb1 => lc R1 fun d1 R2 => onV d1 fun v1 => isP v1 fun p1 => g232x3 R2 p1 H1 Kb1
def G232 : G DV := g232

def g233x1 := jn (fun d2 H2 => jn (fun d3 H3 => jn (fun d4 H4 => pickK t1 (DV.v (AV.b true)) d4 fun d5 => onV d5 fun v1 => isB v1 fun t2 => Kb1 (DV.v (AV.b t2)) H4) fun Kb2 => br t1 (Kb2 DV.n H3) (onV d3 fun v1 => isI .i64 v1 fun n1 => frcB (ieq n1 ii4) fun t2 => Kb2 (DV.v (AV.b t2)) H3)) fun Kb2 => br t1 (Kb2 DV.n H2) (onV d2 fun v1 => isP v1 fun p1 => onA p1 fun b1 m1 => rdK H2 b1 m1 fun v2 => isI .i64 v2 fun n1 => Kb2 (DV.v (AV.i .i64 n1)) H2)) fun Kb2 => br t1 (Kb2 DV.n H1) (onV d1 fun v1 => isP v1 fun p1 => onA p1 fun b1 m1 => Kb2 (DV.v (AV.p (AP.at b1 m1))) H1)
/-- count.over -/
def g233 : G DV := fun R1 H1 Kb1 => lc R1 fun d1 R2 => onV d1 fun v1 => isP v1 fun p1 => ln R2 <| onA p1 fun b1 m1 => rdK H1 b1 m1 fun v2 => isI .i64 v2 fun n1 => frcB (ieq n1 ii3) fun t1 => jn (fun d2 H2 => jn (fun d3 H3 => g233x1 d3 t1 H3 Kb1) fun Kb2 => br t1 (Kb2 DV.n H2) (onV d2 fun v3 => isP v3 fun p2 => onA p2 fun b2 m2 => Kb2 (DV.v (AV.p (AP.at b2 m2))) H2)) fun Kb2 => br t1 (Kb2 DV.n H1) (Kb2 (DV.v (AV.p p1)) H1)
def G233 : G DV := g233

def g185x1 := jn (fun d2 H2 => pickK t1 (DV.v (AV.b true)) d2 fun d3 => onV d3 fun v1 => isB v1 fun t2 => br t2 (Kb1 (DV.v (AV.er (nat_lit 2))) H2) (c1 [(DV.v (AV.p p1))] H2 fun d4 H3 => onV d4 fun v2 => isB v2 fun t3 => br t3 (Kb1 (DV.v (AV.er (nat_lit 9))) H3) (onA p1 fun b1 m1 => wrL H3 b1 m1 [(AV.i .i64 ii4), (AV.i .i64 n1)] fun H4 => Kb1 (DV.v AV.ni) H4))) fun Kb2 => br t1 (Kb2 DV.n H1) (onV d1 fun v1 => isI .i64 v1 fun n2 => frcB (ilt ii5 n2) fun t2 => Kb2 (DV.v (AV.b t2)) H1)
def g185x2 := isI .i64 v1 fun n2 => ln R1 <| c1 [(DV.v (AV.p p1)), (DV.v (AV.i .i64 n1))] H1 fun d1 H2 => onC d1 fun d2 d3 => onV d2 fun v2 => isP v2 fun p2 => onC d3 fun d4 d5 => onV d4 fun v3 => onN d5 <| ifA true true v3 AV.ni fun t1 => frcB (bnot t1) fun t2 => br t2 (Kb1 (DV.v v3) H2) (frcB (ilt n2 ii1) fun t3 => jn (fun d6 H3 => g185x1 d6 n2 t3 p2 H3 c2 Kb1) fun Kb2 => br t3 (Kb2 DV.n H2) (Kb2 (DV.v (AV.i .i64 n2)) H2))
/-- (*count.Book).Drop -/
def g185 : G DV := fun R1 H1 Kb1 => lc R1 fun d1 R2 => onV d1 fun v1 => isP v1 fun p1 => lc R2 fun d2 R3 => onV d2 fun v2 => isI .i64 v2 fun n1 => lc R3 fun d3 R4 => onV d3 fun v3 => g185x2 v3 R4 n1 p1 H1 c1 c2 Kb1
def G185 : G DV := g185 G232 G233

def z22 : T4 AV := (@T4.n AV yy0 (@T4.n AV yy1 te te te te) (@T4.n AV yy0 te te te te) (@T4.n AV yy0 te te te te) (@T4.n AV yy3 te te te te))
def g102x1 := ixA s1 n1 (fun x => Nat.mul x nn5) fun b1 m1 => rdR H1 b1 m1 nn5 fun l1 => alB H1 z22 nn5 nn0 fun b2 H2 => must (Nat.beq (llen l1) nn5) <| wrL H2 b2 nn0 l1 fun H3 => onA p1 fun b3 m2 => rdK H3 b2 nn0 fun v1 => isI .i64 v1 fun n3 => c1 [(DV.v (AV.p (AP.at b3 (Nat.add m2 nn310)))), (DV.v (AV.i .i64 n3)), (DV.v (AV.i .i64 n2))] H3 fun d1 H4 => onV d1 fun v2 => wrp .i64 (iadd n1 ii1) fun n4 => Kb1 (DV.v (AV.i .i64 n4)) H4
/-- (*ap.AP).drop -/
def g102 : G DV := fun R1 H1 Kb1 => lc R1 fun d1 R2 => onV d1 fun v1 => isP v1 fun p1 => lc R2 fun d2 R3 => onV d2 fun v2 => isI .i64 v2 fun n1 => lc R3 fun d3 R4 => onV d3 fun v3 => isS v3 fun s1 => ln R4 <| lenA s1 fun m1 => lpR (failF [(10 , .int .i64)]) (fun Kb2 => fun d4 H2 => onV d4 fun v4 => isI .i64 v4 fun n2 => frcB (ilt n2 (Int.ofNat m1)) fun t1 => br t1 (g102x1 n2 n1 p1 s1 H2 c1 Kb2) (Kb1 DV.n H2)) (nat_lit 100000) (DV.v (AV.i .i64 ii0)) H1
def G102 : G DV := g102 G185

def g254x1 := jn (fun d2 H2 => jn (fun d3 H3 => jn (fun d4 H4 => pickK t1 d4 (DV.v (AV.b false)) fun d5 => onV d5 fun v1 => isB v1 fun t2 => Kb1 (DV.v (AV.b t2)) H4) fun Kb2 => br t1 (onV d2 fun v1 => onV d3 fun v2 => isI .i64 v1 fun n1 => isI .i64 v2 fun n2 => frcB (ieq n1 n2) fun t2 => Kb2 (DV.v (AV.b t2)) H3) (Kb2 DV.n H3)) fun Kb2 => br t1 (onA p1 fun b1 m1 => rdK H2 b1 m1 fun v1 => isI .i64 v1 fun n1 => Kb2 (DV.v (AV.i .i64 n1)) H2) (Kb2 DV.n H2)) fun Kb2 => br t1 (onV d1 fun v1 => isP v1 fun p2 => onA p2 fun b1 m1 => rdK H1 b1 m1 fun v2 => isI .i64 v2 fun n1 => Kb2 (DV.v (AV.i .i64 n1)) H1) (Kb2 DV.n H1)
def g254x2 := lc R1 fun d2 R2 => onV d2 fun v1 => isP v1 fun p1 => ln R2 <| cellsD d1 fun l1 => alK H1 l1 fun b1 H2 => rdK H2 b1 nn8 fun v2 => isB v2 fun t1 => frcB (bnot t1) fun t2 => jn (fun d3 H3 => jn (fun d4 H4 => g254x1 d4 t2 p1 H4 Kb1) fun Kb2 => br t2 (onV d3 fun v3 => isP v3 fun p2 => onA p2 fun b2 m1 => Kb2 (DV.v (AV.p (AP.at b2 (Nat.add m1 nn5)))) H3) (Kb2 DV.n H3)) fun Kb2 => br t2 (Kb2 (DV.v (AV.p (AP.at b1 nn0))) H2) (Kb2 DV.n H2)
/-- (*ba.Session).Went$1 -/
def g254 : G DV := fun R1 H1 Kb1 => lc R1 fun d1 R2 => g254x2 d1 R2 H1 Kb1
def G254 : G DV := g254

/-- (*ba.Session).flies$1 -/
def g262 : G DV := fun R1 H1 Kb1 => lc R1 fun d1 R2 => ln R2 <| cellsD d1 fun l1 => alK H1 l1 fun b1 H2 => rdK H2 b1 nn8 fun v1 => isB v1 fun t1 => Kb1 (DV.v (AV.b t1)) H2
def G262 : G DV := g262

def g263x1 := ixA s1 n1 (fun x => Nat.mul x nn9) fun b1 m1 => rdR H1 b1 m1 nn9 fun l1 => onV d1 fun v1 => fnK v1 fun m2 L1 L2 => lookD [((nat_lit 197) , c1), ((nat_lit 227) , c2), ((nat_lit 230) , c3), ((nat_lit 254) , c4), ((nat_lit 262) , c5)] m2 (appA (mapP L1) (appA [(DV.a l1)] (mapP L2))) H1 fun d2 H2 => onV d2 fun v2 => isB v2 fun t1 => br t1 (Kb1 (DV.v (AV.i .i64 n1)) H2) (wrp .i64 (iadd n1 ii1) fun n2 => Kb2 (DV.v (AV.i .i64 n2)) H2)
/-- slices.IndexFunc[[]ba.frame,ba.frame] -/
def g263 : G DV := fun R1 H1 Kb1 => lc R1 fun d1 R2 => onV d1 fun v1 => isS v1 fun s1 => lc R2 fun d2 R3 => ln R3 <| lenA s1 fun m1 => lpR (failF [(8 , .int .i64)]) (fun Kb2 => fun d3 H2 => onV d3 fun v2 => isI .i64 v2 fun n1 => frcB (ilt n1 (Int.ofNat m1)) fun t1 => br t1 (g263x1 d2 n1 s1 H2 c1 c2 c3 c4 c5 Kb1 Kb2) (Kb1 (DV.v (AV.i .i64 im1)) H2)) (nat_lit 100000) (DV.v (AV.i .i64 ii0)) H1
def G263 : G DV := g263 G197 G227 G230 G254 G262

def z23 : List AV := [(AV.i .i64 ii0), (AV.i .u32 ii0), (AV.i .i64 ii0), (AV.i .i64 ii0), (AV.s AS.nil), (AV.i .i64 ii0), (AV.i .i64 ii0), (AV.i .i64 ii0), (AV.b false)]
def g245x1 := lookD [((nat_lit 197) , c1), ((nat_lit 230) , c2), ((nat_lit 263) , c3)] m1 (appA (mapP L1) (appA [(DV.a l1)] (mapP L2))) H1 fun d1 H2 => onV d1 fun v1 => isB v1 fun t1 => frcB (bnot t1) fun t2 => br t2 (rdR H2 b1 nn0 nn9 fun l2 => ixA s1 n1 (fun x => Nat.mul x nn9) fun b2 m2 => must (Nat.beq (llen l2) nn9) <| wrL H2 b2 m2 l2 fun H3 => wrp .i64 (iadd n1 ii1) fun n2 => Kb1 (DV.v (AV.i .i64 n2)) H3) (Kb1 (DV.v (AV.i .i64 n1)) H2)
def g245x2 := jF [(5 , .int .i64)] (fun d2 H2 => onV d2 fun v1 => isI .i64 v1 fun n3 => wrp .i64 (iadd n1 ii1) fun n4 => Kc1 (DV.v (AV.i .i64 n3)) (DV.v (AV.i .i64 n4)) H2) fun Kb1 => ixA s1 n1 (fun x => Nat.mul x nn9) fun b1 m1 => rdR H1 b1 m1 nn9 fun l1 => alB H1 z21 nn9 nn0 fun b2 H2 => must (Nat.beq (llen l1) nn9) <| wrL H2 b2 nn0 l1 fun H3 => rdR H3 b2 nn0 nn9 fun l2 => onV d1 fun v1 => fnK v1 fun m2 L1 L2 => g245x1 l2 L1 L2 n2 m2 b2 s1 H3 c1 c2 c3 Kb1
def g245x3 := lpR (failF [(5 , .int .i64), (6 , .int .i64)]) (fun Kc1 => fun d2 d3 H2 => onV d2 fun v1 => isI .i64 v1 fun n3 => onV d3 fun v2 => isI .i64 v2 fun n4 => lenA s1 fun m1 => frcB (ilt n4 (Int.ofNat m1)) fun t1 => br t1 (g245x2 d1 n4 n3 s1 H2 c1 c2 c3 Kc1) (natK n3 fun m2 => lenA s1 fun m3 => slA s1 m2 m3 (fun x => Nat.mul x nn9) fun s2 => clrD z23 s2 H2 fun H3 => natK n3 fun m4 => slA s1 nn0 m4 (fun x => Nat.mul x nn9) fun s3 => Kb1 (DV.v (AV.s s3)) H3)) (nat_lit 100000) (DV.v (AV.i .i64 n1)) (DV.v (AV.i .i64 n2)) H1
/-- slices.DeleteFunc[[]ba.frame,ba.frame] -/
def g245 : G DV := fun R1 H1 Kb1 => lc R1 fun d1 R2 => onV d1 fun v1 => isS v1 fun s1 => lc R2 fun d2 R3 => ln R3 <| c3 [(DV.v (AV.s s1)), d2] H1 fun d3 H2 => onV d3 fun v2 => isI .i64 v2 fun n1 => frcB (ieq n1 im1) fun t1 => br t1 (Kb1 (DV.v (AV.s s1)) H2) (wrp .i64 (iadd n1 ii1) fun n2 => g245x3 d2 n1 n2 s1 H2 c1 c2 c3 Kb1)
def G245 : G DV := g245 G197 G230 G263

/-- slices.Clone[[]ba.frame,ba.frame] -/
def g246 : G DV := fun R1 H1 Kb1 => lc R1 fun d1 R2 => onV d1 fun v1 => isS v1 fun s1 => ln R2 <| frcB (isNilS s1) fun t1 => br t1 (Kb1 (DV.v (AV.s AS.nil)) H1) (alB H1 te nn0 nn0 fun b1 H2 => appD nn9 nn88 (AS.sl b1 nn0 nn0 nn0) s1 H2 fun s2 H3 => Kb1 (DV.v (AV.s s2)) H3)
def G246 : G DV := g246

def g267x1 := slA3 s1 m1 m2 m3 (fun x => x) fun s2 => frcB (ieq n1 n2) fun t1 => br t1 (Kb1 (DV.v (AV.s s1)) H1) (lenA s1 fun m4 => natK n1 fun m5 => slA s1 nn0 m5 (fun x => x) fun s3 => natK n2 fun m6 => lenA s1 fun m7 => slA s1 m6 m7 (fun x => x) fun s4 => appD nn1 nn8 s3 s4 H1 fun s5 H2 => lenA s5 fun m8 => natK (Int.ofNat m8) fun m9 => natK (Int.ofNat m4) fun m10 => slA s5 m9 m10 (fun x => x) fun s6 => clrD [(AV.i .i64 ii0)] s6 H2 fun H3 => Kb1 (DV.v (AV.s s5)) H3)
/-- slices.Delete[[]int,int] -/
def g267 : G DV := fun R1 H1 Kb1 => lc R1 fun d1 R2 => onV d1 fun v1 => isS v1 fun s1 => lc R2 fun d2 R3 => onV d2 fun v2 => isI .i64 v2 fun n1 => lc R3 fun d3 R4 => onV d3 fun v3 => isI .i64 v3 fun n2 => ln R4 <| lenA s1 fun m1 => natK n1 fun m2 => natK n2 fun m3 => natK (Int.ofNat m1) fun m4 => g267x1 n1 n2 m2 m3 m4 s1 H1 Kb1
def G267 : G DV := g267

/-- slices.Clone[[]int,int] -/
def g268 : G DV := fun R1 H1 Kb1 => lc R1 fun d1 R2 => onV d1 fun v1 => isS v1 fun s1 => ln R2 <| frcB (isNilS s1) fun t1 => br t1 (Kb1 (DV.v (AV.s AS.nil)) H1) (alB H1 te nn0 nn0 fun b1 H2 => appD nn1 nn8 (AS.sl b1 nn0 nn0 nn0) s1 H2 fun s2 H3 => Kb1 (DV.v (AV.s s2)) H3)
def G268 : G DV := g268

def g247x1 := wrK H1 b1 m1 (AV.i .i64 n1) fun H2 => jF [] (fun H3 => Kb1 (DV.v AV.ni) H3) fun Ka1 => onA p1 fun b2 m2 => rdK H2 b2 (Nat.add m2 nn3) fun v1 => isS v1 fun s1 => lenA s1 fun m3 => frcB (ilt ii0 (Int.ofNat m3)) fun t1 => br t1 (onA p1 fun b3 m4 => rdK H2 b3 (Nat.add m4 nn3) fun v2 => isS v2 fun s2 => ixA s2 ii0 (fun x => x) fun b4 m5 => rdK H2 b4 m5 fun v3 => isI .i64 v3 fun n2 => onA p1 fun b5 m6 => wrK H2 b5 m6 (AV.i .i64 n2) fun H3 => Ka1 H3) (Ka1 H2)
def g247x2 := c1 [(DV.v (AV.s s1))] H1 fun d1 H2 => onV d1 fun v1 => isS v1 fun s2 => wrp .i64 (iadd n1 ii1) fun n2 => c2 [(DV.v (AV.s s2)), (DV.v (AV.i .i64 n1)), (DV.v (AV.i .i64 n2))] H2 fun d2 H3 => onV d2 fun v2 => isS v2 fun s3 => onA p1 fun b1 m1 => wrK H3 b1 (Nat.add m1 nn3) (AV.s s3) fun H4 => onA p1 fun b2 m2 => rdK H4 b2 (Nat.add m2 nn1) fun v3 => isI .i64 v3 fun n3 => onA p1 fun b3 m3 => g247x1 n3 m3 p1 b3 H4 Kb1
def g247x3 := lc R1 fun d1 R2 => onV d1 fun v1 => isI .i64 v1 fun n1 => ln R2 <| onA p1 fun b1 m1 => rdK H1 b1 (Nat.add m1 nn3) fun v2 => isS v2 fun s1 => c1 [(DV.v (AV.s s1)), (DV.v (AV.i .i64 n1))] H1 fun d2 H2 => onV d2 fun v3 => isI .i64 v3 fun n2 => frcB (ilt n2 ii0) fun t1 => br t1 (Kb1 (DV.v (AV.er (nat_lit 6))) H2) (onA p1 fun b2 m2 => rdK H2 b2 (Nat.add m2 nn3) fun v4 => isS v4 fun s2 => g247x2 n2 p1 s2 H2 c2 c3 Kb1)
/-- (*win.Win).Done -/
def g247 : G DV := fun R1 H1 Kb1 => lc R1 fun d1 R2 => onV d1 fun v1 => isP v1 fun p1 => g247x3 R2 p1 H1 c1 c3 c2 Kb1
def G247 : G DV := g247 G194 G267 G268

def g196x1 := ixA s1 n1 (fun x => Nat.mul x nn8) fun b1 m1 => rdR H1 b1 m1 nn8 fun l1 => alB H1 z20 nn8 nn0 fun b2 H2 => must (Nat.beq (llen l1) nn8) <| wrL H2 b2 nn0 l1 fun H3 => onA p1 fun b3 m2 => rdK H3 b3 m2 fun v1 => isP v1 fun p2 => rdK H3 b2 nn5 fun v2 => isI .i64 v2 fun n2 => c1 [(DV.v (AV.p p2)), (DV.v (AV.i .i64 n2))] H3 fun d1 H4 => onV d1 fun v3 => ifA false true v3 AV.ni fun t1 => frcB (bnot t1) fun t2 => br t2 (Ka1 H4) (Ka1 H4)
def g196x2 := onV d1 fun v1 => isS v1 fun s2 => onA p1 fun b1 m1 => wrK H1 b1 (Nat.add m1 nn6) (AV.s s2) fun H2 => lenA s1 fun m2 => lpR (failF [(23 , .int .i64)]) (fun Kb2 => fun d2 H3 => onV d2 fun v2 => isI .i64 v2 fun n1 => frcB (ilt n1 (Int.ofNat m2)) fun t1 => br t1 (jF [] (fun H4 => wrp .i64 (iadd n1 ii1) fun n2 => Kb2 (DV.v (AV.i .i64 n2)) H4) fun Ka1 => g196x1 n1 p1 s1 H3 c1 Ka1) (Kb1 (DV.v (AV.s s1)) H3)) (nat_lit 100000) (DV.v (AV.i .i64 ii0)) H2
/-- (*ba.Session).take -/
def g196 : G DV := fun R1 H1 Kb1 => lc R1 fun d1 R2 => onV d1 fun v1 => isP v1 fun p1 => lc R2 fun d2 R3 => ln R3 <| c1 [(DV.v (AV.p p1)), d2] H1 fun d3 H2 => onV d3 fun v2 => isS v2 fun s1 => onA p1 fun b1 m1 => rdK H2 b1 (Nat.add m1 nn6) fun v3 => isS v3 fun s2 => c3 [(DV.v (AV.s s2))] H2 fun d4 H3 => onV d4 fun v4 => isS v4 fun s3 => c2 [(DV.v (AV.s s3)), d2] H3 fun d5 H4 => g196x2 d5 p1 s1 H4 c4 Kb1
def G196 : G DV := g196 G183 G245 G246 G247

def g122x1 := rdR H1 b1 nn0 nn9 fun l1 => fnK v1 fun m1 L1 L2 => lookD [((nat_lit 195) , c1), ((nat_lit 196) , c2)] m1 (appA (mapP L1) (appA [(DV.a l1)] (mapP L2))) H1 fun d1 H2 => onV d1 fun v2 => isI .i64 v2 fun n1 => frcB (bnot (ieq n1 ii0)) fun t1 => br t1 (alB H2 (@T4.n AV (AV.i .i64 n1) te te te te) nn1 nn0 fun b2 H3 => appD nn1 nn8 s1 (AS.sl b2 nn0 nn1 nn1) H3 fun s2 H4 => Kb1 (DV.v (AV.s s2)) H4) (Kb1 (DV.v (AV.s s1)) H2)
def g122x2 := jn (fun d2 H2 => pickK t1 d2 (DV.v (AV.b false)) fun d3 => onV d3 fun v1 => isB v1 fun t2 => br t2 (rdK H2 b1 nn0 fun v2 => isP v2 fun p1 => rdK H2 b1 nn0 fun v3 => isP v3 fun p2 => onA p1 fun b2 m1 => wrK H2 b2 (Nat.add m1 nn7) (AV.b true) fun H3 => rdK H3 b1 nn0 fun v4 => must (aveq (AV.p p2) v4) <| onA p2 fun b3 m2 => wrK H3 b3 (Nat.add m2 nn8) (AV.i .i64 ii0) fun H4 => Ka1 H4) (Ka1 H2)) fun Kb1 => br t1 (onV d1 fun v1 => isB v1 fun t2 => frcB (bnot t2) fun t3 => Kb1 (DV.v (AV.b t3)) H1) (Kb1 DV.n H1)
def g122x3 := jn (fun d2 H2 => jn (fun d3 H3 => jn (fun d4 H4 => g122x2 d4 t1 b1 H4 Ka1) fun Kb1 => br t1 (onV d3 fun v1 => isP v1 fun p1 => onA p1 fun b2 m1 => rdK H3 b2 m1 fun v2 => isB v2 fun t2 => Kb1 (DV.v (AV.b t2)) H3) (Kb1 DV.n H3)) fun Kb1 => br t1 (onV d2 fun v1 => isP v1 fun p1 => onA p1 fun b2 m1 => Kb1 (DV.v (AV.p (AP.at b2 (Nat.add m1 nn7)))) H2) (Kb1 DV.n H2)) fun Kb1 => br t1 (onV d1 fun v1 => isP v1 fun p1 => onA p1 fun b2 m1 => Kb1 (DV.v (AV.p (AP.at b2 m1))) H1) (Kb1 DV.n H1)
def g122x4 := jn (fun d2 H2 => jn (fun d3 H3 => pickK t1 d3 (DV.v (AV.b false)) fun d4 => onV d4 fun v1 => isB v1 fun t2 => jn (fun d5 H4 => g122x3 d5 t2 b1 H4 Ka1) fun Kb1 => br t2 (rdK H3 b1 nn0 fun v2 => isP v2 fun p1 => Kb1 (DV.v (AV.p p1)) H3) (Kb1 DV.n H3)) fun Kb1 => br t1 (onV d2 fun v1 => isI .i64 v1 fun n1 => frcB (ieq n1 ii3) fun t2 => Kb1 (DV.v (AV.b t2)) H2) (Kb1 DV.n H2)) fun Kb1 => br t1 (onV d1 fun v1 => isP v1 fun p1 => onA p1 fun b2 m1 => rdK H1 b2 m1 fun v2 => isI .i64 v2 fun n1 => Kb1 (DV.v (AV.i .i64 n1)) H1) (Kb1 DV.n H1)
def g122x5 := jn (fun d1 H2 => jn (fun d2 H3 => jn (fun d3 H4 => g122x4 d3 t1 b1 H4 Ka1) fun Kb1 => br t1 (onV d2 fun v1 => isP v1 fun p1 => onA p1 fun b2 m1 => Kb1 (DV.v (AV.p (AP.at b2 (Nat.add m1 nn4)))) H3) (Kb1 DV.n H3)) fun Kb1 => br t1 (onV d1 fun v1 => isP v1 fun p1 => onA p1 fun b2 m1 => Kb1 (DV.v (AV.p (AP.at b2 m1))) H2) (Kb1 DV.n H2)) fun Kb1 => br t1 (rdK H1 b1 nn0 fun v1 => isP v1 fun p1 => Kb1 (DV.v (AV.p p1)) H1) (Kb1 DV.n H1)
def g122x6 := br t1 (jF [(7 , .slice)] (fun d1 H2 => onV d1 fun v1 => isS v1 fun s3 => wrp .i64 (iadd n1 ii1) fun n2 => Kc1 (DV.v (AV.s s3)) (DV.v (AV.i .i64 n2)) H2) fun Kb2 => ixA s1 n1 (fun x => Nat.mul x nn9) fun b3 m1 => rdR H1 b3 m1 nn9 fun l1 => alB H1 z21 nn9 nn0 fun b4 H2 => must (Nat.beq (llen l1) nn9) <| wrL H2 b4 nn0 l1 fun H3 => rdK H3 b1 nn0 fun v1 => g122x1 v1 b4 s2 H3 c1 c2 Kb2) (rdK H1 b2 nn0 fun v1 => isP v1 fun p1 => c2 [(DV.v (AV.p p1)), (DV.v (AV.fn (nat_lit 197) [(AP.at b1 nn0)]))] H1 fun d1 H2 => onV d1 fun v2 => isS v2 fun s3 => jF [] (fun H3 => Kb1 (DV.c (DV.v (AV.s s3)) (DV.c (DV.v (AV.s s2)) DV.n)) H3) fun Ka1 => lenA s3 fun m1 => frcB (ilt ii0 (Int.ofNat m1)) fun t2 => g122x5 t2 b2 H2 Ka1)
def g122x7 := wrK H1 b1 nn0 (AV.fn (nat_lit 195) [(AP.at b2 nn0), (AP.at b3 nn0)]) fun H2 => rdK H2 b2 nn0 fun v1 => isP v1 fun p1 => onA p1 fun b4 m1 => rdK H2 b4 (Nat.add m1 nn6) fun v2 => isS v2 fun s1 => lenA s1 fun m2 => lpR (failF [(7 , .slice), (18 , .int .i64)]) (fun Kc1 => fun d1 d2 H3 => onV d1 fun v3 => isS v3 fun s2 => onV d2 fun v4 => isI .i64 v4 fun n1 => frcB (ilt n1 (Int.ofNat m2)) fun t1 => g122x6 n1 t1 b1 b2 s1 s2 H3 c1 c2 Kb1 Kc1) (nat_lit 100000) (DV.v (AV.s AS.nil)) (DV.v (AV.i .i64 ii0)) H2
/-- (*ba.Session).Sweep -/
def g122 : G DV := fun R1 H1 Kb1 => lc R1 fun d1 R2 => onV d1 fun v1 => isP v1 fun p1 => lc R2 fun d2 R3 => onV d2 fun v2 => isI .i64 v2 fun n1 => ln R3 <| alB H1 (@T4.n AV (AV.p p1) te te te te) nn1 nn0 fun b1 H2 => alB H2 (@T4.n AV (AV.i .i64 n1) te te te te) nn1 nn0 fun b2 H3 => alB H3 (@T4.n AV yy18 te te te te) nn1 nn0 fun b3 H4 => g122x7 b3 b1 b2 H4 c1 c2 Kb1
def G122 : G DV := g122 G195 G196

def g66x1 := alB H1 z20 nn8 nn0 fun b1 H2 => must (Nat.beq (llen l1) nn8) <| wrL H2 b1 nn0 l1 fun H3 => ixA s1 n1 (fun x => x) fun b2 m1 => rdK H3 b2 m1 fun v1 => isI .i64 v1 fun n2 => rdR H3 b1 nn0 nn5 fun l2 => must (Nat.beq (llen l2) nn5) <| alK H3 (lapp l2 []) fun b3 H4 => c1 [(DV.v (AV.p p1)), (DV.v (AV.i .i64 n2)), (DV.v (AV.s (AS.sl b3 nn0 nn1 nn1)))] H4 fun d1 H5 => wrp .i64 (iadd n1 ii1) fun n3 => Kb1 (DV.v (AV.i .i64 n3)) H5
def g66x2 := jn (fun d2 H2 => pickK t1 d2 (DV.v (AV.b false)) fun d3 => onV d3 fun v1 => isB v1 fun t2 => br t2 (onA p1 fun b1 m1 => wrK H2 b1 (Nat.add m1 nn3) (AV.b false) fun H3 => onA p1 fun b2 m2 => rdK H3 b2 m2 fun v2 => isP v2 fun p2 => c1 [(DV.v (AV.p p2))] H3 fun d4 H4 => onV d4 fun v3 => ifA true true v3 AV.ni fun t3 => frcB (bnot t3) fun t4 => br t4 (Kb1 DV.n H4) (Kb1 DV.n H4)) (Kb1 DV.n H2)) fun Kb2 => br t1 (onV d1 fun v1 => isI .i64 v1 fun n1 => frcB (ieq n1 ii0) fun t2 => Kb2 (DV.v (AV.b t2)) H1) (Kb2 DV.n H1)
def g66x3 := jn (fun d2 H2 => jn (fun d3 H3 => jn (fun d4 H4 => g66x2 d4 t1 p1 H4 c1 Kb1) fun Kb2 => br t1 (onV d3 fun v1 => isS v1 fun s1 => lenA s1 fun m1 => Kb2 (DV.v (AV.i .i64 (Int.ofNat m1))) H3) (Kb2 DV.n H3)) fun Kb2 => br t1 (c2 [d2] H2 fun d3 H3 => onV d3 fun v1 => isS v1 fun s1 => Kb2 (DV.v (AV.s s1)) H3) (Kb2 DV.n H2)) fun Kb2 => br t1 (onV d1 fun v1 => isP v1 fun p2 => onA p2 fun b1 m1 => rdK H1 b1 m1 fun v2 => isP v2 fun p3 => Kb2 (DV.v (AV.p p3)) H1) (Kb2 DV.n H1)
def g66x4 := rdK H1 b1 (Nat.add m1 nn3) fun v1 => isB v1 fun t1 => jn (fun d1 H2 => jn (fun d2 H3 => jn (fun d3 H4 => g66x3 d3 t1 p1 H4 c1 c2 Kb1) fun Kb2 => br t1 (onV d2 fun v2 => isP v2 fun p2 => onA p2 fun b2 m2 => Kb2 (DV.v (AV.p (AP.at b2 m2))) H3) (Kb2 DV.n H3)) fun Kb2 => br t1 (onV d1 fun v2 => isP v2 fun p2 => onA p2 fun b2 m2 => Kb2 (DV.v (AV.p (AP.at b2 m2))) H2) (Kb2 DV.n H2)) fun Kb2 => br t1 (Kb2 (DV.v (AV.p p1)) H1) (Kb2 DV.n H1)
def g66x5 := onC d1 fun d2 d3 => onV d2 fun v1 => isS v1 fun s2 => onN d3 <| lenA s1 fun m1 => lpR (failF [(22 , .int .i64)]) (fun Kb2 => fun d4 H2 => onV d4 fun v2 => isI .i64 v2 fun n1 => frcB (ilt n1 (Int.ofNat m1)) fun t1 => br t1 (ixA s1 n1 (fun x => Nat.mul x nn8) fun b1 m2 => rdR H2 b1 m2 nn8 fun l1 => g66x1 l1 n1 p1 s2 H2 c1 Kb2) (onA p2 fun b1 m2 => g66x4 m2 p2 b1 H2 c2 c3 Kb1)) (nat_lit 100000) (DV.v (AV.i .i64 ii0)) H1
def g66x6 := lc R1 fun d1 R2 => onV d1 fun v1 => isP v1 fun p1 => lc R2 fun d2 R3 => onV d2 fun v2 => isP v2 fun p2 => ln R3 <| onA p2 fun b1 m1 => rdK H1 b1 m1 fun v3 => isP v3 fun p3 => onA p1 fun b2 m2 => rdK H1 b2 (Nat.add m2 nn21) fun v4 => isI .i64 v4 fun n1 => c1 [(DV.v (AV.p p3)), (DV.v (AV.i .i64 n1))] H1 fun d3 H2 => onC d3 fun d4 d5 => onV d4 fun v5 => isS v5 fun s1 => g66x5 d5 p1 p2 s1 H2 c2 c3 c4 Kb1
/-- (*ap.AP).sweep -/
def g66 : G DV := fun R1 H1 Kb1 => g66x6 R1 H1 c4 c3 c2 c1 Kb1
def G66 : G DV := g66 G100 G101 G102 G122

/-- edca.fair -/
def g180 : G DV := fun R1 H1 Kb1 => lc R1 fun d1 R2 => onV d1 fun v1 => isI .i64 v1 fun n1 => ln R2 <| frcB (ile ii0 n1) fun t1 => jn (fun d2 H2 => jn (fun d3 H3 => pickK t1 d3 (DV.v (AV.b false)) fun d4 => onV d4 fun v2 => isB v2 fun t2 => Kb1 (DV.v (AV.b t2)) H3) fun Kb2 => br t1 (onV d2 fun v2 => isI .i64 v2 fun n2 => frcB (ilt n2 ii4) fun t2 => Kb2 (DV.v (AV.b t2)) H2) (Kb2 DV.n H2)) fun Kb2 => br t1 (Kb2 (DV.v (AV.i .i64 n1)) H1) (Kb2 DV.n H1)
def G180 : G DV := g180

def z24 : T4 AV := (@T4.n AV yy19 (@T4.n AV yy19 te te te te) (@T4.n AV yy20 te te te te) (@T4.n AV yy21 te te te te) te)
/-- edca.first -/
def g198 : G DV := fun R1 H1 Kb1 => lc R1 fun d1 R2 => onV d1 fun v1 => isI .i64 v1 fun n1 => ln R2 <| alB H1 z24 nn4 nn0 fun b1 H2 => ixA (AS.sl b1 nn0 nn4 nn4) n1 (fun x => x) fun b2 m1 => rdK H2 b2 m1 fun v2 => isI .i64 v2 fun n2 => Kb1 (DV.v (AV.i .i64 n2)) H2
def G198 : G DV := g198

def g123x1 := frcB (bnot t1) fun t2 => br t2 (Kb1 (DV.v (AV.i .i64 ii0)) H1) (onA p1 fun b1 m1 => rng n1 nn4 <| rdK H1 b1 (Nat.add (Nat.add m1 (Nat.mul (itn n1) nn3)) nn2) fun v1 => isI .i64 v1 fun n2 => c1 [(DV.v (AV.i .i64 n1))] H1 fun d1 H2 => onV d1 fun v2 => isI .i64 v2 fun n3 => rdK H2 b1 (Nat.add (Nat.add m1 (Nat.mul (itn n1) nn3)) nn2) fun v3 => must (aveq (AV.i .i64 n2) v3) <| wrp .i64 (iadd n3 n2) fun n4 => Kb1 (DV.v (AV.i .i64 n4)) H2)
/-- (*edca.Edca).Window -/
def g123 : G DV := fun R1 H1 Kb1 => lc R1 fun d1 R2 => onV d1 fun v1 => isP v1 fun p1 => lc R2 fun d2 R3 => onV d2 fun v2 => isI .i64 v2 fun n1 => ln R3 <| c1 [(DV.v (AV.i .i64 n1))] H1 fun d3 H2 => onV d3 fun v3 => isB v3 fun t1 => g123x1 n1 t1 p1 H2 c2 Kb1
def G123 : G DV := g123 G180 G198

def z25 : T4 AV := (@T4.n AV yy20 (@T4.n AV yy21 te te te te) (@T4.n AV yy22 te te te te) (@T4.n AV yy22 te te te te) te)
/-- edca.wait -/
def g124 : G DV := fun R1 H1 Kb1 => lc R1 fun d1 R2 => onV d1 fun v1 => isI .i64 v1 fun n1 => ln R2 <| alB H1 z25 nn4 nn0 fun b1 H2 => ixA (AS.sl b1 nn0 nn4 nn4) n1 (fun x => x) fun b2 m1 => rdK H2 b2 m1 fun v2 => isI .i64 v2 fun n2 => Kb1 (DV.v (AV.i .i64 n2)) H2
def G124 : G DV := g124

def z26 : T4 AV := (@T4.n AV yy23 (@T4.n AV yy24 te te te te) (@T4.n AV yy19 te te te te) (@T4.n AV yy20 te te te te) te)
/-- edca.most -/
def g199 : G DV := fun R1 H1 Kb1 => lc R1 fun d1 R2 => onV d1 fun v1 => isI .i64 v1 fun n1 => ln R2 <| alB H1 z26 nn4 nn0 fun b1 H2 => ixA (AS.sl b1 nn0 nn4 nn4) n1 (fun x => x) fun b2 m1 => rdK H2 b2 m1 fun v2 => isI .i64 v2 fun n2 => Kb1 (DV.v (AV.i .i64 n2)) H2
def G199 : G DV := g199

def g125x1 := onV d1 fun v1 => isI .i64 v1 fun n2 => wrp .i64 (imul ii2 n2) fun n3 => wrp .i64 (iadd n3 ii1) fun n4 => c1 [(DV.v (AV.i .i64 n1))] H1 fun d2 H2 => onV d2 fun v2 => isI .i64 v2 fun n5 => asI (imin n4 n5) fun n6 => c2 [(DV.v (AV.i .i64 n1))] H2 fun d3 H3 => onV d3 fun v3 => isI .i64 v3 fun n7 => wrp .i64 (isub n6 n7) fun n8 => rng n1 nn4 <| wrK H3 b1 (Nat.add (Nat.add m1 (Nat.mul (itn n1) nn3)) nn2) (AV.i .i64 n8) fun H4 => Kb1 DV.n H4
/-- (*edca.Edca).grow -/
def g125 : G DV := fun R1 H1 Kb1 => lc R1 fun d1 R2 => onV d1 fun v1 => isP v1 fun p1 => lc R2 fun d2 R3 => onV d2 fun v2 => isI .i64 v2 fun n1 => ln R3 <| onA p1 fun b1 m1 => c1 [(DV.v (AV.p p1)), (DV.v (AV.i .i64 n1))] H1 fun d3 H2 => g125x1 d3 n1 m1 b1 H2 c3 c2 Kb1
def G125 : G DV := g125 G123 G198 G199

def g67x1 := jn (fun d2 H2 => jn (fun d3 H3 => pickK t1 (DV.v (AV.b true)) d3 fun d4 => onV d4 fun v1 => isB v1 fun t2 => br t2 (Kc1 (DV.v (AV.i .i64 n1)) (DV.v (AV.i .i64 n2)) H3) (Kc1 (DV.v (AV.i .i64 n3)) (DV.v (AV.i .i64 n4)) H3)) fun Kb1 => br t1 (Kb1 DV.n H2) (onV d1 fun v1 => onV d2 fun v2 => isI .i64 v1 fun n5 => isI .i64 v2 fun n6 => frcB (ile n5 n6) fun t2 => Kb1 (DV.v (AV.b t2)) H2)) fun Kb1 => br t1 (Kb1 DV.n H1) (Kb1 (DV.v (AV.i .i64 n4)) H1)
def g67x2 := rdK H1 b1 (Nat.add (Nat.add m1 (Nat.mul (itn n1) nn3)) nn1) fun v1 => isI .i64 v1 fun n4 => c1 [(DV.v (AV.i .i64 n1))] H1 fun d1 H2 => onV d1 fun v2 => isI .i64 v2 fun n5 => rdK H2 b1 (Nat.add (Nat.add m1 (Nat.mul (itn n1) nn3)) nn1) fun v3 => must (aveq (AV.i .i64 n4) v3) <| wrp .i64 (iadd n5 n4) fun n6 => frcB (ilt n2 ii0) fun t1 => jn (fun d2 H3 => g67x1 d2 n1 n6 n2 n3 t1 H3 Kc1) fun Kb1 => br t1 (Kb1 DV.n H2) (Kb1 (DV.v (AV.i .i64 n6)) H2)
def g67x3 := rdK H1 b1 (Nat.add nn0 (itn n1)) fun v1 => must (aveq (AV.i .u32 n2) v1) <| wrp .i64 (iadd n3 ii1) fun n4 => wrp .u32 n4 fun n5 => must (bnot (ieq n5 ii0)) <| asI (irem n2 n5) fun n6 => wrp .i64 n6 fun n7 => wrK H1 b2 (Nat.add m1 (Nat.mul (itn n1) nn3)) (AV.b true) fun H2 => rdK H2 b1 (Nat.add nn0 (itn n1)) fun v2 => must (aveq (AV.i .u32 n2) v2) <| wrK H2 b2 (Nat.add (Nat.add m1 (Nat.mul (itn n1) nn3)) nn1) (AV.i .i64 n7) fun H3 => Ka1 H3
def g67x4 := jF [] (fun H2 => onA p1 fun b2 m1 => rng n1 nn4 <| g67x2 n1 n2 n3 m1 b2 H2 c1 Kc1) fun Ka1 => onA p1 fun b2 m1 => rng n1 nn4 <| rdK H1 b2 (Nat.add m1 (Nat.mul (itn n1) nn3)) fun v1 => isB v1 fun t1 => frcB (bnot t1) fun t2 => br t2 (rng n1 nn4 <| rdK H1 b1 (Nat.add nn0 (itn n1)) fun v2 => isI .u32 v2 fun n4 => c2 [(DV.v (AV.p p1)), (DV.v (AV.i .i64 n1))] H1 fun d1 H2 => onV d1 fun v3 => isI .i64 v3 fun n5 => g67x3 n1 n4 n5 m1 b1 b2 H2 Ka1) (Ka1 H1)
def g67x5 := jF [(9 , .int .i64), (10 , .int .i64)] (fun d1 d2 H2 => onV d1 fun v1 => isI .i64 v1 fun n4 => onV d2 fun v2 => isI .i64 v2 fun n5 => wrp .i64 (iadd n1 ii1) fun n6 => Kd1 (DV.v (AV.i .i64 n4)) (DV.v (AV.i .i64 n5)) (DV.v (AV.i .i64 n6)) H2) fun Kc1 => rng n1 nn4 <| rdK H1 b1 (Nat.add nn0 (itn n1)) fun v1 => isB v1 fun t1 => frcB (bnot t1) fun t2 => br t2 (Kc1 (DV.v (AV.i .i64 n2)) (DV.v (AV.i .i64 n3)) H1) (g67x4 n1 n2 n3 p1 b2 H1 c1 c2 Kc1)
def g67x6 := rdK H1 b1 (Nat.add (Nat.add m1 (Nat.mul (itn n1) nn3)) nn1) fun v1 => isI .i64 v1 fun n3 => c1 [(DV.v (AV.i .i64 n1))] H1 fun d1 H2 => onV d1 fun v2 => isI .i64 v2 fun n4 => rdK H2 b1 (Nat.add (Nat.add m1 (Nat.mul (itn n1) nn3)) nn1) fun v3 => must (aveq (AV.i .i64 n3) v3) <| wrp .i64 (isub n2 n4) fun n5 => asI (imax n5 ii0) fun n6 => wrp .i64 (isub n3 n6) fun n7 => asI (imax n7 ii0) fun n8 => wrK H2 b1 (Nat.add (Nat.add m1 (Nat.mul (itn n1) nn3)) nn1) (AV.i .i64 n8) fun H3 => Ka1 H3
def g67x7 := must (aveq (AV.i .i64 n1) v1) <| wrp .i64 (iadd n2 n1) fun n6 => frcB (ilt n3 n6) fun t1 => br t1 (g67x6 n4 n3 m1 b1 H1 c1 Ka1) (jF [] (fun H2 => wrK H2 b1 (Nat.add m1 (Nat.mul (itn n4) nn3)) (AV.b false) fun H3 => wrK H3 b1 (Nat.add (Nat.add m1 (Nat.mul (itn n4) nn3)) nn1) (AV.i .i64 ii0) fun H4 => Ka1 H4) fun Ka2 => frcB (bnot (ieq n4 n5)) fun t2 => br t2 (c2 [(DV.v (AV.p p1)), (DV.v (AV.i .i64 n4))] H1 fun d1 H2 => Ka2 H2) (Ka2 H1))
def g67x8 := rng n1 nn4 <| rng n1 nn4 <| rdK H1 b1 (Nat.add nn0 (itn n1)) fun v1 => isB v1 fun t1 => frcB (bnot t1) fun t2 => br t2 (Ka1 H1) (rdK H1 b2 (Nat.add (Nat.add m1 (Nat.mul (itn n1) nn3)) nn1) fun v2 => isI .i64 v2 fun n4 => c1 [(DV.v (AV.i .i64 n1))] H1 fun d1 H2 => onV d1 fun v3 => isI .i64 v3 fun n5 => rdK H2 b2 (Nat.add (Nat.add m1 (Nat.mul (itn n1) nn3)) nn1) fun v4 => g67x7 v4 n4 n5 n2 n1 n3 m1 p1 b2 H2 c1 c2 Ka1)
def g67x9 := br t1 (Kb1 (DV.c (DV.v (AV.i .i64 ii0)) (DV.c (DV.v (AV.i .i64 ii0)) (DV.c (DV.v (AV.b false)) DV.n))) H1) (lpR (failF [(71 , .int .i64)]) (fun Kb2 => fun d1 H2 => onV d1 fun v1 => isI .i64 v1 fun n3 => frcB (ilt n3 ii4) fun t2 => br t2 (jF [] (fun H3 => wrp .i64 (iadd n3 ii1) fun n4 => Kb2 (DV.v (AV.i .i64 n4)) H3) fun Ka1 => onA p1 fun b2 m1 => g67x8 n3 n1 n2 m1 p1 b1 b2 H2 c1 c2 Ka1) (Kb1 (DV.c (DV.v (AV.i .i64 n2)) (DV.c (DV.v (AV.i .i64 n1)) (DV.c (DV.v (AV.b true)) DV.n))) H2)) (nat_lit 100000) (DV.v (AV.i .i64 ii0)) H1)
def g67x10 := lpR (failF [(9 , .int .i64), (10 , .int .i64), (16 , .int .i64)]) (fun Kd1 => fun d1 d2 d3 H2 => onV d1 fun v1 => isI .i64 v1 fun n1 => onV d2 fun v2 => isI .i64 v2 fun n2 => onV d3 fun v3 => isI .i64 v3 fun n3 => frcB (ilt n3 ii4) fun t1 => br t1 (g67x5 n3 n1 n2 p1 b1 b2 H2 c1 c2 Kd1) (frcB (ilt n1 ii0) fun t2 => g67x9 n2 n1 t2 p1 b1 H2 c1 c3 Kb1)) (nat_lit 100000) (DV.v (AV.i .i64 im1)) (DV.v (AV.i .i64 ii0)) (DV.v (AV.i .i64 ii0)) H1
/-- (*edca.Edca).Contend -/
def g67 : G DV := fun R1 H1 Kb1 => lc R1 fun d1 R2 => onV d1 fun v1 => isP v1 fun p1 => lc R2 fun d2 R3 => lc R3 fun d3 R4 => ln R4 <| cellsD d2 fun l1 => alK H1 l1 fun b1 H2 => cellsD d3 fun l2 => alK H2 l2 fun b2 H3 => g67x10 p1 b1 b2 H3 c2 c1 c3 Kb1
def G67 : G DV := g67 G123 G124 G125

/-- aql.there -/
def g131 : G DV := fun R1 H1 Kb1 => lc R1 fun d1 R2 => onV d1 fun v1 => isI .i64 v1 fun n1 => ln R2 <| frcB (ile ii1 n1) fun t1 => jn (fun d2 H2 => jn (fun d3 H3 => pickK t1 d3 (DV.v (AV.b false)) fun d4 => onV d4 fun v2 => isB v2 fun t2 => Kb1 (DV.v (AV.b t2)) H3) fun Kb2 => br t1 (onV d2 fun v2 => isI .i64 v2 fun n2 => frcB (ile n2 ii16) fun t2 => Kb2 (DV.v (AV.b t2)) H2) (Kb2 DV.n H2)) fun Kb2 => br t1 (Kb2 (DV.v (AV.i .i64 n1)) H1) (Kb2 DV.n H1)
def G131 : G DV := g131

def g132x1 := lc R1 fun d1 R2 => onV d1 fun v1 => isP v1 fun p1 => lc R2 fun d2 R3 => onV d2 fun v2 => isI .i64 v2 fun n1 => ln R3 <| c1 [(DV.v (AV.i .i64 n1))] H1 fun d3 H2 => onV d3 fun v3 => isB v3 fun t1 => frcB (bnot t1) fun t2 => br t2 (Kb1 (DV.v (AV.i .i64 ii0)) H2) (wrp .i64 (isub n1 ii1) fun n2 => onA p1 fun b1 m1 => rng n2 nn16 <| rdK H2 b1 (Nat.add (Nat.add m1 nn2) (itn n2)) fun v4 => isI .i64 v4 fun n3 => Kb1 (DV.v (AV.i .i64 n3)) H2)
/-- (*aql.Limit).Of -/
def g132 : G DV := fun R1 H1 Kb1 => g132x1 R1 H1 c1 Kb1
def G132 : G DV := g132 G131

def g133x1 := lpR (failF [(3 , .int .i64), (10 , .int .i64)]) (fun Kc1 => fun d1 d2 H2 => onV d1 fun v1 => isI .i64 v1 fun n1 => onV d2 fun v2 => isI .i64 v2 fun n2 => frcB (ilt n2 ii16) fun t1 => br t1 (rng n2 nn16 <| lgetK (itn n2) l1 fun v3 => isI .i64 v3 fun n3 => wrp .i64 (iadd n1 n3) fun n4 => wrp .i64 (iadd n2 ii1) fun n5 => Kc1 (DV.v (AV.i .i64 n4)) (DV.v (AV.i .i64 n5)) H2) (Kb1 (DV.v (AV.i .i64 n1)) H2)) (nat_lit 100000) (DV.v (AV.i .i64 ii0)) (DV.v (AV.i .i64 ii0)) H1
/-- (*aql.Limit).All -/
def g133 : G DV := fun R1 H1 Kb1 => lc R1 fun d1 R2 => onV d1 fun v1 => isP v1 fun p1 => ln R2 <| onA p1 fun b1 m1 => rdR H1 b1 (Nat.add m1 nn2) nn16 fun l1 => g133x1 l1 H1 Kb1
def G133 : G DV := g133

def g70x1 := onV d1 fun v1 => isI .i64 v1 fun n2 => rdK H1 b1 m1 fun v2 => must (aveq (AV.i .i64 n1) v2) <| frcB (ilt n2 n1) fun t1 => br t1 (onA p1 fun b2 m2 => rdK H1 b2 (Nat.add m2 nn1) fun v3 => isI .i64 v3 fun n3 => c1 [(DV.v (AV.p p1))] H1 fun d2 H2 => onV d2 fun v4 => isI .i64 v4 fun n4 => rdK H2 b2 (Nat.add m2 nn1) fun v5 => must (aveq (AV.i .i64 n3) v5) <| frcB (ilt n4 n3) fun t2 => Kb1 (DV.v (AV.b t2)) H2) (Kb1 (DV.v (AV.b false)) H1)
def g70x2 := onV d1 fun v1 => isB v1 fun t1 => frcB (bnot t1) fun t2 => br t2 (Kb1 (DV.v (AV.b false)) H1) (c1 [(DV.v (AV.p p1)), (DV.v (AV.i .i64 n1))] H1 fun d2 H2 => onV d2 fun v2 => isI .i64 v2 fun n2 => frcB (ieq n2 ii0) fun t3 => br t3 (Kb1 (DV.v (AV.b true)) H2) (onA p1 fun b1 m1 => rdK H2 b1 m1 fun v3 => isI .i64 v3 fun n3 => c1 [(DV.v (AV.p p1)), (DV.v (AV.i .i64 n1))] H2 fun d3 H3 => g70x1 d3 n3 m1 p1 b1 H3 c2 Kb1))
/-- (*aql.Limit).May -/
def g70 : G DV := fun R1 H1 Kb1 => lc R1 fun d1 R2 => onV d1 fun v1 => isP v1 fun p1 => lc R2 fun d2 R3 => onV d2 fun v2 => isI .i64 v2 fun n1 => ln R3 <| c1 [(DV.v (AV.i .i64 n1))] H1 fun d3 H2 => g70x2 d3 n1 p1 H2 c2 c3 Kb1
def G70 : G DV := g70 G131 G132 G133

def z27 : T4 AV := (@T4.n AV yy5 (@T4.n AV yy0 (@T4.n AV yy22 te te te te) te te te) (@T4.n AV yy0 (@T4.n AV yy21 te te te te) te te te) (@T4.n AV yy5 (@T4.n AV yy21 te te te te) te te te) (@T4.n AV yy22 te te te te))
/-- ap.category -/
def g134 : G DV := fun R1 H1 Kb1 => lc R1 fun d1 R2 => onV d1 fun v1 => isI .i64 v1 fun n1 => ln R2 <| alB H1 z27 nn8 nn0 fun b1 H2 => ixA (AS.sl b1 nn0 nn8 nn8) n1 (fun x => x) fun b2 m1 => rdK H2 b2 m1 fun v2 => isI .i64 v2 fun n2 => Kb1 (DV.v (AV.i .i64 n2)) H2
def G134 : G DV := pure1 (g134)

/-- (*win.Win).Start -/
def g204 : G DV := fun R1 H1 Kb1 => lc R1 fun d1 R2 => onV d1 fun v1 => isP v1 fun p1 => ln R2 <| onA p1 fun b1 m1 => rdK H1 b1 m1 fun v2 => isI .i64 v2 fun n1 => Kb1 (DV.v (AV.i .i64 n1)) H1
def G204 : G DV := g204

def g140x1 := lc R1 fun d1 R2 => onV d1 fun v1 => isP v1 fun p1 => ln R2 <| onA p1 fun b1 m1 => rdK H1 b1 (Nat.add m1 nn7) fun v2 => isB v2 fun t1 => frcB (bnot t1) fun t2 => br t2 (Kb1 (DV.c (DV.v (AV.i .i64 ii0)) (DV.c (DV.v (AV.b false)) DV.n)) H1) (onA p1 fun b2 m2 => rdK H1 b2 m2 fun v3 => isP v3 fun p2 => c1 [(DV.v (AV.p p2))] H1 fun d2 H2 => onV d2 fun v4 => isI .i64 v4 fun n1 => Kb1 (DV.c (DV.v (AV.i .i64 n1)) (DV.c (DV.v (AV.b true)) DV.n)) H2)
/-- (*ba.Session).Bar -/
def g140 : G DV := fun R1 H1 Kb1 => g140x1 R1 H1 c1 Kb1
def G140 : G DV := g140 G204

/-- (*ba.Session).Due -/
def g142 : G DV := fun R1 H1 Kb1 => lc R1 fun d1 R2 => onV d1 fun v1 => isP v1 fun p1 => ln R2 <| c1 [(DV.v (AV.p p1)), (DV.v (AV.fn (nat_lit 207) []))] H1 fun d2 H2 => onV d2 fun v2 => isS v2 fun s1 => Kb1 (DV.v (AV.s s1)) H2
def G142 : G DV := g142 G183

def g186x1 := jn (fun d2 H2 => pickK t1 d2 (DV.v (AV.b false)) fun d3 => onV d3 fun v1 => isB v1 fun t2 => jn (fun d4 H3 => jn (fun d5 H4 => pickK t2 d5 (DV.v (AV.b false)) fun d6 => onV d6 fun v2 => isB v2 fun t3 => Kb1 (DV.v (AV.b t3)) H4) fun Kb2 => br t2 (onV d4 fun v2 => isI .i64 v2 fun n2 => frcB (ilt n2 ii8) fun t3 => Kb2 (DV.v (AV.b t3)) H3) (Kb2 DV.n H3)) fun Kb2 => br t2 (Kb2 (DV.v (AV.i .i64 n1)) H2) (Kb2 DV.n H2)) fun Kb2 => br t1 (onV d1 fun v1 => isI .i64 v1 fun n2 => frcB (ile ii0 n2) fun t2 => Kb2 (DV.v (AV.b t2)) H1) (Kb2 DV.n H1)
def g186x2 := ln R1 <| frcB (ile ii1 n1) fun t1 => jn (fun d1 H2 => jn (fun d2 H3 => pickK t1 d2 (DV.v (AV.b false)) fun d3 => onV d3 fun v1 => isB v1 fun t2 => jn (fun d4 H4 => g186x1 d4 n2 t2 H4 Kb1) fun Kb2 => br t2 (Kb2 (DV.v (AV.i .i64 n2)) H3) (Kb2 DV.n H3)) fun Kb2 => br t1 (onV d1 fun v1 => isI .i64 v1 fun n3 => frcB (ile n3 ii16) fun t2 => Kb2 (DV.v (AV.b t2)) H2) (Kb2 DV.n H2)) fun Kb2 => br t1 (Kb2 (DV.v (AV.i .i64 n1)) H1) (Kb2 DV.n H1)
/-- pool.there -/
def g186 : G DV := fun R1 H1 Kb1 => lc R1 fun d1 R2 => onV d1 fun v1 => isI .i64 v1 fun n1 => lc R2 fun d2 R3 => onV d2 fun v2 => isI .i64 v2 fun n2 => g186x2 R3 n1 n2 H1 Kb1
def G186 : G DV := g186

/-- (*fq.Queue).Len -/
def g239 : G DV := fun R1 H1 Kb1 => lc R1 fun d1 R2 => onV d1 fun v1 => isP v1 fun p1 => ln R2 <| onA p1 fun b1 m1 => rdK H1 b1 (Nat.add m1 nn133) fun v2 => isI .i64 v2 fun n1 => Kb1 (DV.v (AV.i .i64 n1)) H1
def G239 : G DV := g239

def g202x1 := jn (fun d2 H2 => jn (fun d3 H3 => jn (fun d4 H4 => pickK t1 d4 (DV.v (AV.b false)) fun d5 => onV d5 fun v1 => isB v1 fun t2 => Kb1 (DV.v (AV.b t2)) H4) fun Kb2 => br t1 (onV d3 fun v1 => isI .i64 v1 fun n1 => frcB (ilt ii0 n1) fun t2 => Kb2 (DV.v (AV.b t2)) H3) (Kb2 DV.n H3)) fun Kb2 => br t1 (c1 [d2] H2 fun d3 H3 => onV d3 fun v1 => isI .i64 v1 fun n1 => Kb2 (DV.v (AV.i .i64 n1)) H3) (Kb2 DV.n H2)) fun Kb2 => br t1 (onV d1 fun v1 => isP v1 fun p1 => onA p1 fun b1 m1 => rdK H1 b1 m1 fun v2 => isP v2 fun p2 => Kb2 (DV.v (AV.p p2)) H1) (Kb2 DV.n H1)
def g202x2 := jn (fun d4 H2 => jn (fun d5 H3 => g202x1 d5 t1 H3 c1 Kb1) fun Kb2 => br t1 (onV d1 fun v1 => isJ v1 fun n1 => onV d4 fun v2 => isP v2 fun p1 => onA p1 fun b1 m1 => rng n1 nn8 <| Kb2 (DV.v (AV.p (AP.at b1 (Nat.add m1 (itn n1))))) H2) (Kb2 DV.n H2)) fun Kb2 => br t1 (onV d2 fun v1 => isJ v1 fun n1 => onV d3 fun v2 => isP v2 fun p1 => onA p1 fun b1 m1 => rng n1 nn16 <| Kb2 (DV.v (AV.p (AP.at b1 (Nat.add m1 (Nat.mul (itn n1) nn8))))) H1) (Kb2 DV.n H1)
def g202x3 := jn (fun d3 H2 => jn (fun d4 H3 => jn (fun d5 H4 => jn (fun d6 H5 => g202x2 d4 d3 d6 t1 H5 c1 Kb1) fun Kb2 => br t1 (onV d5 fun v1 => isP v1 fun p1 => onA p1 fun b1 m1 => Kb2 (DV.v (AV.p (AP.at b1 (Nat.add m1 nn5)))) H4) (Kb2 DV.n H4)) fun Kb2 => br t1 (onV d1 fun v1 => isP v1 fun p1 => onA p1 fun b1 m1 => Kb2 (DV.v (AV.p (AP.at b1 m1))) H3) (Kb2 DV.n H3)) fun Kb2 => br t1 (Kb2 (DV.v (AV.i .i64 n1)) H2) (Kb2 DV.n H2)) fun Kb2 => br t1 (onV d2 fun v1 => isI .i64 v1 fun n2 => wrp .i64 (isub n2 ii1) fun n3 => Kb2 (DV.v (AV.i .i64 n3)) H1) (Kb2 DV.n H1)
def g202x4 := isP v1 fun p1 => lc R1 fun d1 R2 => onV d1 fun v2 => isI .i64 v2 fun n1 => lc R2 fun d2 R3 => onV d2 fun v3 => isI .i64 v3 fun n2 => ln R3 <| c1 [(DV.v (AV.i .i64 n1)), (DV.v (AV.i .i64 n2))] H1 fun d3 H2 => onV d3 fun v4 => isB v4 fun t1 => jn (fun d4 H3 => jn (fun d5 H4 => g202x3 d4 d5 n2 t1 H4 c2 Kb1) fun Kb2 => br t1 (Kb2 (DV.v (AV.i .i64 n1)) H3) (Kb2 DV.n H3)) fun Kb2 => br t1 (Kb2 (DV.v (AV.p p1)) H2) (Kb2 DV.n H2)
/-- (*pool.Pool).Has -/
def g202 : G DV := fun R1 H1 Kb1 => lc R1 fun d1 R2 => onV d1 fun v1 => g202x4 v1 R2 H1 c1 c2 Kb1
def G202 : G DV := g202 G186 G239

def g248x1 := isI .i64 v1 fun n1 => onA p1 fun b2 m2 => rdK H1 b2 m2 fun v2 => isI .i64 v2 fun n2 => onA p1 fun b3 m3 => rdK H1 b3 (Nat.add m3 nn1) fun v3 => isI .i64 v3 fun n3 => c1 [(DV.v (AV.i .i64 n2)), (DV.v (AV.i .i64 n3))] H1 fun d1 H2 => onV d1 fun v4 => isI .i64 v4 fun n4 => rdK H2 b1 (Nat.add m1 nn2) fun v5 => must (aveq (AV.i .i64 n1) v5) <| wrp .i64 (isub n1 n4) fun n5 => asI (imax n5 ii0) fun n6 => Kb1 (DV.v (AV.i .i64 n6)) H2
/-- (*win.Win).Room -/
def g248 : G DV := fun R1 H1 Kb1 => lc R1 fun d1 R2 => onV d1 fun v1 => isP v1 fun p1 => ln R2 <| onA p1 fun b1 m1 => rdK H1 b1 (Nat.add m1 nn2) fun v2 => g248x1 v2 m1 p1 b1 H1 c1 Kb1
def G248 : G DV := g248 G161

/-- (*ba.Session).Room -/
def g203 : G DV := fun R1 H1 Kb1 => lc R1 fun d1 R2 => onV d1 fun v1 => isP v1 fun p1 => ln R2 <| onA p1 fun b1 m1 => rdK H1 b1 m1 fun v2 => isP v2 fun p2 => c1 [(DV.v (AV.p p2))] H1 fun d2 H2 => onV d2 fun v3 => isI .i64 v3 fun n1 => Kb1 (DV.v (AV.i .i64 n1)) H2
def G203 : G DV := g203 G248

def g135x1 := jn (fun d3 H2 => jn (fun d4 H3 => jn (fun d5 H4 => pickK t1 d5 (DV.v (AV.b false)) fun d6 => onV d6 fun v1 => isB v1 fun t2 => Kb1 (DV.v (AV.b t2)) H4) fun Kb2 => br t1 (onV d1 fun v1 => isB v1 fun t2 => pickK t2 (DV.v (AV.b true)) d4 fun d5 => onV d5 fun v2 => isB v2 fun t3 => Kb2 (DV.v (AV.b t3)) H3) (Kb2 DV.n H3)) fun Kb2 => grd d1 false (onV d3 fun v1 => isI .i64 v1 fun n1 => frcB (ieq n1 ii1) fun t2 => Kb2 (DV.v (AV.b t2)) H2) (Kb2 DV.n H2)) fun Kb2 => grd d1 false (c1 [d2] H1 fun d3 H2 => onV d3 fun v1 => isI .i64 v1 fun n1 => Kb2 (DV.v (AV.i .i64 n1)) H2) (Kb2 DV.n H1)
def g135x2 := jn (fun d3 H2 => jn (fun d4 H3 => jn (fun d5 H4 => g135x1 d1 d5 t1 H4 c1 Kb1) fun Kb2 => grd d1 false (onV d4 fun v1 => isP v1 fun p1 => onA p1 fun b1 m1 => rdK H3 b1 m1 fun v2 => isP v2 fun p2 => Kb2 (DV.v (AV.p p2)) H3) (Kb2 DV.n H3)) fun Kb2 => grd d1 false (onV d3 fun v1 => isP v1 fun p1 => onA p1 fun b1 m1 => Kb2 (DV.v (AV.p (AP.at b1 m1))) H2) (Kb2 DV.n H2)) fun Kb2 => grd d1 false (onV d2 fun v1 => isP v1 fun p1 => onA p1 fun b1 m1 => Kb2 (DV.v (AV.p (AP.at b1 m1))) H1) (Kb2 DV.n H1)
def g135x3 := jn (fun d2 H2 => jn (fun d3 H3 => jn (fun d4 H4 => jn (fun d5 H5 => g135x2 d4 d5 t1 H5 c1 Kb1) fun Kb2 => grd d4 false (Kb2 (DV.v (AV.p (AP.at b1 (Nat.add (Nat.add m1 nn6) (Nat.mul (itn n1) nn5))))) H4) (Kb2 DV.n H4)) fun Kb2 => br t1 (Kb2 d3 H3) (Kb2 DV.n H3)) fun Kb2 => br t1 (onV d2 fun v1 => isI .i64 v1 fun n2 => frcB (ilt ii0 n2) fun t2 => Kb2 (DV.v (AV.b t2)) H2) (Kb2 DV.n H2)) fun Kb2 => br t1 (c2 [d1] H1 fun d2 H2 => onV d2 fun v1 => isI .i64 v1 fun n2 => Kb2 (DV.v (AV.i .i64 n2)) H2) (Kb2 DV.n H1)
def g135x4 := jn (fun d2 H2 => jn (fun d3 H3 => jn (fun d4 H4 => g135x3 d4 n1 m1 t1 b1 H4 c1 c2 Kb1) fun Kb2 => br t1 (onV d3 fun v1 => isP v1 fun p1 => onA p1 fun b2 m2 => rdK H3 b2 m2 fun v2 => isP v2 fun p2 => Kb2 (DV.v (AV.p p2)) H3) (Kb2 DV.n H3)) fun Kb2 => br t1 (onV d2 fun v1 => isP v1 fun p1 => onA p1 fun b2 m2 => Kb2 (DV.v (AV.p (AP.at b2 m2))) H2) (Kb2 DV.n H2)) fun Kb2 => br t1 (onV d1 fun v1 => isP v1 fun p1 => onA p1 fun b2 m2 => Kb2 (DV.v (AV.p (AP.at b2 m2))) H1) (Kb2 DV.n H1)
def g135x5 := onV d1 fun v1 => isB v1 fun t1 => br t1 (Kb1 (DV.v (AV.b true)) H1) (onA p1 fun b2 m2 => rdK H1 b2 (Nat.add m2 nn311) fun v2 => isP v2 fun p2 => c1 [(DV.v (AV.p p2)), (DV.v (AV.i .i64 n1)), (DV.v (AV.i .i64 n2))] H1 fun d2 H2 => onV d2 fun v3 => isB v3 fun t2 => jn (fun d3 H3 => g135x4 d3 n2 m1 t2 b1 H3 c2 c3 Kb1) fun Kb2 => br t2 (Kb2 (DV.v (AV.p (AP.at b1 (Nat.add (Nat.add m1 nn6) (Nat.mul (itn n2) nn5))))) H2) (Kb2 DV.n H2))
def g135x6 := jn (fun d2 H2 => jn (fun d3 H3 => jn (fun d4 H4 => pickK t1 (DV.v (AV.b true)) d4 fun d5 => g135x5 d5 n1 n2 m1 p1 b1 H4 c1 c2 c3 Kb1) fun Kb2 => br t1 (Kb2 DV.n H3) (onV d3 fun v1 => isI .i64 v1 fun n3 => frcB (ilt ii0 n3) fun t2 => Kb2 (DV.v (AV.b t2)) H3)) fun Kb2 => br t1 (Kb2 DV.n H2) (onV d2 fun v1 => isS v1 fun s1 => lenA s1 fun m2 => Kb2 (DV.v (AV.i .i64 (Int.ofNat m2))) H2)) fun Kb2 => br t1 (Kb2 DV.n H1) (c4 [d1] H1 fun d2 H2 => onV d2 fun v1 => isS v1 fun s1 => Kb2 (DV.v (AV.s s1)) H2)
def g135x7 := jn (fun d2 H2 => jn (fun d3 H3 => jn (fun d4 H4 => g135x6 d4 n1 n2 m1 t1 p1 b1 H4 c1 c2 c3 c4 Kb1) fun Kb2 => br t1 (Kb2 DV.n H3) (onV d3 fun v1 => isP v1 fun p2 => onA p2 fun b2 m2 => rdK H3 b2 m2 fun v2 => isP v2 fun p3 => Kb2 (DV.v (AV.p p3)) H3)) fun Kb2 => br t1 (Kb2 DV.n H2) (onV d2 fun v1 => isP v1 fun p2 => onA p2 fun b2 m2 => Kb2 (DV.v (AV.p (AP.at b2 m2))) H2)) fun Kb2 => br t1 (Kb2 DV.n H1) (onV d1 fun v1 => isP v1 fun p2 => onA p2 fun b2 m2 => Kb2 (DV.v (AV.p (AP.at b2 m2))) H1)
def g135x8 := rdK H1 b1 (Nat.add (Nat.add m1 nn6) (Nat.mul (itn n1) nn5)) fun v1 => isP v1 fun p2 => c1 [(DV.v (AV.p p2))] H1 fun d1 H2 => onC d1 fun d2 d3 => onV d2 fun v2 => isI .i64 v2 fun n3 => onC d3 fun d4 d5 => onV d4 fun v3 => isB v3 fun t1 => onN d5 <| jn (fun d6 H3 => g135x7 d6 n2 n1 m1 t1 p1 b1 H3 c2 c3 c4 c5 Kb1) fun Kb2 => br t1 (Kb2 DV.n H2) (Kb2 (DV.v (AV.p (AP.at b1 (Nat.add (Nat.add m1 nn6) (Nat.mul (itn n1) nn5))))) H2)
def g135x9 := onV d1 fun v1 => isI .i64 v1 fun n1 => lc R1 fun d2 R2 => onV d2 fun v2 => isI .i64 v2 fun n2 => ln R2 <| c1 [(DV.v (AV.p p1)), (DV.v (AV.i .i64 n1))] H1 fun d3 H2 => onV d3 fun v3 => isP v3 fun p2 => onA p2 fun b1 m1 => rng n2 nn8 <| rdK H2 b1 (Nat.add (Nat.add (Nat.add m1 nn6) (Nat.mul (itn n2) nn5)) nn4) fun v4 => isB v4 fun t1 => br t1 (Kb1 (DV.v (AV.b false)) H2) (g135x8 n2 n1 m1 p1 b1 H2 c2 c3 c4 c5 c6 Kb1)
/-- (*ap.AP).ready -/
def g135 : G DV := fun R1 H1 Kb1 => lc R1 fun d1 R2 => onV d1 fun v1 => isP v1 fun p1 => lc R2 fun d2 R3 => g135x9 d2 R3 p1 H1 c1 c3 c5 c2 c6 c4 Kb1
def G135 : G DV := g135 G65 G99 G140 G142 G202 G203

def g71x1 := jn (fun d3 H2 => jn (fun d4 H3 => pickK t1 d4 (DV.v (AV.b false)) fun d5 => onV d5 fun v1 => isB v1 fun t2 => br t2 (alB H3 (@T4.n AV (AV.i .i64 n1) te te te te) nn1 nn0 fun b1 H4 => appD nn1 nn8 s1 (AS.sl b1 nn0 nn1 nn1) H4 fun s2 H5 => Kb1 (DV.v (AV.s s2)) H5) (Kb1 (DV.v (AV.s s1)) H3)) fun Kb2 => br t1 (c1 [d1, d2, d3] H2 fun d4 H3 => onV d4 fun v1 => isB v1 fun t2 => Kb2 (DV.v (AV.b t2)) H3) (Kb2 DV.n H2)) fun Kb2 => br t1 (Kb2 (DV.v (AV.i .i64 n1)) H1) (Kb2 DV.n H1)
def g71x2 := jF [(7 , .slice)] (fun d1 H2 => onV d1 fun v1 => isS v1 fun s2 => wrp .i64 (iadd n1 ii1) fun n4 => Kc1 (DV.v (AV.s s2)) (DV.v (AV.i .i64 n4)) H2) fun Kb1 => c1 [(DV.v (AV.i .i64 n1))] H1 fun d1 H2 => onV d1 fun v1 => isI .i64 v1 fun n4 => frcB (ieq n4 n2) fun t1 => jn (fun d2 H3 => jn (fun d3 H4 => g71x1 d2 d3 n1 t1 s1 H4 c2 Kb1) fun Kb2 => br t1 (Kb2 (DV.v (AV.i .i64 n3)) H3) (Kb2 DV.n H3)) fun Kb2 => br t1 (Kb2 (DV.v (AV.p p1)) H2) (Kb2 DV.n H2)
def g71x3 := lc R1 fun d1 R2 => onV d1 fun v1 => isI .i64 v1 fun n1 => lc R2 fun d2 R3 => onV d2 fun v2 => isI .i64 v2 fun n2 => ln R3 <| lpR (failF [(7 , .slice), (9 , .int .i64)]) (fun Kc1 => fun d3 d4 H2 => onV d3 fun v3 => isS v3 fun s1 => onV d4 fun v4 => isI .i64 v4 fun n3 => frcB (ilt n3 ii8) fun t1 => br t1 (g71x2 n3 n2 n1 p1 s1 H2 c1 c2 Kc1) (Kb1 (DV.v (AV.s s1)) H2)) (nat_lit 100000) (DV.v (AV.s AS.nil)) (DV.v (AV.i .i64 ii0)) H1
/-- (*ap.AP).readies -/
def g71 : G DV := fun R1 H1 Kb1 => lc R1 fun d1 R2 => onV d1 fun v1 => isP v1 fun p1 => g71x3 R2 p1 H1 c1 c2 Kb1
def G71 : G DV := g71 G134 G135

/-- ps.fair -/
def g193 : G DV := fun R1 H1 Kb1 => lc R1 fun d1 R2 => onV d1 fun v1 => isI .i64 v1 fun n1 => ln R2 <| frcB (ile ii0 n1) fun t1 => jn (fun d2 H2 => jn (fun d3 H3 => pickK t1 d3 (DV.v (AV.b false)) fun d4 => onV d4 fun v2 => isB v2 fun t2 => Kb1 (DV.v (AV.b t2)) H3) fun Kb2 => br t1 (onV d2 fun v2 => isI .i64 v2 fun n2 => frcB (ilt n2 ii4) fun t2 => Kb2 (DV.v (AV.b t2)) H2) (Kb2 DV.n H2)) fun Kb2 => br t1 (Kb2 (DV.v (AV.i .i64 n1)) H1) (Kb2 DV.n H1)
def G193 : G DV := g193

def g126x1 := jn (fun d4 H2 => jn (fun d5 H3 => pickK t1 d5 (DV.v (AV.b false)) fun d6 => onV d6 fun v1 => isB v1 fun t2 => Kb1 (DV.v (AV.b t2)) H3) fun Kb2 => br t1 (onV d1 fun v1 => isB v1 fun t2 => pickK t2 (DV.v (AV.b true)) d4 fun d5 => onV d5 fun v2 => isB v2 fun t3 => Kb2 (DV.v (AV.b t3)) H2) (Kb2 DV.n H2)) fun Kb2 => grd d1 false (onV d2 fun v1 => isB v1 fun t2 => pickK t2 d3 (DV.v (AV.b false)) fun d4 => onV d4 fun v2 => isB v2 fun t3 => Kb2 (DV.v (AV.b t3)) H1) (Kb2 DV.n H1)
def g126x2 := jn (fun d5 H2 => jn (fun d6 H3 => jn (fun d7 H4 => g126x1 d1 d2 d7 t1 H4 Kb1) fun Kb2 => grd d2 true (onV d6 fun v1 => isP v1 fun p1 => onA p1 fun b1 m1 => rdK H3 b1 m1 fun v2 => isB v2 fun t2 => Kb2 (DV.v (AV.b t2)) H3) (Kb2 DV.n H3)) fun Kb2 => grd d2 true (onV d3 fun v1 => isJ v1 fun n1 => onV d5 fun v2 => isP v2 fun p1 => onA p1 fun b1 m1 => rng n1 nn4 <| Kb2 (DV.v (AV.p (AP.at b1 (Nat.add m1 (itn n1))))) H2) (Kb2 DV.n H2)) fun Kb2 => grd d2 true (onV d4 fun v1 => isP v1 fun p1 => onA p1 fun b1 m1 => Kb2 (DV.v (AV.p (AP.at b1 (Nat.add m1 nn4)))) H1) (Kb2 DV.n H1)
def g126x3 := jn (fun d3 H2 => jn (fun d4 H3 => jn (fun d5 H4 => jn (fun d6 H5 => jn (fun d7 H6 => g126x2 d1 d4 d6 d7 t1 H6 Kb1) fun Kb2 => grd d4 true (onV d5 fun v1 => isP v1 fun p2 => onA p2 fun b1 m1 => Kb2 (DV.v (AV.p (AP.at b1 m1))) H5) (Kb2 DV.n H5)) fun Kb2 => grd d4 true (Kb2 (DV.v (AV.i .i64 n1)) H4) (Kb2 DV.n H4)) fun Kb2 => grd d4 true (Kb2 (DV.v (AV.p p1)) H3) (Kb2 DV.n H3)) fun Kb2 => grd d1 false (Kb2 d3 H2) (Kb2 DV.n H2)) fun Kb2 => grd d1 false (onV d2 fun v1 => isP v1 fun p2 => onA p2 fun b1 m1 => rdK H1 b1 m1 fun v2 => isB v2 fun t2 => Kb2 (DV.v (AV.b t2)) H1) (Kb2 DV.n H1)
def g126x4 := jn (fun d2 H2 => jn (fun d3 H3 => jn (fun d4 H4 => jn (fun d5 H5 => g126x3 d2 d5 n1 t1 p1 H5 Kb1) fun Kb2 => grd d2 false (onV d4 fun v1 => isP v1 fun p2 => onA p2 fun b1 m1 => Kb2 (DV.v (AV.p (AP.at b1 (Nat.add m1 nn3)))) H4) (Kb2 DV.n H4)) fun Kb2 => grd d2 false (onV d3 fun v1 => isP v1 fun p2 => onA p2 fun b1 m1 => Kb2 (DV.v (AV.p (AP.at b1 m1))) H3) (Kb2 DV.n H3)) fun Kb2 => grd d2 false (Kb2 (DV.v (AV.p p1)) H2) (Kb2 DV.n H2)) fun Kb2 => br t1 (Kb2 d1 H1) (Kb2 DV.n H1)
def g126x5 := jn (fun d3 H2 => jn (fun d4 H3 => jn (fun d5 H4 => g126x4 d5 n1 t1 p1 H4 Kb1) fun Kb2 => br t1 (onV d1 fun v1 => isB v1 fun t2 => pickK t2 (DV.v (AV.b true)) d4 fun d5 => onV d5 fun v2 => isB v2 fun t3 => Kb2 (DV.v (AV.b t3)) H3) (Kb2 DV.n H3)) fun Kb2 => grd d1 false (onV d3 fun v1 => isP v1 fun p2 => onA p2 fun b1 m1 => rdK H2 b1 m1 fun v2 => isB v2 fun t2 => Kb2 (DV.v (AV.b t2)) H2) (Kb2 DV.n H2)) fun Kb2 => grd d1 false (onV d2 fun v1 => isP v1 fun p2 => onA p2 fun b1 m1 => Kb2 (DV.v (AV.p (AP.at b1 (Nat.add m1 nn2)))) H1) (Kb2 DV.n H1)
def g126x6 := jn (fun d2 H2 => jn (fun d3 H3 => jn (fun d4 H4 => jn (fun d5 H5 => g126x5 d3 d5 n1 t1 p1 H5 Kb1) fun Kb2 => grd d3 false (onV d4 fun v1 => isP v1 fun p2 => onA p2 fun b1 m1 => Kb2 (DV.v (AV.p (AP.at b1 m1))) H4) (Kb2 DV.n H4)) fun Kb2 => grd d3 false (Kb2 (DV.v (AV.p p1)) H3) (Kb2 DV.n H3)) fun Kb2 => br t1 (Kb2 d2 H2) (Kb2 DV.n H2)) fun Kb2 => br t1 (onV d1 fun v1 => isB v1 fun t2 => frcB (bnot t2) fun t3 => Kb2 (DV.v (AV.b t3)) H1) (Kb2 DV.n H1)
def g126x7 := jn (fun d2 H2 => jn (fun d3 H3 => jn (fun d4 H4 => g126x6 d4 n1 t1 p1 H4 Kb1) fun Kb2 => br t1 (onV d3 fun v1 => isP v1 fun p2 => onA p2 fun b1 m1 => rdK H3 b1 m1 fun v2 => isB v2 fun t2 => Kb2 (DV.v (AV.b t2)) H3) (Kb2 DV.n H3)) fun Kb2 => br t1 (onV d2 fun v1 => isP v1 fun p2 => onA p2 fun b1 m1 => Kb2 (DV.v (AV.p (AP.at b1 (Nat.add m1 nn1)))) H2) (Kb2 DV.n H2)) fun Kb2 => br t1 (onV d1 fun v1 => isP v1 fun p2 => onA p2 fun b1 m1 => Kb2 (DV.v (AV.p (AP.at b1 m1))) H1) (Kb2 DV.n H1)
def g126x8 := isP v1 fun p1 => frcB (bnot (isNilA p1)) fun t1 => jn (fun d1 H2 => jn (fun d2 H3 => pickK t1 d2 (DV.v (AV.b false)) fun d3 => onV d3 fun v2 => isB v2 fun t2 => jn (fun d4 H4 => g126x7 d4 n1 t2 p1 H4 Kb1) fun Kb2 => br t2 (Kb2 (DV.v (AV.p p1)) H3) (Kb2 DV.n H3)) fun Kb2 => br t1 (c1 [d1] H2 fun d2 H3 => onV d2 fun v2 => isB v2 fun t2 => Kb2 (DV.v (AV.b t2)) H3) (Kb2 DV.n H2)) fun Kb2 => br t1 (Kb2 (DV.v (AV.i .i64 n1)) H1) (Kb2 DV.n H1)
/-- (*ps.Power).May -/
def g126 : G DV := fun R1 H1 Kb1 => lc R1 fun d1 R2 => onV d1 fun v1 => isP v1 fun p1 => lc R2 fun d2 R3 => onV d2 fun v2 => isI .i64 v2 fun n1 => lc R3 fun d3 R4 => onV d3 fun v3 => isI .i64 v3 fun n2 => ln R4 <| c1 [(DV.v (AV.p p1)), (DV.v (AV.i .i64 n1))] H1 fun d4 H2 => onV d4 fun v4 => g126x8 v4 n2 H2 c2 Kb1
def G126 : G DV := g126 G121 G193

/-- (*sched.turns).Len -/
def g129 : G DV := fun R1 H1 Kb1 => lc R1 fun d1 R2 => onV d1 fun v1 => isP v1 fun p1 => ln R2 <| onA p1 fun b1 m1 => rdK H1 b1 m1 fun v2 => isS v2 fun s1 => lenA s1 fun m2 => Kb1 (DV.v (AV.i .i64 (Int.ofNat m2))) H1
def G129 : G DV := g129

def g325x1 := br t1 (Kb1 (DV.v (AV.b true)) H1) (onA p1 fun b1 m1 => rdK H1 b1 (Nat.add m1 nn2) fun v1 => isI .i64 v1 fun n1 => onA p2 fun b2 m2 => rdK H1 b2 (Nat.add m2 nn2) fun v2 => isI .i64 v2 fun n2 => frcB (ieq n1 n2) fun t2 => br t2 (onA p1 fun b3 m3 => rdK H1 b3 m3 fun v3 => isI .i64 v3 fun n3 => onA p2 fun b4 m4 => rdK H1 b4 m4 fun v4 => isI .i64 v4 fun n4 => frcB (ilt n3 n4) fun t3 => Kb1 (DV.v (AV.b t3)) H1) (Kb1 (DV.v (AV.b false)) H1))
def g325x2 := ixA s1 n1 (fun x => x) fun b1 m1 => rdK H1 b1 m1 fun v1 => isP v1 fun p2 => onA p1 fun b2 m2 => rdK H1 b2 m2 fun v2 => isS v2 fun s2 => ixA s2 n2 (fun x => x) fun b3 m3 => rdK H1 b3 m3 fun v3 => isP v3 fun p3 => onA p2 fun b4 m4 => rdK H1 b4 (Nat.add m4 nn2) fun v4 => isI .i64 v4 fun n3 => onA p3 fun b5 m5 => rdK H1 b5 (Nat.add m5 nn2) fun v5 => isI .i64 v5 fun n4 => frcB (ilt n3 n4) fun t1 => g325x1 t1 p2 p3 H1 Kb1
/-- (*sched.turns).Less -/
def g325 : G DV := fun R1 H1 Kb1 => lc R1 fun d1 R2 => onV d1 fun v1 => isP v1 fun p1 => lc R2 fun d2 R3 => onV d2 fun v2 => isI .i64 v2 fun n1 => lc R3 fun d3 R4 => onV d3 fun v3 => isI .i64 v3 fun n2 => ln R4 <| onA p1 fun b1 m1 => rdK H1 b1 m1 fun v4 => isS v4 fun s1 => g325x2 n1 n2 p1 s1 H1 Kb1
def G325 : G DV := g325

def g328x1 := rdK H1 b1 m1 fun v1 => isS v1 fun s1 => ixA s1 n1 (fun x => x) fun b2 m2 => rdK H1 b2 m2 fun v2 => isP v2 fun p2 => onA p1 fun b3 m3 => rdK H1 b3 m3 fun v3 => isS v3 fun s2 => ixA s2 n2 (fun x => x) fun b4 m4 => rdK H1 b4 m4 fun v4 => isP v4 fun p3 => onA p2 fun b5 m5 => wrK H1 b5 (Nat.add m5 nn4) (AV.i .i64 n1) fun H2 => onA p3 fun b6 m6 => wrK H2 b6 (Nat.add m6 nn4) (AV.i .i64 n2) fun H3 => Kb1 DV.n H3
def g328x2 := ixA s1 n1 (fun x => x) fun b1 m1 => rdK H1 b1 m1 fun v1 => isP v1 fun p2 => onA p1 fun b2 m2 => rdK H1 b2 m2 fun v2 => isS v2 fun s4 => ixA s4 n2 (fun x => x) fun b3 m3 => rdK H1 b3 m3 fun v3 => isP v3 fun p3 => ixA s2 n2 (fun x => x) fun b4 m4 => wrK H1 b4 m4 (AV.p p2) fun H2 => ixA s3 n1 (fun x => x) fun b5 m5 => wrK H2 b5 m5 (AV.p p3) fun H3 => onA p1 fun b6 m6 => g328x1 n2 n1 m6 p1 b6 H3 Kb1
/-- (*sched.turns).Swap -/
def g328 : G DV := fun R1 H1 Kb1 => lc R1 fun d1 R2 => onV d1 fun v1 => isP v1 fun p1 => lc R2 fun d2 R3 => onV d2 fun v2 => isI .i64 v2 fun n1 => lc R3 fun d3 R4 => onV d3 fun v3 => isI .i64 v3 fun n2 => ln R4 <| onA p1 fun b1 m1 => rdK H1 b1 m1 fun v4 => isS v4 fun s1 => onA p1 fun b2 m2 => rdK H1 b2 m2 fun v5 => isS v5 fun s2 => onA p1 fun b3 m3 => rdK H1 b3 m3 fun v6 => isS v6 fun s3 => g328x2 n2 n1 p1 s3 s1 s2 H1 Kb1
def G328 : G DV := g328

def g200x1 := jn (fun d5 H2 => jn (fun d6 H3 => pickK t1 (DV.v (AV.b true)) d6 fun d7 => onV d7 fun v1 => isB v1 fun t2 => br t2 (Kb1 DV.n H3) (onV d1 fun v2 => isM v2 fun m1 v3 => br (Nat.beq (nat_lit 174) m1) (c1 [(DV.v v3), (DV.v (AV.i .i64 n1)), (DV.v (AV.i .i64 n2))] H3 fun d8 H4 => Kb2 (DV.v (AV.i .i64 n1)) H4) (none))) fun Kb3 => br t1 (Kb3 DV.n H2) (onV d5 fun v1 => isB v1 fun t2 => frcB (bnot t2) fun t3 => Kb3 (DV.v (AV.b t3)) H2)) fun Kb3 => br t1 (Kb3 DV.n H1) (onV d2 fun v1 => isM v1 fun m1 v2 => br (Nat.beq (nat_lit 174) m1) (c2 [(DV.v v2), d3, d4] H1 fun d5 H2 => onV d5 fun v3 => isB v3 fun t2 => Kb3 (DV.v (AV.b t2)) H2) (none))
def g200x2 := isI .i64 v1 fun n1 => wrp .i64 (isub n1 ii1) fun n2 => must (bnot (ieq ii2 ii0)) <| wrp .i64 (iquo n2 ii2) fun n3 => frcB (ieq n3 n1) fun t1 => jn (fun d2 H2 => jn (fun d3 H3 => jn (fun d4 H4 => g200x1 d1 d2 d3 d4 n3 n1 t1 H4 c1 c2 Kb1 Kb2) fun Kb3 => br t1 (Kb3 DV.n H3) (Kb3 (DV.v (AV.i .i64 n3)) H3)) fun Kb3 => br t1 (Kb3 DV.n H2) (Kb3 (DV.v (AV.i .i64 n1)) H2)) fun Kb3 => br t1 (Kb3 DV.n H1) (Kb3 d1 H1)
/-- container/heap.up -/
def g200 : G DV := fun R1 H1 Kb1 => lc R1 fun d1 R2 => lc R2 fun d2 R3 => onV d2 fun v1 => isI .i64 v1 fun n1 => ln R3 <| lpR (failF [(1 , .int .i64)]) (fun Kb2 => fun d3 H2 => onV d3 fun v2 => g200x2 v2 d1 H2 c2 c1 Kb1 Kb2) (nat_lit 100000) (DV.v (AV.i .i64 n1)) H1
def G200 : G DV := g200 G325 G328

def g327x1 := onA p1 fun b1 m1 => rdK H1 b1 m1 fun v1 => isS v1 fun s1 => lenA s1 fun m2 => onA p2 fun b2 m3 => wrK H1 b2 (Nat.add m3 nn4) (AV.i .i64 (Int.ofNat m2)) fun H2 => onA p1 fun b3 m4 => rdK H2 b3 m4 fun v2 => isS v2 fun s2 => alB H2 (@T4.n AV (AV.p p2) te te te te) nn1 nn0 fun b4 H3 => appD nn1 nn8 s2 (AS.sl b4 nn0 nn1 nn1) H3 fun s3 H4 => onA p1 fun b5 m5 => wrK H4 b5 m5 (AV.s s3) fun H5 => Kb1 DV.n H5
/-- (*sched.turns).Push -/
def g327 : G DV := fun R1 H1 Kb1 => lc R1 fun d1 R2 => onV d1 fun v1 => isP v1 fun p1 => lc R2 fun d2 R3 => ln R3 <| onV d2 fun v2 => asT (nat_lit 178) (AV.p AP.nil) v2 fun v3 t1 => isP v3 fun p2 => frcB (bnot t1) fun t2 => br t2 (Kb1 DV.n H1) (g327x1 p1 p2 H1 Kb1)
def G327 : G DV := g327

/-- container/heap.Push -/
def g128 : G DV := fun R1 H1 Kb1 => lc R1 fun d1 R2 => lc R2 fun d2 R3 => ln R3 <| onV d1 fun v1 => isM v1 fun m1 v2 => br (Nat.beq (nat_lit 174) m1) (c3 [(DV.v v2), d2] H1 fun d3 H2 => onV d1 fun v3 => isM v3 fun m2 v4 => br (Nat.beq (nat_lit 174) m2) (c1 [(DV.v v4)] H2 fun d4 H3 => onV d4 fun v5 => isI .i64 v5 fun n1 => wrp .i64 (isub n1 ii1) fun n2 => c2 [d1, (DV.v (AV.i .i64 n2))] H3 fun d5 H4 => Kb1 DV.n H4) (none)) (none)
def G128 : G DV := g128 G129 G200 G327

def g201x1 := isI .i64 v1 fun n2 => onV d1 fun v2 => isM v2 fun m1 v3 => br (Nat.beq (nat_lit 174) m1) (c1 [(DV.v v3), (DV.v (AV.i .i64 n2)), (DV.v (AV.i .i64 n1))] H1 fun d2 H2 => onV d2 fun v4 => isB v4 fun t1 => frcB (bnot t1) fun t2 => br t2 (Kb1 (DV.v (AV.i .i64 n1)) H2) (onV d1 fun v5 => isM v5 fun m2 v6 => br (Nat.beq (nat_lit 174) m2) (c2 [(DV.v v6), (DV.v (AV.i .i64 n1)), (DV.v (AV.i .i64 n2))] H2 fun d3 H3 => Kb2 (DV.v (AV.i .i64 n2)) H3) (none))) (none)
def g201x2 := jn (fun d3 H2 => jn (fun d4 H3 => pickK t1 d4 (DV.v (AV.b false)) fun d5 => onV d5 fun v1 => isB v1 fun t2 => br t2 (Kb1 (DV.v (AV.i .i64 n1)) H3) (Kb1 (DV.v (AV.i .i64 n2)) H3)) fun Kb2 => br t1 (onV d1 fun v1 => isM v1 fun m1 v2 => br (Nat.beq (nat_lit 174) m1) (c1 [(DV.v v2), d2, d3] H2 fun d4 H3 => onV d4 fun v3 => isB v3 fun t2 => Kb2 (DV.v (AV.b t2)) H3) (none)) (Kb2 DV.n H2)) fun Kb2 => br t1 (Kb2 (DV.v (AV.i .i64 n2)) H1) (Kb2 DV.n H1)
def g201x3 := onV d1 fun v1 => isB v1 fun t1 => br t1 (Kb1 (DV.v (AV.i .i64 n1)) H1) (jF [(9 , .int .i64)] (fun d3 H2 => onV d3 fun v2 => g201x1 v2 d2 n1 H2 c1 c2 Kb1 Kb2) fun Kb3 => wrp .i64 (iadd n2 ii1) fun n4 => frcB (ilt n4 n3) fun t2 => jn (fun d3 H2 => jn (fun d4 H3 => g201x2 d3 d4 n4 n2 t2 H3 c1 Kb3) fun Kb4 => br t2 (Kb4 (DV.v (AV.i .i64 n4)) H2) (Kb4 DV.n H2)) fun Kb4 => br t2 (Kb4 d2 H1) (Kb4 DV.n H1))
def g201x4 := onV d1 fun v1 => isI .i64 v1 fun n2 => wrp .i64 (imul ii2 n2) fun n3 => wrp .i64 (iadd n3 ii1) fun n4 => frcB (ile n1 n4) fun t1 => jn (fun d3 H2 => jn (fun d4 H3 => pickK t1 (DV.v (AV.b true)) d4 fun d5 => g201x3 d5 d2 n2 n4 n1 H3 c1 c2 Kb1 Kb2) fun Kb3 => br t1 (Kb3 DV.n H2) (onV d3 fun v2 => isI .i64 v2 fun n5 => frcB (ilt n5 ii0) fun t2 => Kb3 (DV.v (AV.b t2)) H2)) fun Kb3 => br t1 (Kb3 DV.n H1) (Kb3 (DV.v (AV.i .i64 n4)) H1)
/-- container/heap.down -/
def g201 : G DV := fun R1 H1 Kb1 => lc R1 fun d1 R2 => lc R2 fun d2 R3 => onV d2 fun v1 => isI .i64 v1 fun n1 => lc R3 fun d3 R4 => onV d3 fun v2 => isI .i64 v2 fun n2 => ln R4 <| jF [(7 , .int .i64)] (fun d4 H2 => onV d4 fun v3 => isI .i64 v3 fun n3 => frcB (ilt n1 n3) fun t1 => Kb1 (DV.v (AV.b t1)) H2) fun Kb2 => lpR (failF [(7 , .int .i64)]) (fun Kb3 => fun d4 H2 => g201x4 d4 d1 n2 H2 c1 c2 Kb2 Kb3) (nat_lit 100000) (DV.v (AV.i .i64 n1)) H1
def G201 : G DV := g201 G325 G328

def g326x1 := wrp .i64 (isub (Int.ofNat m1) ii1) fun n1 => ixA s1 n1 (fun x => x) fun b1 m2 => rdK H1 b1 m2 fun v1 => isP v1 fun p2 => onA p1 fun b2 m3 => rdK H1 b2 m3 fun v2 => isS v2 fun s2 => onA p1 fun b3 m4 => rdK H1 b3 m4 fun v3 => isS v3 fun s3 => lenA s3 fun m5 => wrp .i64 (isub (Int.ofNat m5) ii1) fun n2 => natK n2 fun m6 => slA s2 nn0 m6 (fun x => x) fun s4 => onA p1 fun b4 m7 => wrK H1 b4 m7 (AV.s s4) fun H2 => Kb1 (DV.v (AV.ifc (nat_lit 178) (AV.p p2))) H2
/-- (*sched.turns).Pop -/
def g326 : G DV := fun R1 H1 Kb1 => lc R1 fun d1 R2 => onV d1 fun v1 => isP v1 fun p1 => ln R2 <| onA p1 fun b1 m1 => rdK H1 b1 m1 fun v2 => isS v2 fun s1 => onA p1 fun b2 m2 => rdK H1 b2 m2 fun v3 => isS v3 fun s2 => lenA s2 fun m3 => g326x1 m3 p1 s1 H1 Kb1
def G326 : G DV := g326

def g130x1 := jF [] (fun H2 => onV d1 fun v1 => isM v1 fun m1 v2 => br (Nat.beq (nat_lit 174) m1) (c1 [(DV.v v2)] H2 fun d2 H3 => onV d2 fun v3 => Kb1 (DV.v v3) H3) (none)) fun Ka1 => frcB (bnot (ieq n1 n2)) fun t1 => br t1 (onV d1 fun v1 => isM v1 fun m1 v2 => br (Nat.beq (nat_lit 174) m1) (c2 [(DV.v v2), (DV.v (AV.i .i64 n2)), (DV.v (AV.i .i64 n1))] H1 fun d2 H2 => c3 [d1, (DV.v (AV.i .i64 n2)), (DV.v (AV.i .i64 n1))] H2 fun d3 H3 => onV d3 fun v3 => isB v3 fun t2 => frcB (bnot t2) fun t3 => br t3 (c4 [d1, (DV.v (AV.i .i64 n2))] H3 fun d4 H4 => Ka1 H4) (Ka1 H3)) (none)) (Ka1 H1)
/-- container/heap.Remove -/
def g130 : G DV := fun R1 H1 Kb1 => lc R1 fun d1 R2 => lc R2 fun d2 R3 => onV d2 fun v1 => isI .i64 v1 fun n1 => ln R3 <| onV d1 fun v2 => isM v2 fun m1 v3 => br (Nat.beq (nat_lit 174) m1) (c1 [(DV.v v3)] H1 fun d3 H2 => onV d3 fun v4 => isI .i64 v4 fun n2 => wrp .i64 (isub n2 ii1) fun n3 => g130x1 d1 n3 n1 H2 c4 c5 c3 c2 Kb1) (none)
def G130 : G DV := g130 G129 G200 G201 G326 G328

def g127x1 := isI .i64 v1 fun n1 => onA p1 fun b1 m1 => rdK H1 b1 (Nat.add m1 nn16) fun v2 => isP v2 fun p3 => onA p3 fun b2 m2 => rdK H1 b2 m2 fun v3 => isS v3 fun s1 => ixA s1 ii0 (fun x => x) fun b3 m3 => rdK H1 b3 m3 fun v4 => isP v4 fun p4 => onA p4 fun b4 m4 => rdK H1 b4 (Nat.add m4 nn2) fun v5 => isI .i64 v5 fun n2 => asI (imax n1 n2) fun n3 => onA p2 fun b5 m5 => wrK H1 b5 (Nat.add m5 nn2) (AV.i .i64 n3) fun H2 => Ka1 H2
def g127x2 := jF [] (fun H2 => onA p1 fun b1 m1 => wrK H2 b1 (Nat.add m1 nn3) (AV.b true) fun H3 => onA p2 fun b2 m2 => rdK H3 b2 (Nat.add m2 nn16) fun v1 => isP v1 fun p3 => c1 [(DV.v (AV.ifc (nat_lit 174) (AV.p p3))), (DV.v (AV.ifc (nat_lit 178) (AV.p p1)))] H3 fun d1 H4 => Ka1 H4) fun Ka2 => onA p2 fun b1 m1 => rdK H1 b1 (Nat.add m1 nn16) fun v1 => isP v1 fun p3 => c2 [(DV.v (AV.p p3))] H1 fun d1 H2 => onV d1 fun v2 => isI .i64 v2 fun n1 => frcB (ilt ii0 n1) fun t1 => br t1 (onA p1 fun b2 m2 => rdK H2 b2 (Nat.add m2 nn2) fun v3 => g127x1 v3 p2 p1 H2 Ka2) (Ka2 H2)
def g127x3 := jn (fun d2 H2 => pickK t1 d2 (DV.v (AV.b false)) fun d3 => onV d3 fun v1 => isB v1 fun t2 => br t2 (onA p1 fun b1 m1 => wrK H2 b1 (Nat.add m1 nn3) (AV.b false) fun H3 => onA p2 fun b2 m2 => rdK H3 b2 (Nat.add m2 nn16) fun v2 => isP v2 fun p3 => onA p1 fun b3 m3 => rdK H3 b3 (Nat.add m3 nn4) fun v3 => isI .i64 v3 fun n1 => c1 [(DV.v (AV.ifc (nat_lit 174) (AV.p p3))), (DV.v (AV.i .i64 n1))] H3 fun d4 H4 => onV d4 fun v4 => Ka1 H4) (Ka1 H2)) fun Kb1 => br t1 (onV d1 fun v1 => isP v1 fun p3 => onA p3 fun b1 m1 => rdK H1 b1 m1 fun v2 => isB v2 fun t2 => Kb1 (DV.v (AV.b t2)) H1) (Kb1 DV.n H1)
def g127x4 := br t1 (g127x2 p1 p2 H1 c1 c2 Ka1) (frcB (bnot t2) fun t3 => jn (fun d1 H2 => jn (fun d2 H3 => jn (fun d3 H4 => g127x3 d3 t3 p1 p2 H4 c3 Ka1) fun Kb1 => br t3 (onV d2 fun v1 => isP v1 fun p3 => onA p3 fun b1 m1 => Kb1 (DV.v (AV.p (AP.at b1 (Nat.add m1 nn3)))) H3) (Kb1 DV.n H3)) fun Kb1 => br t3 (onV d1 fun v1 => isP v1 fun p3 => onA p3 fun b1 m1 => Kb1 (DV.v (AV.p (AP.at b1 m1))) H2) (Kb1 DV.n H2)) fun Kb1 => br t3 (Kb1 (DV.v (AV.p p1)) H1) (Kb1 DV.n H1))
def g127x5 := jn (fun d2 H2 => jn (fun d3 H3 => jn (fun d4 H4 => pickK t1 d4 (DV.v (AV.b false)) fun d5 => onV d5 fun v1 => isB v1 fun t2 => g127x4 t2 t1 p1 p2 H4 c1 c2 c3 Ka1) fun Kb1 => br t1 (onV d3 fun v1 => isB v1 fun t2 => frcB (bnot t2) fun t3 => Kb1 (DV.v (AV.b t3)) H3) (Kb1 DV.n H3)) fun Kb1 => br t1 (onV d2 fun v1 => isP v1 fun p3 => onA p3 fun b1 m1 => rdK H2 b1 m1 fun v2 => isB v2 fun t2 => Kb1 (DV.v (AV.b t2)) H2) (Kb1 DV.n H2)) fun Kb1 => br t1 (onV d1 fun v1 => isP v1 fun p3 => onA p3 fun b1 m1 => Kb1 (DV.v (AV.p (AP.at b1 (Nat.add m1 nn3)))) H1) (Kb1 DV.n H1)
def g127x6 := c1 [(DV.v (AV.p p1)), (DV.v (AV.i .i64 n1))] H1 fun d1 H2 => onV d1 fun v1 => isP v1 fun p2 => jF [] (fun H3 => Kb1 (DV.v AV.ni) H3) fun Ka1 => frcB (isNilA p2) fun t2 => br t2 (Kb1 (DV.v (AV.er (nat_lit 6))) H2) (jn (fun d2 H3 => jn (fun d3 H4 => g127x5 d3 t1 p2 p1 H4 c2 c3 c4 Ka1) fun Kb2 => br t1 (onV d2 fun v2 => isP v2 fun p3 => onA p3 fun b1 m1 => Kb2 (DV.v (AV.p (AP.at b1 m1))) H3) (Kb2 DV.n H3)) fun Kb2 => br t1 (Kb2 (DV.v (AV.p p2)) H2) (Kb2 DV.n H2))
/-- (*sched.Sched).Active -/
def g127 : G DV := fun R1 H1 Kb1 => lc R1 fun d1 R2 => onV d1 fun v1 => isP v1 fun p1 => lc R2 fun d2 R3 => onV d2 fun v2 => isI .i64 v2 fun n1 => lc R3 fun d3 R4 => onV d3 fun v3 => isB v3 fun t1 => ln R4 <| g127x6 n1 t1 p1 H1 c1 c2 c3 c4 Kb1
def G127 : G DV := g127 G120 G128 G129 G130

def g68x1 := jn (fun d2 H2 => jn (fun d3 H3 => jn (fun d4 H4 => pickK t1 (DV.v (AV.b true)) d4 fun d5 => onV d5 fun v1 => isB v1 fun t2 => rng n1 nn4 <| wrK H4 b1 (Nat.add nn0 (itn n1)) (AV.b t2) fun H5 => Kb1 (DV.v (AV.s s1)) H5) fun Kb2 => br t1 (Kb2 DV.n H3) (c1 [d2, d3] H3 fun d4 H4 => onV d4 fun v1 => isB v1 fun t2 => Kb2 (DV.v (AV.b t2)) H4)) fun Kb2 => br t1 (Kb2 DV.n H2) (Kb2 (DV.v (AV.i .i64 n2)) H2)) fun Kb2 => br t1 (Kb2 DV.n H1) (onV d1 fun v1 => isP v1 fun p1 => onA p1 fun b2 m1 => rdK H1 b2 m1 fun v2 => isP v2 fun p2 => Kb2 (DV.v (AV.p p2)) H1)
def g68x2 := isB v1 fun t1 => jn (fun d1 H2 => jn (fun d2 H3 => jn (fun d3 H4 => g68x1 d3 n1 n2 t1 b1 s1 H4 c1 Kb1) fun Kb2 => br t1 (Kb2 DV.n H3) (onV d2 fun v2 => isP v2 fun p2 => onA p2 fun b2 m1 => Kb2 (DV.v (AV.p (AP.at b2 (Nat.add m1 nn312)))) H3)) fun Kb2 => br t1 (Kb2 DV.n H2) (onV d1 fun v2 => isP v2 fun p2 => onA p2 fun b2 m1 => Kb2 (DV.v (AV.p (AP.at b2 m1))) H2)) fun Kb2 => br t1 (Kb2 DV.n H1) (Kb2 (DV.v (AV.p p1)) H1)
def g68x3 := pickK t1 d1 (DV.v (AV.b false)) fun d2 => onV d2 fun v1 => isB v1 fun t2 => br t2 (alB H1 (@T4.n AV (AV.i .i64 n1) te te te te) nn1 nn0 fun b2 H2 => appD nn1 nn8 s1 (AS.sl b2 nn0 nn1 nn1) H2 fun s2 H3 => rng n2 nn4 <| rdK H3 b1 (Nat.add nn0 (itn n2)) fun v2 => g68x2 v2 n2 n1 p1 b1 s2 H3 c1 Kb1) (c2 [(DV.v (AV.p p2)), (DV.v (AV.i .i64 n1)), (DV.v (AV.b false))] H1 fun d3 H2 => onV d3 fun v2 => Kb1 (DV.v (AV.s s1)) H2)
def g68x4 := jn (fun d4 H2 => jn (fun d5 H3 => jn (fun d6 H4 => g68x3 d6 n1 n2 t1 p1 p2 b1 s1 H4 c1 c2 Kb1) fun Kb2 => br t1 (onV d5 fun v1 => isI .i64 v1 fun n3 => frcB (ilt ii0 n3) fun t2 => Kb2 (DV.v (AV.b t2)) H3) (Kb2 DV.n H3)) fun Kb2 => br t1 (onV d4 fun v1 => isS v1 fun s2 => lenA s2 fun m1 => Kb2 (DV.v (AV.i .i64 (Int.ofNat m1))) H2) (Kb2 DV.n H2)) fun Kb2 => br t1 (c3 [d1, d2, d3] H1 fun d4 H2 => onV d4 fun v1 => isS v1 fun s2 => Kb2 (DV.v (AV.s s2)) H2) (Kb2 DV.n H1)
def g68x5 := c1 [(DV.v (AV.p (AP.at b1 (Nat.add m1 nn150)))), (DV.v (AV.i .i64 n1)), (DV.v (AV.i .i64 n2))] H1 fun d1 H2 => onV d1 fun v1 => isB v1 fun t1 => jn (fun d2 H3 => jn (fun d3 H4 => jn (fun d4 H5 => g68x4 d2 d3 d4 n1 n2 t1 p1 p2 b2 s1 H5 c2 c3 c4 Kb1) fun Kb2 => br t1 (Kb2 (DV.v (AV.i .i64 n2)) H4) (Kb2 DV.n H4)) fun Kb2 => br t1 (Kb2 (DV.v (AV.i .i64 n1)) H3) (Kb2 DV.n H3)) fun Kb2 => br t1 (Kb2 (DV.v (AV.p p1)) H2) (Kb2 DV.n H2)
def g68x6 := lpR (failF [(65 , .int .i64)]) (fun Kb2 => fun d1 H2 => onV d1 fun v1 => isI .i64 v1 fun n2 => frcB (ilt n2 (Int.ofNat m1)) fun t1 => br t1 (ixA s1 n2 (fun x => x) fun b1 m2 => rdK H2 b1 m2 fun v2 => isI .i64 v2 fun n3 => c1 [(DV.v (AV.p p1)), (DV.v (AV.i .i64 n3)), (DV.v (AV.b true))] H2 fun d2 H3 => onV d2 fun v3 => wrp .i64 (iadd n2 ii1) fun n4 => Kb2 (DV.v (AV.i .i64 n4)) H3) (wrp .i64 (iadd n1 ii1) fun n3 => Kb1 (DV.v (AV.i .i64 n3)) H2)) (nat_lit 100000) (DV.v (AV.i .i64 ii0)) H1
def g68x7 := frcB (ilt n1 (Int.ofNat m1)) fun t1 => br t1 (jF [(6 , .slice)] (fun d1 H2 => onV d1 fun v1 => isS v1 fun s3 => wrp .i64 (iadd n1 ii1) fun n3 => Kc1 (DV.v (AV.s s3)) (DV.v (AV.i .i64 n3)) H2) fun Kb2 => ixA s1 n1 (fun x => x) fun b2 m2 => rdK H1 b2 m2 fun v1 => isI .i64 v1 fun n3 => onA p1 fun b3 m3 => g68x5 n3 n2 m3 p1 p2 b3 b1 s2 H1 c1 c2 c3 c4 Kb2) (lenA s2 fun m2 => g68x6 n2 m2 p2 s2 H1 c3 Kb1)
def g68x8 := isP v1 fun p2 => onA p1 fun b2 m1 => c1 [(DV.v (AV.p (AP.at b2 (Nat.add m1 nn22))))] H1 fun d1 H2 => onV d1 fun v2 => isS v2 fun s1 => lenA s1 fun m2 => lpR (failF [(6 , .slice), (24 , .int .i64)]) (fun Kc1 => fun d2 d3 H3 => onV d2 fun v3 => isS v3 fun s2 => onV d3 fun v4 => isI .i64 v4 fun n2 => g68x7 n2 n1 m2 p1 p2 b1 s1 s2 H3 c2 c3 c4 c5 Kb1 Kc1) (nat_lit 100000) (DV.v (AV.s AS.nil)) (DV.v (AV.i .i64 ii0)) H2
def g68x9 := rdR H1 b1 (Nat.add m1 nn313) nn4 fun l1 => lpR (failF [(15 , .int .i64)]) (fun Kb2 => fun d1 H2 => onV d1 fun v1 => isI .i64 v1 fun n1 => frcB (ilt n1 ii4) fun t1 => br t1 (rng n1 nn4 <| lgetK (itn n1) l1 fun v2 => g68x8 v2 n1 p1 b2 H2 c1 c2 c3 c4 c5 Kb2) (rdR H2 b2 nn0 nn4 fun l2 => must (Nat.beq (llen l2) nn4) <| wrL H2 b3 nn0 l2 fun H3 => rdR H3 b3 nn0 nn4 fun l3 => Kb1 (DV.a l3) H3)) (nat_lit 100000) (DV.v (AV.i .i64 ii0)) H1
/-- (*ap.AP).actives -/
def g68 : G DV := fun R1 H1 Kb1 => lc R1 fun d1 R2 => onV d1 fun v1 => isP v1 fun p1 => ln R2 <| alB H1 z9 nn4 nn0 fun b1 H2 => alB H2 z9 nn4 nn0 fun b2 H3 => onA p1 fun b3 m1 => g68x9 m1 p1 b3 b2 b1 H3 c1 c4 c2 c5 c3 Kb1
def G68 : G DV := g68 G64 G70 G71 G126 G127

def z28 : T4 AV := (@T4.n AV yy0 (@T4.n AV yy0 te te te te) (@T4.n AV yy0 te te te te) (@T4.n AV yy2 te te te te) (@T4.n AV yy0 te te te te))
def g69x1 := isS v1 fun s2 => ixA s2 ii0 (fun x => x) fun b2 m1 => rdK H1 b2 m1 fun v2 => isP v2 fun p1 => onA p1 fun b3 m2 => rdK H1 b3 m2 fun v3 => isI .i64 v3 fun n1 => alB H1 (@T4.n AV (AV.i .i64 n1) te te te te) nn1 nn0 fun b4 H2 => appD nn1 nn8 s1 (AS.sl b4 nn0 nn1 nn1) H2 fun s3 H3 => c1 [(DV.v (AV.ifc (nat_lit 174) (AV.p (AP.at b1 nn0)))), (DV.v (AV.i .i64 ii0))] H3 fun d1 H4 => onV d1 fun v4 => Kb1 (DV.v (AV.s s3)) H4
def g69x2 := br t1 (ixA s1 n1 (fun x => x) fun b2 m1 => rdK H1 b2 m1 fun v1 => isP v1 fun p1 => onA p1 fun b3 m2 => rdR H1 b3 m2 nn5 fun l1 => alB H1 z28 nn5 nn0 fun b4 H2 => must (Nat.beq (llen l1) nn5) <| wrL H2 b4 nn0 l1 fun H3 => c1 [(DV.v (AV.ifc (nat_lit 174) (AV.p (AP.at b1 nn0)))), (DV.v (AV.ifc (nat_lit 178) (AV.p (AP.at b4 nn0))))] H3 fun d1 H4 => wrp .i64 (iadd n1 ii1) fun n2 => Kb1 (DV.v (AV.i .i64 n2)) H4) (lpR (failF [(7 , .slice)]) (fun Kb3 => fun d1 H2 => onV d1 fun v1 => isS v1 fun s2 => c2 [(DV.v (AV.p (AP.at b1 nn0)))] H2 fun d2 H3 => onV d2 fun v2 => isI .i64 v2 fun n2 => frcB (ilt ii0 n2) fun t2 => br t2 (rdK H3 b1 nn0 fun v3 => g69x1 v3 b1 s2 H3 c3 Kb3) (Kb2 (DV.v (AV.s s2)) H3)) (nat_lit 100000) (DV.v (AV.s AS.nil)) H1)
def g69x3 := alB H1 (@T4.n AV yy3 te te te te) nn1 nn0 fun b1 H2 => onA p1 fun b2 m1 => rdK H2 b2 (Nat.add m1 nn16) fun v1 => isP v1 fun p2 => onA p2 fun b3 m2 => rdK H2 b3 m2 fun v2 => isS v2 fun s1 => lenA s1 fun m3 => lpR (failF [(18 , .int .i64)]) (fun Kb2 => fun d1 H3 => onV d1 fun v3 => isI .i64 v3 fun n1 => frcB (ilt n1 (Int.ofNat m3)) fun t1 => g69x2 n1 t1 b1 s1 H3 c1 c2 c3 Kb2 Kb1) (nat_lit 100000) (DV.v (AV.i .i64 ii0)) H2
/-- (*sched.Sched).Order -/
def g69 : G DV := fun R1 H1 Kb1 => lc R1 fun d1 R2 => onV d1 fun v1 => isP v1 fun p1 => ln R2 <| g69x3 p1 H1 c1 c2 c3 Kb1
def G69 : G DV := g69 G128 G129 G130

def g188x1 := jn (fun d2 H2 => jn (fun d3 H3 => pickK t1 (DV.v (AV.b true)) d3 fun d4 => onV d4 fun v1 => isB v1 fun t2 => br t2 (Kb1 (DV.v (AV.p AP.nil)) H3) (wrp .i64 (isub n1 ii1) fun n2 => onA p1 fun b1 m1 => rng n2 nn16 <| Kb1 (DV.v (AV.p (AP.at b1 (Nat.add m1 (Nat.mul (itn n2) nn8))))) H3)) fun Kb2 => br t1 (Kb2 DV.n H2) (onV d2 fun v1 => isB v1 fun t2 => frcB (bnot t2) fun t3 => Kb2 (DV.v (AV.b t3)) H2)) fun Kb2 => br t1 (Kb2 DV.n H1) (onV d1 fun v1 => isP v1 fun p2 => onA p2 fun b1 m1 => rdK H1 b1 m1 fun v2 => isB v2 fun t2 => Kb2 (DV.v (AV.b t2)) H1)
def g188x2 := jn (fun d3 H2 => jn (fun d4 H3 => jn (fun d5 H4 => g188x1 d5 n1 t1 p1 H4 Kb1) fun Kb2 => br t1 (Kb2 DV.n H3) (onV d4 fun v1 => isP v1 fun p2 => onA p2 fun b1 m1 => Kb2 (DV.v (AV.p (AP.at b1 m1))) H3)) fun Kb2 => br t1 (Kb2 DV.n H2) (onV d1 fun v1 => isJ v1 fun n2 => onV d3 fun v2 => isP v2 fun p2 => onA p2 fun b1 m1 => rng n2 nn16 <| Kb2 (DV.v (AV.p (AP.at b1 (Nat.add m1 (Nat.mul (itn n2) nn8))))) H2)) fun Kb2 => br t1 (Kb2 DV.n H1) (onV d2 fun v1 => isP v1 fun p2 => onA p2 fun b1 m1 => Kb2 (DV.v (AV.p (AP.at b1 m1))) H1)
def g188x3 := jn (fun d1 H2 => jn (fun d2 H3 => jn (fun d3 H4 => jn (fun d4 H5 => g188x2 d3 d4 n1 t1 p1 H5 Kb1) fun Kb2 => br t1 (Kb2 DV.n H4) (onV d1 fun v1 => isP v1 fun p2 => onA p2 fun b1 m1 => Kb2 (DV.v (AV.p (AP.at b1 m1))) H4)) fun Kb2 => br t1 (Kb2 DV.n H3) (onV d2 fun v1 => isI .i64 v1 fun n2 => wrp .i64 (isub n2 ii1) fun n3 => Kb2 (DV.v (AV.i .i64 n3)) H3)) fun Kb2 => br t1 (Kb2 DV.n H2) (Kb2 (DV.v (AV.i .i64 n1)) H2)) fun Kb2 => br t1 (Kb2 DV.n H1) (Kb2 (DV.v (AV.p p1)) H1)
def g188x4 := isP v1 fun p1 => lc R1 fun d1 R2 => onV d1 fun v2 => isI .i64 v2 fun n1 => ln R2 <| frcB (ilt n1 ii1) fun t1 => jn (fun d2 H2 => jn (fun d3 H3 => pickK t1 (DV.v (AV.b true)) d3 fun d4 => onV d4 fun v3 => isB v3 fun t2 => g188x3 n1 t2 p1 H3 Kb1) fun Kb2 => br t1 (Kb2 DV.n H2) (onV d2 fun v3 => isI .i64 v3 fun n2 => frcB (ilt ii16 n2) fun t2 => Kb2 (DV.v (AV.b t2)) H2)) fun Kb2 => br t1 (Kb2 DV.n H1) (Kb2 (DV.v (AV.i .i64 n1)) H1)
/-- (*sta.Table).of -/
def g188 : G DV := fun R1 H1 Kb1 => lc R1 fun d1 R2 => onV d1 fun v1 => g188x4 v1 R2 H1 Kb1
def G188 : G DV := g188

def g136x1 := c1 [(DV.v (AV.p p1)), (DV.v (AV.i .i64 n1))] H1 fun d1 H2 => onV d1 fun v1 => isP v1 fun p2 => frcB (isNilA p2) fun t1 => br t1 (wrL H2 b1 nn0 z0 fun H3 => rdR H3 b1 nn0 nn6 fun l1 => Kb1 (DV.c (DV.a l1) (DV.c (DV.v (AV.b false)) DV.n)) H3) (onA p2 fun b2 m1 => rdR H2 b2 (Nat.add m1 nn1) nn6 fun l1 => must (Nat.beq (llen l1) nn6) <| wrL H2 b1 nn0 l1 fun H3 => rdR H3 b1 nn0 nn6 fun l2 => Kb1 (DV.c (DV.a l2) (DV.c (DV.v (AV.b true)) DV.n)) H3)
/-- (*sta.Table).Addr -/
def g136 : G DV := fun R1 H1 Kb1 => lc R1 fun d1 R2 => onV d1 fun v1 => isP v1 fun p1 => lc R2 fun d2 R3 => onV d2 fun v2 => isI .i64 v2 fun n1 => ln R3 <| alB H1 z2 nn6 nn0 fun b1 H2 => g136x1 n1 p1 b1 H2 c1 Kb1
def G136 : G DV := g136 G188

def z29 : T4 AV := (@T4.n AV yy0 (@T4.n AV yy0 te te te te) (@T4.n AV yy0 te te te te) (@T4.n AV yy0 te te te te) (@T4.n AV yy0 te te te te))
/-- ap.slow -/
def g137 : G DV := fun R1 H1 Kb1 => ln R1 <| alB H1 z29 nn5 nn0 fun b1 H2 => wrL H2 b1 nn0 z11 fun H3 => rdR H3 b1 nn0 nn5 fun l1 => Kb1 (DV.a l1) H3
def G137 : G DV := g137

/-- (*ba.Session).Start -/
def g138 : G DV := fun R1 H1 Kb1 => lc R1 fun d1 R2 => onV d1 fun v1 => isP v1 fun p1 => ln R2 <| onA p1 fun b1 m1 => rdK H1 b1 m1 fun v2 => isP v2 fun p2 => c1 [(DV.v (AV.p p2))] H1 fun d2 H2 => onV d2 fun v3 => isI .i64 v3 fun n1 => Kb1 (DV.v (AV.i .i64 n1)) H2
def G138 : G DV := g138 G204

/-- (*win.Win).Size -/
def g205 : G DV := fun R1 H1 Kb1 => lc R1 fun d1 R2 => onV d1 fun v1 => isP v1 fun p1 => ln R2 <| onA p1 fun b1 m1 => rdK H1 b1 (Nat.add m1 nn2) fun v2 => isI .i64 v2 fun n1 => Kb1 (DV.v (AV.i .i64 n1)) H1
def G205 : G DV := g205

/-- (*ba.Session).Size -/
def g139 : G DV := fun R1 H1 Kb1 => lc R1 fun d1 R2 => onV d1 fun v1 => isP v1 fun p1 => ln R2 <| onA p1 fun b1 m1 => rdK H1 b1 m1 fun v2 => isP v2 fun p2 => c1 [(DV.v (AV.p p2))] H1 fun d2 H2 => onV d2 fun v3 => isI .i64 v3 fun n1 => Kb1 (DV.v (AV.i .i64 n1)) H2
def G139 : G DV := g139 G205

/-- ctl.two -/
def g112 : G DV := fun R1 H1 Kb1 => lc R1 fun d1 R2 => onV d1 fun v1 => isI .i64 v1 fun n1 => ln R2 <| wrp .u8 n1 fun n2 => asI (idiv n1 (ip2 ii8)) fun n3 => wrp .u8 n3 fun n4 => alB H1 (@T4.n AV (AV.i .u8 n2) (@T4.n AV (AV.i .u8 n4) te te te te) te te te) nn2 nn0 fun b1 H2 => Kb1 (DV.v (AV.s (AS.sl b1 nn0 nn2 nn2))) H2
def G112 : G DV := g112

def g206x1 := appD nn1 nn1 s1 (AS.sl b1 nn0 nn6 nn6) H1 fun s2 H2 => wrp .i64 (imul n1 ii4096) fun n3 => wrp .i64 (iadd ii4 n3) fun n4 => c1 [(DV.v (AV.i .i64 n4))] H2 fun d1 H3 => onV d1 fun v1 => isS v1 fun s3 => appD nn1 nn1 s2 s3 H3 fun s4 H4 => wrp .i64 (imul n2 ii16) fun n5 => c1 [(DV.v (AV.i .i64 n5))] H4 fun d2 H5 => onV d2 fun v2 => isS v2 fun s5 => appD nn1 nn1 s4 s5 H5 fun s6 H6 => Kb1 (DV.c (DV.v (AV.s s6)) (DV.c (DV.v AV.ni) DV.n)) H6
def g206x2 := pickK t1 (DV.v (AV.b true)) d1 fun d2 => onV d2 fun v1 => isB v1 fun t2 => br t2 (Kb1 (DV.c (DV.v (AV.s AS.nil)) (DV.c (DV.v (AV.er (nat_lit 2))) DV.n)) H1) (alB H1 (@T4.n AV (AV.i .u8 n1) (@T4.n AV yy6 te te te te) (@T4.n AV yy6 te te te te) (@T4.n AV yy6 te te te te) te) nn4 nn0 fun b3 H2 => appD nn1 nn1 (AS.sl b3 nn0 nn4 nn4) (AS.sl b1 nn0 nn6 nn6) H2 fun s1 H3 => g206x1 n2 n3 b2 s1 H3 c1 Kb1)
def g206x3 := jn (fun d2 H2 => pickK t1 (DV.v (AV.b true)) d2 fun d3 => onV d3 fun v1 => isB v1 fun t2 => jn (fun d4 H3 => jn (fun d5 H4 => g206x2 d5 n1 n2 n3 t2 b1 b2 H4 c1 Kb1) fun Kb2 => br t2 (Kb2 DV.n H3) (onV d4 fun v2 => isI .i64 v2 fun n4 => frcB (ile ii4096 n4) fun t3 => Kb2 (DV.v (AV.b t3)) H3)) fun Kb2 => br t2 (Kb2 DV.n H2) (Kb2 (DV.v (AV.i .i64 n3)) H2)) fun Kb2 => br t1 (Kb2 DV.n H1) (onV d1 fun v1 => isI .i64 v1 fun n4 => frcB (ilt n4 ii0) fun t2 => Kb2 (DV.v (AV.b t2)) H1)
def g206x4 := frcB (ilt n1 ii0) fun t1 => jn (fun d1 H2 => jn (fun d2 H3 => pickK t1 (DV.v (AV.b true)) d2 fun d3 => onV d3 fun v1 => isB v1 fun t2 => jn (fun d4 H4 => g206x3 d4 n2 n1 n3 t2 b1 b2 H4 c1 Kb1) fun Kb2 => br t2 (Kb2 DV.n H3) (Kb2 (DV.v (AV.i .i64 n3)) H3)) fun Kb2 => br t1 (Kb2 DV.n H2) (onV d1 fun v1 => isI .i64 v1 fun n4 => frcB (ile ii8 n4) fun t2 => Kb2 (DV.v (AV.b t2)) H2)) fun Kb2 => br t1 (Kb2 DV.n H1) (Kb2 (DV.v (AV.i .i64 n1)) H1)
/-- ctl.asks -/
def g206 : G DV := fun R1 H1 Kb1 => lc R1 fun d1 R2 => onV d1 fun v1 => isI .u8 v1 fun n1 => lc R2 fun d2 R3 => lc R3 fun d3 R4 => lc R4 fun d4 R5 => onV d4 fun v2 => isI .i64 v2 fun n2 => lc R5 fun d5 R6 => onV d5 fun v3 => isI .i64 v3 fun n3 => ln R6 <| cellsD d2 fun l1 => alK H1 l1 fun b1 H2 => cellsD d3 fun l2 => alK H2 l2 fun b2 H3 => g206x4 n2 n1 n3 b1 b2 H3 c1 Kb1
def G206 : G DV := g206 G112

def g141x1 := alK H1 l1 fun b1 H2 => rdR H2 b1 nn0 nn6 fun l2 => rdR H2 b1 nn6 nn6 fun l3 => rdK H2 b1 nn12 fun v1 => isI .i64 v1 fun n1 => rdK H2 b1 nn13 fun v2 => isI .i64 v2 fun n2 => c1 [(DV.v (AV.i .u8 ii132)), (DV.a l2), (DV.a l3), (DV.v (AV.i .i64 n1)), (DV.v (AV.i .i64 n2))] H2 fun d1 H3 => onC d1 fun d2 d3 => onV d2 fun v3 => isS v3 fun s1 => onC d3 fun d4 d5 => onV d4 fun v4 => onN d5 <| Kb1 (DV.c (DV.v (AV.s s1)) (DV.c (DV.v v4) DV.n)) H3
/-- ctl.BarBytes -/
def g141 : G DV := fun R1 H1 Kb1 => lc R1 fun d1 R2 => ln R2 <| cellsD d1 fun l1 => g141x1 l1 H1 c1 Kb1
def G141 : G DV := g141 G206

/-- (*win.Win).Ahead -/
def g208 : G DV := fun R1 H1 Kb1 => lc R1 fun d1 R2 => onV d1 fun v1 => isP v1 fun p1 => ln R2 <| onA p1 fun b1 m1 => rdK H1 b1 (Nat.add m1 nn1) fun v2 => isI .i64 v2 fun n1 => Kb1 (DV.v (AV.i .i64 n1)) H1
def G208 : G DV := g208

def g143x1 := br t1 (Kb1 (DV.c (DV.v (AV.i .i64 ii0)) (DV.c (DV.v (AV.er (nat_lit 9))) DV.n)) H1) (onA p1 fun b1 m1 => wrK H1 b1 (Nat.add m1 nn4) (AV.i .i64 ii2) fun H2 => onA p1 fun b2 m2 => wrK H2 b2 (Nat.add m2 nn5) (AV.i .i64 n1) fun H3 => onA p1 fun b3 m3 => rdK H3 b3 m3 fun v1 => isP v1 fun p2 => c1 [(DV.v (AV.p p2))] H3 fun d1 H4 => onV d1 fun v2 => isI .i64 v2 fun n2 => Kb1 (DV.c (DV.v (AV.i .i64 n2)) (DV.c (DV.v AV.ni) DV.n)) H4)
def g143x2 := jn (fun d2 H2 => jn (fun d3 H3 => jn (fun d4 H4 => pickK t1 (DV.v (AV.b true)) d4 fun d5 => onV d5 fun v1 => isB v1 fun t2 => g143x1 n1 t2 p1 H4 c1 Kb1) fun Kb2 => br t1 (Kb2 DV.n H3) (onV d3 fun v1 => isI .i64 v1 fun n2 => frcB (ilt ii0 n2) fun t2 => Kb2 (DV.v (AV.b t2)) H3)) fun Kb2 => br t1 (Kb2 DV.n H2) (onV d2 fun v1 => isS v1 fun s1 => lenA s1 fun m1 => Kb2 (DV.v (AV.i .i64 (Int.ofNat m1))) H2)) fun Kb2 => br t1 (Kb2 DV.n H1) (onV d1 fun v1 => isP v1 fun p2 => onA p2 fun b1 m1 => rdK H1 b1 m1 fun v2 => isS v2 fun s1 => Kb2 (DV.v (AV.s s1)) H1)
def g143x3 := frcB (bnot (ieq n1 ii1)) fun t1 => jn (fun d1 H2 => jn (fun d2 H3 => jn (fun d3 H4 => g143x2 d3 n2 t1 p1 H4 c1 Kb1) fun Kb2 => br t1 (Kb2 DV.n H3) (onV d2 fun v1 => isP v1 fun p2 => onA p2 fun b1 m1 => Kb2 (DV.v (AV.p (AP.at b1 (Nat.add m1 nn6)))) H3)) fun Kb2 => br t1 (Kb2 DV.n H2) (onV d1 fun v1 => isP v1 fun p2 => onA p2 fun b1 m1 => Kb2 (DV.v (AV.p (AP.at b1 m1))) H2)) fun Kb2 => br t1 (Kb2 DV.n H1) (Kb2 (DV.v (AV.p p1)) H1)
def g143x4 := jn (fun d1 H2 => jn (fun d2 H3 => pickK t1 (DV.v (AV.b true)) d2 fun d3 => onV d3 fun v1 => isB v1 fun t2 => br t2 (Kb1 (DV.c (DV.v (AV.i .i64 ii0)) (DV.c (DV.v (AV.er (nat_lit 2))) DV.n)) H3) (onA p1 fun b1 m1 => rdK H3 b1 (Nat.add m1 nn4) fun v2 => isI .i64 v2 fun n2 => g143x3 n2 n1 p1 H3 c1 Kb1)) fun Kb2 => br t1 (Kb2 DV.n H2) (onV d1 fun v1 => isI .i64 v1 fun n2 => frcB (ile ii256 n2) fun t2 => Kb2 (DV.v (AV.b t2)) H2)) fun Kb2 => br t1 (Kb2 DV.n H1) (Kb2 (DV.v (AV.i .i64 n1)) H1)
/-- (*ba.Session).Ask -/
def g143 : G DV := fun R1 H1 Kb1 => lc R1 fun d1 R2 => onV d1 fun v1 => isP v1 fun p1 => lc R2 fun d2 R3 => onV d2 fun v2 => isI .i64 v2 fun n1 => ln R3 <| frcB (ilt n1 ii0) fun t1 => g143x4 n1 t1 p1 H1 c1 Kb1
def G143 : G DV := g143 G208

/-- ampdu.up -/
def g153 : G DV := fun R1 H1 Kb1 => lc R1 fun d1 R2 => onV d1 fun v1 => isI .i64 v1 fun n1 => ln R2 <| wrp .i64 (iadd n1 ii4) fun n2 => wrp .i64 (isub n2 ii1) fun n3 => must (bnot (ieq ii4 ii0)) <| wrp .i64 (iquo n3 ii4) fun n4 => wrp .i64 (imul n4 ii4) fun n5 => Kb1 (DV.v (AV.i .i64 n5)) H1
def G153 : G DV := g153

def g156x1 := isI .i64 v1 fun n2 => frcB (ilt n2 (Int.ofNat m1)) fun t1 => br t1 (ixA s1 n2 (fun x => x) fun b1 m2 => rdK H1 b1 m2 fun v2 => isI .i64 v2 fun n3 => c1 [(DV.v (AV.i .i64 n1))] H1 fun d1 H2 => onV d1 fun v3 => isI .i64 v3 fun n4 => wrp .i64 (iadd n4 ii4) fun n5 => asI (imax n3 ii0) fun n6 => wrp .i64 (iadd n5 n6) fun n7 => wrp .i64 (iadd n2 ii1) fun n8 => Kc1 (DV.v (AV.i .i64 n7)) (DV.v (AV.i .i64 n8)) H2) (Kb1 (DV.v (AV.i .i64 n1)) H1)
/-- ampdu.Len -/
def g156 : G DV := fun R1 H1 Kb1 => lc R1 fun d1 R2 => onV d1 fun v1 => isS v1 fun s1 => ln R2 <| lenA s1 fun m1 => lpR (failF [(3 , .int .i64), (8 , .int .i64)]) (fun Kc1 => fun d2 d3 H2 => onV d2 fun v2 => isI .i64 v2 fun n1 => onV d3 fun v3 => g156x1 v3 n1 m1 s1 H2 c1 Kb1 Kc1) (nat_lit 100000) (DV.v (AV.i .i64 ii0)) (DV.v (AV.i .i64 ii0)) H1
def G156 : G DV := g156 G153

def ss0 : List Int := [ii0, ii128, ii64, ii192, ii32, ii160, ii96, ii224, ii16, ii144, ii80, ii208, ii48, ii176, ii112, ii240, ii8, ii136, ii72, ii200, ii40, ii168, ii104, ii232, ii24, ii152, ii88, ii216, ii56, ii184, ii120, ii248, ii4, ii132, ii68, ii196, ii36, ii164, ii100, ii228, ii20, ii148, ii84, ii212, ii52, ii180, ii116, ii244, ii12, ii140, ii76, ii204, ii44, ii172, ii108, ii236, ii28, ii156, ii92, ii220, ii60, ii188, ii124, ii252, ii2, ii130, ii66, ii194, ii34, ii162, ii98, ii226, ii18, ii146, ii82, ii210, ii50, ii178, ii114, ii242, ii10, ii138, ii74, ii202, ii42, ii170, ii106, ii234, ii26, ii154, ii90, ii218, ii58, ii186, ii122, ii250, ii6, ii134, ii70, ii198, ii38, ii166, ii102, ii230, ii22, ii150, ii86, ii214, ii54, ii182, ii118, ii246, ii14, ii142, ii78, ii206, ii46, ii174, ii110, ii238, ii30, ii158, ii94, ii222, ii62, ii190, ii126, ii254, ii1, ii129, ii65, ii193, ii33, ii161, ii97, ii225, ii17, ii145, ii81, ii209, ii49, ii177, ii113, ii241, ii9, ii137, ii73, ii201, ii41, ii169, ii105, ii233, ii25, ii153, ii89, ii217, ii57, ii185, ii121, ii249, ii5, ii133, ii69, ii197, ii37, ii165, ii101, ii229, ii21, ii149, ii85, ii213, ii53, ii181, ii117, ii245, ii13, ii141, ii77, ii205, ii45, ii173, ii109, ii237, ii29, ii157, ii93, ii221, ii61, ii189, ii125, ii253, ii3, ii131, ii67, ii195, ii35, ii163, ii99, ii227, ii19, ii147, ii83, ii211, ii51, ii179, ii115, ii243, ii11, ii139, ii75, ii203, ii43, ii171, ii107, ii235, ii27, ii155, ii91, ii219, ii59, ii187, ii123, ii251, ii7, ii135, ii71, ii199, ii39, ii167, ii103, ii231, ii23, ii151, ii87, ii215, ii55, ii183, ii119, ii247, ii15, ii143, ii79, ii207, ii47, ii175, ii111, ii239, ii31, ii159, ii95, ii223, ii63, ii191, ii127, ii255]
/-- math/bits.Reverse8 -/
def g258 : G DV := fun R1 H1 Kb1 => lc R1 fun d1 R2 => onV d1 fun v1 => isI .u8 v1 fun n1 => ln R2 <| rng n1 (leni ss0) <| getI (itn n1) ss0 fun n2 => asI n2 fun n3 => Kb1 (DV.v (AV.i .u8 n3)) H1
def G258 : G DV := g258

def g221x1 := asI (bits .xor .u8 n1 n2) fun n6 => wrp .u8 (imul n3 (ip2 ii1)) fun n7 => jF [(3 , .int .u8)] (fun d1 H2 => onV d1 fun v1 => isI .u8 v1 fun n8 => asI (idiv n4 (ip2 ii1)) fun n9 => wrp .i64 (iadd n5 ii1) fun n10 => Kd1 (DV.v (AV.i .u8 n8)) (DV.v (AV.i .u8 n9)) (DV.v (AV.i .i64 n10)) H2) fun Kb1 => frcB (ieq n6 ii1) fun t1 => br t1 (asI (bits .xor .u8 n7 ii7) fun n8 => Kb1 (DV.v (AV.i .u8 n8)) H1) (Kb1 (DV.v (AV.i .u8 n7)) H1)
def g221x2 := lpR (failF [(3 , .int .u8), (5 , .int .u8), (13 , .int .i64)]) (fun Kd1 => fun d1 d2 d3 H2 => onV d1 fun v1 => isI .u8 v1 fun n4 => onV d2 fun v2 => isI .u8 v2 fun n5 => onV d3 fun v3 => isI .i64 v3 fun n6 => frcB (ilt n6 ii8) fun t1 => br t1 (asI (idiv n4 (ip2 ii7)) fun n7 => asI (bits .and .u8 n5 ii1) fun n8 => g221x1 n7 n8 n4 n5 n6 H2 Kd1) (wrp .i64 (iadd n1 ii1) fun n7 => Kc1 (DV.v (AV.i .u8 n4)) (DV.v (AV.i .i64 n7)) H2)) (nat_lit 100000) (DV.v (AV.i .u8 n2)) (DV.v (AV.i .u8 n3)) (DV.v (AV.i .i64 ii0)) H1
def g221x3 := lpR (failF [(3 , .int .u8), (9 , .int .i64)]) (fun Kc1 => fun d1 d2 H2 => onV d1 fun v1 => isI .u8 v1 fun n1 => onV d2 fun v2 => isI .i64 v2 fun n2 => frcB (ilt n2 (Int.ofNat m1)) fun t1 => br t1 (ixA s1 n2 (fun x => x) fun b1 m2 => rdK H2 b1 m2 fun v3 => isI .u8 v3 fun n3 => g221x2 n2 n1 n3 H2 Kc1) (asI (bits .xor .u8 (if IntKind.signed .u8 then -1 else IntKind.max .u8) n1) fun n3 => c1 [(DV.v (AV.i .u8 n3))] H2 fun d3 H3 => onV d3 fun v3 => isI .u8 v3 fun n4 => Kb1 (DV.v (AV.i .u8 n4)) H3)) (nat_lit 100000) (DV.v (AV.i .u8 ii255)) (DV.v (AV.i .i64 ii0)) H1
/-- crc.Sum -/
def g221 : G DV := fun R1 H1 Kb1 => lc R1 fun d1 R2 => onV d1 fun v1 => isS v1 fun s1 => ln R2 <| lenA s1 fun m1 => g221x3 m1 s1 H1 c1 Kb1
def G221 : G DV := g221 G258

/-- crc.Seal -/
def g157 : G DV := fun R1 H1 Kb1 => lc R1 fun d1 R2 => onV d1 fun v1 => isS v1 fun s1 => ln R2 <| c1 [(DV.v (AV.s s1))] H1 fun d2 H2 => onV d2 fun v2 => isS v2 fun s2 => c2 [(DV.v (AV.s s1))] H2 fun d3 H3 => onV d3 fun v3 => isI .u8 v3 fun n1 => alB H3 (@T4.n AV (AV.i .u8 n1) te te te te) nn1 nn0 fun b1 H4 => appD nn1 nn1 s2 (AS.sl b1 nn0 nn1 nn1) H4 fun s3 H5 => Kb1 (DV.v (AV.s s3)) H5
def G157 : G DV := g157 G25 G221

def g75x1 := jn (fun d2 H2 => pickK t1 (DV.v (AV.b true)) d2 fun d3 => onV d3 fun v1 => isB v1 fun t2 => br t2 (Kb1 (DV.c (DV.v (AV.s AS.nil)) (DV.c (DV.v (AV.er (nat_lit 2))) DV.n)) H2) (lenA s1 fun m1 => alB H2 (@T4.n AV (AV.i .i64 (Int.ofNat m1)) te te te te) nn1 nn0 fun b1 H3 => appD nn1 nn8 s2 (AS.sl b1 nn0 nn1 nn1) H3 fun s3 H4 => wrp .i64 (iadd n1 ii1) fun n2 => Kc1 (DV.v (AV.s s3)) (DV.v (AV.i .i64 n2)) H4)) fun Kb2 => br t1 (Kb2 DV.n H1) (onV d1 fun v1 => isI .i64 v1 fun n2 => frcB (ilt ii4095 n2) fun t2 => Kb2 (DV.v (AV.b t2)) H1)
def g75x2 := alB H1 (@T4.n AV (AV.i .u8 n1) (@T4.n AV (AV.i .u8 n2) te te te te) te te te) nn2 nn0 fun b1 H2 => c1 [(DV.v (AV.s (AS.sl b1 nn0 nn2 nn2)))] H2 fun d1 H3 => onV d1 fun v1 => isS v1 fun s3 => appD nn1 nn1 s1 s3 H3 fun s4 H4 => alB H4 (@T4.n AV yy25 te te te te) nn1 nn0 fun b2 H5 => appD nn1 nn1 s4 (AS.sl b2 nn0 nn1 nn1) H5 fun s5 H6 => appD nn1 nn1 s5 s2 H6 fun s6 H7 => wrp .i64 (iadd n3 ii1) fun n4 => Kc1 (DV.v (AV.s s6)) (DV.v (AV.i .i64 n4)) H7
def g75x3 := isS v1 fun s2 => lenA s1 fun m1 => c1 [(DV.v (AV.i .i64 (Int.ofNat m1)))] H1 fun d1 H2 => onV d1 fun v2 => isI .i64 v2 fun n2 => lenA s1 fun m2 => wrp .i64 (isub n2 (Int.ofNat m2)) fun n3 => natK n3 fun m3 => appM (nat_lit 1) (nat_lit 1) [(AV.i .u8 ii0)] s1 m3 H2 fun s3 H3 => lenA s2 fun m4 => wrp .i64 (imul (Int.ofNat m4) ii16) fun n4 => wrp .u8 n4 fun n5 => asI (idiv n4 (ip2 ii8)) fun n6 => wrp .u8 n6 fun n7 => g75x2 n5 n7 n1 s3 s2 H3 c2 Kc1
def g75x4 := br t1 (Kb1 (DV.c (DV.v (AV.s AS.nil)) (DV.c (DV.v (AV.er (nat_lit 3))) DV.n)) H1) (lenA s1 fun m1 => lpR (failF [(7 , .slice), (49 , .int .i64)]) (fun Kc1 => fun d1 d2 H2 => onV d1 fun v1 => isS v1 fun s2 => onV d2 fun v2 => isI .i64 v2 fun n1 => frcB (ilt n1 (Int.ofNat m1)) fun t2 => br t2 (ixA s1 n1 (fun x => x) fun b1 m2 => rdK H2 b1 m2 fun v3 => g75x3 v3 n1 s2 H2 c1 c2 Kc1) (Kb1 (DV.c (DV.v (AV.s s2)) (DV.c (DV.v AV.ni) DV.n)) H2)) (nat_lit 100000) (DV.v (AV.s AS.nil)) (DV.v (AV.i .i64 ii0)) H1)
def g75x5 := jn (fun d1 H2 => jn (fun d2 H3 => jn (fun d3 H4 => pickK t1 (DV.v (AV.b true)) d3 fun d4 => onV d4 fun v1 => isB v1 fun t2 => g75x4 t2 s1 H4 c1 c2 Kb1) fun Kb2 => br t1 (Kb2 DV.n H3) (onV d2 fun v1 => isI .i64 v1 fun n1 => frcB (ilt ii65535 n1) fun t2 => Kb2 (DV.v (AV.b t2)) H3)) fun Kb2 => br t1 (Kb2 DV.n H2) (c3 [d1] H2 fun d2 H3 => onV d2 fun v1 => isI .i64 v1 fun n1 => Kb2 (DV.v (AV.i .i64 n1)) H3)) fun Kb2 => br t1 (Kb2 DV.n H1) (Kb2 (DV.v (AV.s s2)) H1)
def g75x6 := br t1 (ixA s1 n1 (fun x => x) fun b1 m1 => rdK H1 b1 m1 fun v1 => isS v1 fun s3 => lenA s3 fun m2 => frcB (ilt (Int.ofNat m2) ii1) fun t2 => jn (fun d1 H2 => jn (fun d2 H3 => g75x1 d2 n1 t2 s3 s2 H3 Kb1 Kc1) fun Kb2 => br t2 (Kb2 DV.n H2) (onV d1 fun v2 => isS v2 fun s4 => lenA s4 fun m3 => Kb2 (DV.v (AV.i .i64 (Int.ofNat m3))) H2)) fun Kb2 => br t2 (Kb2 DV.n H1) (Kb2 (DV.v (AV.s s3)) H1)) (lenA s1 fun m1 => frcB (ieq (Int.ofNat m1) ii0) fun t2 => br t2 (Kb1 (DV.c (DV.v (AV.s AS.nil)) (DV.c (DV.v (AV.er (nat_lit 2))) DV.n)) H1) (lenA s1 fun m2 => frcB (ilt ii64 (Int.ofNat m2)) fun t3 => g75x5 t3 s1 s2 H1 c1 c2 c3 Kb1))
/-- ampdu.Pack -/
def g75 : G DV := fun R1 H1 Kb1 => lc R1 fun d1 R2 => onV d1 fun v1 => isS v1 fun s1 => ln R2 <| lenA s1 fun m1 => lpR (failF [(4 , .slice), (13 , .int .i64)]) (fun Kc1 => fun d2 d3 H2 => onV d2 fun v2 => isS v2 fun s2 => onV d3 fun v3 => isI .i64 v3 fun n1 => frcB (ilt n1 (Int.ofNat m1)) fun t1 => g75x6 n1 t1 s1 s2 H2 c1 c3 c2 Kb1 Kc1) (nat_lit 100000) (DV.v (AV.s AS.nil)) (DV.v (AV.i .i64 ii0)) H1
def G75 : G DV := g75 G153 G156 G157

def g147x1 := jn (fun d2 H2 => pickK t1 (DV.v (AV.b true)) d2 fun d3 => onV d3 fun v1 => isB v1 fun t2 => br t2 (onA p1 fun b1 m1 => wrK H2 b1 (Nat.add m1 nn3) (AV.b false) fun H3 => onA p1 fun b2 m2 => wrK H3 b2 (Nat.add m2 nn9) (AV.i .i64 ii0) fun H4 => Kb1 (DV.c (DV.v (AV.b true)) (DV.c (DV.v AV.ni) DV.n)) H4) (Kb1 (DV.c (DV.v (AV.b false)) (DV.c (DV.v AV.ni) DV.n)) H2)) fun Kb2 => br t1 (Kb2 DV.n H1) (onV d1 fun v1 => isB v1 fun t2 => frcB (bnot t2) fun t3 => Kb2 (DV.v (AV.b t3)) H1)
def g147x2 := rdK H1 b1 (Nat.add m1 nn8) fun v1 => isI .i64 v1 fun n1 => frcB (ilt ii0 n1) fun t1 => br t1 (onA p1 fun b2 m2 => rdK H1 b2 (Nat.add m2 nn9) fun v2 => isI .i64 v2 fun n2 => wrp .i64 (isub n2 ii1) fun n3 => onA p1 fun b3 m3 => wrK H1 b3 (Nat.add m3 nn9) (AV.i .i64 n3) fun H2 => onA p1 fun b4 m4 => rdK H2 b4 (Nat.add m4 nn9) fun v3 => isI .i64 v3 fun n4 => frcB (ieq n4 ii0) fun t2 => Kb1 (DV.v (AV.b t2)) H2) (Kb1 (DV.v (AV.b false)) H1)
def g147x3 := onA p1 fun b1 m1 => rdK H1 b1 (Nat.add m1 nn2) fun v1 => isB v1 fun t2 => br t2 (onA p1 fun b2 m2 => wrK H1 b2 (Nat.add m2 nn2) (AV.b false) fun H2 => Kb1 (DV.c (DV.v (AV.b false)) (DV.c (DV.v AV.ni) DV.n)) H2) (jF [(11 , .bool)] (fun d1 H2 => onV d1 fun v2 => isB v2 fun t3 => jn (fun d2 H3 => g147x1 d2 t3 p1 H3 Kb1) fun Kb2 => br t3 (Kb2 DV.n H2) (Kb2 (DV.v (AV.b t1)) H2)) fun Kb2 => onA p1 fun b2 m2 => g147x2 m2 p1 b2 H1 Kb2)
def g147x4 := br t1 (Kb1 (DV.c (DV.v (AV.b false)) (DV.c (DV.v (AV.er (nat_lit 2))) DV.n)) H1) (c1 [(DV.v (AV.p p1)), (DV.v (AV.i .i64 n1)), (DV.v (AV.i .i64 n2))] H1 fun d1 H2 => onV d1 fun v1 => isB v1 fun t3 => frcB (bnot t3) fun t4 => br t4 (Kb1 (DV.c (DV.v (AV.b false)) (DV.c (DV.v (AV.er (nat_lit 9))) DV.n)) H2) (onA p2 fun b1 m1 => rdK H2 b1 (Nat.add m1 nn1) fun v2 => isB v2 fun t5 => frcB (bnot t5) fun t6 => br t6 (Kb1 (DV.c (DV.v (AV.b false)) (DV.c (DV.v AV.ni) DV.n)) H2) (g147x3 t2 p2 H2 Kb1)))
def g147x5 := isI .i64 v1 fun n2 => lc R1 fun d1 R2 => onV d1 fun v2 => isB v2 fun t1 => ln R2 <| c1 [(DV.v (AV.p p1)), (DV.v (AV.i .i64 n1))] H1 fun d2 H2 => onV d2 fun v3 => isP v3 fun p2 => frcB (isNilA p2) fun t2 => br t2 (Kb1 (DV.c (DV.v (AV.b false)) (DV.c (DV.v (AV.er (nat_lit 6))) DV.n)) H2) (c2 [(DV.v (AV.i .i64 n2))] H2 fun d3 H3 => onV d3 fun v4 => isB v4 fun t3 => frcB (bnot t3) fun t4 => g147x4 n1 n2 t4 t1 p1 p2 H3 c3 Kb1)
/-- (*ps.Power).Sent -/
def g147 : G DV := fun R1 H1 Kb1 => lc R1 fun d1 R2 => onV d1 fun v1 => isP v1 fun p1 => lc R2 fun d2 R3 => onV d2 fun v2 => isI .i64 v2 fun n1 => lc R3 fun d3 R4 => onV d3 fun v3 => g147x5 v3 R4 n1 p1 H1 c1 c3 c2 Kb1
def G147 : G DV := g147 G121 G126 G193

def g148x1 := jn (fun d2 H2 => jn (fun d3 H3 => jn (fun d4 H4 => pickK t1 (DV.v (AV.b true)) d4 fun d5 => onV d5 fun v1 => isB v1 fun t2 => br t2 (Kb1 (DV.v (AV.b true)) H4) (wrp .i64 (iadd n1 ii1) fun n3 => Kb2 (DV.v (AV.i .i64 n3)) H4)) fun Kb3 => br t1 (Kb3 DV.n H3) (c1 [d1, d2, d3] H3 fun d4 H4 => onV d4 fun v1 => isB v1 fun t2 => Kb3 (DV.v (AV.b t2)) H4)) fun Kb3 => br t1 (Kb3 DV.n H2) (Kb3 (DV.v (AV.i .i64 n1)) H2)) fun Kb3 => br t1 (Kb3 DV.n H1) (Kb3 (DV.v (AV.i .i64 n2)) H1)
def g148x2 := jn (fun d2 H2 => jn (fun d3 H3 => jn (fun d4 H4 => g148x1 d4 n1 n2 t1 H4 c1 Kb1 Kb2) fun Kb3 => br t1 (Kb3 DV.n H3) (onV d3 fun v1 => isP v1 fun p1 => onA p1 fun b1 m1 => rdK H3 b1 m1 fun v2 => isP v2 fun p2 => Kb3 (DV.v (AV.p p2)) H3)) fun Kb3 => br t1 (Kb3 DV.n H2) (onV d2 fun v1 => isP v1 fun p1 => onA p1 fun b1 m1 => Kb3 (DV.v (AV.p (AP.at b1 (Nat.add m1 nn311)))) H2)) fun Kb3 => br t1 (Kb3 DV.n H1) (onV d1 fun v1 => isP v1 fun p1 => onA p1 fun b1 m1 => Kb3 (DV.v (AV.p (AP.at b1 m1))) H1)
def g148x3 := c1 [(DV.v (AV.p p1))] H1 fun d1 H2 => onV d1 fun v1 => isS v1 fun s1 => lenA s1 fun m1 => jF [(11 , .int .i64)] (fun d2 H3 => onV d2 fun v2 => isI .i64 v2 fun n5 => frcB (ilt ii0 n5) fun t1 => jn (fun d3 H4 => g148x2 d3 n1 n2 t1 H4 c2 Kb1 Kb2) fun Kb3 => br t1 (Kb3 DV.n H3) (Kb3 (DV.v (AV.p p2)) H3)) fun Kb3 => frcB (ieq n1 n3) fun t1 => br t1 (wrp .i64 (isub (Int.ofNat m1) n4) fun n5 => Kb3 (DV.v (AV.i .i64 n5)) H2) (Kb3 (DV.v (AV.i .i64 (Int.ofNat m1))) H2)
def g148x4 := c1 [(DV.v (AV.p p1)), (DV.v (AV.i .i64 n1))] H1 fun d1 H2 => onV d1 fun v1 => isP v1 fun p2 => lpR (failF [(15 , .int .i64)]) (fun Kb2 => fun d2 H3 => onV d2 fun v2 => isI .i64 v2 fun n4 => frcB (ilt n4 ii8) fun t1 => br t1 (onA p2 fun b1 m1 => rng n4 nn8 <| rdK H3 b1 (Nat.add (Nat.add m1 nn6) (Nat.mul (itn n4) nn5)) fun v3 => isP v3 fun p3 => g148x3 n4 n1 n2 n3 p3 p1 H3 c2 c3 Kb1 Kb2) (Kb1 (DV.v (AV.b false)) H3)) (nat_lit 100000) (DV.v (AV.i .i64 ii0)) H2
/-- (*ap.AP).has -/
def g148 : G DV := fun R1 H1 Kb1 => lc R1 fun d1 R2 => onV d1 fun v1 => isP v1 fun p1 => lc R2 fun d2 R3 => onV d2 fun v2 => isI .i64 v2 fun n1 => lc R3 fun d3 R4 => onV d3 fun v3 => isI .i64 v3 fun n2 => lc R4 fun d4 R5 => onV d4 fun v4 => isI .i64 v4 fun n3 => ln R5 <| g148x4 n1 n2 n3 p1 H1 c1 c2 c3 Kb1
def G148 : G DV := g148 G65 G100 G202

def g177x1 := jn (fun d3 H2 => jn (fun d4 H3 => pickK t1 (DV.v (AV.b true)) d4 fun d5 => onV d5 fun v1 => isB v1 fun t2 => br t2 (Kb1 (DV.v (AV.er (nat_lit 9))) H3) (onA p1 fun b1 m1 => wrK H3 b1 m1 (AV.i .i64 n1) fun H4 => Kb1 (DV.v AV.ni) H4)) fun Kb2 => br t1 (Kb2 DV.n H2) (onV d1 fun v1 => isB v1 fun t2 => pickK t2 d3 (DV.v (AV.b false)) fun d4 => onV d4 fun v2 => isB v2 fun t3 => Kb2 (DV.v (AV.b t3)) H2)) fun Kb2 => grd d1 true (onV d2 fun v1 => isI .i64 v1 fun n2 => frcB (ieq n2 ii1) fun t2 => Kb2 (DV.v (AV.b t2)) H1) (Kb2 DV.n H1)
def g177x2 := jn (fun d3 H2 => jn (fun d4 H3 => jn (fun d5 H4 => g177x1 d1 d5 n1 t1 p1 H4 Kb1) fun Kb2 => grd d1 true (onV d4 fun v1 => isP v1 fun p2 => onA p2 fun b1 m1 => rdK H3 b1 m1 fun v2 => isI .i64 v2 fun n2 => Kb2 (DV.v (AV.i .i64 n2)) H3) (Kb2 DV.n H3)) fun Kb2 => grd d1 true (onV d3 fun v1 => isP v1 fun p2 => onA p2 fun b1 m1 => Kb2 (DV.v (AV.p (AP.at b1 m1))) H2) (Kb2 DV.n H2)) fun Kb2 => grd d1 true (onV d2 fun v1 => isP v1 fun p2 => onA p2 fun b1 m1 => Kb2 (DV.v (AV.p (AP.at b1 m1))) H1) (Kb2 DV.n H1)
def g177x3 := onV d1 fun v1 => isB v1 fun t1 => jn (fun d2 H2 => jn (fun d3 H3 => jn (fun d4 H4 => jn (fun d5 H5 => g177x2 d4 d5 n1 t1 p1 H5 Kb1) fun Kb2 => grd d4 true (Kb2 (DV.v (AV.p p1)) H4) (Kb2 DV.n H4)) fun Kb2 => br t1 (Kb2 DV.n H3) (Kb2 d3 H3)) fun Kb2 => br t1 (Kb2 DV.n H2) (onV d2 fun v2 => isI .i64 v2 fun n2 => frcB (ieq n2 ii3) fun t2 => Kb2 (DV.v (AV.b t2)) H2)) fun Kb2 => br t1 (Kb2 DV.n H1) (Kb2 (DV.v (AV.i .i64 n1)) H1)
def g177x4 := onV d1 fun v1 => isB v1 fun t1 => br t1 (Kb1 (DV.v (AV.er (nat_lit 2))) H1) (c1 [(DV.v (AV.p p1))] H1 fun d2 H2 => onV d2 fun v2 => isB v2 fun t2 => jn (fun d3 H3 => jn (fun d4 H4 => pickK t2 (DV.v (AV.b true)) d4 fun d5 => g177x3 d5 n1 p1 H4 Kb1) fun Kb2 => br t2 (Kb2 DV.n H3) (onV d3 fun v3 => isI .i64 v3 fun n2 => frcB (ieq n2 ii1) fun t3 => Kb2 (DV.v (AV.b t3)) H3)) fun Kb2 => br t2 (Kb2 DV.n H2) (Kb2 (DV.v (AV.i .i64 n1)) H2))
def g177x5 := onV d1 fun v1 => onN d2 <| ifA true true v1 AV.ni fun t1 => frcB (bnot t1) fun t2 => br t2 (Kb1 (DV.v v1) H1) (frcB (ilt n1 ii1) fun t3 => jn (fun d3 H2 => jn (fun d4 H3 => pickK t3 (DV.v (AV.b true)) d4 fun d5 => g177x4 d5 n1 p1 H3 c1 Kb1) fun Kb2 => br t3 (Kb2 DV.n H2) (onV d3 fun v2 => isI .i64 v2 fun n2 => frcB (ilt ii3 n2) fun t4 => Kb2 (DV.v (AV.b t4)) H2)) fun Kb2 => br t3 (Kb2 DV.n H1) (Kb2 (DV.v (AV.i .i64 n1)) H1))
/-- (*count.Book).Move -/
def g177 : G DV := fun R1 H1 Kb1 => lc R1 fun d1 R2 => onV d1 fun v1 => isP v1 fun p1 => lc R2 fun d2 R3 => onV d2 fun v2 => isI .i64 v2 fun n1 => lc R3 fun d3 R4 => onV d3 fun v3 => isI .i64 v3 fun n2 => ln R4 <| c1 [(DV.v (AV.p p1)), (DV.v (AV.i .i64 n1))] H1 fun d4 H2 => onC d4 fun d5 d6 => onV d5 fun v4 => isP v4 fun p2 => onC d6 fun d7 d8 => g177x5 d7 d8 n2 p2 H2 c2 Kb1
def G177 : G DV := g177 G232 G233

/-- slices.Clone[[]api.Packet,api.Packet] -/
def g26 : G DV := fun R1 H1 Kb1 => lc R1 fun d1 R2 => onV d1 fun v1 => isS v1 fun s1 => ln R2 <| frcB (isNilS s1) fun t1 => br t1 (Kb1 (DV.v (AV.s AS.nil)) H1) (alB H1 te nn0 nn0 fun b1 H2 => appD nn5 nn56 (AS.sl b1 nn0 nn0 nn0) s1 H2 fun s2 H3 => Kb1 (DV.v (AV.s s2)) H3)
def G26 : G DV := g26

def g266x1 := wrK H1 b1 (Nat.add m1 nn133) (AV.i .i64 n1) fun H2 => onA p1 fun b4 m2 => rdK H2 b4 (Nat.add m2 nn134) fun v1 => isI .i64 v1 fun n2 => rdK H2 b2 nn4 fun v2 => isS v2 fun s1 => lenA s1 fun m3 => wrp .i64 (isub n2 (Int.ofNat m3)) fun n3 => onA p1 fun b5 m4 => wrK H2 b5 (Nat.add m4 nn134) (AV.i .i64 n3) fun H3 => rdR H3 b2 nn0 nn5 fun l1 => must (Nat.beq (llen l1) nn5) <| wrL H3 b3 nn0 l1 fun H4 => rdR H4 b3 nn0 nn5 fun l2 => Kb1 (DV.a l2) H4
def g266x2 := rdK H1 b1 (Nat.add (Nat.add (Nat.add m1 nn3) (Nat.mul (itn n1) nn8)) nn1) fun v1 => isI .i64 v1 fun n2 => rdK H1 b2 nn4 fun v2 => isS v2 fun s1 => lenA s1 fun m2 => wrp .i64 (isub n2 (Int.ofNat m2)) fun n3 => wrK H1 b1 (Nat.add (Nat.add (Nat.add m1 nn3) (Nat.mul (itn n1) nn8)) nn1) (AV.i .i64 n3) fun H2 => onA p1 fun b4 m3 => rdK H2 b4 (Nat.add m3 nn133) fun v3 => isI .i64 v3 fun n4 => wrp .i64 (isub n4 ii1) fun n5 => onA p1 fun b5 m4 => g266x1 n5 m4 p1 b5 b2 b3 H2 Kb1
def g266x3 := alB H1 z22 nn5 nn0 fun b3 H2 => must (Nat.beq (llen l1) nn5) <| wrL H2 b3 nn0 l1 fun H3 => rdK H3 b1 (Nat.add (Nat.add m1 nn3) (Nat.mul (itn n1) nn8)) fun v1 => isS v1 fun s1 => lenA s1 fun m2 => slA s1 nn1 m2 (fun x => Nat.mul x nn5) fun s2 => c1 [(DV.v (AV.s s2))] H3 fun d1 H4 => onV d1 fun v2 => isS v2 fun s3 => wrK H4 b1 (Nat.add (Nat.add m1 nn3) (Nat.mul (itn n1) nn8)) (AV.s s3) fun H5 => g266x2 n1 m1 p1 b1 b3 b2 H5 Kb1
/-- (*fq.Queue).shift -/
def g266 : G DV := fun R1 H1 Kb1 => lc R1 fun d1 R2 => onV d1 fun v1 => isP v1 fun p1 => lc R2 fun d2 R3 => onV d2 fun v2 => isI .i64 v2 fun n1 => ln R3 <| alB H1 z22 nn5 nn0 fun b1 H2 => onA p1 fun b2 m1 => rng n1 nn16 <| rdK H2 b2 (Nat.add (Nat.add m1 nn3) (Nat.mul (itn n1) nn8)) fun v3 => isS v3 fun s1 => ixA s1 ii0 (fun x => Nat.mul x nn5) fun b3 m2 => rdR H2 b3 m2 nn5 fun l1 => g266x3 l1 n1 m1 p1 b2 b1 H2 c1 Kb1
def G266 : G DV := g266 G26

def g297x1 := br t1 (onA p1 fun b1 m1 => rdK H1 b1 (Nat.add m1 nn5) fun v1 => isI .i64 v1 fun n1 => onA p1 fun b2 m2 => rdK H1 b2 (Nat.add m2 nn7) fun v2 => isI .i64 v2 fun n2 => wrp .i64 (iadd n1 n2) fun n3 => onA p1 fun b3 m3 => wrK H1 b3 m3 (AV.i .i64 n3) fun H2 => Kb1 (DV.c (DV.v (AV.b true)) (DV.c (DV.v (AV.b false)) DV.n)) H2) (onA p1 fun b1 m1 => rdK H1 b1 (Nat.add m1 nn5) fun v1 => isI .i64 v1 fun n1 => onA p1 fun b2 m2 => rdK H1 b2 m2 fun v2 => isI .i64 v2 fun n2 => frcB (ile n2 n1) fun t2 => Kb1 (DV.c (DV.v (AV.b true)) (DV.c (DV.v (AV.b t2)) DV.n)) H1)
def g297x2 := onA p1 fun b2 m1 => rdK H1 b2 (Nat.add m1 nn5) fun v1 => isI .i64 v1 fun n1 => rdK H1 b1 nn0 fun v2 => isI .i64 v2 fun n2 => wrp .i64 (isub n1 n2) fun n3 => onA p1 fun b3 m2 => rdK H1 b3 (Nat.add m2 nn6) fun v3 => isI .i64 v3 fun n4 => frcB (ilt n3 n4) fun t1 => br t1 (Kb1 (DV.v (AV.b true)) H1) (onA p1 fun b4 m3 => rdK H1 b4 (Nat.add m3 nn8) fun v4 => isI .i64 v4 fun n5 => frcB (ile n5 ii1514) fun t2 => Kb1 (DV.v (AV.b t2)) H1)
def g297x3 := onA p1 fun b2 m1 => wrK H1 b2 (Nat.add m1 nn8) (AV.i .i64 n1) fun H2 => jF [(39 , .bool)] (fun d1 H3 => onV d1 fun v1 => isB v1 fun t1 => br t1 (onA p1 fun b3 m2 => wrK H3 b3 m2 (AV.i .i64 ii0) fun H4 => Kb1 (DV.c (DV.v (AV.b true)) (DV.c (DV.v (AV.b false)) DV.n)) H4) (onA p1 fun b3 m2 => rdK H3 b3 m2 fun v2 => isI .i64 v2 fun n2 => frcB (ieq n2 ii0) fun t2 => g297x1 t2 p1 H3 Kb1)) fun Kb2 => g297x2 p1 b1 H2 Kb2
def g297x4 := ixA s1 n1 (fun x => Nat.mul x nn2) fun b1 m1 => rdR H1 b1 m1 nn2 fun l1 => alB H1 (@T4.n AV yy0 (@T4.n AV yy0 te te te te) te te te) nn2 nn0 fun b2 H2 => must (Nat.beq (llen l1) nn2) <| wrL H2 b2 nn0 l1 fun H3 => onA p1 fun b3 m2 => rdK H3 b3 (Nat.add m2 nn8) fun v1 => isI .i64 v1 fun n2 => rdK H3 b2 nn1 fun v2 => isI .i64 v2 fun n3 => asI (imax n3 ii0) fun n4 => wrp .i64 (isub n2 n4) fun n5 => g297x3 n5 p1 b2 H3 Kb1
def g297x5 := onA p1 fun b1 m1 => rdK H1 b1 (Nat.add m1 nn9) fun v1 => isS v1 fun s1 => lenA s1 fun m2 => frcB (ile (Int.ofNat m2) n1) fun t1 => br t1 (onA p1 fun b2 m3 => wrK H1 b2 m3 (AV.i .i64 ii0) fun H2 => Kb1 (DV.c (DV.v (AV.b false)) (DV.c (DV.v (AV.b false)) DV.n)) H2) (onA p1 fun b2 m3 => rdK H1 b2 (Nat.add m3 nn9) fun v2 => isS v2 fun s2 => onA p1 fun b3 m4 => rdK H1 b3 (Nat.add m4 nn10) fun v3 => isI .i64 v3 fun n2 => g297x4 n2 p1 s2 H1 Kb1)
/-- (*codel.state).look -/
def g297 : G DV := fun R1 H1 Kb1 => lc R1 fun d1 R2 => onV d1 fun v1 => isP v1 fun p1 => ln R2 <| onA p1 fun b1 m1 => rdK H1 b1 (Nat.add m1 nn10) fun v2 => isI .i64 v2 fun n1 => g297x5 n1 p1 H1 Kb1
def G297 : G DV := g297

def ss1 : List Int := [ii0, ii1, ii2, ii2, ii3, ii3, ii3, ii3, ii4, ii4, ii4, ii4, ii4, ii4, ii4, ii4, ii5, ii5, ii5, ii5, ii5, ii5, ii5, ii5, ii5, ii5, ii5, ii5, ii5, ii5, ii5, ii5, ii6, ii6, ii6, ii6, ii6, ii6, ii6, ii6, ii6, ii6, ii6, ii6, ii6, ii6, ii6, ii6, ii6, ii6, ii6, ii6, ii6, ii6, ii6, ii6, ii6, ii6, ii6, ii6, ii6, ii6, ii6, ii6, ii7, ii7, ii7, ii7, ii7, ii7, ii7, ii7, ii7, ii7, ii7, ii7, ii7, ii7, ii7, ii7, ii7, ii7, ii7, ii7, ii7, ii7, ii7, ii7, ii7, ii7, ii7, ii7, ii7, ii7, ii7, ii7, ii7, ii7, ii7, ii7, ii7, ii7, ii7, ii7, ii7, ii7, ii7, ii7, ii7, ii7, ii7, ii7, ii7, ii7, ii7, ii7, ii7, ii7, ii7, ii7, ii7, ii7, ii7, ii7, ii7, ii7, ii7, ii7, ii8, ii8, ii8, ii8, ii8, ii8, ii8, ii8, ii8, ii8, ii8, ii8, ii8, ii8, ii8, ii8, ii8, ii8, ii8, ii8, ii8, ii8, ii8, ii8, ii8, ii8, ii8, ii8, ii8, ii8, ii8, ii8, ii8, ii8, ii8, ii8, ii8, ii8, ii8, ii8, ii8, ii8, ii8, ii8, ii8, ii8, ii8, ii8, ii8, ii8, ii8, ii8, ii8, ii8, ii8, ii8, ii8, ii8, ii8, ii8, ii8, ii8, ii8, ii8, ii8, ii8, ii8, ii8, ii8, ii8, ii8, ii8, ii8, ii8, ii8, ii8, ii8, ii8, ii8, ii8, ii8, ii8, ii8, ii8, ii8, ii8, ii8, ii8, ii8, ii8, ii8, ii8, ii8, ii8, ii8, ii8, ii8, ii8, ii8, ii8, ii8, ii8, ii8, ii8, ii8, ii8, ii8, ii8, ii8, ii8, ii8, ii8, ii8, ii8, ii8, ii8, ii8, ii8, ii8, ii8, ii8, ii8, ii8, ii8, ii8, ii8, ii8, ii8]
def g284x1 := jF [(0 , .int .u64), (2 , .int .i64)] (fun d1 d2 H2 => onV d1 fun v1 => isI .u64 v1 fun n3 => onV d2 fun v2 => isI .i64 v2 fun n4 => wrp .u8 n3 fun n5 => rng n5 (leni ss1) <| getI (itn n5) ss1 fun n6 => asI n6 fun n7 => wrp .i64 n7 fun n8 => wrp .i64 (iadd n4 n8) fun n9 => Kb1 (DV.v (AV.i .i64 n9)) H2) fun Kc1 => frcB (ile ii256 n1) fun t1 => br t1 (asI (idiv n1 (ip2 ii8)) fun n3 => wrp .i64 (iadd n2 ii8) fun n4 => Kc1 (DV.v (AV.i .u64 n3)) (DV.v (AV.i .i64 n4)) H1) (Kc1 (DV.v (AV.i .u64 n1)) (DV.v (AV.i .i64 n2)) H1)
def g284x2 := isI .u64 v1 fun n1 => onV d1 fun v2 => isI .i64 v2 fun n2 => jF [(0 , .int .u64), (2 , .int .i64)] (fun d2 d3 H2 => onV d2 fun v3 => isI .u64 v3 fun n3 => onV d3 fun v4 => isI .i64 v4 fun n4 => g284x1 n3 n4 H2 Kb1) fun Kc1 => frcB (ile ii65536 n1) fun t1 => br t1 (asI (idiv n1 (ip2 ii16)) fun n3 => wrp .i64 (iadd n2 ii16) fun n4 => Kc1 (DV.v (AV.i .u64 n3)) (DV.v (AV.i .i64 n4)) H1) (Kc1 (DV.v (AV.i .u64 n1)) (DV.v (AV.i .i64 n2)) H1)
/-- math/bits.Len64 -/
def g284 : G DV := fun R1 H1 Kb1 => lc R1 fun d1 R2 => onV d1 fun v1 => isI .u64 v1 fun n1 => ln R2 <| jF [(0 , .int .u64), (2 , .int .i64)] (fun d2 d3 H2 => onV d2 fun v2 => g284x2 v2 d3 H2 Kb1) fun Kc1 => frcB (ile ii4294967296 n1) fun t1 => br t1 (asI (idiv n1 (ip2 ii32)) fun n2 => Kc1 (DV.v (AV.i .u64 n2)) (DV.v (AV.i .i64 ii32)) H1) (Kc1 (DV.v (AV.i .u64 n1)) (DV.v (AV.i .i64 ii0)) H1)
def G284 : G DV := g284

/-- math/bits.LeadingZeros64 -/
def g304 : G DV := fun R1 H1 Kb1 => lc R1 fun d1 R2 => onV d1 fun v1 => isI .u64 v1 fun n1 => ln R2 <| c1 [(DV.v (AV.i .u64 n1))] H1 fun d2 H2 => onV d2 fun v2 => isI .i64 v2 fun n2 => wrp .i64 (isub ii64 n2) fun n3 => Kb1 (DV.v (AV.i .i64 n3)) H2
def G304 : G DV := g304 G284

def g302x1 := jn (fun d3 H2 => pickK t1 (DV.v (AV.b true)) d3 fun d4 => onV d4 fun v1 => isB v1 fun t2 => br t2 (wrp .u64 (isub n1 ii1) fun n4 => wrp .u64 (iadd n2 n3) fun n5 => frcB (ile ii4294967296 n5) fun t3 => br t3 (Kb1 (DV.v (AV.i .u64 n4)) H2) (Kc1 (DV.v (AV.i .u64 n5)) (DV.v (AV.i .u64 n4)) H2)) (Kb1 (DV.v (AV.i .u64 n1)) H2)) fun Kb2 => br t1 (Kb2 DV.n H1) (onV d1 fun v1 => onV d2 fun v2 => isI .u64 v1 fun n4 => isI .u64 v2 fun n5 => frcB (ilt n5 n4) fun t2 => Kb2 (DV.v (AV.b t2)) H1)
def g302x2 := jn (fun d3 H2 => jn (fun d4 H3 => jn (fun d5 H4 => g302x1 d1 d5 n1 n2 n3 t1 H4 Kb1 Kc1) fun Kb2 => br t1 (Kb2 DV.n H3) (onV d3 fun v1 => onV d4 fun v2 => isI .u64 v1 fun n5 => isI .u64 v2 fun n6 => wrp .u64 (iadd n5 n6) fun n7 => Kb2 (DV.v (AV.i .u64 n7)) H3)) fun Kb2 => br t1 (Kb2 DV.n H2) (Kb2 (DV.v (AV.i .u64 n4)) H2)) fun Kb2 => br t1 (Kb2 DV.n H1) (onV d2 fun v1 => isI .u64 v1 fun n5 => wrp .u64 (imul ii4294967296 n5) fun n6 => Kb2 (DV.v (AV.i .u64 n6)) H1)
def g302x3 := jn (fun d1 H2 => jn (fun d2 H3 => jn (fun d3 H4 => jn (fun d4 H5 => g302x2 d3 d4 n1 n2 n3 n4 t1 H5 Kb1 Kc1) fun Kb2 => br t1 (Kb2 DV.n H4) (Kb2 (DV.v (AV.i .u64 n2)) H4)) fun Kb2 => br t1 (Kb2 DV.n H3) (onV d1 fun v1 => onV d2 fun v2 => isI .u64 v1 fun n6 => isI .u64 v2 fun n7 => wrp .u64 (imul n6 n7) fun n8 => Kb2 (DV.v (AV.i .u64 n8)) H3)) fun Kb2 => br t1 (Kb2 DV.n H2) (Kb2 (DV.v (AV.i .u64 n5)) H2)) fun Kb2 => br t1 (Kb2 DV.n H1) (Kb2 (DV.v (AV.i .u64 n1)) H1)
def g302x4 := jF [(18 , .int .u64)] (fun d1 H2 => onV d1 fun v1 => isI .u64 v1 fun n10 => wrp .u64 (imul n1 ii4294967296) fun n11 => wrp .u64 (iadd n11 n10) fun n12 => wrp .u64 (imul n2 ii4294967296) fun n13 => wrp .u64 (iadd n13 n3) fun n14 => wrp .u64 (imul n10 n4) fun n15 => wrp .u64 (isub n14 n15) fun n16 => must (ile ii0 n5) <| must (ile n5 ii64) <| asI (idiv n16 (ip2 n5)) fun n17 => Kb1 (DV.c (DV.v (AV.i .u64 n12)) (DV.c (DV.v (AV.i .u64 n17)) DV.n)) H2) fun Kb2 => lpR (failF [(16 , .int .u64), (18 , .int .u64)]) (fun Kc1 => fun d1 d2 H2 => onV d1 fun v1 => isI .u64 v1 fun n10 => onV d2 fun v2 => isI .u64 v2 fun n11 => frcB (ile ii4294967296 n11) fun t1 => g302x3 n11 n10 n6 n3 n7 t1 H2 Kb2 Kc1) (nat_lit 100000) (DV.v (AV.i .u64 n8)) (DV.v (AV.i .u64 n9)) H1
def g302x5 := jn (fun d3 H2 => pickK t1 (DV.v (AV.b true)) d3 fun d4 => onV d4 fun v1 => isB v1 fun t2 => br t2 (wrp .u64 (isub n1 ii1) fun n4 => wrp .u64 (iadd n2 n3) fun n5 => frcB (ile ii4294967296 n5) fun t3 => br t3 (Kb1 (DV.v (AV.i .u64 n4)) H2) (Kc1 (DV.v (AV.i .u64 n4)) (DV.v (AV.i .u64 n5)) H2)) (Kb1 (DV.v (AV.i .u64 n1)) H2)) fun Kb2 => br t1 (Kb2 DV.n H1) (onV d1 fun v1 => onV d2 fun v2 => isI .u64 v1 fun n4 => isI .u64 v2 fun n5 => frcB (ilt n5 n4) fun t2 => Kb2 (DV.v (AV.b t2)) H1)
def g302x6 := jn (fun d3 H2 => jn (fun d4 H3 => jn (fun d5 H4 => g302x5 d1 d5 n1 n2 n3 t1 H4 Kb1 Kc1) fun Kb2 => br t1 (Kb2 DV.n H3) (onV d3 fun v1 => onV d4 fun v2 => isI .u64 v1 fun n5 => isI .u64 v2 fun n6 => wrp .u64 (iadd n5 n6) fun n7 => Kb2 (DV.v (AV.i .u64 n7)) H3)) fun Kb2 => br t1 (Kb2 DV.n H2) (Kb2 (DV.v (AV.i .u64 n4)) H2)) fun Kb2 => br t1 (Kb2 DV.n H1) (onV d2 fun v1 => isI .u64 v1 fun n5 => wrp .u64 (imul ii4294967296 n5) fun n6 => Kb2 (DV.v (AV.i .u64 n6)) H1)
def g302x7 := jn (fun d1 H2 => jn (fun d2 H3 => jn (fun d3 H4 => jn (fun d4 H5 => g302x6 d3 d4 n1 n2 n3 n4 t1 H5 Kb1 Kc1) fun Kb2 => br t1 (Kb2 DV.n H4) (Kb2 (DV.v (AV.i .u64 n2)) H4)) fun Kb2 => br t1 (Kb2 DV.n H3) (onV d1 fun v1 => onV d2 fun v2 => isI .u64 v1 fun n6 => isI .u64 v2 fun n7 => wrp .u64 (imul n6 n7) fun n8 => Kb2 (DV.v (AV.i .u64 n8)) H3)) fun Kb2 => br t1 (Kb2 DV.n H2) (Kb2 (DV.v (AV.i .u64 n5)) H2)) fun Kb2 => br t1 (Kb2 DV.n H1) (Kb2 (DV.v (AV.i .u64 n1)) H1)
def g302x8 := jF [(15 , .int .u64)] (fun d1 H2 => onV d1 fun v1 => isI .u64 v1 fun n10 => wrp .u64 (imul n1 ii4294967296) fun n11 => wrp .u64 (iadd n11 n2) fun n12 => wrp .u64 (imul n10 n3) fun n13 => wrp .u64 (isub n12 n13) fun n14 => must (bnot (ieq n4 ii0)) <| wrp .u64 (iquo n14 n4) fun n15 => wrp .u64 (imul n15 n4) fun n16 => wrp .u64 (isub n14 n16) fun n17 => g302x4 n10 n14 n5 n3 n6 n4 n7 n17 n15 H2 Kb1) fun Kb2 => lpR (failF [(15 , .int .u64), (16 , .int .u64)]) (fun Kc1 => fun d1 d2 H2 => onV d1 fun v1 => isI .u64 v1 fun n10 => onV d2 fun v2 => isI .u64 v2 fun n11 => frcB (ile ii4294967296 n10) fun t1 => g302x7 n10 n11 n4 n2 n7 t1 H2 Kb2 Kc1) (nat_lit 100000) (DV.v (AV.i .u64 n8)) (DV.v (AV.i .u64 n9)) H1
def g302x9 := must (ile ii0 n1) <| must (ile n1 ii64) <| asI (idiv n2 (ip2 n1)) fun n8 => asI (bits .or .u64 n3 n8) fun n9 => must (ile ii0 n4) <| must (ile n4 ii64) <| wrp .u64 (imul n2 (ip2 n4)) fun n10 => asI (idiv n10 (ip2 ii32)) fun n11 => asI (bits .and .u64 n10 ii4294967295) fun n12 => must (bnot (ieq n5 ii0)) <| wrp .u64 (iquo n9 n5) fun n13 => wrp .u64 (imul n13 n5) fun n14 => wrp .u64 (isub n9 n14) fun n15 => g302x8 n9 n11 n6 n5 n12 n4 n7 n13 n15 H1 Kb1
def g302x10 := br t1 (must (bnot (ieq n1 ii0)) <| wrp .u64 (iquo n2 n1) fun n4 => must (bnot (ieq n1 ii0)) <| asI (irem n2 n1) fun n5 => Kb1 (DV.c (DV.v (AV.i .u64 n4)) (DV.c (DV.v (AV.i .u64 n5)) DV.n)) H1) (c1 [(DV.v (AV.i .u64 n1))] H1 fun d1 H2 => onV d1 fun v1 => isI .i64 v1 fun n4 => wrp .u64 n4 fun n5 => must (ile ii0 n5) <| must (ile n5 ii64) <| wrp .u64 (imul n1 (ip2 n5)) fun n6 => asI (idiv n6 (ip2 ii32)) fun n7 => asI (bits .and .u64 n6 ii4294967295) fun n8 => must (ile ii0 n5) <| must (ile n5 ii64) <| wrp .u64 (imul n3 (ip2 n5)) fun n9 => wrp .u64 (isub ii64 n5) fun n10 => g302x9 n10 n2 n9 n5 n7 n6 n8 H2 Kb1)
/-- math/bits.Div64 -/
def g302 : G DV := fun R1 H1 Kb1 => lc R1 fun d1 R2 => onV d1 fun v1 => isI .u64 v1 fun n1 => lc R2 fun d2 R3 => onV d2 fun v2 => isI .u64 v2 fun n2 => lc R3 fun d3 R4 => onV d3 fun v3 => isI .u64 v3 fun n3 => ln R4 <| jF [] (fun H2 => jF [] (fun H3 => frcB (ieq n1 ii0) fun t1 => g302x10 n3 n2 n1 t1 H3 c1 Kb1) fun Ka1 => frcB (ile n3 n1) fun t1 => br t1 (none) (Ka1 H2)) fun Ka1 => frcB (ieq n3 ii0) fun t1 => br t1 (none) (Ka1 H1)
def G302 : G DV := g302 G304

def g303x1 := frcB (ilt ii0 n1) fun t1 => br t1 (jF [(3 , .int .u64)] (fun d1 H2 => onV d1 fun v1 => isI .u64 v1 fun n4 => must (bnot (ieq ii2 ii0)) <| wrp .u64 (iquo n1 ii2) fun n5 => Kc1 (DV.v (AV.i .u64 n4)) (DV.v (AV.i .u64 n5)) H2) fun Kb2 => wrp .u64 (iadd n2 n1) fun n4 => wrp .u64 (imul n4 n4) fun n5 => frcB (ile n5 n3) fun t2 => br t2 (Kb2 (DV.v (AV.i .u64 n4)) H1) (Kb2 (DV.v (AV.i .u64 n2)) H1)) (Kb1 (DV.v (AV.i .u64 n2)) H1)
/-- inv.Root -/
def g303 : G DV := fun R1 H1 Kb1 => lc R1 fun d1 R2 => onV d1 fun v1 => isI .u64 v1 fun n1 => ln R2 <| lpR (failF [(3 , .int .u64), (4 , .int .u64)]) (fun Kc1 => fun d2 d3 H2 => onV d2 fun v2 => isI .u64 v2 fun n2 => onV d3 fun v3 => isI .u64 v3 fun n3 => g303x1 n3 n2 n1 H2 Kb1 Kc1) (nat_lit 100000) (DV.v (AV.i .u64 ii0)) (DV.v (AV.i .u64 ii2147483648)) H1
def G303 : G DV := g303

def g301x1 := ln R1 <| frcB (ile n1 ii1) fun t1 => br t1 (Kb1 (DV.v (AV.i .u64 ii4294967296)) H1) (wrp .u64 n1 fun n2 => c1 [(DV.v (AV.i .u64 ii1)), (DV.v (AV.i .u64 ii0)), (DV.v (AV.i .u64 n2))] H1 fun d1 H2 => onC d1 fun d2 d3 => onV d2 fun v1 => isI .u64 v1 fun n3 => onC d3 fun d4 d5 => onV d4 fun v2 => isI .u64 v2 fun n4 => onN d5 <| c2 [(DV.v (AV.i .u64 n3))] H2 fun d6 H3 => onV d6 fun v3 => isI .u64 v3 fun n5 => Kb1 (DV.v (AV.i .u64 n5)) H3)
/-- inv.Inv -/
def g301 : G DV := fun R1 H1 Kb1 => lc R1 fun d1 R2 => onV d1 fun v1 => isI .u32 v1 fun n1 => g301x1 R2 n1 H1 c1 c2 Kb1
def G301 : G DV := g301 G302 G303

def g300x1 := lc R1 fun d1 R2 => onV d1 fun v1 => isI .u32 v1 fun n3 => ln R2 <| asI (imax n1 ii0) fun n4 => asI (imin n4 ii1125899906842624) fun n5 => asI (imax n2 ii0) fun n6 => asI (imin n6 ii1073741824) fun n7 => wrp .u64 n7 fun n8 => c1 [(DV.v (AV.i .u32 n3))] H1 fun d2 H2 => onV d2 fun v2 => isI .u64 v2 fun n9 => wrp .u64 (imul n8 n9) fun n10 => asI (idiv n10 (ip2 ii32)) fun n11 => wrp .i64 n11 fun n12 => wrp .i64 (iadd n5 n12) fun n13 => Kb1 (DV.v (AV.i .i64 n13)) H2
/-- inv.Next -/
def g300 : G DV := fun R1 H1 Kb1 => lc R1 fun d1 R2 => onV d1 fun v1 => isI .i64 v1 fun n1 => lc R2 fun d2 R3 => onV d2 fun v2 => isI .i64 v2 fun n2 => g300x1 R3 n1 n2 H1 c1 Kb1
def G300 : G DV := g300 G301

def g298x1 := rdK H1 b1 (Nat.add m1 nn1) fun v1 => isI .i64 v1 fun n1 => onA p1 fun b2 m2 => rdK H1 b2 (Nat.add m2 nn7) fun v2 => isI .i64 v2 fun n2 => onA p1 fun b3 m3 => rdK H1 b3 (Nat.add m3 nn2) fun v3 => isI .u32 v3 fun n3 => c1 [(DV.v (AV.i .i64 n1)), (DV.v (AV.i .i64 n2)), (DV.v (AV.i .u32 n3))] H1 fun d1 H2 => onV d1 fun v4 => isI .i64 v4 fun n4 => onA p1 fun b4 m4 => wrK H2 b4 (Nat.add m4 nn1) (AV.i .i64 n4) fun H3 => Kb1 (DV.v (AV.b t1)) H3
def g298x2 := jn (fun d1 H2 => jn (fun d2 H3 => pickK t1 (DV.v (AV.b true)) d2 fun d3 => onV d3 fun v1 => isB v1 fun t4 => br t4 (onA p1 fun b1 m1 => wrK H3 b1 (Nat.add m1 nn4) (AV.b false) fun H4 => Kb1 (DV.v (AV.b t2)) H4) (onA p1 fun b1 m1 => g298x1 m1 t2 p1 b1 H3 c1 Kb1)) fun Kb2 => br t1 (Kb2 DV.n H2) (onV d1 fun v1 => isB v1 fun t4 => frcB (bnot t4) fun t5 => Kb2 (DV.v (AV.b t5)) H2)) fun Kb2 => br t1 (Kb2 DV.n H1) (Kb2 (DV.v (AV.b t3)) H1)
def g298x3 := jF [] (fun H2 => c1 [(DV.v (AV.p p1))] H2 fun d1 H3 => onC d1 fun d2 d3 => onV d2 fun v1 => isB v1 fun t1 => onC d3 fun d4 d5 => onV d4 fun v2 => isB v2 fun t2 => onN d5 <| frcB (bnot t1) fun t3 => g298x2 t3 t1 t2 p1 H3 c2 Kb1) fun Ka1 => onA p1 fun b1 m1 => rdK H1 b1 (Nat.add m1 nn2) fun v1 => isI .u32 v1 fun n1 => frcB (ilt n1 ii4294967295) fun t1 => br t1 (onA p1 fun b2 m2 => rdK H1 b2 (Nat.add m2 nn2) fun v2 => isI .u32 v2 fun n2 => wrp .u32 (iadd n2 ii1) fun n3 => onA p1 fun b3 m3 => wrK H1 b3 (Nat.add m3 nn2) (AV.i .u32 n3) fun H2 => Ka1 H2) (Ka1 H1)
def g298x4 := jF [] (fun H2 => onA p1 fun b1 m1 => rdK H2 b1 (Nat.add m1 nn10) fun v1 => isI .i64 v1 fun n1 => wrp .i64 (iadd n1 ii1) fun n2 => onA p1 fun b2 m2 => wrK H2 b2 (Nat.add m2 nn10) (AV.i .i64 n2) fun H3 => g298x3 p1 H3 c1 c2 Kb1) fun Ka1 => onA p1 fun b1 m1 => rdK H1 b1 (Nat.add m1 nn5) fun v1 => isI .i64 v1 fun n1 => onA p1 fun b2 m2 => rdK H1 b2 (Nat.add m2 nn1) fun v2 => isI .i64 v2 fun n2 => frcB (ile n2 n1) fun t2 => br t2 (onA p1 fun b3 m3 => rdK H1 b3 (Nat.add m3 nn4) fun v3 => isB v3 fun t3 => br t3 (Ka1 H1) (Kb2 (DV.v (AV.b t1)) H1)) (Kb2 (DV.v (AV.b t1)) H1)
/-- (*codel.state).more -/
def g298 : G DV := fun R1 H1 Kb1 => lc R1 fun d1 R2 => onV d1 fun v1 => isP v1 fun p1 => ln R2 <| jF [(3 , .bool)] (fun d2 H2 => onV d2 fun v2 => isB v2 fun t1 => Kb1 (DV.v (AV.b t1)) H2) fun Kb2 => lpR (failF [(3 , .bool)]) (fun Kb3 => fun d2 H2 => onV d2 fun v2 => isB v2 fun t1 => g298x4 t1 p1 H2 c1 c2 Kb3 Kb2) (nat_lit 100000) (DV.v (AV.b true)) H1
def G298 : G DV := g298 G297 G300

def g299x1 := rdK H1 b1 (Nat.add m1 nn5) fun v1 => isI .i64 v1 fun n1 => onA p1 fun b2 m2 => rdK H1 b2 (Nat.add m2 nn7) fun v2 => isI .i64 v2 fun n2 => onA p1 fun b3 m3 => rdK H1 b3 (Nat.add m3 nn2) fun v3 => isI .u32 v3 fun n3 => c1 [(DV.v (AV.i .i64 n1)), (DV.v (AV.i .i64 n2)), (DV.v (AV.i .u32 n3))] H1 fun d1 H2 => onV d1 fun v4 => isI .i64 v4 fun n4 => onA p1 fun b4 m4 => wrK H2 b4 (Nat.add m4 nn1) (AV.i .i64 n4) fun H3 => Kb1 (DV.v (AV.b t1)) H3
def g299x2 := jF [(56 , .bool)] (fun d1 H2 => onV d1 fun v1 => isB v1 fun t1 => br t1 (onA p1 fun b1 m1 => wrK H2 b1 (Nat.add m1 nn2) (AV.i .u32 n1) fun H3 => Ka1 H3) (Ka1 H2)) fun Kb1 => frcB (ilt ii1 n1) fun t1 => br t1 (onA p1 fun b1 m1 => rdK H1 b1 (Nat.add m1 nn5) fun v1 => isI .i64 v1 fun n2 => onA p1 fun b2 m2 => rdK H1 b2 (Nat.add m2 nn1) fun v2 => isI .i64 v2 fun n3 => wrp .i64 (isub n2 n3) fun n4 => onA p1 fun b3 m3 => rdK H1 b3 (Nat.add m3 nn7) fun v3 => isI .i64 v3 fun n5 => wrp .i64 (imul ii16 n5) fun n6 => frcB (ilt n4 n6) fun t2 => Kb1 (DV.v (AV.b t2)) H1) (Kb1 (DV.v (AV.b false)) H1)
def g299x3 := rdK H1 b1 (Nat.add m1 nn3) fun v1 => isI .u32 v1 fun n2 => wrp .u32 (isub n1 n2) fun n3 => onA p1 fun b2 m2 => wrK H1 b2 (Nat.add m2 nn2) (AV.i .u32 ii1) fun H2 => jF [] (fun H3 => onA p1 fun b3 m3 => rdK H3 b3 (Nat.add m3 nn2) fun v2 => isI .u32 v2 fun n4 => onA p1 fun b4 m4 => wrK H3 b4 (Nat.add m4 nn3) (AV.i .u32 n4) fun H4 => onA p1 fun b5 m5 => g299x1 m5 t1 p1 b5 H4 c1 Kb1) fun Ka1 => g299x2 n3 p1 H2 Ka1
def g299x4 := wrK H1 b1 (Nat.add m1 nn10) (AV.i .i64 n1) fun H2 => c1 [(DV.v (AV.p p1))] H2 fun d1 H3 => onC d1 fun d2 d3 => onV d2 fun v1 => isB v1 fun t1 => onC d3 fun d4 d5 => onV d4 fun v2 => isB v2 fun t2 => onN d5 <| onA p1 fun b2 m2 => wrK H3 b2 (Nat.add m2 nn4) (AV.b true) fun H4 => onA p1 fun b3 m3 => rdK H4 b3 (Nat.add m3 nn2) fun v3 => isI .u32 v3 fun n2 => onA p1 fun b4 m4 => g299x3 n2 m4 t1 p1 b4 H4 c2 Kb1
/-- (*codel.state).begins -/
def g299 : G DV := fun R1 H1 Kb1 => lc R1 fun d1 R2 => onV d1 fun v1 => isP v1 fun p1 => ln R2 <| onA p1 fun b1 m1 => rdK H1 b1 (Nat.add m1 nn10) fun v2 => isI .i64 v2 fun n1 => wrp .i64 (iadd n1 ii1) fun n2 => onA p1 fun b2 m2 => g299x4 n2 m2 p1 b2 H1 c1 c2 Kb1
def G299 : G DV := g299 G297 G300

def g296x1 := br t1 (onA p1 fun b1 m1 => wrK H1 b1 (Nat.add m1 nn4) (AV.b false) fun H2 => Kb1 (DV.v (AV.b true)) H2) (onA p1 fun b1 m1 => rdK H1 b1 (Nat.add m1 nn4) fun v1 => isB v1 fun t3 => br t3 (c1 [(DV.v (AV.p p1))] H1 fun d1 H2 => onV d1 fun v2 => isB v2 fun t4 => Kb1 (DV.v (AV.b t4)) H2) (br t2 (c2 [(DV.v (AV.p p1))] H1 fun d1 H2 => onV d1 fun v2 => isB v2 fun t4 => Kb1 (DV.v (AV.b t4)) H2) (Kb1 (DV.v (AV.b true)) H1)))
def g296x2 := br t1 (onA p1 fun b1 m1 => wrK H1 b1 (Nat.add m1 nn4) (AV.b false) fun H2 => Kb1 (DV.v (AV.b false)) H2) (onA p1 fun b1 m1 => rdK H1 b1 (Nat.add m1 nn4) fun v1 => isB v1 fun t3 => jn (fun d1 H2 => jn (fun d2 H3 => pickK t3 d2 (DV.v (AV.b false)) fun d3 => onV d3 fun v2 => isB v2 fun t4 => g296x1 t4 t2 p1 H3 c1 c2 Kb1) fun Kb2 => br t3 (onV d1 fun v2 => isB v2 fun t4 => frcB (bnot t4) fun t5 => Kb2 (DV.v (AV.b t5)) H2) (Kb2 DV.n H2)) fun Kb2 => br t3 (Kb2 (DV.v (AV.b t2)) H1) (Kb2 DV.n H1))
/-- (*codel.state).run -/
def g296 : G DV := fun R1 H1 Kb1 => lc R1 fun d1 R2 => onV d1 fun v1 => isP v1 fun p1 => ln R2 <| c1 [(DV.v (AV.p p1))] H1 fun d2 H2 => onC d2 fun d3 d4 => onV d3 fun v2 => isB v2 fun t1 => onC d4 fun d5 d6 => onV d5 fun v3 => isB v3 fun t2 => onN d6 <| frcB (bnot t1) fun t3 => g296x2 t3 t2 p1 H2 c2 c3 Kb1
def G296 : G DV := g296 G297 G298 G299

def z30 : T4 AV := (@T4.n AV yy0 (@T4.n AV yy0 te te te te) (@T4.n AV yy1 te te te te) (@T4.n AV yy1 te te te te) (@T4.n AV yy2 te te te te))
def g295x1 := alK H1 (lapp l1 ((AV.i .i64 n1) :: ((AV.i .i64 n2) :: ((AV.i .i64 n3) :: ((AV.i .i64 n4) :: ((AV.s s1) :: ((AV.i .i64 ii0) :: []))))))) fun b2 H2 => c1 [(DV.v (AV.p (AP.at b2 nn0)))] H2 fun d1 H3 => onV d1 fun v1 => isB v1 fun t1 => rdR H3 b2 nn0 nn5 fun l2 => rdK H3 b2 nn10 fun v2 => isI .i64 v2 fun n5 => must (Nat.beq (llen l2) nn5) <| wrL H3 b1 nn0 l2 fun H4 => rdK H4 b2 nn10 fun v3 => must (aveq (AV.i .i64 n5) v3) <| rdR H4 b1 nn0 nn5 fun l3 => Kb1 (DV.c (DV.a l3) (DV.c (DV.v (AV.i .i64 n5)) (DV.c (DV.v (AV.b t1)) DV.n))) H4
def g295x2 := isI .i64 v1 fun n3 => lc R1 fun d2 R2 => onV d2 fun v2 => isI .i64 v2 fun n4 => lc R2 fun d3 R3 => onV d3 fun v3 => isS v3 fun s1 => ln R3 <| cellsD d1 fun l1 => alK H1 l1 fun b1 H2 => alB H2 z30 nn5 nn0 fun b2 H3 => rdR H3 b1 nn0 nn5 fun l2 => asI (imax n1 ii0) fun n5 => asI (imin n5 ii1073741824) fun n6 => asI (imax n3 ii0) fun n7 => asI (imin n7 ii1073741824) fun n8 => must (Nat.beq (llen l2) nn5) <| g295x1 l2 n2 n6 n8 n4 b2 s1 H3 c1 Kb1
/-- (codel.Codel).Pull -/
def g295 : G DV := fun R1 H1 Kb1 => lc R1 fun d1 R2 => lc R2 fun d2 R3 => onV d2 fun v1 => isI .i64 v1 fun n1 => lc R3 fun d3 R4 => onV d3 fun v2 => isI .i64 v2 fun n2 => lc R4 fun d4 R5 => onV d4 fun v3 => g295x2 v3 d1 R5 n2 n1 H1 c1 Kb1
def G295 : G DV := g295 G296

def g293x1 := must (Nat.beq (llen l1) nn5) <| wrL H1 b1 nn0 l1 fun H2 => rdK H2 b1 nn3 fun v1 => isI .i64 v1 fun n2 => rdK H2 b1 nn4 fun v2 => isS v2 fun s2 => lenA s2 fun m1 => alB H2 (@T4.n AV (AV.i .i64 n2) (@T4.n AV (AV.i .i64 (Int.ofNat m1)) te te te te) te te te) nn2 nn0 fun b2 H3 => appD nn2 nn16 s1 (AS.sl b2 nn0 nn1 nn1) H3 fun s3 H4 => wrp .i64 (iadd n1 ii1) fun n3 => Kc1 (DV.v (AV.s s3)) (DV.v (AV.i .i64 n3)) H4
def g293x2 := isS v1 fun s1 => onV d1 fun v2 => isI .i64 v2 fun n3 => frcB (ilt n3 n1) fun t2 => br t2 (c1 [(DV.v (AV.p p1)), (DV.v (AV.i .i64 n2))] H1 fun d2 H2 => onL d2 fun l1 => must (Nat.beq (llen l1) nn5) <| alK H2 (lapp l1 []) fun b1 H3 => appD nn5 nn56 s1 (AS.sl b1 nn0 nn1 nn1) H3 fun s2 H4 => wrp .i64 (iadd n3 ii1) fun n4 => Kc1 (DV.v (AV.s s2)) (DV.v (AV.i .i64 n4)) H4) (Kb1 (DV.c (DV.v (AV.s s1)) (DV.c (DV.v (AV.b t1)) DV.n)) H1)
def g293x3 := alB H1 z30 nn5 nn0 fun b2 H2 => must (Nat.beq (llen l1) nn5) <| wrL H2 b2 nn0 l1 fun H3 => rdR H3 b2 nn0 nn5 fun l2 => must (Nat.beq (llen l2) nn5) <| wrL H3 b1 (Nat.add (Nat.add (Nat.add m1 nn3) (Nat.mul (itn n1) nn8)) nn3) l2 fun H4 => lpR (failF [(15 , .slice), (68 , .int .i64)]) (fun Kc1 => fun d1 d2 H5 => onV d1 fun v1 => g293x2 v1 d2 n2 n1 t1 p1 H5 c1 Kb1 Kc1) (nat_lit 100000) (DV.v (AV.s AS.nil)) (DV.v (AV.i .i64 ii0)) H4
def g293x4 := rdK H1 b1 (Nat.add (Nat.add (Nat.add m1 nn3) (Nat.mul (itn n1) nn8)) nn1) fun v1 => isI .i64 v1 fun n5 => c1 [(DV.a l1), (DV.v (AV.i .i64 n2)), (DV.v (AV.i .i64 n3)), (DV.v (AV.i .i64 n4)), (DV.v (AV.i .i64 n5)), (DV.v (AV.s s1))] H1 fun d1 H2 => onC d1 fun d2 d3 => onL d2 fun l2 => onC d3 fun d4 d5 => onV d4 fun v2 => isI .i64 v2 fun n6 => onC d5 fun d6 d7 => onV d6 fun v3 => isB v3 fun t1 => onN d7 <| g293x3 l2 n1 n6 m1 t1 p1 b1 H2 c2 Kb1
def g293x5 := br t1 (ixA s1 n1 (fun x => Nat.mul x nn5) fun b2 m2 => rdR H1 b2 m2 nn5 fun l1 => alB H1 z22 nn5 nn0 fun b3 H2 => g293x1 l1 n1 b3 s2 H2 Kc1) (rdR H1 b1 (Nat.add (Nat.add (Nat.add m1 nn3) (Nat.mul (itn n2) nn8)) nn3) nn5 fun l1 => onA p1 fun b2 m2 => rdK H1 b2 (Nat.add m2 nn1) fun v1 => isI .i64 v1 fun n4 => onA p1 fun b3 m3 => rdK H1 b3 (Nat.add m3 nn2) fun v2 => isI .i64 v2 fun n5 => g293x4 l1 n2 n3 n4 n5 m1 p1 b1 s2 H1 c1 c2 Kb1)
def g293x6 := onA p1 fun b1 m1 => rng n1 nn16 <| rdK H1 b1 (Nat.add (Nat.add m1 nn3) (Nat.mul (itn n1) nn8)) fun v1 => isS v1 fun s1 => lenA s1 fun m2 => lpR (failF [(9 , .slice), (26 , .int .i64)]) (fun Kc1 => fun d1 d2 H2 => onV d1 fun v2 => isS v2 fun s2 => onV d2 fun v3 => isI .i64 v3 fun n3 => frcB (ilt n3 (Int.ofNat m2)) fun t1 => g293x5 n3 n1 n2 m1 t1 p1 b1 s1 s2 H2 c1 c2 Kb1 Kc1) (nat_lit 100000) (DV.v (AV.s AS.nil)) (DV.v (AV.i .i64 ii0)) H1
/-- (*fq.Queue).pull -/
def g293 : G DV := fun R1 H1 Kb1 => lc R1 fun d1 R2 => onV d1 fun v1 => isP v1 fun p1 => lc R2 fun d2 R3 => onV d2 fun v2 => isI .i64 v2 fun n1 => lc R3 fun d3 R4 => onV d3 fun v3 => isI .i64 v3 fun n2 => ln R4 <| g293x6 n1 n2 p1 H1 c2 c1 Kb1
def G293 : G DV := g293 G266 G295
end
end Go.Proofs.YtbelmboeamkccaaGreatDoor
