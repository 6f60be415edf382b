/- Functions of the program on the abstract machine: written by a program (ggen) off the elaborated code. -/
import Derived.Test.YthooeildnkfpkaaGreatDoorAb18
set_option linter.unusedVariables false
set_option linter.constructorNameAsVariable false
set_option maxRecDepth 100000
namespace Go.Proofs.YthooeildnkfpkaaGreatDoor
open Go.Vc Go.Ab
noncomputable section
variable (v1 : AV) (l1 l2 l3 l4 : List AV) (L1 : List AP) (d1 d2 d3 d4 : DV) (R1 : List DV) (n1 n2 n3 n4 n5 n6 n7 n8 n9 : Int) (m1 m2 m3 m4 m5 : Nat) (t1 t2 t3 t4 : Bool) (p1 p2 p3 p4 p5 : AP) (b1 b2 b3 b4 b5 : P4) (s1 s2 s3 s4 s5 : AS) (H1 : AH) (x1 x2 : List Int) (c1 c2 c3 c4 c5 c6 c7 c8 c9 c10 c11 c12 c13 c14 c15 c16 : G DV) (Ka1 : AH → Option DV) (Kb1 Kb2 Kb3 : DV → AH → Option DV) (Kc1 Kc2 : DV → DV → AH → Option DV) (Kd1 : DV → DV → DV → AH → Option DV)
variable {ads : List Addr}
def ii0 : Int := Int.ofNat (nat_lit 0)
def ii1 : Int := Int.ofNat (nat_lit 1)
def ii10 : Int := Int.ofNat (nat_lit 10)
def ii100 : Int := Int.ofNat (nat_lit 100)
def ii1000 : Int := Int.ofNat (nat_lit 1000)
def ii10000 : Int := Int.ofNat (nat_lit 10000)
def ii100000 : Int := Int.ofNat (nat_lit 100000)
def ii1000000 : Int := Int.ofNat (nat_lit 1000000)
def ii101 : Int := Int.ofNat (nat_lit 101)
def ii102 : Int := Int.ofNat (nat_lit 102)
def ii1023 : Int := Int.ofNat (nat_lit 1023)
def ii1024 : Int := Int.ofNat (nat_lit 1024)
def ii103 : Int := Int.ofNat (nat_lit 103)
def ii104 : Int := Int.ofNat (nat_lit 104)
def ii1048576 : Int := Int.ofNat (nat_lit 1048576)
def ii105 : Int := Int.ofNat (nat_lit 105)
def ii1073741824 : Int := Int.ofNat (nat_lit 1073741824)
def ii108 : Int := Int.ofNat (nat_lit 108)
def ii1099511627776 : Int := Int.ofNat (nat_lit 1099511627776)
def ii11 : Int := Int.ofNat (nat_lit 11)
def ii1125899906842624 : Int := Int.ofNat (nat_lit 1125899906842624)
def ii1152921504606846976 : Int := Int.ofNat (nat_lit 1152921504606846976)
def ii12 : Int := Int.ofNat (nat_lit 12)
def ii128 : Int := Int.ofNat (nat_lit 128)
def ii13 : Int := Int.ofNat (nat_lit 13)
def ii132 : Int := Int.ofNat (nat_lit 132)
def ii136 : Int := Int.ofNat (nat_lit 136)
def ii144 : Int := Int.ofNat (nat_lit 144)
def ii148 : Int := Int.ofNat (nat_lit 148)
def ii15 : Int := Int.ofNat (nat_lit 15)
def ii1500 : Int := Int.ofNat (nat_lit 1500)
def ii1514 : Int := Int.ofNat (nat_lit 1514)
def ii16 : Int := Int.ofNat (nat_lit 16)
def ii160 : Int := Int.ofNat (nat_lit 160)
def ii164 : Int := Int.ofNat (nat_lit 164)
def ii192 : Int := Int.ofNat (nat_lit 192)
def ii1960 : Int := Int.ofNat (nat_lit 1960)
def ii2 : Int := Int.ofNat (nat_lit 2)
def ii20 : Int := Int.ofNat (nat_lit 20)
def ii200 : Int := Int.ofNat (nat_lit 200)
def ii20000 : Int := Int.ofNat (nat_lit 20000)
def ii200000 : Int := Int.ofNat (nat_lit 200000)
def ii2007 : Int := Int.ofNat (nat_lit 2007)
def ii2047 : Int := Int.ofNat (nat_lit 2047)
def ii2048 : Int := Int.ofNat (nat_lit 2048)
def ii208 : Int := Int.ofNat (nat_lit 208)
def ii2147483648 : Int := Int.ofNat (nat_lit 2147483648)
def ii215 : Int := Int.ofNat (nat_lit 215)
def ii216 : Int := Int.ofNat (nat_lit 216)
def ii22 : Int := Int.ofNat (nat_lit 22)
def ii23 : Int := Int.ofNat (nat_lit 23)
def ii234 : Int := Int.ofNat (nat_lit 234)
def ii24 : Int := Int.ofNat (nat_lit 24)
def ii25 : Int := Int.ofNat (nat_lit 25)
def ii255 : Int := Int.ofNat (nat_lit 255)
def ii256 : Int := Int.ofNat (nat_lit 256)
def ii26 : Int := Int.ofNat (nat_lit 26)
def ii28 : Int := Int.ofNat (nat_lit 28)
def ii3 : Int := Int.ofNat (nat_lit 3)
def ii30 : Int := Int.ofNat (nat_lit 30)
def ii300 : Int := Int.ofNat (nat_lit 300)
def ii32 : Int := Int.ofNat (nat_lit 32)
def ii320 : Int := Int.ofNat (nat_lit 320)
def ii33 : Int := Int.ofNat (nat_lit 33)
def ii36 : Int := Int.ofNat (nat_lit 36)
def ii360 : Int := Int.ofNat (nat_lit 360)
def ii4 : Int := Int.ofNat (nat_lit 4)
def ii40 : Int := Int.ofNat (nat_lit 40)
def ii4095 : Int := Int.ofNat (nat_lit 4095)
def ii4096 : Int := Int.ofNat (nat_lit 4096)
def ii4294967295 : Int := Int.ofNat (nat_lit 4294967295)
def ii4294967296 : Int := Int.ofNat (nat_lit 4294967296)
def ii468 : Int := Int.ofNat (nat_lit 468)
def ii48 : Int := Int.ofNat (nat_lit 48)
def ii49152 : Int := Int.ofNat (nat_lit 49152)
def ii5 : Int := Int.ofNat (nat_lit 5)
def ii50 : Int := Int.ofNat (nat_lit 50)
def ii50000 : Int := Int.ofNat (nat_lit 50000)
def ii512 : Int := Int.ofNat (nat_lit 512)
def ii52 : Int := Int.ofNat (nat_lit 52)
def ii54840 : Int := Int.ofNat (nat_lit 54840)
def ii6 : Int := Int.ofNat (nat_lit 6)
def ii600 : Int := Int.ofNat (nat_lit 600)
def ii63 : Int := Int.ofNat (nat_lit 63)
def ii64 : Int := Int.ofNat (nat_lit 64)
def ii65535 : Int := Int.ofNat (nat_lit 65535)
def ii65536 : Int := Int.ofNat (nat_lit 65536)
def ii7 : Int := Int.ofNat (nat_lit 7)
def ii72 : Int := Int.ofNat (nat_lit 72)
def ii73244475 : Int := Int.ofNat (nat_lit 73244475)
def ii78 : Int := Int.ofNat (nat_lit 78)
def ii8 : Int := Int.ofNat (nat_lit 8)
def ii80 : Int := Int.ofNat (nat_lit 80)
def ii8000 : Int := Int.ofNat (nat_lit 8000)
def ii9 : Int := Int.ofNat (nat_lit 9)
def ii96 : Int := Int.ofNat (nat_lit 96)
def ii980 : Int := Int.ofNat (nat_lit 980)
def im1 : Int := Int.negSucc (nat_lit 0)
def im63 : Int := Int.negSucc (nat_lit 62)
def nn0 : Nat := nat_lit 0
def nn1 : Nat := nat_lit 1
def nn10 : Nat := nat_lit 10
def nn100 : Nat := nat_lit 100
def nn101 : Nat := nat_lit 101
def nn102 : Nat := nat_lit 102
def nn103 : Nat := nat_lit 103
def nn104 : Nat := nat_lit 104
def nn105 : Nat := nat_lit 105
def nn106 : Nat := nat_lit 106
def nn107 : Nat := nat_lit 107
def nn108 : Nat := nat_lit 108
def nn109 : Nat := nat_lit 109
def nn11 : Nat := nat_lit 11
def nn110 : Nat := nat_lit 110
def nn111 : Nat := nat_lit 111
def nn112 : Nat := nat_lit 112
def nn113 : Nat := nat_lit 113
def nn114 : Nat := nat_lit 114
def nn115 : Nat := nat_lit 115
def nn116 : Nat := nat_lit 116
def nn117 : Nat := nat_lit 117
def nn118 : Nat := nat_lit 118
def nn119 : Nat := nat_lit 119
def nn12 : Nat := nat_lit 12
def nn120 : Nat := nat_lit 120
def nn121 : Nat := nat_lit 121
def nn122 : Nat := nat_lit 122
def nn123 : Nat := nat_lit 123
def nn124 : Nat := nat_lit 124
def nn125 : Nat := nat_lit 125
def nn126 : Nat := nat_lit 126
def nn127 : Nat := nat_lit 127
def nn128 : Nat := nat_lit 128
def nn129 : Nat := nat_lit 129
def nn13 : Nat := nat_lit 13
def nn130 : Nat := nat_lit 130
def nn131 : Nat := nat_lit 131
def nn132 : Nat := nat_lit 132
def nn133 : Nat := nat_lit 133
def nn134 : Nat := nat_lit 134
def nn135 : Nat := nat_lit 135
def nn136 : Nat := nat_lit 136
def nn137 : Nat := nat_lit 137
def nn138 : Nat := nat_lit 138
def nn139 : Nat := nat_lit 139
def nn14 : Nat := nat_lit 14
def nn140 : Nat := nat_lit 140
def nn141 : Nat := nat_lit 141
def nn142 : Nat := nat_lit 142
def nn143 : Nat := nat_lit 143
def nn144 : Nat := nat_lit 144
def nn145 : Nat := nat_lit 145
def nn146 : Nat := nat_lit 146
def nn147 : Nat := nat_lit 147
def nn148 : Nat := nat_lit 148
def nn149 : Nat := nat_lit 149
def nn15 : Nat := nat_lit 15
def nn150 : Nat := nat_lit 150
def nn151 : Nat := nat_lit 151
def nn152 : Nat := nat_lit 152
def nn153 : Nat := nat_lit 153
def nn154 : Nat := nat_lit 154
def nn155 : Nat := nat_lit 155
def nn156 : Nat := nat_lit 156
def nn157 : Nat := nat_lit 157
def nn158 : Nat := nat_lit 158
def nn159 : Nat := nat_lit 159
def nn16 : Nat := nat_lit 16
def nn160 : Nat := nat_lit 160
def nn161 : Nat := nat_lit 161
def nn162 : Nat := nat_lit 162
def nn163 : Nat := nat_lit 163
def nn164 : Nat := nat_lit 164
def nn165 : Nat := nat_lit 165
def nn166 : Nat := nat_lit 166
def nn167 : Nat := nat_lit 167
def nn168 : Nat := nat_lit 168
def nn169 : Nat := nat_lit 169
def nn17 : Nat := nat_lit 17
def nn170 : Nat := nat_lit 170
def nn171 : Nat := nat_lit 171
def nn172 : Nat := nat_lit 172
def nn173 : Nat := nat_lit 173
def nn174 : Nat := nat_lit 174
def nn175 : Nat := nat_lit 175
def nn176 : Nat := nat_lit 176
def nn177 : Nat := nat_lit 177
def nn178 : Nat := nat_lit 178
def nn179 : Nat := nat_lit 179
def nn18 : Nat := nat_lit 18
def nn180 : Nat := nat_lit 180
def nn181 : Nat := nat_lit 181
def nn182 : Nat := nat_lit 182
def nn183 : Nat := nat_lit 183
def nn184 : Nat := nat_lit 184
def nn185 : Nat := nat_lit 185
def nn186 : Nat := nat_lit 186
def nn187 : Nat := nat_lit 187
def nn188 : Nat := nat_lit 188
def nn189 : Nat := nat_lit 189
def nn19 : Nat := nat_lit 19
def nn190 : Nat := nat_lit 190
def nn191 : Nat := nat_lit 191
def nn192 : Nat := nat_lit 192
def nn193 : Nat := nat_lit 193
def nn194 : Nat := nat_lit 194
def nn195 : Nat := nat_lit 195
def nn196 : Nat := nat_lit 196
def nn197 : Nat := nat_lit 197
def nn198 : Nat := nat_lit 198
def nn199 : Nat := nat_lit 199
def nn2 : Nat := nat_lit 2
def nn20 : Nat := nat_lit 20
def nn200 : Nat := nat_lit 200
def nn201 : Nat := nat_lit 201
def nn202 : Nat := nat_lit 202
def nn203 : Nat := nat_lit 203
def nn204 : Nat := nat_lit 204
def nn205 : Nat := nat_lit 205
def nn206 : Nat := nat_lit 206
def nn207 : Nat := nat_lit 207
def nn208 : Nat := nat_lit 208
def nn209 : Nat := nat_lit 209
def nn21 : Nat := nat_lit 21
def nn210 : Nat := nat_lit 210
def nn211 : Nat := nat_lit 211
def nn212 : Nat := nat_lit 212
def nn213 : Nat := nat_lit 213
def nn214 : Nat := nat_lit 214
def nn215 : Nat := nat_lit 215
def nn216 : Nat := nat_lit 216
def nn217 : Nat := nat_lit 217
def nn218 : Nat := nat_lit 218
def nn219 : Nat := nat_lit 219
def nn22 : Nat := nat_lit 22
def nn220 : Nat := nat_lit 220
def nn221 : Nat := nat_lit 221
def nn222 : Nat := nat_lit 222
def nn223 : Nat := nat_lit 223
def nn224 : Nat := nat_lit 224
def nn225 : Nat := nat_lit 225
def nn226 : Nat := nat_lit 226
def nn227 : Nat := nat_lit 227
def nn228 : Nat := nat_lit 228
def nn229 : Nat := nat_lit 229
def nn23 : Nat := nat_lit 23
def nn230 : Nat := nat_lit 230
def nn231 : Nat := nat_lit 231
def nn232 : Nat := nat_lit 232
def nn233 : Nat := nat_lit 233
def nn234 : Nat := nat_lit 234
def nn235 : Nat := nat_lit 235
def nn236 : Nat := nat_lit 236
def nn237 : Nat := nat_lit 237
def nn238 : Nat := nat_lit 238
def nn239 : Nat := nat_lit 239
def nn24 : Nat := nat_lit 24
def nn240 : Nat := nat_lit 240
def nn241 : Nat := nat_lit 241
def nn242 : Nat := nat_lit 242
def nn243 : Nat := nat_lit 243
def nn244 : Nat := nat_lit 244
def nn245 : Nat := nat_lit 245
def nn246 : Nat := nat_lit 246
def nn247 : Nat := nat_lit 247
def nn248 : Nat := nat_lit 248
def nn249 : Nat := nat_lit 249
def nn25 : Nat := nat_lit 25
def nn250 : Nat := nat_lit 250
def nn251 : Nat := nat_lit 251
def nn252 : Nat := nat_lit 252
def nn253 : Nat := nat_lit 253
def nn254 : Nat := nat_lit 254
def nn255 : Nat := nat_lit 255
def nn256 : Nat := nat_lit 256
def nn257 : Nat := nat_lit 257
def nn258 : Nat := nat_lit 258
def nn259 : Nat := nat_lit 259
def nn26 : Nat := nat_lit 26
def nn260 : Nat := nat_lit 260
def nn261 : Nat := nat_lit 261
def nn262 : Nat := nat_lit 262
def nn263 : Nat := nat_lit 263
def nn264 : Nat := nat_lit 264
def nn265 : Nat := nat_lit 265
def nn266 : Nat := nat_lit 266
def nn267 : Nat := nat_lit 267
def nn268 : Nat := nat_lit 268
def nn269 : Nat := nat_lit 269
def nn27 : Nat := nat_lit 27
def nn270 : Nat := nat_lit 270
def nn271 : Nat := nat_lit 271
def nn272 : Nat := nat_lit 272
def nn273 : Nat := nat_lit 273
def nn274 : Nat := nat_lit 274
def nn275 : Nat := nat_lit 275
def nn276 : Nat := nat_lit 276
def nn277 : Nat := nat_lit 277
def nn278 : Nat := nat_lit 278
def nn279 : Nat := nat_lit 279
def nn28 : Nat := nat_lit 28
def nn280 : Nat := nat_lit 280
def nn281 : Nat := nat_lit 281
def nn282 : Nat := nat_lit 282
def nn283 : Nat := nat_lit 283
def nn284 : Nat := nat_lit 284
def nn285 : Nat := nat_lit 285
def nn286 : Nat := nat_lit 286
def nn287 : Nat := nat_lit 287
def nn288 : Nat := nat_lit 288
def nn289 : Nat := nat_lit 289
def nn29 : Nat := nat_lit 29
def nn290 : Nat := nat_lit 290
def nn291 : Nat := nat_lit 291
def nn292 : Nat := nat_lit 292
def nn293 : Nat := nat_lit 293
def nn294 : Nat := nat_lit 294
def nn295 : Nat := nat_lit 295
def nn296 : Nat := nat_lit 296
def nn297 : Nat := nat_lit 297
def nn298 : Nat := nat_lit 298
def nn299 : Nat := nat_lit 299
def nn3 : Nat := nat_lit 3
def nn30 : Nat := nat_lit 30
def nn300 : Nat := nat_lit 300
def nn301 : Nat := nat_lit 301
def nn302 : Nat := nat_lit 302
def nn303 : Nat := nat_lit 303
def nn304 : Nat := nat_lit 304
def nn306 : Nat := nat_lit 306
def nn307 : Nat := nat_lit 307
def nn308 : Nat := nat_lit 308
def nn309 : Nat := nat_lit 309
def nn31 : Nat := nat_lit 31
def nn310 : Nat := nat_lit 310
def nn311 : Nat := nat_lit 311
def nn312 : Nat := nat_lit 312
def nn313 : Nat := nat_lit 313
def nn314 : Nat := nat_lit 314
def nn315 : Nat := nat_lit 315
def nn316 : Nat := nat_lit 316
def nn317 : Nat := nat_lit 317
def nn318 : Nat := nat_lit 318
def nn319 : Nat := nat_lit 319
def nn32 : Nat := nat_lit 32
def nn320 : Nat := nat_lit 320
def nn321 : Nat := nat_lit 321
def nn322 : Nat := nat_lit 322
def nn323 : Nat := nat_lit 323
def nn329 : Nat := nat_lit 329
def nn33 : Nat := nat_lit 33
def nn34 : Nat := nat_lit 34
def nn345 : Nat := nat_lit 345
def nn346 : Nat := nat_lit 346
def nn347 : Nat := nat_lit 347
def nn348 : Nat := nat_lit 348
def nn35 : Nat := nat_lit 35
def nn36 : Nat := nat_lit 36
def nn37 : Nat := nat_lit 37
def nn38 : Nat := nat_lit 38
def nn39 : Nat := nat_lit 39
def nn4 : Nat := nat_lit 4
def nn40 : Nat := nat_lit 40
def nn41 : Nat := nat_lit 41
def nn42 : Nat := nat_lit 42
def nn43 : Nat := nat_lit 43
def nn44 : Nat := nat_lit 44
def nn45 : Nat := nat_lit 45
def nn46 : Nat := nat_lit 46
def nn47 : Nat := nat_lit 47
def nn48 : Nat := nat_lit 48
def nn49 : Nat := nat_lit 49
def nn5 : Nat := nat_lit 5
def nn50 : Nat := nat_lit 50
def nn51 : Nat := nat_lit 51
def nn52 : Nat := nat_lit 52
def nn53 : Nat := nat_lit 53
def nn54 : Nat := nat_lit 54
def nn55 : Nat := nat_lit 55
def nn56 : Nat := nat_lit 56
def nn57 : Nat := nat_lit 57
def nn58 : Nat := nat_lit 58
def nn59 : Nat := nat_lit 59
def nn6 : Nat := nat_lit 6
def nn60 : Nat := nat_lit 60
def nn61 : Nat := nat_lit 61
def nn62 : Nat := nat_lit 62
def nn63 : Nat := nat_lit 63
def nn64 : Nat := nat_lit 64
def nn65 : Nat := nat_lit 65
def nn66 : Nat := nat_lit 66
def nn67 : Nat := nat_lit 67
def nn68 : Nat := nat_lit 68
def nn69 : Nat := nat_lit 69
def nn7 : Nat := nat_lit 7
def nn70 : Nat := nat_lit 70
def nn71 : Nat := nat_lit 71
def nn72 : Nat := nat_lit 72
def nn73 : Nat := nat_lit 73
def nn74 : Nat := nat_lit 74
def nn75 : Nat := nat_lit 75
def nn76 : Nat := nat_lit 76
def nn77 : Nat := nat_lit 77
def nn78 : Nat := nat_lit 78
def nn79 : Nat := nat_lit 79
def nn8 : Nat := nat_lit 8
def nn80 : Nat := nat_lit 80
def nn81 : Nat := nat_lit 81
def nn82 : Nat := nat_lit 82
def nn83 : Nat := nat_lit 83
def nn84 : Nat := nat_lit 84
def nn85 : Nat := nat_lit 85
def nn86 : Nat := nat_lit 86
def nn87 : Nat := nat_lit 87
def nn88 : Nat := nat_lit 88
def nn89 : Nat := nat_lit 89
def nn9 : Nat := nat_lit 9
def nn90 : Nat := nat_lit 90
def nn91 : Nat := nat_lit 91
def nn92 : Nat := nat_lit 92
def nn93 : Nat := nat_lit 93
def nn94 : Nat := nat_lit 94
def nn95 : Nat := nat_lit 95
def nn96 : Nat := nat_lit 96
def nn97 : Nat := nat_lit 97
def nn98 : Nat := nat_lit 98
def nn99 : Nat := nat_lit 99
def yy0 : AV := (AV.i .u8 ii0)
def yy1 : AV := (AV.i .i64 ii0)
def yy10 : AV := (AV.i .i64 ii3)
def yy11 : AV := (AV.i .i64 ii2)
def yy12 : AV := (AV.i .i64 ii1023)
def yy13 : AV := (AV.i .i64 ii63)
def yy14 : AV := (AV.i .u8 ii208)
def yy15 : AV := (AV.i .u8 ii3)
def yy16 : AV := (AV.i .i64 ii20)
def yy17 : AV := (AV.i .i64 ii40)
def yy18 : AV := (AV.i .i64 ii80)
def yy19 : AV := (AV.i .i64 ii160)
def yy2 : AV := (AV.i .u32 ii0)
def yy20 : AV := (AV.i .i64 ii6)
def yy21 : AV := (AV.i .i64 ii4)
def yy22 : AV := (AV.i .i64 ii10)
def yy23 : AV := (AV.i .i64 ii5)
def yy24 : AV := (AV.i .i64 ii8)
def yy25 : AV := (AV.i .i64 ii234)
def yy26 : AV := (AV.i .i64 ii468)
def yy27 : AV := (AV.i .i64 ii980)
def yy28 : AV := (AV.i .i64 ii1960)
def yy29 : AV := (AV.i .i64 ii52)
def yy3 : AV := (AV.b false)
def yy30 : AV := (AV.i .i64 ii108)
def yy31 : AV := (AV.i .i64 ii24)
def yy32 : AV := (AV.i .i64 ii36)
def yy33 : AV := (AV.i .i64 ii144)
def yy34 : AV := (AV.i .i64 ii48)
def yy35 : AV := (AV.i .i64 ii192)
def yy36 : AV := (AV.i .i64 ii72)
def yy37 : AV := (AV.i .i64 ii216)
def yy38 : AV := (AV.i .i64 ii96)
def yy39 : AV := (AV.i .i64 ii136)
def yy4 : AV := (AV.s AS.nil)
def yy40 : AV := (AV.i .u8 ii136)
def yy41 : AV := (AV.i .u8 ii78)
def yy42 : AV := (AV.i .u8 ii1)
def yy43 : AV := (AV.i .u8 ii2)
def yy44 : AV := (AV.i .u64 ii0)
def yy45 : AV := (AV.i .u8 ii148)
def yy46 : AV := (AV.i .u8 ii132)
def yy47 : AV := (AV.i .u8 ii164)
def yy48 : AV := (AV.i .i64 ii50)
def yy49 : AV := (AV.i .i64 ii100)
def yy5 : AV := (AV.p AP.nil)
def yy6 : AV := (AV.i .i64 ii1)
def yy7 : AV := AV.nf
def yy8 : AV := (AV.i .i64 ii15)
def yy9 : AV := (AV.i .i64 ii7)
def z0 : T4 AV := (@T4.n AV yy0 (@T4.n AV yy0 (@T4.n AV yy0 te te te te) te te te) (@T4.n AV yy0 te te te te) (@T4.n AV yy0 te te te te) (@T4.n AV yy0 te te te te))
def z1 : List AV := [(AV.i .u8 ii2), (AV.i .u8 ii0), (AV.i .u8 ii0), (AV.i .u8 ii0), (AV.i .u8 ii1), (AV.i .u8 ii0)]
/-- muezzinair.BSS -/
def g23 : G DV := fun R1 H1 Kb1 => ln R1 <| alB H1 z0 nn6 nn0 fun b1 H2 => wrL H2 b1 nn0 z1 fun H3 => rdR H3 b1 nn0 nn6 fun l1 => Kb1 (DV.a l1) H3
def G23 : G DV := g23

def z2 : T4 AV := (@T4.n AV yy0 (@T4.n AV yy0 (@T4.n AV yy0 te te te te) (@T4.n AV yy1 te te te te) (@T4.n AV yy1 te te te te) (@T4.n AV yy1 te te te te)) (@T4.n AV yy0 (@T4.n AV yy2 te te te te) (@T4.n AV yy1 te te te te) (@T4.n AV yy1 te te te te) (@T4.n AV yy1 te te te te)) (@T4.n AV yy0 (@T4.n AV yy1 te te te te) (@T4.n AV yy1 te te te te) (@T4.n AV yy1 te te te te) (@T4.n AV yy1 te te te te)) (@T4.n AV yy0 (@T4.n AV yy1 te te te te) (@T4.n AV yy1 te te te te) (@T4.n AV yy1 te te te te) (@T4.n AV yy1 te te te te)))
def z3 : List AV := [(AV.i .i64 ii600), (AV.i .i64 ii600), (AV.i .i64 ii600), (AV.i .i64 ii600)]
def g9x1 := br t1 (wrK H1 b1 nn11 (AV.i .i64 ii4) fun H2 => wrK H2 b1 nn13 (AV.i .i64 ii20000) fun H3 => wrK H3 b1 nn9 (AV.i .i64 ii100) fun H4 => wrK H4 b1 nn10 (AV.i .i64 ii1000) fun H5 => wrK H5 b1 nn8 (AV.i .i64 ii100000) fun H6 => Ka1 H6) (frcB (ieq n1 ii4) fun t2 => br t2 (wrK H1 b1 nn11 (AV.i .i64 ii8) fun H2 => wrK H2 b1 nn12 (AV.i .i64 ii5) fun H3 => wrK H3 b1 nn14 (AV.i .i64 ii300) fun H4 => wrL H4 b1 nn15 z3 fun H5 => Ka1 H5) (Ka1 H1))
def g9x2 := asI (irem n1 ii5) fun n2 => frcB (ieq n2 ii1) fun t1 => br t1 (wrK H1 b1 nn11 (AV.i .i64 ii1) fun H2 => wrK H2 b1 nn12 (AV.i .i64 ii0) fun H3 => Ka1 H3) (frcB (ieq n2 ii2) fun t2 => br t2 (wrK H1 b1 nn11 (AV.i .i64 ii64) fun H2 => wrK H2 b1 nn7 (AV.i .i64 ii9) fun H3 => wrK H3 b1 nn19 (AV.i .i64 ii0) fun H4 => wrK H4 b1 nn20 (AV.i .i64 ii0) fun H5 => Ka1 H5) (frcB (ieq n2 ii3) fun t3 => g9x1 n2 t3 b1 H1 Ka1))
def g9x3 := wrL H1 b1 nn0 (lapp l1 ((AV.i .u32 n1) :: ((AV.i .i64 ii40) :: ((AV.i .i64 ii8000) :: ((AV.i .i64 ii50000) :: ((AV.i .i64 ii1000000) :: ((AV.i .i64 ii16) :: ((AV.i .i64 ii2) :: ((AV.i .i64 ii1073741824) :: ((AV.i .i64 ii20000) :: ((AV.i .i64 ii0) :: ((AV.i .i64 ii0) :: ((AV.i .i64 ii0) :: ((AV.i .i64 ii0) :: ((AV.i .i64 ii100000) :: ((AV.i .i64 ii200000) :: [])))))))))))))))) fun H2 => jF [] (fun H3 => rdR H3 b1 nn0 nn21 fun l2 => must (Nat.beq (llen l2) nn21) <| wrL H3 b2 nn0 l2 fun H4 => rdR H4 b2 nn0 nn21 fun l3 => Kb1 (DV.a l3) H4) fun Ka1 => must (bnot (ieq ii5 ii0)) <| g9x2 n2 b1 H2 Ka1
def g9x4 := alB H1 z2 nn21 nn0 fun b2 H2 => must (Nat.beq (llen (lapp l1 ((AV.i .u32 n1) :: ((AV.i .i64 ii40) :: ((AV.i .i64 ii8000) :: ((AV.i .i64 ii50000) :: ((AV.i .i64 ii1000000) :: ((AV.i .i64 ii16) :: ((AV.i .i64 ii2) :: ((AV.i .i64 ii1073741824) :: ((AV.i .i64 ii20000) :: ((AV.i .i64 ii0) :: ((AV.i .i64 ii0) :: ((AV.i .i64 ii0) :: ((AV.i .i64 ii0) :: ((AV.i .i64 ii100000) :: ((AV.i .i64 ii200000) :: []))))))))))))))))) nn21) <| g9x3 l1 n1 n2 b2 b1 H2 Kb1
/-- muezzinair.Config -/
def g9 : G DV := fun R1 H1 Kb1 => lc R1 fun d1 R2 => onV d1 fun v1 => isI .i64 v1 fun n1 => ln R2 <| alB H1 z2 nn21 nn0 fun b1 H2 => c1 [(DV.v (AV.i .i64 n1)), (DV.v (AV.i .i64 ii1048576))] H2 fun d2 H3 => onV d2 fun v2 => isI .i64 v2 fun n2 => c2 [] H3 fun d3 H4 => onL d3 fun l1 => wrp .u32 n2 fun n3 => must (Nat.beq (llen l1) nn6) <| g9x4 l1 n3 n2 b1 H4 Kb1
def G9 : G DV := g9 gNumber.G G23

def g195x1 := alB H1 (@T4.n AV (AV.i .u32 n1) (@T4.n AV (AV.i .i64 n2) (@T4.n AV yy1 (@T4.n AV yy1 (@T4.n AV yy1 te te te te) te te te) (@T4.n AV yy1 (@T4.n AV yy1 te te te te) te te te) (@T4.n AV yy1 (@T4.n AV yy1 te te te te) te te te) (@T4.n AV yy1 (@T4.n AV yy1 te te te te) te te te)) (@T4.n AV yy2 (@T4.n AV yy2 (@T4.n AV yy2 te te te te) te te te) (@T4.n AV yy2 (@T4.n AV yy2 te te te te) te te te) (@T4.n AV yy2 (@T4.n AV yy2 te te te te) te te te) (@T4.n AV yy2 te te te te)) (@T4.n AV yy1 (@T4.n AV yy1 (@T4.n AV yy1 te te te te) te te te) (@T4.n AV yy1 (@T4.n AV yy1 te te te te) te te te) (@T4.n AV yy1 (@T4.n AV yy1 te te te te) te te te) (@T4.n AV yy1 te te te te)) (@T4.n AV yy2 (@T4.n AV yy2 (@T4.n AV yy2 te te te te) te te te) (@T4.n AV yy2 (@T4.n AV yy2 te te te te) te te te) (@T4.n AV yy2 (@T4.n AV yy2 te te te te) te te te) (@T4.n AV yy2 te te te te))) (@T4.n AV (AV.i .i64 n3) (@T4.n AV yy1 (@T4.n AV yy1 (@T4.n AV yy1 te te te te) te te te) (@T4.n AV yy1 (@T4.n AV yy1 te te te te) te te te) (@T4.n AV yy1 (@T4.n AV yy1 te te te te) te te te) (@T4.n AV yy1 (@T4.n AV yy1 te te te te) te te te)) (@T4.n AV yy3 (@T4.n AV yy3 (@T4.n AV yy3 te te te te) te te te) (@T4.n AV yy3 (@T4.n AV yy3 te te te te) te te te) (@T4.n AV yy3 (@T4.n AV yy3 te te te te) te te te) (@T4.n AV yy3 te te te te)) (@T4.n AV yy1 (@T4.n AV yy1 (@T4.n AV yy1 te te te te) te te te) (@T4.n AV yy1 (@T4.n AV yy1 te te te te) te te te) (@T4.n AV yy1 (@T4.n AV yy1 te te te te) te te te) (@T4.n AV yy1 te te te te)) (@T4.n AV yy3 (@T4.n AV yy3 (@T4.n AV yy3 te te te te) te te te) (@T4.n AV yy3 (@T4.n AV yy3 te te te te) te te te) (@T4.n AV yy3 (@T4.n AV yy3 te te te te) te te te) (@T4.n AV yy3 te te te te))) (@T4.n AV yy4 (@T4.n AV yy1 (@T4.n AV yy1 (@T4.n AV yy1 te te te te) te te te) (@T4.n AV yy1 (@T4.n AV yy1 te te te te) te te te) (@T4.n AV yy1 (@T4.n AV yy1 te te te te) te te te) (@T4.n AV yy1 te te te te)) (@T4.n AV yy4 (@T4.n AV yy4 (@T4.n AV yy4 te te te te) te te te) (@T4.n AV yy4 (@T4.n AV yy4 te te te te) te te te) (@T4.n AV yy4 (@T4.n AV yy4 te te te te) te te te) (@T4.n AV yy4 te te te te)) (@T4.n AV yy1 (@T4.n AV yy1 (@T4.n AV yy1 te te te te) te te te) (@T4.n AV yy1 (@T4.n AV yy1 te te te te) te te te) (@T4.n AV yy1 (@T4.n AV yy1 te te te te) te te te) (@T4.n AV yy1 te te te te)) (@T4.n AV yy4 (@T4.n AV yy4 (@T4.n AV yy4 te te te te) te te te) (@T4.n AV yy4 (@T4.n AV yy4 te te te te) te te te) (@T4.n AV yy4 (@T4.n AV yy4 te te te te) te te te) (@T4.n AV yy4 te te te te))) (@T4.n AV yy1 (@T4.n AV yy2 (@T4.n AV yy2 (@T4.n AV yy2 te te te te) te te te) (@T4.n AV yy2 (@T4.n AV yy2 te te te te) te te te) (@T4.n AV yy2 (@T4.n AV yy2 te te te te) te te te) (@T4.n AV yy2 te te te te)) (@T4.n AV yy1 (@T4.n AV yy1 (@T4.n AV yy1 te te te te) te te te) (@T4.n AV yy1 (@T4.n AV yy1 te te te te) te te te) (@T4.n AV yy1 (@T4.n AV yy1 te te te te) te te te) (@T4.n AV yy1 te te te te)) (@T4.n AV yy2 (@T4.n AV yy2 (@T4.n AV yy2 te te te te) te te te) (@T4.n AV yy2 (@T4.n AV yy2 te te te te) te te te) (@T4.n AV yy2 (@T4.n AV yy2 te te te te) te te te) (@T4.n AV yy2 te te te te)) (@T4.n AV yy1 (@T4.n AV yy1 (@T4.n AV yy1 te te te te) te te te) (@T4.n AV yy1 (@T4.n AV yy1 te te te te) te te te) (@T4.n AV yy1 (@T4.n AV yy4 te te te te) te te te) (@T4.n AV yy1 te te te te)))) nn135 nn0 fun b1 H2 => Kb1 (DV.v (AV.p (AP.at b1 nn0))) H2
/-- fq.New -/
def g195 : G DV := fun R1 H1 Kb1 => lc R1 fun d1 R2 => onV d1 fun v1 => isI .u32 v1 fun n1 => lc R2 fun d2 R3 => onV d2 fun v2 => isI .i64 v2 fun n2 => lc R3 fun d3 R4 => onV d3 fun v3 => isI .i64 v3 fun n3 => ln R4 <| g195x1 n1 n2 n3 H1 Kb1
def G195 : G DV := g195

def g106x1 := isI .i64 v1 fun n4 => onA p1 fun b1 m1 => rdK H1 b1 (Nat.add m1 nn2) fun v2 => isI .i64 v2 fun n5 => onA p1 fun b2 m2 => rng n1 nn16 <| c1 [(DV.v (AV.i .u32 n2)), (DV.v (AV.i .i64 n4)), (DV.v (AV.i .i64 n5))] H1 fun d1 H2 => onV d1 fun v3 => isP v3 fun p2 => rng n3 nn8 <| wrK H2 b2 (Nat.add (Nat.add (Nat.add m2 nn5) (Nat.mul (itn n1) nn8)) (itn n3)) (AV.p p2) fun H3 => wrp .i64 (iadd n3 ii1) fun n6 => Kb1 (DV.v (AV.i .i64 n6)) H3
def g106x2 := isP v1 fun p1 => lc R1 fun d1 R2 => onV d1 fun v2 => isI .i64 v2 fun n1 => ln R2 <| lpR (failF [(5 , .int .i64)]) (fun Kb2 => fun d2 H2 => onV d2 fun v3 => isI .i64 v3 fun n2 => frcB (ilt n2 ii8) fun t1 => br t1 (onA p1 fun b1 m1 => rdK H2 b1 m1 fun v4 => isI .u32 v4 fun n3 => onA p1 fun b2 m2 => rdK H2 b2 (Nat.add m2 nn1) fun v5 => g106x1 v5 n1 n3 n2 p1 H2 c1 Kb2) (Kb1 DV.n H2)) (nat_lit 100000) (DV.v (AV.i .i64 ii0)) H1
/-- (*pool.Pool).renew -/
def g106 : G DV := fun R1 H1 Kb1 => lc R1 fun d1 R2 => onV d1 fun v1 => g106x2 v1 R2 H1 c1 Kb1
def G106 : G DV := g106 G195

def g50x1 := alB H1 (@T4.n AV (AV.i .u32 n1) (@T4.n AV (AV.i .i64 n2) (@T4.n AV yy5 (@T4.n AV yy5 (@T4.n AV yy5 te te te te) te te te) (@T4.n AV yy5 (@T4.n AV yy5 te te te te) te te te) (@T4.n AV yy5 (@T4.n AV yy5 te te te te) te te te) (@T4.n AV yy5 te te te te)) (@T4.n AV yy5 (@T4.n AV yy5 (@T4.n AV yy5 te te te te) te te te) (@T4.n AV yy5 (@T4.n AV yy5 te te te te) te te te) (@T4.n AV yy5 (@T4.n AV yy5 te te te te) te te te) (@T4.n AV yy5 te te te te)) (@T4.n AV yy5 (@T4.n AV yy5 (@T4.n AV yy5 te te te te) te te te) (@T4.n AV yy5 (@T4.n AV yy5 te te te te) te te te) (@T4.n AV yy5 (@T4.n AV yy5 te te te te) te te te) (@T4.n AV yy5 te te te te)) (@T4.n AV yy5 (@T4.n AV yy5 (@T4.n AV yy5 te te te te) te te te) (@T4.n AV yy5 (@T4.n AV yy5 te te te te) te te te) (@T4.n AV yy5 (@T4.n AV yy5 te te te te) te te te) (@T4.n AV yy5 te te te te))) (@T4.n AV (AV.i .i64 n3) (@T4.n AV yy5 (@T4.n AV yy5 (@T4.n AV yy5 te te te te) te te te) (@T4.n AV yy5 (@T4.n AV yy5 te te te te) te te te) (@T4.n AV yy5 (@T4.n AV yy5 te te te te) te te te) (@T4.n AV yy5 te te te te)) (@T4.n AV yy5 (@T4.n AV yy5 (@T4.n AV yy5 te te te te) te te te) (@T4.n AV yy5 (@T4.n AV yy5 te te te te) te te te) (@T4.n AV yy5 (@T4.n AV yy5 te te te te) te te te) (@T4.n AV yy5 te te te te)) (@T4.n AV yy5 (@T4.n AV yy5 (@T4.n AV yy5 te te te te) te te te) (@T4.n AV yy5 (@T4.n AV yy5 te te te te) te te te) (@T4.n AV yy5 (@T4.n AV yy5 te te te te) te te te) (@T4.n AV yy5 te te te te)) (@T4.n AV yy5 (@T4.n AV yy5 (@T4.n AV yy5 te te te te) te te te) (@T4.n AV yy5 (@T4.n AV yy5 te te te te) te te te) (@T4.n AV yy5 (@T4.n AV yy5 te te te te) te te te) (@T4.n AV yy5 te te te te))) (@T4.n AV (AV.i .i64 n4) (@T4.n AV yy5 (@T4.n AV yy5 (@T4.n AV yy5 te te te te) te te te) (@T4.n AV yy5 (@T4.n AV yy5 te te te te) te te te) (@T4.n AV yy5 (@T4.n AV yy5 te te te te) te te te) (@T4.n AV yy5 te te te te)) (@T4.n AV yy5 (@T4.n AV yy5 (@T4.n AV yy5 te te te te) te te te) (@T4.n AV yy5 (@T4.n AV yy5 te te te te) te te te) (@T4.n AV yy5 (@T4.n AV yy5 te te te te) te te te) (@T4.n AV yy5 te te te te)) (@T4.n AV yy5 (@T4.n AV yy5 (@T4.n AV yy5 te te te te) te te te) (@T4.n AV yy5 (@T4.n AV yy5 te te te te) te te te) (@T4.n AV yy5 (@T4.n AV yy5 te te te te) te te te) (@T4.n AV yy5 te te te te)) (@T4.n AV yy5 (@T4.n AV yy5 (@T4.n AV yy5 te te te te) te te te) (@T4.n AV yy5 (@T4.n AV yy5 te te te te) te te te) (@T4.n AV yy5 (@T4.n AV yy5 te te te te) te te te) (@T4.n AV yy5 te te te te))) (@T4.n AV (AV.i .i64 n5) (@T4.n AV yy5 (@T4.n AV yy5 (@T4.n AV yy5 te te te te) te te te) (@T4.n AV yy5 (@T4.n AV yy5 te te te te) te te te) (@T4.n AV yy5 (@T4.n AV yy5 te te te te) te te te) (@T4.n AV yy5 te te te te)) (@T4.n AV yy5 (@T4.n AV yy5 (@T4.n AV yy5 te te te te) te te te) (@T4.n AV yy5 (@T4.n AV yy5 te te te te) te te te) (@T4.n AV yy5 (@T4.n AV yy5 te te te te) te te te) (@T4.n AV yy5 te te te te)) (@T4.n AV yy5 (@T4.n AV yy5 (@T4.n AV yy5 te te te te) te te te) (@T4.n AV yy5 (@T4.n AV yy5 te te te te) te te te) (@T4.n AV yy5 (@T4.n AV yy5 te te te te) te te te) (@T4.n AV yy5 te te te te)) (@T4.n AV yy5 (@T4.n AV yy5 (@T4.n AV yy5 te te te te) te te te) (@T4.n AV yy5 (@T4.n AV yy5 te te te te) te te te) (@T4.n AV yy5 (@T4.n AV yy5 te te te te) te te te) (@T4.n AV yy5 te te te te)))) nn133 nn0 fun b1 H2 => lpR (failF [(36 , .int .i64)]) (fun Kb2 => fun d1 H3 => onV d1 fun v1 => isI .i64 v1 fun n6 => frcB (ilt n6 ii16) fun t1 => br t1 (c1 [(DV.v (AV.p (AP.at b1 nn0))), (DV.v (AV.i .i64 n6))] H3 fun d2 H4 => wrp .i64 (iadd n6 ii1) fun n7 => Kb2 (DV.v (AV.i .i64 n7)) H4) (Kb1 (DV.c (DV.v (AV.p (AP.at b1 nn0))) (DV.c (DV.v AV.ni) DV.n)) H3)) (nat_lit 100000) (DV.v (AV.i .i64 ii0)) H2
def g50x2 := onV d1 fun v1 => isB v1 fun t1 => jn (fun d2 H2 => jn (fun d3 H3 => pickK t1 (DV.v (AV.b true)) d3 fun d4 => onV d4 fun v2 => isB v2 fun t2 => br t2 (Kb1 (DV.c (DV.v (AV.p AP.nil)) (DV.c (DV.v (AV.er (nat_lit 2))) DV.n)) H3) (g50x1 n1 n2 n3 n4 n5 H3 c1 Kb1)) fun Kb2 => br t1 (Kb2 DV.n H2) (onV d2 fun v2 => isI .i64 v2 fun n6 => frcB (ilt ii1048576 n6) fun t2 => Kb2 (DV.v (AV.b t2)) H2)) fun Kb2 => br t1 (Kb2 DV.n H1) (Kb2 (DV.v (AV.i .i64 n5)) H1)
def g50x3 := jn (fun d2 H2 => pickK t1 (DV.v (AV.b true)) d2 fun d3 => onV d3 fun v1 => isB v1 fun t2 => jn (fun d4 H3 => jn (fun d5 H4 => pickK t2 (DV.v (AV.b true)) d5 fun d6 => g50x2 d6 n1 n2 n3 n4 n5 H4 c1 Kb1) fun Kb2 => br t2 (Kb2 DV.n H3) (onV d4 fun v2 => isI .i64 v2 fun n6 => frcB (ilt n6 ii1) fun t3 => Kb2 (DV.v (AV.b t3)) H3)) fun Kb2 => br t2 (Kb2 DV.n H2) (Kb2 (DV.v (AV.i .i64 n5)) H2)) fun Kb2 => br t1 (Kb2 DV.n H1) (onV d1 fun v1 => isI .i64 v1 fun n6 => frcB (ilt ii512 n6) fun t2 => Kb2 (DV.v (AV.b t2)) H1)
def g50x4 := isI .u32 v1 fun n1 => lc R1 fun d1 R2 => onV d1 fun v2 => isI .i64 v2 fun n2 => lc R2 fun d2 R3 => onV d2 fun v3 => isI .i64 v3 fun n3 => lc R3 fun d3 R4 => onV d3 fun v4 => isI .i64 v4 fun n4 => lc R4 fun d4 R5 => onV d4 fun v5 => isI .i64 v5 fun n5 => ln R5 <| frcB (ilt n4 ii1) fun t1 => jn (fun d5 H2 => g50x3 d5 n1 n2 n3 n4 n5 t1 H2 c1 Kb1) fun Kb2 => br t1 (Kb2 DV.n H1) (Kb2 (DV.v (AV.i .i64 n4)) H1)
/-- pool.New -/
def g50 : G DV := fun R1 H1 Kb1 => lc R1 fun d1 R2 => onV d1 fun v1 => g50x4 v1 R2 H1 c1 Kb1
def G50 : G DV := g50 G106

def g107x1 := jn (fun d2 H2 => pickK t1 (DV.v (AV.b true)) d2 fun d3 => onV d3 fun v1 => isB v1 fun t2 => br t2 (Kb1 (DV.c (DV.v (AV.p AP.nil)) (DV.c (DV.v (AV.er (nat_lit 2))) DV.n)) H2) (alB H2 (@T4.n AV (AV.i .i64 n1) (@T4.n AV (AV.i .i64 n1) te te te te) (@T4.n AV (AV.i .i64 n2) te te te te) (@T4.n AV yy4 te te te te) te) nn4 nn0 fun b1 H3 => Kb1 (DV.c (DV.v (AV.p (AP.at b1 nn0))) (DV.c (DV.v AV.ni) DV.n)) H3)) fun Kb2 => br t1 (Kb2 DV.n H1) (onV d1 fun v1 => isI .i64 v1 fun n3 => frcB (ilt ii64 n3) fun t2 => Kb2 (DV.v (AV.b t2)) H1)
def g107x2 := onV d1 fun v1 => isB v1 fun t1 => jn (fun d2 H2 => jn (fun d3 H3 => pickK t1 (DV.v (AV.b true)) d3 fun d4 => onV d4 fun v2 => isB v2 fun t2 => jn (fun d5 H4 => g107x1 d5 n1 n2 t2 H4 Kb1) fun Kb2 => br t2 (Kb2 DV.n H3) (Kb2 (DV.v (AV.i .i64 n2)) H3)) fun Kb2 => br t1 (Kb2 DV.n H2) (onV d2 fun v2 => isI .i64 v2 fun n3 => frcB (ilt n3 ii1) fun t2 => Kb2 (DV.v (AV.b t2)) H2)) fun Kb2 => br t1 (Kb2 DV.n H1) (Kb2 (DV.v (AV.i .i64 n2)) H1)
def g107x3 := lc R1 fun d1 R2 => onV d1 fun v1 => isI .i64 v1 fun n1 => lc R2 fun d2 R3 => onV d2 fun v2 => isI .i64 v2 fun n2 => ln R3 <| frcB (ilt n1 ii0) fun t1 => jn (fun d3 H2 => jn (fun d4 H3 => pickK t1 (DV.v (AV.b true)) d4 fun d5 => g107x2 d5 n1 n2 H3 Kb1) fun Kb2 => br t1 (Kb2 DV.n H2) (onV d3 fun v3 => isI .i64 v3 fun n3 => frcB (ile ii4096 n3) fun t2 => Kb2 (DV.v (AV.b t2)) H2)) fun Kb2 => br t1 (Kb2 DV.n H1) (Kb2 (DV.v (AV.i .i64 n1)) H1)
/-- win.New -/
def g107 : G DV := fun R1 H1 Kb1 => g107x3 R1 H1 Kb1
def G107 : G DV := g107

def g51x1 := br t1 (Kb1 (DV.c (DV.v (AV.p AP.nil)) (DV.c (DV.v v1) DV.n)) H1) (alB H1 (@T4.n AV (AV.p p1) (@T4.n AV (AV.i .i64 n1) (@T4.n AV yy1 te te te te) te te te) (@T4.n AV (AV.i .i64 n2) (@T4.n AV yy4 te te te te) te te te) (@T4.n AV (AV.i .i64 n3) (@T4.n AV yy3 te te te te) te te te) (@T4.n AV yy6 (@T4.n AV yy1 te te te te) te te te)) nn9 nn0 fun b1 H2 => Kb1 (DV.c (DV.v (AV.p (AP.at b1 nn0))) (DV.c (DV.v AV.ni) DV.n)) H2)
def g51x2 := jn (fun d2 H2 => pickK t1 (DV.v (AV.b true)) d2 fun d3 => onV d3 fun v1 => isB v1 fun t2 => br t2 (Kb1 (DV.c (DV.v (AV.p AP.nil)) (DV.c (DV.v (AV.er (nat_lit 2))) DV.n)) H2) (c1 [(DV.v (AV.i .i64 ii0)), (DV.v (AV.i .i64 ii1))] H2 fun d4 H3 => onC d4 fun d5 d6 => onV d5 fun v2 => isP v2 fun p1 => onC d6 fun d7 d8 => onV d7 fun v3 => onN d8 <| ifA true true v3 AV.ni fun t3 => frcB (bnot t3) fun t4 => g51x1 v3 n1 n2 n3 t4 p1 H3 Kb1)) fun Kb2 => br t1 (Kb2 DV.n H1) (onV d1 fun v1 => isI .i64 v1 fun n4 => frcB (ilt ii1099511627776 n4) fun t2 => Kb2 (DV.v (AV.b t2)) H1)
def g51x3 := isB v1 fun t1 => jn (fun d1 H2 => jn (fun d2 H3 => pickK t1 (DV.v (AV.b true)) d2 fun d3 => onV d3 fun v2 => isB v2 fun t2 => jn (fun d4 H4 => g51x2 d4 n1 n2 n3 t2 H4 c1 Kb1) fun Kb2 => br t2 (Kb2 DV.n H3) (Kb2 (DV.v (AV.i .i64 n3)) H3)) fun Kb2 => br t1 (Kb2 DV.n H2) (onV d1 fun v2 => isI .i64 v2 fun n4 => frcB (ilt n4 ii1) fun t2 => Kb2 (DV.v (AV.b t2)) H2)) fun Kb2 => br t1 (Kb2 DV.n H1) (Kb2 (DV.v (AV.i .i64 n3)) H1)
def g51x4 := jn (fun d2 H2 => pickK t1 (DV.v (AV.b true)) d2 fun d3 => onV d3 fun v1 => isB v1 fun t2 => jn (fun d4 H3 => jn (fun d5 H4 => pickK t2 (DV.v (AV.b true)) d5 fun d6 => onV d6 fun v2 => g51x3 v2 n1 n2 n3 H4 c1 Kb1) fun Kb2 => br t2 (Kb2 DV.n H3) (onV d4 fun v2 => isI .i64 v2 fun n4 => frcB (ilt ii15 n4) fun t3 => Kb2 (DV.v (AV.b t3)) H3)) fun Kb2 => br t2 (Kb2 DV.n H2) (Kb2 (DV.v (AV.i .i64 n2)) H2)) fun Kb2 => br t1 (Kb2 DV.n H1) (onV d1 fun v1 => isI .i64 v1 fun n4 => frcB (ilt n4 ii0) fun t2 => Kb2 (DV.v (AV.b t2)) H1)
def g51x5 := frcB (ilt n1 ii1) fun t1 => jn (fun d1 H2 => jn (fun d2 H3 => pickK t1 (DV.v (AV.b true)) d2 fun d3 => onV d3 fun v1 => isB v1 fun t2 => jn (fun d4 H4 => g51x4 d4 n1 n2 n3 t2 H4 c1 Kb1) fun Kb2 => br t2 (Kb2 DV.n H3) (Kb2 (DV.v (AV.i .i64 n2)) H3)) fun Kb2 => br t1 (Kb2 DV.n H2) (onV d1 fun v1 => isI .i64 v1 fun n4 => frcB (ilt ii64 n4) fun t2 => Kb2 (DV.v (AV.b t2)) H2)) fun Kb2 => br t1 (Kb2 DV.n H1) (Kb2 (DV.v (AV.i .i64 n1)) H1)
/-- ba.New -/
def g51 : G DV := fun R1 H1 Kb1 => lc R1 fun d1 R2 => onV d1 fun v1 => isI .i64 v1 fun n1 => lc R2 fun d2 R3 => onV d2 fun v2 => isI .i64 v2 fun n2 => lc R3 fun d3 R4 => onV d3 fun v3 => isI .i64 v3 fun n3 => ln R4 <| g51x5 n1 n2 n3 H1 c1 Kb1
def G51 : G DV := g51 G107

/-- aql.fair -/
def g108 : G DV := fun R1 H1 Kb1 => lc R1 fun d1 R2 => onV d1 fun v1 => isI .i64 v1 fun n1 => ln R2 <| frcB (ile ii0 n1) fun t1 => jn (fun d2 H2 => jn (fun d3 H3 => pickK t1 d3 (DV.v (AV.b false)) fun d4 => onV d4 fun v2 => isB v2 fun t2 => Kb1 (DV.v (AV.b t2)) H3) fun Kb2 => br t1 (onV d2 fun v2 => isI .i64 v2 fun n2 => frcB (ile n2 ii1099511627776) fun t2 => Kb2 (DV.v (AV.b t2)) H2) (Kb2 DV.n H2)) fun Kb2 => br t1 (Kb2 (DV.v (AV.i .i64 n1)) H1) (Kb2 DV.n H1)
def G108 : G DV := g108

def g52x1 := alB H1 (@T4.n AV (AV.i .i64 n1) (@T4.n AV (AV.i .i64 n2) (@T4.n AV yy1 te te te te) (@T4.n AV yy1 te te te te) (@T4.n AV yy1 te te te te) (@T4.n AV yy1 te te te te)) (@T4.n AV yy1 (@T4.n AV yy1 te te te te) (@T4.n AV yy1 te te te te) (@T4.n AV yy1 te te te te) te) (@T4.n AV yy1 (@T4.n AV yy1 te te te te) (@T4.n AV yy1 te te te te) (@T4.n AV yy1 te te te te) te) (@T4.n AV yy1 (@T4.n AV yy1 te te te te) (@T4.n AV yy1 te te te te) (@T4.n AV yy1 te te te te) te)) nn18 nn0 fun b1 H2 => Kb1 (DV.c (DV.v (AV.p (AP.at b1 nn0))) (DV.c (DV.v AV.ni) DV.n)) H2
def g52x2 := jn (fun d2 H2 => jn (fun d3 H3 => pickK t1 (DV.v (AV.b true)) d3 fun d4 => onV d4 fun v1 => isB v1 fun t2 => br t2 (Kb1 (DV.c (DV.v (AV.p AP.nil)) (DV.c (DV.v (AV.er (nat_lit 2))) DV.n)) H3) (g52x1 n1 n2 H3 Kb1)) fun Kb2 => br t1 (Kb2 DV.n H2) (onV d2 fun v1 => isB v1 fun t2 => frcB (bnot t2) fun t3 => Kb2 (DV.v (AV.b t3)) H2)) fun Kb2 => br t1 (Kb2 DV.n H1) (c1 [d1] H1 fun d2 H2 => onV d2 fun v1 => isB v1 fun t2 => Kb2 (DV.v (AV.b t2)) H2)
/-- aql.New -/
def g52 : G DV := fun R1 H1 Kb1 => lc R1 fun d1 R2 => onV d1 fun v1 => isI .i64 v1 fun n1 => lc R2 fun d2 R3 => onV d2 fun v2 => isI .i64 v2 fun n2 => ln R3 <| c1 [(DV.v (AV.i .i64 n1))] H1 fun d3 H2 => onV d3 fun v3 => isB v3 fun t1 => frcB (bnot t1) fun t2 => jn (fun d4 H3 => g52x2 d4 n1 n2 t2 H3 c1 Kb1) fun Kb2 => br t2 (Kb2 DV.n H2) (Kb2 (DV.v (AV.i .i64 n2)) H2)
def G52 : G DV := g52 G108

/-- ap.New$1 -/
def g53 : G DV := fun R1 H1 Kb1 => lc R1 fun d1 R2 => onV d1 fun v1 => isI .i64 v1 fun n1 => ln R2 <| frcB (ilt n1 ii0) fun t1 => jn (fun d2 H2 => jn (fun d3 H3 => pickK t1 (DV.v (AV.b true)) d3 fun d4 => onV d4 fun v2 => isB v2 fun t2 => Kb1 (DV.v (AV.b t2)) H3) fun Kb2 => br t1 (Kb2 DV.n H2) (onV d2 fun v2 => isI .i64 v2 fun n2 => frcB (ilt ii54840 n2) fun t2 => Kb2 (DV.v (AV.b t2)) H2)) fun Kb2 => br t1 (Kb2 DV.n H1) (Kb2 (DV.v (AV.i .i64 n1)) H1)
def G53 : G DV := g53

def g109x1 := frcB (ilt n1 (Int.ofNat m1)) fun t1 => br t1 (ixA s1 n1 (fun x => x) fun b1 m2 => rdK H1 b1 m2 fun v1 => isI .i64 v1 fun n2 => onV d1 fun v2 => isF v2 fun m3 L1 => lookD [((nat_lit 53) , c1)] m3 (appA [(DV.v (AV.i .i64 n2))] (mapP L1)) H1 fun d2 H2 => onV d2 fun v3 => isB v3 fun t2 => br t2 (Kb1 (DV.v (AV.i .i64 n1)) H2) (wrp .i64 (iadd n1 ii1) fun n3 => Kb2 (DV.v (AV.i .i64 n3)) H2)) (Kb1 (DV.v (AV.i .i64 im1)) H1)
/-- slices.IndexFunc[[]int64,int64] -/
def g109 : G DV := fun R1 H1 Kb1 => lc R1 fun d1 R2 => onV d1 fun v1 => isS v1 fun s1 => lc R2 fun d2 R3 => ln R3 <| lenA s1 fun m1 => lpR (failF [(8 , .int .i64)]) (fun Kb2 => fun d3 H2 => onV d3 fun v2 => isI .i64 v2 fun n1 => g109x1 d2 n1 m1 s1 H2 c1 Kb1 Kb2) (nat_lit 100000) (DV.v (AV.i .i64 ii0)) H1
def G109 : G DV := g109 G53

/-- slices.ContainsFunc[[]int64,int64] -/
def g54 : G DV := fun R1 H1 Kb1 => lc R1 fun d1 R2 => onV d1 fun v1 => isS v1 fun s1 => lc R2 fun d2 R3 => ln R3 <| c1 [(DV.v (AV.s s1)), d2] H1 fun d3 H2 => onV d3 fun v2 => isI .i64 v2 fun n1 => frcB (ile ii0 n1) fun t1 => Kb1 (DV.v (AV.b t1)) H2
def G54 : G DV := g54 G109

def z4 : List AV := [(AV.i .u8 ii0), (AV.i .u8 ii0), (AV.i .u8 ii0), (AV.i .u8 ii0), (AV.i .u8 ii0), (AV.i .u8 ii0)]
def g55x1 := jn (fun d1 H2 => jn (fun d2 H3 => jn (fun d3 H4 => pickK t1 d3 (DV.v (AV.b false)) fun d4 => onV d4 fun v1 => isB v1 fun t2 => Kb1 (DV.v (AV.b t2)) H4) fun Kb2 => br t1 (onL d1 fun l1 => onL d2 fun l2 => intsK .u8 l1 fun x1 => intsK .u8 l2 fun x2 => must (Nat.beq (leni x1) nn6) <| must (Nat.beq (leni x2) nn6) <| frcB (bnot (leqI x1 x2)) fun t2 => Kb2 (DV.v (AV.b t2)) H3) (Kb2 DV.n H3)) fun Kb2 => br t1 (Kb2 (DV.a z4) H2) (Kb2 DV.n H2)) fun Kb2 => br t1 (rdR H1 b1 nn0 nn6 fun l1 => Kb2 (DV.a l1) H1) (Kb2 DV.n H1)
/-- sta.Fair -/
def g55 : G DV := fun R1 H1 Kb1 => lc R1 fun d1 R2 => ln R2 <| cellsD d1 fun l1 => alK H1 l1 fun b1 H2 => rdK H2 b1 nn0 fun v1 => isI .u8 v1 fun n1 => asI (bits .and .u8 n1 ii1) fun n2 => frcB (ieq n2 ii0) fun t1 => g55x1 t1 b1 H2 Kb1
def G55 : G DV := g55

def g56x1 := alB H1 (@T4.n AV yy5 (@T4.n AV yy5 (@T4.n AV yy5 te te te te) (@T4.n AV yy5 te te te te) (@T4.n AV yy5 te te te te) te) (@T4.n AV yy5 (@T4.n AV yy5 te te te te) (@T4.n AV yy5 te te te te) (@T4.n AV yy5 te te te te) te) (@T4.n AV yy5 (@T4.n AV yy5 te te te te) (@T4.n AV yy5 te te te te) (@T4.n AV yy5 te te te te) te) (@T4.n AV yy5 (@T4.n AV yy5 te te te te) (@T4.n AV yy5 te te te te) (@T4.n AV (AV.p (AP.at b1 nn0)) te te te te) te)) nn17 nn0 fun b2 H2 => Kb1 (DV.v (AV.p (AP.at b2 nn0))) H2
/-- sched.New -/
def g56 : G DV := fun R1 H1 Kb1 => ln R1 <| alB H1 (@T4.n AV yy4 te te te te) nn1 nn0 fun b1 H2 => g56x1 b1 H2 Kb1
def G56 : G DV := g56

def g19x1 := alK H1 (lapp l1 ((AV.i .i64 ii0) :: ((AV.b false) :: ((AV.i .u8 ii0) :: ((AV.i .u8 ii0) :: ((AV.i .u8 ii0) :: ((AV.i .u8 ii0) :: ((AV.i .u8 ii0) :: ((AV.i .u8 ii0) :: ((AV.i .i64 ii0) :: ((AV.b false) :: ((AV.i .u8 ii0) :: ((AV.i .u8 ii0) :: ((AV.i .u8 ii0) :: ((AV.i .u8 ii0) :: ((AV.i .u8 ii0) :: ((AV.i .u8 ii0) :: ((AV.i .i64 ii0) :: ((AV.b false) :: ((AV.i .u8 ii0) :: ((AV.i .u8 ii0) :: ((AV.i .u8 ii0) :: ((AV.i .u8 ii0) :: ((AV.i .u8 ii0) :: ((AV.i .u8 ii0) :: ((AV.i .i64 ii0) :: ((AV.b false) :: ((AV.i .u8 ii0) :: ((AV.i .u8 ii0) :: ((AV.i .u8 ii0) :: ((AV.i .u8 ii0) :: ((AV.i .u8 ii0) :: ((AV.i .u8 ii0) :: ((AV.i .i64 ii0) :: ((AV.b false) :: ((AV.i .u8 ii0) :: ((AV.i .u8 ii0) :: ((AV.i .u8 ii0) :: ((AV.i .u8 ii0) :: ((AV.i .u8 ii0) :: ((AV.i .u8 ii0) :: ((AV.i .i64 ii0) :: ((AV.b false) :: ((AV.i .u8 ii0) :: ((AV.i .u8 ii0) :: ((AV.i .u8 ii0) :: ((AV.i .u8 ii0) :: ((AV.i .u8 ii0) :: ((AV.i .u8 ii0) :: ((AV.i .i64 ii0) :: ((AV.b false) :: ((AV.i .u8 ii0) :: ((AV.i .u8 ii0) :: ((AV.i .u8 ii0) :: ((AV.i .u8 ii0) :: ((AV.i .u8 ii0) :: ((AV.i .u8 ii0) :: ((AV.i .i64 ii0) :: ((AV.b false) :: ((AV.i .u8 ii0) :: ((AV.i .u8 ii0) :: ((AV.i .u8 ii0) :: ((AV.i .u8 ii0) :: ((AV.i .u8 ii0) :: ((AV.i .u8 ii0) :: ((AV.i .i64 ii0) :: ((AV.b false) :: ((AV.i .u8 ii0) :: ((AV.i .u8 ii0) :: ((AV.i .u8 ii0) :: ((AV.i .u8 ii0) :: ((AV.i .u8 ii0) :: ((AV.i .u8 ii0) :: ((AV.i .i64 ii0) :: ((AV.b false) :: ((AV.i .u8 ii0) :: ((AV.i .u8 ii0) :: ((AV.i .u8 ii0) :: ((AV.i .u8 ii0) :: ((AV.i .u8 ii0) :: ((AV.i .u8 ii0) :: ((AV.i .i64 ii0) :: ((AV.b false) :: ((AV.i .u8 ii0) :: ((AV.i .u8 ii0) :: ((AV.i .u8 ii0) :: ((AV.i .u8 ii0) :: ((AV.i .u8 ii0) :: ((AV.i .u8 ii0) :: ((AV.i .i64 ii0) :: ((AV.b false) :: ((AV.i .u8 ii0) :: ((AV.i .u8 ii0) :: ((AV.i .u8 ii0) :: ((AV.i .u8 ii0) :: ((AV.i .u8 ii0) :: ((AV.i .u8 ii0) :: ((AV.i .i64 ii0) :: ((AV.b false) :: ((AV.i .u8 ii0) :: ((AV.i .u8 ii0) :: ((AV.i .u8 ii0) :: ((AV.i .u8 ii0) :: ((AV.i .u8 ii0) :: ((AV.i .u8 ii0) :: ((AV.i .i64 ii0) :: ((AV.b false) :: ((AV.i .u8 ii0) :: ((AV.i .u8 ii0) :: ((AV.i .u8 ii0) :: ((AV.i .u8 ii0) :: ((AV.i .u8 ii0) :: ((AV.i .u8 ii0) :: ((AV.i .i64 ii0) :: ((AV.b false) :: ((AV.i .u8 ii0) :: ((AV.i .u8 ii0) :: ((AV.i .u8 ii0) :: ((AV.i .u8 ii0) :: ((AV.i .u8 ii0) :: ((AV.i .u8 ii0) :: ((AV.i .i64 ii0) :: ((AV.b false) :: ((AV.i .u8 ii0) :: ((AV.i .u8 ii0) :: ((AV.i .u8 ii0) :: ((AV.i .u8 ii0) :: ((AV.i .u8 ii0) :: ((AV.i .u8 ii0) :: ((AV.i .i64 ii0) :: ((AV.b false) :: ((AV.b false) :: ((AV.b false) :: ((AV.b false) :: ((AV.b false) :: ((AV.b false) :: ((AV.b false) :: ((AV.b false) :: ((AV.i .i64 ii0) :: ((AV.i .i64 ii0) :: ((AV.b false) :: ((AV.b false) :: ((AV.b false) :: ((AV.b false) :: ((AV.b false) :: ((AV.b false) :: ((AV.b false) :: ((AV.b false) :: ((AV.i .i64 ii0) :: ((AV.i .i64 ii0) :: ((AV.b false) :: ((AV.b false) :: ((AV.b false) :: ((AV.b false) :: ((AV.b false) :: ((AV.b false) :: ((AV.b false) :: ((AV.b false) :: ((AV.i .i64 ii0) :: ((AV.i .i64 ii0) :: ((AV.b false) :: ((AV.b false) :: ((AV.b false) :: ((AV.b false) :: ((AV.b false) :: ((AV.b false) :: ((AV.b false) :: ((AV.b false) :: ((AV.i .i64 ii0) :: ((AV.i .i64 ii0) :: ((AV.b false) :: ((AV.b false) :: ((AV.b false) :: ((AV.b false) :: ((AV.b false) :: ((AV.b false) :: ((AV.b false) :: ((AV.b false) :: ((AV.i .i64 ii0) :: ((AV.i .i64 ii0) :: ((AV.b false) :: ((AV.b false) :: ((AV.b false) :: ((AV.b false) :: ((AV.b false) :: ((AV.b false) :: ((AV.b false) :: ((AV.b false) :: ((AV.i .i64 ii0) :: ((AV.i .i64 ii0) :: ((AV.b false) :: ((AV.b false) :: ((AV.b false) :: ((AV.b false) :: ((AV.b false) :: ((AV.b false) :: ((AV.b false) :: ((AV.b false) :: ((AV.i .i64 ii0) :: ((AV.i .i64 ii0) :: ((AV.b false) :: ((AV.b false) :: ((AV.b false) :: ((AV.b false) :: ((AV.b false) :: ((AV.b false) :: ((AV.b false) :: ((AV.b false) :: ((AV.i .i64 ii0) :: ((AV.i .i64 ii0) :: ((AV.b false) :: ((AV.b false) :: ((AV.b false) :: ((AV.b false) :: ((AV.b false) :: ((AV.b false) :: ((AV.b false) :: ((AV.b false) :: ((AV.i .i64 ii0) :: ((AV.i .i64 ii0) :: ((AV.b false) :: ((AV.b false) :: ((AV.b false) :: ((AV.b false) :: ((AV.b false) :: ((AV.b false) :: ((AV.b false) :: ((AV.b false) :: ((AV.i .i64 ii0) :: ((AV.i .i64 ii0) :: ((AV.b false) :: ((AV.b false) :: ((AV.b false) :: ((AV.b false) :: ((AV.b false) :: ((AV.b false) :: ((AV.b false) :: ((AV.b false) :: ((AV.i .i64 ii0) :: ((AV.i .i64 ii0) :: ((AV.b false) :: ((AV.b false) :: ((AV.b false) :: ((AV.b false) :: ((AV.b false) :: ((AV.b false) :: ((AV.b false) :: ((AV.b false) :: ((AV.i .i64 ii0) :: ((AV.i .i64 ii0) :: ((AV.b false) :: ((AV.b false) :: ((AV.b false) :: ((AV.b false) :: ((AV.b false) :: ((AV.b false) :: ((AV.b false) :: ((AV.b false) :: ((AV.i .i64 ii0) :: ((AV.i .i64 ii0) :: ((AV.b false) :: ((AV.b false) :: ((AV.b false) :: ((AV.b false) :: ((AV.b false) :: ((AV.b false) :: ((AV.b false) :: ((AV.b false) :: ((AV.i .i64 ii0) :: ((AV.i .i64 ii0) :: ((AV.b false) :: ((AV.b false) :: ((AV.b false) :: ((AV.b false) :: ((AV.b false) :: ((AV.b false) :: ((AV.b false) :: ((AV.b false) :: ((AV.i .i64 ii0) :: ((AV.i .i64 ii0) :: ((AV.b false) :: ((AV.b false) :: ((AV.b false) :: ((AV.b false) :: ((AV.b false) :: ((AV.b false) :: ((AV.b false) :: ((AV.b false) :: ((AV.i .i64 ii0) :: ((AV.i .i64 ii0) :: ((AV.s AS.nil) :: ((AV.p p1) :: ((AV.p p2) :: ((AV.p AP.nil) :: ((AV.p AP.nil) :: ((AV.p AP.nil) :: ((AV.p AP.nil) :: ((AV.b false) :: ((AV.i .i64 ii0) :: ((AV.i .i64 ii0) :: ((AV.b false) :: ((AV.i .i64 ii0) :: ((AV.i .i64 ii0) :: ((AV.b false) :: ((AV.i .i64 ii0) :: ((AV.i .i64 ii0) :: ((AV.b false) :: ((AV.i .i64 ii0) :: ((AV.i .i64 ii0) :: ((AV.p AP.nil) :: ((AV.p AP.nil) :: ((AV.p AP.nil) :: ((AV.p AP.nil) :: ((AV.p AP.nil) :: ((AV.p AP.nil) :: ((AV.p AP.nil) :: ((AV.p AP.nil) :: ((AV.p AP.nil) :: ((AV.p AP.nil) :: ((AV.p AP.nil) :: ((AV.p AP.nil) :: ((AV.p AP.nil) :: ((AV.p AP.nil) :: ((AV.p AP.nil) :: ((AV.p AP.nil) :: ((AV.i .i64 ii0) :: ((AV.s AS.nil) :: []))))))))))))))))))))))))))))))))))))))))))))))))))))))))))))))))))))))))))))))))))))))))))))))))))))))))))))))))))))))))))))))))))))))))))))))))))))))))))))))))))))))))))))))))))))))))))))))))))))))))))))))))))))))))))))))))))))))))))))))))))))))))))))))))))))))))))))))))))))))))))))))))))))))))))))))))))))))))))))))))))))))) fun b1 H2 => lpR (failF [(99 , .int .i64)]) (fun Kb2 => fun d1 H3 => onV d1 fun v1 => isI .i64 v1 fun n1 => frcB (ilt n1 ii4) fun t1 => br t1 (c1 [] H3 fun d2 H4 => onV d2 fun v2 => isP v2 fun p3 => rng n1 nn4 <| wrK H4 b1 (Nat.add nn313 (itn n1)) (AV.p p3) fun H5 => wrp .i64 (iadd n1 ii1) fun n2 => Kb2 (DV.v (AV.i .i64 n2)) H5) (Kb1 (DV.c (DV.v (AV.p (AP.at b1 nn0))) (DV.c (DV.v AV.ni) DV.n)) H3)) (nat_lit 100000) (DV.v (AV.i .i64 ii0)) H2
def g19x2 := jn (fun d2 H2 => jn (fun d3 H3 => pickK t1 (DV.v (AV.b true)) d3 fun d4 => onV d4 fun v1 => isB v1 fun t2 => br t2 (Kb1 (DV.c (DV.v (AV.p AP.nil)) (DV.c (DV.v (AV.er (nat_lit 2))) DV.n)) H3) (rdR H3 b1 nn0 nn21 fun l1 => must (Nat.beq (llen l1) nn21) <| g19x1 l1 p1 p2 H3 c1 Kb1)) fun Kb2 => br t1 (Kb2 DV.n H2) (onV d2 fun v1 => isB v1 fun t2 => frcB (bnot t2) fun t3 => Kb2 (DV.v (AV.b t3)) H2)) fun Kb2 => br t1 (Kb2 DV.n H1) (c2 [d1] H1 fun d2 H2 => onV d2 fun v1 => isB v1 fun t2 => Kb2 (DV.v (AV.b t2)) H2)
def g19x3 := jn (fun d3 H2 => pickK t1 (DV.v (AV.b true)) d3 fun d4 => onV d4 fun v1 => isB v1 fun t2 => jn (fun d5 H3 => jn (fun d6 H4 => g19x2 d6 t2 p1 p2 b1 H4 c1 c2 Kb1) fun Kb2 => br t2 (Kb2 DV.n H3) (onV d5 fun v2 => isP v2 fun p3 => onA p3 fun b2 m1 => rdR H3 b2 m1 nn6 fun l1 => Kb2 (DV.a l1) H3)) fun Kb2 => br t2 (Kb2 DV.n H2) (Kb2 (DV.v (AV.p (AP.at b1 nn0))) H2)) fun Kb2 => br t1 (Kb2 DV.n H1) (c3 [d1, d2] H1 fun d3 H2 => onV d3 fun v1 => isB v1 fun t2 => Kb2 (DV.v (AV.b t2)) H2)
def g19x4 := pickK t1 (DV.v (AV.b true)) d1 fun d2 => onV d2 fun v1 => isB v1 fun t2 => jn (fun d3 H2 => jn (fun d4 H3 => jn (fun d5 H4 => g19x3 d4 d5 t2 p1 p2 b1 H4 c1 c2 c3 Kb1) fun Kb2 => br t2 (Kb2 DV.n H3) (Kb2 (DV.v (AV.fn (nat_lit 53) [])) H3)) fun Kb2 => br t2 (Kb2 DV.n H2) (onV d3 fun v2 => isP v2 fun p3 => onA p3 fun b2 m1 => Kb2 (DV.v (AV.s (AS.sl b2 m1 nn4 nn4))) H2)) fun Kb2 => br t2 (Kb2 DV.n H1) (Kb2 (DV.v (AV.p (AP.at b1 nn15))) H1)
def g19x5 := jn (fun d1 H2 => jn (fun d2 H3 => jn (fun d3 H4 => g19x4 d3 t1 p1 p2 b1 H4 c1 c2 c3 Kb1) fun Kb2 => br t1 (Kb2 DV.n H3) (onV d2 fun v1 => isI .i64 v1 fun n1 => frcB (ilt ii65535 n1) fun t2 => Kb2 (DV.v (AV.b t2)) H3)) fun Kb2 => br t1 (Kb2 DV.n H2) (onV d1 fun v1 => isP v1 fun p3 => onA p3 fun b2 m1 => rdK H2 b2 m1 fun v2 => isI .i64 v2 fun n1 => Kb2 (DV.v (AV.i .i64 n1)) H2)) fun Kb2 => br t1 (Kb2 DV.n H1) (Kb2 (DV.v (AV.p (AP.at b1 nn14))) H1)
def g19x6 := jn (fun d2 H2 => jn (fun d3 H3 => pickK t1 (DV.v (AV.b true)) d3 fun d4 => onV d4 fun v1 => isB v1 fun t2 => g19x5 t2 p1 p2 b1 H3 c1 c2 c3 Kb1) fun Kb2 => br t1 (Kb2 DV.n H2) (onV d2 fun v1 => isI .i64 v1 fun n1 => frcB (ilt n1 ii1) fun t2 => Kb2 (DV.v (AV.b t2)) H2)) fun Kb2 => br t1 (Kb2 DV.n H1) (onV d1 fun v1 => isP v1 fun p3 => onA p3 fun b2 m1 => rdK H1 b2 m1 fun v2 => isI .i64 v2 fun n1 => Kb2 (DV.v (AV.i .i64 n1)) H1)
def g19x7 := jn (fun d2 H2 => jn (fun d3 H3 => pickK t1 (DV.v (AV.b true)) d3 fun d4 => onV d4 fun v1 => isB v1 fun t2 => jn (fun d5 H4 => g19x6 d5 t2 p1 p2 b1 H4 c1 c2 c3 Kb1) fun Kb2 => br t2 (Kb2 DV.n H3) (Kb2 (DV.v (AV.p (AP.at b1 nn14))) H3)) fun Kb2 => br t1 (Kb2 DV.n H2) (onV d2 fun v1 => isI .i64 v1 fun n1 => frcB (ilt ii1073741824 n1) fun t2 => Kb2 (DV.v (AV.b t2)) H2)) fun Kb2 => br t1 (Kb2 DV.n H1) (onV d1 fun v1 => isP v1 fun p3 => onA p3 fun b2 m1 => rdK H1 b2 m1 fun v2 => isI .i64 v2 fun n1 => Kb2 (DV.v (AV.i .i64 n1)) H1)
def g19x8 := jn (fun d2 H2 => jn (fun d3 H3 => pickK t1 (DV.v (AV.b true)) d3 fun d4 => onV d4 fun v1 => isB v1 fun t2 => jn (fun d5 H4 => g19x7 d5 t2 p1 p2 b1 H4 c1 c2 c3 Kb1) fun Kb2 => br t2 (Kb2 DV.n H3) (Kb2 (DV.v (AV.p (AP.at b1 nn10))) H3)) fun Kb2 => br t1 (Kb2 DV.n H2) (onV d2 fun v1 => isI .i64 v1 fun n1 => frcB (ilt n1 ii0) fun t2 => Kb2 (DV.v (AV.b t2)) H2)) fun Kb2 => br t1 (Kb2 DV.n H1) (onV d1 fun v1 => isP v1 fun p3 => onA p3 fun b2 m1 => rdK H1 b2 m1 fun v2 => isI .i64 v2 fun n1 => Kb2 (DV.v (AV.i .i64 n1)) H1)
def g19x9 := jn (fun d2 H2 => jn (fun d3 H3 => pickK t1 (DV.v (AV.b true)) d3 fun d4 => onV d4 fun v1 => isB v1 fun t2 => jn (fun d5 H4 => g19x8 d5 t2 p1 p2 b1 H4 c1 c2 c3 Kb1) fun Kb2 => br t2 (Kb2 DV.n H3) (Kb2 (DV.v (AV.p (AP.at b1 nn10))) H3)) fun Kb2 => br t1 (Kb2 DV.n H2) (onV d2 fun v1 => isI .i64 v1 fun n1 => frcB (ilt ii1073741824 n1) fun t2 => Kb2 (DV.v (AV.b t2)) H2)) fun Kb2 => br t1 (Kb2 DV.n H1) (onV d1 fun v1 => isP v1 fun p3 => onA p3 fun b2 m1 => rdK H1 b2 m1 fun v2 => isI .i64 v2 fun n1 => Kb2 (DV.v (AV.i .i64 n1)) H1)
def g19x10 := onC d1 fun d2 d3 => onV d2 fun v1 => isP v1 fun p2 => onC d3 fun d4 d5 => onV d4 fun v2 => onN d5 <| ifA true true v2 AV.ni fun t1 => frcB (bnot t1) fun t2 => br t2 (Kb1 (DV.c (DV.v (AV.p AP.nil)) (DV.c (DV.v v2) DV.n)) H1) (rdK H1 b1 nn9 fun v3 => isI .i64 v3 fun n1 => frcB (ilt n1 ii0) fun t3 => jn (fun d6 H2 => g19x9 d6 t3 p1 p2 b1 H2 c1 c2 c3 Kb1) fun Kb2 => br t3 (Kb2 DV.n H1) (Kb2 (DV.v (AV.p (AP.at b1 nn9))) H1))
def g19x11 := onC d1 fun d2 d3 => onV d2 fun v1 => isP v1 fun p2 => onC d3 fun d4 d5 => onV d4 fun v2 => onN d5 <| ifA true true v2 AV.ni fun t1 => frcB (bnot t1) fun t2 => br t2 (Kb1 (DV.c (DV.v (AV.p AP.nil)) (DV.c (DV.v v2) DV.n)) H1) (rdK H1 b1 nn19 fun v3 => isI .i64 v3 fun n1 => rdK H1 b1 nn20 fun v4 => isI .i64 v4 fun n2 => c1 [(DV.v (AV.i .i64 n1)), (DV.v (AV.i .i64 n2))] H1 fun d6 H2 => g19x10 d6 p1 b1 H2 c2 c3 c4 Kb1)
def g19x12 := onV d1 fun v1 => onN d2 <| ifA true true v1 AV.ni fun t1 => frcB (bnot t1) fun t2 => br t2 (Kb1 (DV.c (DV.v (AV.p AP.nil)) (DV.c (DV.v v1) DV.n)) H1) (rdK H1 b1 nn11 fun v2 => isI .i64 v2 fun n1 => rdK H1 b1 nn12 fun v3 => isI .i64 v3 fun n2 => rdK H1 b1 nn13 fun v4 => isI .i64 v4 fun n3 => c1 [(DV.v (AV.i .i64 n1)), (DV.v (AV.i .i64 n2)), (DV.v (AV.i .i64 n3))] H1 fun d3 H2 => g19x11 d3 p1 b1 H2 c2 c3 c4 c5 Kb1)
def g19x13 := isI .i64 v1 fun n2 => rdK H1 b1 nn10 fun v2 => isI .i64 v2 fun n3 => rdK H1 b1 nn7 fun v3 => isI .i64 v3 fun n4 => rdK H1 b1 nn8 fun v4 => isI .i64 v4 fun n5 => c1 [(DV.v (AV.i .u32 n1)), (DV.v (AV.i .i64 n2)), (DV.v (AV.i .i64 n3)), (DV.v (AV.i .i64 n4)), (DV.v (AV.i .i64 n5))] H1 fun d1 H2 => onC d1 fun d2 d3 => onV d2 fun v5 => isP v5 fun p1 => onC d3 fun d4 d5 => g19x12 d4 d5 p1 b1 H2 c2 c3 c4 c5 c6 Kb1
/-- ap.New -/
def g19 : G DV := fun R1 H1 Kb1 => lc R1 fun d1 R2 => ln R2 <| cellsD d1 fun l1 => alK H1 l1 fun b1 H2 => rdK H2 b1 nn6 fun v1 => isI .u32 v1 fun n1 => rdK H2 b1 nn9 fun v2 => g19x13 v2 n1 b1 H2 c1 c2 c3 c6 c5 c4 Kb1
def G19 : G DV := g19 G50 G51 G52 G54 G55 G56

def z5 : T4 AV := (@T4.n AV yy3 (@T4.n AV yy0 (@T4.n AV yy0 te te te te) te te te) (@T4.n AV yy0 (@T4.n AV yy0 te te te te) te te te) (@T4.n AV yy0 (@T4.n AV yy1 te te te te) te te te) (@T4.n AV yy0 te te te te))
def g57x1 := alB H1 z5 nn8 nn0 fun b1 H2 => must (Nat.beq (llen (ltake (nat_lit 8) (ldrop (Nat.mul (itn n1) nn8) l1))) nn8) <| wrL H2 b1 nn0 (ltake (nat_lit 8) (ldrop (Nat.mul (itn n1) nn8) l1)) fun H3 => rdK H3 b1 nn0 fun v1 => isB v1 fun t1 => br t1 (wrp .i64 (iadd n1 ii1) fun n2 => alB H3 (@T4.n AV (AV.i .i64 n2) te te te te) nn1 nn0 fun b2 H4 => appD nn1 nn8 s1 (AS.sl b2 nn0 nn1 nn1) H4 fun s2 H5 => Kb1 (DV.v (AV.s s2)) H5) (Kb1 (DV.v (AV.s s1)) H3)
def g57x2 := lpR (failF [(3 , .slice), (10 , .int .i64)]) (fun Kc1 => fun d1 d2 H2 => onV d1 fun v1 => isS v1 fun s1 => onV d2 fun v2 => isI .i64 v2 fun n1 => frcB (ilt n1 ii16) fun t1 => br t1 (jF [(3 , .slice)] (fun d3 H3 => onV d3 fun v3 => isS v3 fun s2 => wrp .i64 (iadd n1 ii1) fun n2 => Kc1 (DV.v (AV.s s2)) (DV.v (AV.i .i64 n2)) H3) fun Kb2 => rng n1 nn16 <| g57x1 l1 n1 s1 H2 Kb2) (Kb1 (DV.v (AV.s s1)) H2)) (nat_lit 100000) (DV.v (AV.s AS.nil)) (DV.v (AV.i .i64 ii0)) H1
/-- (*sta.Table).All -/
def g57 : G DV := fun R1 H1 Kb1 => lc R1 fun d1 R2 => onV d1 fun v1 => isP v1 fun p1 => ln R2 <| onA p1 fun b1 m1 => rdR H1 b1 m1 nn128 fun l1 => g57x2 l1 H1 Kb1
def G57 : G DV := g57

def g58x1 := jn (fun d1 H2 => jn (fun d2 H3 => pickK t1 (DV.v (AV.b true)) d2 fun d3 => onV d3 fun v1 => isB v1 fun t2 => br t2 (Kb1 (DV.v (AV.p AP.nil)) H3) (wrp .i64 (isub n1 ii1) fun n2 => onA p1 fun b1 m1 => rng n2 nn16 <| rdK H3 b1 (Nat.add (Nat.add m1 nn329) (itn n2)) fun v2 => isP v2 fun p2 => Kb1 (DV.v (AV.p p2)) H3)) fun Kb2 => br t1 (Kb2 DV.n H2) (onV d1 fun v1 => isI .i64 v1 fun n2 => frcB (ilt ii16 n2) fun t2 => Kb2 (DV.v (AV.b t2)) H2)) fun Kb2 => br t1 (Kb2 DV.n H1) (Kb2 (DV.v (AV.i .i64 n1)) H1)
/-- (*ap.AP).of -/
def g58 : G DV := fun R1 H1 Kb1 => lc R1 fun d1 R2 => onV d1 fun v1 => isP v1 fun p1 => lc R2 fun d2 R3 => onV d2 fun v2 => isI .i64 v2 fun n1 => ln R3 <| frcB (ilt n1 ii1) fun t1 => g58x1 n1 t1 p1 H1 Kb1
def G58 : G DV := g58

def g196x1 := isI .i64 v1 fun n1 => onA p1 fun b2 m1 => rdK H1 b2 m1 fun v2 => isP v2 fun p3 => onA p3 fun b3 m2 => rdK H1 b3 (Nat.add m2 nn2) fun v3 => isI .i64 v3 fun n2 => frcB (ilt n2 n1) fun t1 => br t1 (Kb1 (DV.v (AV.i .i64 ii3)) H1) (rdK H1 b1 nn7 fun v4 => isI .i64 v4 fun n3 => onA p2 fun b4 m3 => rdK H1 b4 m3 fun v5 => isI .i64 v5 fun n4 => frcB (ilt n3 n4) fun t2 => br t2 (Kb1 (DV.v (AV.i .i64 ii4)) H1) (Ka1 H1))
/-- (*ba.Session).Sweep$1 -/
def g196 : G DV := fun R1 H1 Kb1 => lc R1 fun d1 R2 => lc R2 fun d2 R3 => onV d2 fun v1 => isP v1 fun p1 => lc R3 fun d3 R4 => onV d3 fun v2 => isP v2 fun p2 => ln R4 <| cellsD d1 fun l1 => alK H1 l1 fun b1 H2 => jF [] (fun H3 => Kb1 (DV.v (AV.i .i64 ii0)) H3) fun Ka1 => rdK H2 b1 nn8 fun v3 => isB v3 fun t1 => br t1 (Ka1 H2) (rdK H2 b1 nn6 fun v4 => g196x1 v4 p1 p2 b1 H2 Ka1 Kb1)
def G196 : G DV := g196

/-- (*ba.Session).Sweep$2 -/
def g198 : G DV := fun R1 H1 Kb1 => lc R1 fun d1 R2 => lc R2 fun d2 R3 => onV d2 fun v1 => isP v1 fun p1 => ln R3 <| cellsD d1 fun l1 => alK H1 l1 fun b1 H2 => onA p1 fun b2 m1 => rdK H2 b2 m1 fun v2 => rdR H2 b1 nn0 nn9 fun l2 => isF v2 fun m2 L1 => lookD [((nat_lit 196) , c1)] m2 (appA [(DV.a l2)] (mapP L1)) H2 fun d3 H3 => onV d3 fun v3 => isI .i64 v3 fun n1 => frcB (bnot (ieq n1 ii0)) fun t1 => Kb1 (DV.v (AV.b t1)) H3
def G198 : G DV := g198 G196

/-- (*ba.Session).Out$1 -/
def g201 : G DV := fun R1 H1 Kb1 => lc R1 fun d1 R2 => ln R2 <| cellsD d1 fun l1 => alK H1 l1 fun b1 H2 => Kb1 (DV.v (AV.b true)) H2
def G201 : G DV := g201

/-- (*ba.Session).Due$1 -/
def g213 : G DV := fun R1 H1 Kb1 => lc R1 fun d1 R2 => ln R2 <| cellsD d1 fun l1 => alK H1 l1 fun b1 H2 => rdK H2 b1 nn8 fun v1 => isB v1 fun t1 => frcB (bnot t1) fun t2 => Kb1 (DV.v (AV.b t2)) H2
def G213 : G DV := g213

/-- seq.mod -/
def g287 : G DV := fun R1 H1 Kb1 => lc R1 fun d1 R2 => onV d1 fun v1 => isI .i64 v1 fun n1 => ln R2 <| must (bnot (ieq ii4096 ii0)) <| asI (irem n1 ii4096) fun n2 => wrp .i64 (iadd n2 ii4096) fun n3 => must (bnot (ieq ii4096 ii0)) <| asI (irem n3 ii4096) fun n4 => Kb1 (DV.v (AV.i .i64 n4)) H1
def G287 : G DV := g287

def g239x1 := lc R1 fun d1 R2 => onV d1 fun v1 => isI .i64 v1 fun n1 => lc R2 fun d2 R3 => onV d2 fun v2 => isI .i64 v2 fun n2 => ln R3 <| c1 [(DV.v (AV.i .i64 n2))] H1 fun d3 H2 => onV d3 fun v3 => isI .i64 v3 fun n3 => c1 [(DV.v (AV.i .i64 n1))] H2 fun d4 H3 => onV d4 fun v4 => isI .i64 v4 fun n4 => wrp .i64 (isub n3 n4) fun n5 => c1 [(DV.v (AV.i .i64 n5))] H3 fun d5 H4 => onV d5 fun v5 => isI .i64 v5 fun n6 => Kb1 (DV.v (AV.i .i64 n6)) H4
/-- seq.Dist -/
def g239 : G DV := fun R1 H1 Kb1 => g239x1 R1 H1 c1 Kb1
def G239 : G DV := g239 G287

def g255x1 := jn (fun d3 H2 => jn (fun d4 H3 => jn (fun d5 H4 => pickK t1 d5 (DV.v (AV.b false)) fun d6 => onV d6 fun v1 => isB v1 fun t2 => Kb1 (DV.v (AV.b t2)) H4) fun Kb2 => br t1 (onV d4 fun v1 => isI .i64 v1 fun n1 => frcB (ilt n1 ii64) fun t2 => Kb2 (DV.v (AV.b t2)) H3) (Kb2 DV.n H3)) fun Kb2 => br t1 (c1 [d1, d3] H2 fun d4 H3 => onV d4 fun v1 => isI .i64 v1 fun n1 => Kb2 (DV.v (AV.i .i64 n1)) H3) (Kb2 DV.n H2)) fun Kb2 => br t1 (onV d2 fun v1 => isP v1 fun p1 => onA p1 fun b1 m1 => rdK H1 b1 m1 fun v2 => isI .i64 v2 fun n1 => Kb2 (DV.v (AV.i .i64 n1)) H1) (Kb2 DV.n H1)
def g255x2 := jn (fun d2 H2 => jn (fun d3 H3 => jn (fun d4 H4 => g255x1 d2 d4 t1 H4 c1 Kb1) fun Kb2 => br t1 (onV d3 fun v1 => isP v1 fun p1 => onA p1 fun b2 m1 => Kb2 (DV.v (AV.p (AP.at b2 (Nat.add m1 nn5)))) H3) (Kb2 DV.n H3)) fun Kb2 => br t1 (Kb2 (DV.v (AV.p (AP.at b1 nn0))) H2) (Kb2 DV.n H2)) fun Kb2 => br t1 (onV d1 fun v1 => isP v1 fun p1 => onA p1 fun b2 m1 => rdK H1 b2 m1 fun v2 => isI .i64 v2 fun n1 => Kb2 (DV.v (AV.i .i64 n1)) H1) (Kb2 DV.n H1)
/-- (*ba.Session).Heard$1 -/
def g255 : G DV := fun R1 H1 Kb1 => lc R1 fun d1 R2 => lc R2 fun d2 R3 => onV d2 fun v1 => isP v1 fun p1 => ln R3 <| cellsD d1 fun l1 => alK H1 l1 fun b1 H2 => rdK H2 b1 nn8 fun v2 => isB v2 fun t1 => jn (fun d3 H3 => g255x2 d3 t1 b1 H3 c1 Kb1) fun Kb2 => br t1 (onA p1 fun b2 m1 => Kb2 (DV.v (AV.p (AP.at b2 (Nat.add m1 nn13)))) H2) (Kb2 DV.n H2)
def G255 : G DV := g255 G239

def g258x1 := rdK H1 b1 (Nat.add m1 nn13) fun v1 => isI .i64 v1 fun n2 => rdK H1 b2 nn5 fun v2 => isI .i64 v2 fun n3 => c1 [(DV.v (AV.i .i64 n2)), (DV.v (AV.i .i64 n3))] H1 fun d1 H2 => onV d1 fun v3 => isI .i64 v3 fun n4 => rdK H2 b3 (Nat.add m2 nn14) fun v4 => must (aveq (AV.i .u64 n1) v4) <| must (ile ii0 n4) <| must (ile n4 ii64) <| asI (idiv n1 (ip2 n4)) fun n5 => asI (bits .and .u64 n5 ii1) fun n6 => frcB (ilt ii0 n6) fun t1 => Kb1 (DV.v (AV.b t1)) H2
def g258x2 := onA p1 fun b2 m1 => rdK H1 b2 m1 fun v1 => rdR H1 b1 nn0 nn9 fun l1 => isF v1 fun m2 L1 => lookD [((nat_lit 239) , c1), ((nat_lit 255) , c2)] m2 (appA [(DV.a l1)] (mapP L1)) H1 fun d1 H2 => onV d1 fun v2 => isB v2 fun t1 => br t1 (onA p2 fun b3 m3 => rdK H2 b3 (Nat.add m3 nn14) fun v3 => isI .u64 v3 fun n1 => onA p2 fun b4 m4 => g258x1 n1 m4 m3 b4 b1 b3 H2 c1 Kb1) (Kb1 (DV.v (AV.b false)) H2)
/-- (*ba.Session).Heard$2 -/
def g258 : G DV := fun R1 H1 Kb1 => lc R1 fun d1 R2 => lc R2 fun d2 R3 => onV d2 fun v1 => isP v1 fun p1 => lc R3 fun d3 R4 => onV d3 fun v2 => isP v2 fun p2 => ln R4 <| cellsD d1 fun l1 => alK H1 l1 fun b1 H2 => g258x2 p1 p2 b1 H2 c1 c2 Kb1
def G258 : G DV := g258 G239 G255

/-- slices.Clone[[]byte,byte] -/
def g237 : G DV := fun R1 H1 Kb1 => lc R1 fun d1 R2 => onV d1 fun v1 => isS v1 fun s1 => ln R2 <| frcB (isNilS s1) fun t1 => br t1 (Kb1 (DV.v (AV.s AS.nil)) H1) (alB H1 te nn0 nn0 fun b1 H2 => appD nn1 nn1 (AS.sl b1 nn0 nn0 nn0) s1 H2 fun s2 H3 => Kb1 (DV.v (AV.s s2)) H3)
def G237 : G DV := g237

def z6 : T4 AV := (@T4.n AV yy1 (@T4.n AV yy2 (@T4.n AV yy1 te te te te) te te te) (@T4.n AV yy1 (@T4.n AV yy1 te te te te) te te te) (@T4.n AV yy1 (@T4.n AV yy1 te te te te) te te te) (@T4.n AV yy4 te te te te))
/-- ba.own -/
def g264 : G DV := fun R1 H1 Kb1 => lc R1 fun d1 R2 => ln R2 <| cellsD d1 fun l1 => alK H1 l1 fun b1 H2 => alB H2 z6 nn8 nn0 fun b2 H3 => rdK H3 b1 nn4 fun v1 => isS v1 fun s1 => c1 [(DV.v (AV.s s1))] H3 fun d2 H4 => onV d2 fun v2 => isS v2 fun s2 => wrK H4 b1 nn4 (AV.s s2) fun H5 => rdR H5 b1 nn0 nn8 fun l2 => must (Nat.beq (llen l2) nn8) <| wrL H5 b2 nn0 l2 fun H6 => rdR H6 b2 nn0 nn8 fun l3 => Kb1 (DV.a l3) H6
def G264 : G DV := g264 G237

def z7 : T4 AV := (@T4.n AV yy1 (@T4.n AV yy2 (@T4.n AV yy1 te te te te) te te te) (@T4.n AV yy1 (@T4.n AV yy1 te te te te) te te te) (@T4.n AV yy1 (@T4.n AV yy1 te te te te) te te te) (@T4.n AV yy4 (@T4.n AV yy3 te te te te) te te te))
def g200x1 := lookD [((nat_lit 198) , c1), ((nat_lit 201) , c2), ((nat_lit 213) , c3), ((nat_lit 258) , c4), ((nat_lit 264) , c5)] m1 (appA [(DV.a l1)] (mapP L1)) H1 fun d1 H2 => onV d1 fun v1 => isB v1 fun t1 => br t1 (rdR H2 b1 nn0 nn8 fun l2 => c5 [(DV.a l2)] H2 fun d2 H3 => onL d2 fun l3 => must (Nat.beq (llen l3) nn8) <| alK H3 (lapp l3 []) fun b2 H4 => appD nn8 nn80 s1 (AS.sl b2 nn0 nn1 nn1) H4 fun s2 H5 => Kb1 (DV.v (AV.s s2)) H5) (Kb1 (DV.v (AV.s s1)) H2)
def g200x2 := jF [(5 , .slice)] (fun d2 H2 => onV d2 fun v1 => isS v1 fun s3 => wrp .i64 (iadd n1 ii1) fun n2 => Kc1 (DV.v (AV.s s3)) (DV.v (AV.i .i64 n2)) H2) fun Kb1 => ixA s1 n1 (fun x => Nat.mul x nn9) fun b1 m1 => rdR H1 b1 m1 nn9 fun l1 => alB H1 z7 nn9 nn0 fun b2 H2 => must (Nat.beq (llen l1) nn9) <| wrL H2 b2 nn0 l1 fun H3 => rdR H3 b2 nn0 nn9 fun l2 => onV d1 fun v1 => isF v1 fun m2 L1 => g200x1 l2 L1 m2 b2 s2 H3 c1 c2 c3 c4 c5 Kb1
def g200x3 := ln R1 <| onA p1 fun b1 m1 => rdK H1 b1 (Nat.add m1 nn6) fun v1 => isS v1 fun s1 => lenA s1 fun m2 => lpR (failF [(5 , .slice), (13 , .int .i64)]) (fun Kc1 => fun d2 d3 H2 => onV d2 fun v2 => isS v2 fun s2 => onV d3 fun v3 => isI .i64 v3 fun n1 => frcB (ilt n1 (Int.ofNat m2)) fun t1 => br t1 (g200x2 d1 n1 s1 s2 H2 c1 c2 c3 c4 c5 Kc1) (Kb1 (DV.v (AV.s s2)) H2)) (nat_lit 100000) (DV.v (AV.s AS.nil)) (DV.v (AV.i .i64 ii0)) H1
/-- (*ba.Session).list -/
def g200 : G DV := fun R1 H1 Kb1 => lc R1 fun d1 R2 => onV d1 fun v1 => isP v1 fun p1 => lc R2 fun d2 R3 => g200x3 d2 R3 p1 H1 c1 c2 c3 c4 c5 Kb1
def G200 : G DV := g200 G198 G201 G213 G258 G264

def g274x1 := jn (fun d2 H2 => jn (fun d3 H3 => jn (fun d4 H4 => pickK t1 d4 (DV.v (AV.b false)) fun d5 => onV d5 fun v1 => isB v1 fun t2 => Kb1 (DV.v (AV.b t2)) H4) fun Kb2 => br t1 (onV d2 fun v1 => onV d3 fun v2 => isI .i64 v1 fun n1 => isI .i64 v2 fun n2 => frcB (ieq n1 n2) fun t2 => Kb2 (DV.v (AV.b t2)) H3) (Kb2 DV.n H3)) fun Kb2 => br t1 (onA p1 fun b1 m1 => rdK H2 b1 m1 fun v1 => isI .i64 v1 fun n1 => Kb2 (DV.v (AV.i .i64 n1)) H2) (Kb2 DV.n H2)) fun Kb2 => br t1 (onV d1 fun v1 => isP v1 fun p2 => onA p2 fun b1 m1 => rdK H1 b1 m1 fun v2 => isI .i64 v2 fun n1 => Kb2 (DV.v (AV.i .i64 n1)) H1) (Kb2 DV.n H1)
def g274x2 := lc R1 fun d2 R2 => onV d2 fun v1 => isP v1 fun p1 => ln R2 <| cellsD d1 fun l1 => alK H1 l1 fun b1 H2 => rdK H2 b1 nn8 fun v2 => isB v2 fun t1 => frcB (bnot t1) fun t2 => jn (fun d3 H3 => jn (fun d4 H4 => g274x1 d4 t2 p1 H4 Kb1) fun Kb2 => br t2 (onV d3 fun v3 => isP v3 fun p2 => onA p2 fun b2 m1 => Kb2 (DV.v (AV.p (AP.at b2 (Nat.add m1 nn5)))) H3) (Kb2 DV.n H3)) fun Kb2 => br t2 (Kb2 (DV.v (AV.p (AP.at b1 nn0))) H2) (Kb2 DV.n H2)
/-- (*ba.Session).Went$1 -/
def g274 : G DV := fun R1 H1 Kb1 => lc R1 fun d1 R2 => g274x2 d1 R2 H1 Kb1
def G274 : G DV := g274

/-- (*ba.Session).flies$1 -/
def g292 : G DV := fun R1 H1 Kb1 => lc R1 fun d1 R2 => ln R2 <| cellsD d1 fun l1 => alK H1 l1 fun b1 H2 => rdK H2 b1 nn8 fun v1 => isB v1 fun t1 => Kb1 (DV.v (AV.b t1)) H2
def G292 : G DV := g292

def g293x1 := br t1 (ixA s1 n1 (fun x => Nat.mul x nn9) fun b1 m1 => rdR H1 b1 m1 nn9 fun l1 => onV d1 fun v1 => isF v1 fun m2 L1 => lookD [((nat_lit 198) , c1), ((nat_lit 255) , c2), ((nat_lit 258) , c3), ((nat_lit 274) , c4), ((nat_lit 292) , c5)] m2 (appA [(DV.a l1)] (mapP L1)) H1 fun d2 H2 => onV d2 fun v2 => isB v2 fun t2 => br t2 (Kb1 (DV.v (AV.i .i64 n1)) H2) (wrp .i64 (iadd n1 ii1) fun n2 => Kb2 (DV.v (AV.i .i64 n2)) H2)) (Kb1 (DV.v (AV.i .i64 im1)) H1)
/-- slices.IndexFunc[[]ba.frame,ba.frame] -/
def g293 : G DV := fun R1 H1 Kb1 => lc R1 fun d1 R2 => onV d1 fun v1 => isS v1 fun s1 => lc R2 fun d2 R3 => ln R3 <| lenA s1 fun m1 => lpR (failF [(8 , .int .i64)]) (fun Kb2 => fun d3 H2 => onV d3 fun v2 => isI .i64 v2 fun n1 => frcB (ilt n1 (Int.ofNat m1)) fun t1 => g293x1 d2 n1 t1 s1 H2 c1 c2 c3 c4 c5 Kb1 Kb2) (nat_lit 100000) (DV.v (AV.i .i64 ii0)) H1
def G293 : G DV := g293 G198 G255 G258 G274 G292

def z8 : List AV := [(AV.i .i64 ii0), (AV.i .u32 ii0), (AV.i .i64 ii0), (AV.i .i64 ii0), (AV.s AS.nil), (AV.i .i64 ii0), (AV.i .i64 ii0), (AV.i .i64 ii0), (AV.b false)]
def g261x1 := isF v1 fun m1 L1 => lookD [((nat_lit 198) , c1), ((nat_lit 258) , c2), ((nat_lit 293) , c3)] m1 (appA [(DV.a l1)] (mapP L1)) H1 fun d1 H2 => onV d1 fun v2 => isB v2 fun t1 => frcB (bnot t1) fun t2 => br t2 (rdR H2 b1 nn0 nn9 fun l2 => ixA s1 n1 (fun x => Nat.mul x nn9) fun b2 m2 => must (Nat.beq (llen l2) nn9) <| wrL H2 b2 m2 l2 fun H3 => wrp .i64 (iadd n1 ii1) fun n2 => Kb1 (DV.v (AV.i .i64 n2)) H3) (Kb1 (DV.v (AV.i .i64 n1)) H2)
def g261x2 := jF [(5 , .int .i64)] (fun d2 H2 => onV d2 fun v1 => isI .i64 v1 fun n3 => wrp .i64 (iadd n1 ii1) fun n4 => Kc1 (DV.v (AV.i .i64 n3)) (DV.v (AV.i .i64 n4)) H2) fun Kb1 => ixA s1 n1 (fun x => Nat.mul x nn9) fun b1 m1 => rdR H1 b1 m1 nn9 fun l1 => alB H1 z7 nn9 nn0 fun b2 H2 => must (Nat.beq (llen l1) nn9) <| wrL H2 b2 nn0 l1 fun H3 => rdR H3 b2 nn0 nn9 fun l2 => onV d1 fun v1 => g261x1 v1 l2 n2 b2 s1 H3 c1 c2 c3 Kb1
def g261x3 := lpR (failF [(5 , .int .i64), (6 , .int .i64)]) (fun Kc1 => fun d2 d3 H2 => onV d2 fun v1 => isI .i64 v1 fun n3 => onV d3 fun v2 => isI .i64 v2 fun n4 => lenA s1 fun m1 => frcB (ilt n4 (Int.ofNat m1)) fun t1 => br t1 (g261x2 d1 n4 n3 s1 H2 c1 c2 c3 Kc1) (natK n3 fun m2 => lenA s1 fun m3 => slA s1 m2 m3 (fun x => Nat.mul x nn9) fun s2 => clrD z8 s2 H2 fun H3 => natK n3 fun m4 => slA s1 nn0 m4 (fun x => Nat.mul x nn9) fun s3 => Kb1 (DV.v (AV.s s3)) H3)) (nat_lit 100000) (DV.v (AV.i .i64 n1)) (DV.v (AV.i .i64 n2)) H1
/-- slices.DeleteFunc[[]ba.frame,ba.frame] -/
def g261 : G DV := fun R1 H1 Kb1 => lc R1 fun d1 R2 => onV d1 fun v1 => isS v1 fun s1 => lc R2 fun d2 R3 => ln R3 <| c3 [(DV.v (AV.s s1)), d2] H1 fun d3 H2 => onV d3 fun v2 => isI .i64 v2 fun n1 => frcB (ieq n1 im1) fun t1 => br t1 (Kb1 (DV.v (AV.s s1)) H2) (wrp .i64 (iadd n1 ii1) fun n2 => g261x3 d2 n1 n2 s1 H2 c1 c2 c3 Kb1)
def G261 : G DV := g261 G198 G258 G293

/-- slices.Clone[[]ba.frame,ba.frame] -/
def g262 : G DV := fun R1 H1 Kb1 => lc R1 fun d1 R2 => onV d1 fun v1 => isS v1 fun s1 => ln R2 <| frcB (isNilS s1) fun t1 => br t1 (Kb1 (DV.v (AV.s AS.nil)) H1) (alB H1 te nn0 nn0 fun b1 H2 => appD nn9 nn88 (AS.sl b1 nn0 nn0 nn0) s1 H2 fun s2 H3 => Kb1 (DV.v (AV.s s2)) H3)
def G262 : G DV := g262

/-- slices.Clone[[]int,int] -/
def g193 : G DV := fun R1 H1 Kb1 => lc R1 fun d1 R2 => onV d1 fun v1 => isS v1 fun s1 => ln R2 <| frcB (isNilS s1) fun t1 => br t1 (Kb1 (DV.v (AV.s AS.nil)) H1) (alB H1 te nn0 nn0 fun b1 H2 => appD nn1 nn8 (AS.sl b1 nn0 nn0 nn0) s1 H2 fun s2 H3 => Kb1 (DV.v (AV.s s2)) H3)
def G193 : G DV := g193

def g225x1 := lenA s1 fun m1 => lpR (failF [(8 , .int .i64)]) (fun Kb2 => fun d1 H2 => onV d1 fun v1 => isI .i64 v1 fun n2 => frcB (ilt n2 (Int.ofNat m1)) fun t1 => br t1 (ixA s1 n2 (fun x => x) fun b1 m2 => rdK H2 b1 m2 fun v2 => isI .i64 v2 fun n3 => frcB (ieq n1 n3) fun t2 => br t2 (Kb1 (DV.v (AV.i .i64 n2)) H2) (wrp .i64 (iadd n2 ii1) fun n4 => Kb2 (DV.v (AV.i .i64 n4)) H2)) (Kb1 (DV.v (AV.i .i64 im1)) H2)) (nat_lit 100000) (DV.v (AV.i .i64 ii0)) H1
/-- slices.Index[[]int,int] -/
def g225 : G DV := fun R1 H1 Kb1 => lc R1 fun d1 R2 => onV d1 fun v1 => isS v1 fun s1 => lc R2 fun d2 R3 => onV d2 fun v2 => isI .i64 v2 fun n1 => ln R3 <| g225x1 n1 s1 H1 Kb1
def G225 : G DV := g225

def g294x1 := slA3 s1 m1 m2 m3 (fun x => x) fun s2 => frcB (ieq n1 n2) fun t1 => br t1 (Kb1 (DV.v (AV.s s1)) H1) (lenA s1 fun m4 => natK n1 fun m5 => slA s1 nn0 m5 (fun x => x) fun s3 => natK n2 fun m6 => lenA s1 fun m7 => slA s1 m6 m7 (fun x => x) fun s4 => appD nn1 nn8 s3 s4 H1 fun s5 H2 => lenA s5 fun m8 => natK (Int.ofNat m8) fun m9 => natK (Int.ofNat m4) fun m10 => slA s5 m9 m10 (fun x => x) fun s6 => clrD [(AV.i .i64 ii0)] s6 H2 fun H3 => Kb1 (DV.v (AV.s s5)) H3)
/-- slices.Delete[[]int,int] -/
def g294 : G DV := fun R1 H1 Kb1 => lc R1 fun d1 R2 => onV d1 fun v1 => isS v1 fun s1 => lc R2 fun d2 R3 => onV d2 fun v2 => isI .i64 v2 fun n1 => lc R3 fun d3 R4 => onV d3 fun v3 => isI .i64 v3 fun n2 => ln R4 <| lenA s1 fun m1 => natK n1 fun m2 => natK n2 fun m3 => natK (Int.ofNat m1) fun m4 => g294x1 n1 n2 m2 m3 m4 s1 H1 Kb1
def G294 : G DV := g294

def g263x1 := wrK H1 b1 m1 (AV.i .i64 n1) fun H2 => jF [] (fun H3 => Kb1 (DV.v AV.ni) H3) fun Ka1 => onA p1 fun b2 m2 => rdK H2 b2 (Nat.add m2 nn3) fun v1 => isS v1 fun s1 => lenA s1 fun m3 => frcB (ilt ii0 (Int.ofNat m3)) fun t1 => br t1 (onA p1 fun b3 m4 => rdK H2 b3 (Nat.add m4 nn3) fun v2 => isS v2 fun s2 => ixA s2 ii0 (fun x => x) fun b4 m5 => rdK H2 b4 m5 fun v3 => isI .i64 v3 fun n2 => onA p1 fun b5 m6 => wrK H2 b5 m6 (AV.i .i64 n2) fun H3 => Ka1 H3) (Ka1 H2)
def g263x2 := c1 [(DV.v (AV.s s1))] H1 fun d1 H2 => onV d1 fun v1 => isS v1 fun s2 => wrp .i64 (iadd n1 ii1) fun n2 => c2 [(DV.v (AV.s s2)), (DV.v (AV.i .i64 n1)), (DV.v (AV.i .i64 n2))] H2 fun d2 H3 => onV d2 fun v2 => isS v2 fun s3 => onA p1 fun b1 m1 => wrK H3 b1 (Nat.add m1 nn3) (AV.s s3) fun H4 => onA p1 fun b2 m2 => rdK H4 b2 (Nat.add m2 nn1) fun v3 => isI .i64 v3 fun n3 => onA p1 fun b3 m3 => g263x1 n3 m3 p1 b3 H4 Kb1
def g263x3 := lc R1 fun d1 R2 => onV d1 fun v1 => isI .i64 v1 fun n1 => ln R2 <| onA p1 fun b1 m1 => rdK H1 b1 (Nat.add m1 nn3) fun v2 => isS v2 fun s1 => c1 [(DV.v (AV.s s1)), (DV.v (AV.i .i64 n1))] H1 fun d2 H2 => onV d2 fun v3 => isI .i64 v3 fun n2 => frcB (ilt n2 ii0) fun t1 => br t1 (Kb1 (DV.v (AV.er (nat_lit 6))) H2) (onA p1 fun b2 m2 => rdK H2 b2 (Nat.add m2 nn3) fun v4 => isS v4 fun s2 => g263x2 n2 p1 s2 H2 c2 c3 Kb1)
/-- (*win.Win).Done -/
def g263 : G DV := fun R1 H1 Kb1 => lc R1 fun d1 R2 => onV d1 fun v1 => isP v1 fun p1 => g263x3 R2 p1 H1 c2 c1 c3 Kb1
def G263 : G DV := g263 G193 G225 G294

def g197x1 := ixA s1 n1 (fun x => Nat.mul x nn8) fun b1 m1 => rdR H1 b1 m1 nn8 fun l1 => alB H1 z6 nn8 nn0 fun b2 H2 => must (Nat.beq (llen l1) nn8) <| wrL H2 b2 nn0 l1 fun H3 => onA p1 fun b3 m2 => rdK H3 b3 m2 fun v1 => isP v1 fun p2 => rdK H3 b2 nn5 fun v2 => isI .i64 v2 fun n2 => c1 [(DV.v (AV.p p2)), (DV.v (AV.i .i64 n2))] H3 fun d1 H4 => onV d1 fun v3 => ifA false true v3 AV.ni fun t1 => frcB (bnot t1) fun t2 => br t2 (Ka1 H4) (Ka1 H4)
def g197x2 := onV d1 fun v1 => isS v1 fun s2 => onA p1 fun b1 m1 => wrK H1 b1 (Nat.add m1 nn6) (AV.s s2) fun H2 => lenA s1 fun m2 => lpR (failF [(23 , .int .i64)]) (fun Kb2 => fun d2 H3 => onV d2 fun v2 => isI .i64 v2 fun n1 => frcB (ilt n1 (Int.ofNat m2)) fun t1 => br t1 (jF [] (fun H4 => wrp .i64 (iadd n1 ii1) fun n2 => Kb2 (DV.v (AV.i .i64 n2)) H4) fun Ka1 => g197x1 n1 p1 s1 H3 c1 Ka1) (Kb1 (DV.v (AV.s s1)) H3)) (nat_lit 100000) (DV.v (AV.i .i64 ii0)) H2
/-- (*ba.Session).take -/
def g197 : G DV := fun R1 H1 Kb1 => lc R1 fun d1 R2 => onV d1 fun v1 => isP v1 fun p1 => lc R2 fun d2 R3 => ln R3 <| c1 [(DV.v (AV.p p1)), d2] H1 fun d3 H2 => onV d3 fun v2 => isS v2 fun s1 => onA p1 fun b1 m1 => rdK H2 b1 (Nat.add m1 nn6) fun v3 => isS v3 fun s2 => c3 [(DV.v (AV.s s2))] H2 fun d4 H3 => onV d4 fun v4 => isS v4 fun s3 => c2 [(DV.v (AV.s s3)), d2] H3 fun d5 H4 => g197x2 d5 p1 s1 H4 c4 Kb1
def G197 : G DV := g197 G200 G261 G262 G263

def g110x1 := rdR H1 b1 nn0 nn9 fun l1 => isF v1 fun m1 L1 => lookD [((nat_lit 196) , c1), ((nat_lit 197) , c2)] m1 (appA [(DV.a l1)] (mapP L1)) H1 fun d1 H2 => onV d1 fun v2 => isI .i64 v2 fun n1 => frcB (bnot (ieq n1 ii0)) fun t1 => br t1 (alB H2 (@T4.n AV (AV.i .i64 n1) te te te te) nn1 nn0 fun b2 H3 => appD nn1 nn8 s1 (AS.sl b2 nn0 nn1 nn1) H3 fun s2 H4 => Kb1 (DV.v (AV.s s2)) H4) (Kb1 (DV.v (AV.s s1)) H2)
def g110x2 := jn (fun d2 H2 => pickK t1 d2 (DV.v (AV.b false)) fun d3 => onV d3 fun v1 => isB v1 fun t2 => br t2 (rdK H2 b1 nn0 fun v2 => isP v2 fun p1 => rdK H2 b1 nn0 fun v3 => isP v3 fun p2 => onA p1 fun b2 m1 => wrK H2 b2 (Nat.add m1 nn7) (AV.b true) fun H3 => rdK H3 b1 nn0 fun v4 => must (aveq (AV.p p2) v4) <| onA p2 fun b3 m2 => wrK H3 b3 (Nat.add m2 nn8) (AV.i .i64 ii0) fun H4 => Ka1 H4) (Ka1 H2)) fun Kb1 => br t1 (onV d1 fun v1 => isB v1 fun t2 => frcB (bnot t2) fun t3 => Kb1 (DV.v (AV.b t3)) H1) (Kb1 DV.n H1)
def g110x3 := jn (fun d2 H2 => jn (fun d3 H3 => jn (fun d4 H4 => g110x2 d4 t1 b1 H4 Ka1) fun Kb1 => br t1 (onV d3 fun v1 => isP v1 fun p1 => onA p1 fun b2 m1 => rdK H3 b2 m1 fun v2 => isB v2 fun t2 => Kb1 (DV.v (AV.b t2)) H3) (Kb1 DV.n H3)) fun Kb1 => br t1 (onV d2 fun v1 => isP v1 fun p1 => onA p1 fun b2 m1 => Kb1 (DV.v (AV.p (AP.at b2 (Nat.add m1 nn7)))) H2) (Kb1 DV.n H2)) fun Kb1 => br t1 (onV d1 fun v1 => isP v1 fun p1 => onA p1 fun b2 m1 => Kb1 (DV.v (AV.p (AP.at b2 m1))) H1) (Kb1 DV.n H1)
def g110x4 := jn (fun d2 H2 => jn (fun d3 H3 => pickK t1 d3 (DV.v (AV.b false)) fun d4 => onV d4 fun v1 => isB v1 fun t2 => jn (fun d5 H4 => g110x3 d5 t2 b1 H4 Ka1) fun Kb1 => br t2 (rdK H3 b1 nn0 fun v2 => isP v2 fun p1 => Kb1 (DV.v (AV.p p1)) H3) (Kb1 DV.n H3)) fun Kb1 => br t1 (onV d2 fun v1 => isI .i64 v1 fun n1 => frcB (ieq n1 ii3) fun t2 => Kb1 (DV.v (AV.b t2)) H2) (Kb1 DV.n H2)) fun Kb1 => br t1 (onV d1 fun v1 => isP v1 fun p1 => onA p1 fun b2 m1 => rdK H1 b2 m1 fun v2 => isI .i64 v2 fun n1 => Kb1 (DV.v (AV.i .i64 n1)) H1) (Kb1 DV.n H1)
def g110x5 := jn (fun d1 H2 => jn (fun d2 H3 => jn (fun d3 H4 => g110x4 d3 t1 b1 H4 Ka1) fun Kb1 => br t1 (onV d2 fun v1 => isP v1 fun p1 => onA p1 fun b2 m1 => Kb1 (DV.v (AV.p (AP.at b2 (Nat.add m1 nn4)))) H3) (Kb1 DV.n H3)) fun Kb1 => br t1 (onV d1 fun v1 => isP v1 fun p1 => onA p1 fun b2 m1 => Kb1 (DV.v (AV.p (AP.at b2 m1))) H2) (Kb1 DV.n H2)) fun Kb1 => br t1 (rdK H1 b1 nn0 fun v1 => isP v1 fun p1 => Kb1 (DV.v (AV.p p1)) H1) (Kb1 DV.n H1)
def g110x6 := br t1 (jF [(7 , .slice)] (fun d1 H2 => onV d1 fun v1 => isS v1 fun s3 => wrp .i64 (iadd n1 ii1) fun n2 => Kc1 (DV.v (AV.s s3)) (DV.v (AV.i .i64 n2)) H2) fun Kb2 => ixA s1 n1 (fun x => Nat.mul x nn9) fun b3 m1 => rdR H1 b3 m1 nn9 fun l1 => alB H1 z7 nn9 nn0 fun b4 H2 => must (Nat.beq (llen l1) nn9) <| wrL H2 b4 nn0 l1 fun H3 => rdK H3 b1 nn0 fun v1 => g110x1 v1 b4 s2 H3 c1 c2 Kb2) (rdK H1 b2 nn0 fun v1 => isP v1 fun p1 => c2 [(DV.v (AV.p p1)), (DV.v (AV.fn (nat_lit 198) [(AP.at b1 nn0)]))] H1 fun d1 H2 => onV d1 fun v2 => isS v2 fun s3 => jF [] (fun H3 => Kb1 (DV.c (DV.v (AV.s s3)) (DV.c (DV.v (AV.s s2)) DV.n)) H3) fun Ka1 => lenA s3 fun m1 => frcB (ilt ii0 (Int.ofNat m1)) fun t2 => g110x5 t2 b2 H2 Ka1)
def g110x7 := wrK H1 b1 nn0 (AV.fn (nat_lit 196) [(AP.at b2 nn0), (AP.at b3 nn0)]) fun H2 => rdK H2 b2 nn0 fun v1 => isP v1 fun p1 => onA p1 fun b4 m1 => rdK H2 b4 (Nat.add m1 nn6) fun v2 => isS v2 fun s1 => lenA s1 fun m2 => lpR (failF [(7 , .slice), (18 , .int .i64)]) (fun Kc1 => fun d1 d2 H3 => onV d1 fun v3 => isS v3 fun s2 => onV d2 fun v4 => isI .i64 v4 fun n1 => frcB (ilt n1 (Int.ofNat m2)) fun t1 => g110x6 n1 t1 b1 b2 s1 s2 H3 c1 c2 Kb1 Kc1) (nat_lit 100000) (DV.v (AV.s AS.nil)) (DV.v (AV.i .i64 ii0)) H2
/-- (*ba.Session).Sweep -/
def g110 : G DV := fun R1 H1 Kb1 => lc R1 fun d1 R2 => onV d1 fun v1 => isP v1 fun p1 => lc R2 fun d2 R3 => onV d2 fun v2 => isI .i64 v2 fun n1 => ln R3 <| alB H1 (@T4.n AV (AV.p p1) te te te te) nn1 nn0 fun b1 H2 => alB H2 (@T4.n AV (AV.i .i64 n1) te te te te) nn1 nn0 fun b2 H3 => alB H3 (@T4.n AV yy7 te te te te) nn1 nn0 fun b3 H4 => g110x7 b3 b1 b2 H4 c1 c2 Kb1
def G110 : G DV := g110 G196 G197

def g44x1 := jn (fun d3 H2 => pickK t1 (DV.v (AV.b true)) d3 fun d4 => onV d4 fun v1 => isB v1 fun t2 => br t2 (Kb1 (DV.c (DV.v (AV.p AP.nil)) (DV.c (DV.v (AV.er (nat_lit 6))) DV.n)) H2) (onA p1 fun b1 m1 => rdK H2 b1 m1 fun v2 => isS v2 fun s1 => wrp .i64 (isub n1 ii1) fun n2 => ixA s1 n2 (fun x => Nat.mul x nn2) fun b2 m2 => Kb1 (DV.c (DV.v (AV.p (AP.at b2 m2))) (DV.c (DV.v AV.ni) DV.n)) H2)) fun Kb2 => br t1 (Kb2 DV.n H1) (onV d1 fun v1 => onV d2 fun v2 => isI .i64 v1 fun n2 => isI .i64 v2 fun n3 => frcB (ilt n3 n2) fun t2 => Kb2 (DV.v (AV.b t2)) H1)
def g44x2 := jn (fun d3 H2 => jn (fun d4 H3 => jn (fun d5 H4 => g44x1 d1 d5 n1 t1 p1 H4 Kb1) fun Kb2 => br t1 (Kb2 DV.n H3) (onV d4 fun v1 => isS v1 fun s1 => lenA s1 fun m1 => Kb2 (DV.v (AV.i .i64 (Int.ofNat m1))) H3)) fun Kb2 => br t1 (Kb2 DV.n H2) (onV d3 fun v1 => isP v1 fun p2 => onA p2 fun b1 m1 => rdK H2 b1 m1 fun v2 => isS v2 fun s1 => Kb2 (DV.v (AV.s s1)) H2)) fun Kb2 => br t1 (Kb2 DV.n H1) (onV d2 fun v1 => isP v1 fun p2 => onA p2 fun b1 m1 => Kb2 (DV.v (AV.p (AP.at b1 m1))) H1)
def g44x3 := lc R1 fun d1 R2 => onV d1 fun v1 => isI .i64 v1 fun n1 => ln R2 <| frcB (ilt n1 ii1) fun t1 => jn (fun d2 H2 => jn (fun d3 H3 => jn (fun d4 H4 => g44x2 d2 d4 n1 t1 p1 H4 Kb1) fun Kb2 => br t1 (Kb2 DV.n H3) (onV d3 fun v2 => isP v2 fun p2 => onA p2 fun b1 m1 => Kb2 (DV.v (AV.p (AP.at b1 m1))) H3)) fun Kb2 => br t1 (Kb2 DV.n H2) (Kb2 (DV.v (AV.p p1)) H2)) fun Kb2 => br t1 (Kb2 DV.n H1) (Kb2 (DV.v (AV.i .i64 n1)) H1)
/-- (*count.Book).of -/
def g44 : G DV := fun R1 H1 Kb1 => lc R1 fun d1 R2 => onV d1 fun v1 => isP v1 fun p1 => g44x3 R2 p1 H1 Kb1
def G44 : G DV := g44

def g260x1 := jn (fun d2 H2 => jn (fun d3 H3 => jn (fun d4 H4 => pickK t1 (DV.v (AV.b true)) d4 fun d5 => onV d5 fun v1 => isB v1 fun t2 => Kb1 (DV.v (AV.b t2)) H4) fun Kb2 => br t1 (Kb2 DV.n H3) (onV d3 fun v1 => isI .i64 v1 fun n1 => frcB (ieq n1 ii4) fun t2 => Kb2 (DV.v (AV.b t2)) H3)) fun Kb2 => br t1 (Kb2 DV.n H2) (onV d2 fun v1 => isP v1 fun p1 => onA p1 fun b1 m1 => rdK H2 b1 m1 fun v2 => isI .i64 v2 fun n1 => Kb2 (DV.v (AV.i .i64 n1)) H2)) fun Kb2 => br t1 (Kb2 DV.n H1) (onV d1 fun v1 => isP v1 fun p1 => onA p1 fun b1 m1 => Kb2 (DV.v (AV.p (AP.at b1 m1))) H1)
/-- count.over -/
def g260 : G DV := fun R1 H1 Kb1 => lc R1 fun d1 R2 => onV d1 fun v1 => isP v1 fun p1 => ln R2 <| onA p1 fun b1 m1 => rdK H1 b1 m1 fun v2 => isI .i64 v2 fun n1 => frcB (ieq n1 ii3) fun t1 => jn (fun d2 H2 => jn (fun d3 H3 => g260x1 d3 t1 H3 Kb1) fun Kb2 => br t1 (Kb2 DV.n H2) (onV d2 fun v3 => isP v3 fun p2 => onA p2 fun b2 m2 => Kb2 (DV.v (AV.p (AP.at b2 m2))) H2)) fun Kb2 => br t1 (Kb2 DV.n H1) (Kb2 (DV.v (AV.p p1)) H1)
def G260 : G DV := g260

def g199x1 := jn (fun d2 H2 => pickK t1 (DV.v (AV.b true)) d2 fun d3 => onV d3 fun v1 => isB v1 fun t2 => br t2 (Kb1 (DV.v (AV.er (nat_lit 2))) H2) (c1 [(DV.v (AV.p p1))] H2 fun d4 H3 => onV d4 fun v2 => isB v2 fun t3 => br t3 (Kb1 (DV.v (AV.er (nat_lit 9))) H3) (onA p1 fun b1 m1 => wrL H3 b1 m1 [(AV.i .i64 ii4), (AV.i .i64 n1)] fun H4 => Kb1 (DV.v AV.ni) H4))) fun Kb2 => br t1 (Kb2 DV.n H1) (onV d1 fun v1 => isI .i64 v1 fun n2 => frcB (ilt ii5 n2) fun t2 => Kb2 (DV.v (AV.b t2)) H1)
def g199x2 := isI .i64 v1 fun n2 => ln R1 <| c1 [(DV.v (AV.p p1)), (DV.v (AV.i .i64 n1))] H1 fun d1 H2 => onC d1 fun d2 d3 => onV d2 fun v2 => isP v2 fun p2 => onC d3 fun d4 d5 => onV d4 fun v3 => onN d5 <| ifA true true v3 AV.ni fun t1 => frcB (bnot t1) fun t2 => br t2 (Kb1 (DV.v v3) H2) (frcB (ilt n2 ii1) fun t3 => jn (fun d6 H3 => g199x1 d6 n2 t3 p2 H3 c2 Kb1) fun Kb2 => br t3 (Kb2 DV.n H2) (Kb2 (DV.v (AV.i .i64 n2)) H2))
/-- (*count.Book).Drop -/
def g199 : G DV := fun R1 H1 Kb1 => lc R1 fun d1 R2 => onV d1 fun v1 => isP v1 fun p1 => lc R2 fun d2 R3 => onV d2 fun v2 => isI .i64 v2 fun n1 => lc R3 fun d3 R4 => onV d3 fun v3 => g199x2 v3 R4 n1 p1 H1 c1 c2 Kb1
def G199 : G DV := g199 G44 G260

def z9 : T4 AV := (@T4.n AV yy1 (@T4.n AV yy2 te te te te) (@T4.n AV yy1 te te te te) (@T4.n AV yy1 te te te te) (@T4.n AV yy4 te te te te))
def g111x1 := ixA s1 n1 (fun x => Nat.mul x nn5) fun b1 m1 => rdR H1 b1 m1 nn5 fun l1 => alB H1 z9 nn5 nn0 fun b2 H2 => must (Nat.beq (llen l1) nn5) <| wrL H2 b2 nn0 l1 fun H3 => onA p1 fun b3 m2 => rdK H3 b2 nn0 fun v1 => isI .i64 v1 fun n3 => c1 [(DV.v (AV.p (AP.at b3 (Nat.add m2 nn310)))), (DV.v (AV.i .i64 n3)), (DV.v (AV.i .i64 n2))] H3 fun d1 H4 => onV d1 fun v2 => wrp .i64 (iadd n1 ii1) fun n4 => Kb1 (DV.v (AV.i .i64 n4)) H4
/-- (*ap.AP).drop -/
def g111 : G DV := fun R1 H1 Kb1 => lc R1 fun d1 R2 => onV d1 fun v1 => isP v1 fun p1 => lc R2 fun d2 R3 => onV d2 fun v2 => isI .i64 v2 fun n1 => lc R3 fun d3 R4 => onV d3 fun v3 => isS v3 fun s1 => ln R4 <| lenA s1 fun m1 => lpR (failF [(10 , .int .i64)]) (fun Kb2 => fun d4 H2 => onV d4 fun v4 => isI .i64 v4 fun n2 => frcB (ilt n2 (Int.ofNat m1)) fun t1 => br t1 (g111x1 n2 n1 p1 s1 H2 c1 Kb2) (Kb1 DV.n H2)) (nat_lit 100000) (DV.v (AV.i .i64 ii0)) H1
def G111 : G DV := g111 G199

/-- (*ba.Session).Out -/
def g112 : G DV := fun R1 H1 Kb1 => lc R1 fun d1 R2 => onV d1 fun v1 => isP v1 fun p1 => ln R2 <| c1 [(DV.v (AV.p p1)), (DV.v (AV.fn (nat_lit 201) []))] H1 fun d2 H2 => onV d2 fun v2 => isS v2 fun s1 => Kb1 (DV.v (AV.s s1)) H2
def G112 : G DV := g112 G200

def g202x1 := jn (fun d2 H2 => pickK t1 (DV.v (AV.b true)) d2 fun d3 => onV d3 fun v1 => isB v1 fun t2 => br t2 (Kb1 (DV.v (AV.er (nat_lit 2))) H2) (onA p1 fun b1 m1 => rdK H2 b1 (Nat.add m1 nn3) fun v2 => isS v2 fun s1 => lenA s1 fun m2 => frcB (ilt ii0 (Int.ofNat m2)) fun t3 => br t3 (Kb1 (DV.v (AV.er (nat_lit 9))) H2) (onA p1 fun b2 m3 => wrK H2 b2 (Nat.add m3 nn2) (AV.i .i64 n1) fun H3 => Kb1 (DV.v AV.ni) H3))) fun Kb2 => br t1 (Kb2 DV.n H1) (onV d1 fun v1 => isI .i64 v1 fun n2 => frcB (ilt ii64 n2) fun t2 => Kb2 (DV.v (AV.b t2)) H1)
/-- (*win.Win).Resize -/
def g202 : G DV := fun R1 H1 Kb1 => lc R1 fun d1 R2 => onV d1 fun v1 => isP v1 fun p1 => lc R2 fun d2 R3 => onV d2 fun v2 => isI .i64 v2 fun n1 => ln R3 <| frcB (ilt n1 ii1) fun t1 => jn (fun d3 H2 => g202x1 d3 n1 t1 p1 H2 Kb1) fun Kb2 => br t1 (Kb2 DV.n H1) (Kb2 (DV.v (AV.i .i64 n1)) H1)
def G202 : G DV := g202

def g113x1 := rdK H1 b1 m1 fun v1 => isP v1 fun p2 => c1 [(DV.v (AV.p p2)), (DV.v (AV.i .i64 ii1))] H1 fun d1 H2 => onV d1 fun v2 => ifA true true v2 AV.ni fun t1 => frcB (bnot t1) fun t2 => br t2 (Kb1 (DV.v v2) H2) (onA p1 fun b2 m2 => wrK H2 b2 (Nat.add m2 nn4) (AV.i .i64 ii1) fun H3 => onA p1 fun b3 m3 => wrK H3 b3 (Nat.add m3 nn7) (AV.b false) fun H4 => onA p1 fun b4 m4 => wrK H4 b4 (Nat.add m4 nn8) (AV.i .i64 ii0) fun H5 => Kb1 (DV.v AV.ni) H5)
def g113x2 := jn (fun d2 H2 => jn (fun d3 H3 => pickK t1 (DV.v (AV.b true)) d3 fun d4 => onV d4 fun v1 => isB v1 fun t2 => br t2 (Kb1 (DV.v (AV.er (nat_lit 9))) H3) (onA p1 fun b1 m1 => g113x1 m1 p1 b1 H3 c1 Kb1)) fun Kb2 => br t1 (Kb2 DV.n H2) (onV d2 fun v1 => isI .i64 v1 fun n1 => frcB (ilt ii0 n1) fun t2 => Kb2 (DV.v (AV.b t2)) H2)) fun Kb2 => br t1 (Kb2 DV.n H1) (onV d1 fun v1 => isS v1 fun s1 => lenA s1 fun m1 => Kb2 (DV.v (AV.i .i64 (Int.ofNat m1))) H1)
def g113x3 := jn (fun d2 H2 => jn (fun d3 H3 => jn (fun d4 H4 => g113x2 d4 t1 p1 H4 c1 Kb1) fun Kb2 => br t1 (Kb2 DV.n H3) (onV d3 fun v1 => isP v1 fun p2 => onA p2 fun b1 m1 => rdK H3 b1 m1 fun v2 => isS v2 fun s1 => Kb2 (DV.v (AV.s s1)) H3)) fun Kb2 => br t1 (Kb2 DV.n H2) (onV d2 fun v1 => isP v1 fun p2 => onA p2 fun b1 m1 => Kb2 (DV.v (AV.p (AP.at b1 (Nat.add m1 nn6)))) H2)) fun Kb2 => br t1 (Kb2 DV.n H1) (onV d1 fun v1 => isP v1 fun p2 => onA p2 fun b1 m1 => Kb2 (DV.v (AV.p (AP.at b1 m1))) H1)
/-- (*ba.Session).End -/
def g113 : G DV := fun R1 H1 Kb1 => lc R1 fun d1 R2 => onV d1 fun v1 => isP v1 fun p1 => ln R2 <| onA p1 fun b1 m1 => rdK H1 b1 (Nat.add m1 nn4) fun v2 => isI .i64 v2 fun n1 => frcB (ieq n1 ii1) fun t1 => jn (fun d2 H2 => g113x3 d2 t1 p1 H2 c1 Kb1) fun Kb2 => br t1 (Kb2 DV.n H1) (Kb2 (DV.v (AV.p p1)) H1)
def G113 : G DV := g113 G202

def g59x1 := alB H1 z6 nn8 nn0 fun b1 H2 => must (Nat.beq (llen l1) nn8) <| wrL H2 b1 nn0 l1 fun H3 => ixA s1 n1 (fun x => x) fun b2 m1 => rdK H3 b2 m1 fun v1 => isI .i64 v1 fun n2 => rdR H3 b1 nn0 nn5 fun l2 => must (Nat.beq (llen l2) nn5) <| alK H3 (lapp l2 []) fun b3 H4 => c1 [(DV.v (AV.p p1)), (DV.v (AV.i .i64 n2)), (DV.v (AV.s (AS.sl b3 nn0 nn1 nn1)))] H4 fun d1 H5 => wrp .i64 (iadd n1 ii1) fun n3 => Kb1 (DV.v (AV.i .i64 n3)) H5
def g59x2 := jn (fun d2 H2 => pickK t1 d2 (DV.v (AV.b false)) fun d3 => onV d3 fun v1 => isB v1 fun t2 => br t2 (onA p1 fun b1 m1 => wrK H2 b1 (Nat.add m1 nn3) (AV.b false) fun H3 => onA p1 fun b2 m2 => rdK H3 b2 m2 fun v2 => isP v2 fun p2 => c1 [(DV.v (AV.p p2))] H3 fun d4 H4 => onV d4 fun v3 => ifA true true v3 AV.ni fun t3 => frcB (bnot t3) fun t4 => br t4 (Kb1 DV.n H4) (Kb1 DV.n H4)) (Kb1 DV.n H2)) fun Kb2 => br t1 (onV d1 fun v1 => isI .i64 v1 fun n1 => frcB (ieq n1 ii0) fun t2 => Kb2 (DV.v (AV.b t2)) H1) (Kb2 DV.n H1)
def g59x3 := jn (fun d2 H2 => jn (fun d3 H3 => jn (fun d4 H4 => g59x2 d4 t1 p1 H4 c1 Kb1) fun Kb2 => br t1 (onV d3 fun v1 => isS v1 fun s1 => lenA s1 fun m1 => Kb2 (DV.v (AV.i .i64 (Int.ofNat m1))) H3) (Kb2 DV.n H3)) fun Kb2 => br t1 (c2 [d2] H2 fun d3 H3 => onV d3 fun v1 => isS v1 fun s1 => Kb2 (DV.v (AV.s s1)) H3) (Kb2 DV.n H2)) fun Kb2 => br t1 (onV d1 fun v1 => isP v1 fun p2 => onA p2 fun b1 m1 => rdK H1 b1 m1 fun v2 => isP v2 fun p3 => Kb2 (DV.v (AV.p p3)) H1) (Kb2 DV.n H1)
def g59x4 := rdK H1 b1 (Nat.add m1 nn3) fun v1 => isB v1 fun t1 => jn (fun d1 H2 => jn (fun d2 H3 => jn (fun d3 H4 => g59x3 d3 t1 p1 H4 c1 c2 Kb1) fun Kb2 => br t1 (onV d2 fun v2 => isP v2 fun p2 => onA p2 fun b2 m2 => Kb2 (DV.v (AV.p (AP.at b2 m2))) H3) (Kb2 DV.n H3)) fun Kb2 => br t1 (onV d1 fun v2 => isP v2 fun p2 => onA p2 fun b2 m2 => Kb2 (DV.v (AV.p (AP.at b2 m2))) H2) (Kb2 DV.n H2)) fun Kb2 => br t1 (Kb2 (DV.v (AV.p p1)) H1) (Kb2 DV.n H1)
def g59x5 := onC d1 fun d2 d3 => onV d2 fun v1 => isS v1 fun s2 => onN d3 <| lenA s1 fun m1 => lpR (failF [(22 , .int .i64)]) (fun Kb2 => fun d4 H2 => onV d4 fun v2 => isI .i64 v2 fun n1 => frcB (ilt n1 (Int.ofNat m1)) fun t1 => br t1 (ixA s1 n1 (fun x => Nat.mul x nn8) fun b1 m2 => rdR H2 b1 m2 nn8 fun l1 => g59x1 l1 n1 p1 s2 H2 c1 Kb2) (onA p2 fun b1 m2 => g59x4 m2 p2 b1 H2 c2 c3 Kb1)) (nat_lit 100000) (DV.v (AV.i .i64 ii0)) H1
def g59x6 := lc R1 fun d1 R2 => onV d1 fun v1 => isP v1 fun p1 => lc R2 fun d2 R3 => onV d2 fun v2 => isP v2 fun p2 => ln R3 <| onA p2 fun b1 m1 => rdK H1 b1 m1 fun v3 => isP v3 fun p3 => onA p1 fun b2 m2 => rdK H1 b2 (Nat.add m2 nn21) fun v4 => isI .i64 v4 fun n1 => c1 [(DV.v (AV.p p3)), (DV.v (AV.i .i64 n1))] H1 fun d3 H2 => onC d3 fun d4 d5 => onV d4 fun v5 => isS v5 fun s1 => g59x5 d5 p1 p2 s1 H2 c2 c3 c4 Kb1
/-- (*ap.AP).sweep -/
def g59 : G DV := fun R1 H1 Kb1 => g59x6 R1 H1 c1 c2 c4 c3 Kb1
def G59 : G DV := g59 G110 G111 G112 G113

/-- edca.fair -/
def g192 : G DV := fun R1 H1 Kb1 => lc R1 fun d1 R2 => onV d1 fun v1 => isI .i64 v1 fun n1 => ln R2 <| frcB (ile ii0 n1) fun t1 => jn (fun d2 H2 => jn (fun d3 H3 => pickK t1 d3 (DV.v (AV.b false)) fun d4 => onV d4 fun v2 => isB v2 fun t2 => Kb1 (DV.v (AV.b t2)) H3) fun Kb2 => br t1 (onV d2 fun v2 => isI .i64 v2 fun n2 => frcB (ilt n2 ii4) fun t2 => Kb2 (DV.v (AV.b t2)) H2) (Kb2 DV.n H2)) fun Kb2 => br t1 (Kb2 (DV.v (AV.i .i64 n1)) H1) (Kb2 DV.n H1)
def G192 : G DV := g192

def z10 : T4 AV := (@T4.n AV yy8 (@T4.n AV yy8 te te te te) (@T4.n AV yy9 te te te te) (@T4.n AV yy10 te te te te) te)
/-- edca.first -/
def g203 : G DV := fun R1 H1 Kb1 => lc R1 fun d1 R2 => onV d1 fun v1 => isI .i64 v1 fun n1 => ln R2 <| alB H1 z10 nn4 nn0 fun b1 H2 => ixA (AS.sl b1 nn0 nn4 nn4) n1 (fun x => x) fun b2 m1 => rdK H2 b2 m1 fun v2 => isI .i64 v2 fun n2 => Kb1 (DV.v (AV.i .i64 n2)) H2
def G203 : G DV := g203

def g114x1 := frcB (bnot t1) fun t2 => br t2 (Kb1 (DV.v (AV.i .i64 ii0)) H1) (onA p1 fun b1 m1 => rng n1 nn4 <| rdK H1 b1 (Nat.add (Nat.add m1 (Nat.mul (itn n1) nn3)) nn2) fun v1 => isI .i64 v1 fun n2 => c1 [(DV.v (AV.i .i64 n1))] H1 fun d1 H2 => onV d1 fun v2 => isI .i64 v2 fun n3 => rdK H2 b1 (Nat.add (Nat.add m1 (Nat.mul (itn n1) nn3)) nn2) fun v3 => must (aveq (AV.i .i64 n2) v3) <| wrp .i64 (iadd n3 n2) fun n4 => Kb1 (DV.v (AV.i .i64 n4)) H2)
/-- (*edca.Edca).Window -/
def g114 : G DV := fun R1 H1 Kb1 => lc R1 fun d1 R2 => onV d1 fun v1 => isP v1 fun p1 => lc R2 fun d2 R3 => onV d2 fun v2 => isI .i64 v2 fun n1 => ln R3 <| c1 [(DV.v (AV.i .i64 n1))] H1 fun d3 H2 => onV d3 fun v3 => isB v3 fun t1 => g114x1 n1 t1 p1 H2 c2 Kb1
def G114 : G DV := g114 G192 G203

def z11 : T4 AV := (@T4.n AV yy9 (@T4.n AV yy10 te te te te) (@T4.n AV yy11 te te te te) (@T4.n AV yy11 te te te te) te)
/-- edca.wait -/
def g115 : G DV := fun R1 H1 Kb1 => lc R1 fun d1 R2 => onV d1 fun v1 => isI .i64 v1 fun n1 => ln R2 <| alB H1 z11 nn4 nn0 fun b1 H2 => ixA (AS.sl b1 nn0 nn4 nn4) n1 (fun x => x) fun b2 m1 => rdK H2 b2 m1 fun v2 => isI .i64 v2 fun n2 => Kb1 (DV.v (AV.i .i64 n2)) H2
def G115 : G DV := g115

def z12 : T4 AV := (@T4.n AV yy12 (@T4.n AV yy13 te te te te) (@T4.n AV yy8 te te te te) (@T4.n AV yy9 te te te te) te)
/-- edca.most -/
def g204 : G DV := fun R1 H1 Kb1 => lc R1 fun d1 R2 => onV d1 fun v1 => isI .i64 v1 fun n1 => ln R2 <| alB H1 z12 nn4 nn0 fun b1 H2 => ixA (AS.sl b1 nn0 nn4 nn4) n1 (fun x => x) fun b2 m1 => rdK H2 b2 m1 fun v2 => isI .i64 v2 fun n2 => Kb1 (DV.v (AV.i .i64 n2)) H2
def G204 : G DV := g204

def g116x1 := onV d1 fun v1 => isI .i64 v1 fun n2 => wrp .i64 (imul ii2 n2) fun n3 => wrp .i64 (iadd n3 ii1) fun n4 => c1 [(DV.v (AV.i .i64 n1))] H1 fun d2 H2 => onV d2 fun v2 => isI .i64 v2 fun n5 => asI (imin n4 n5) fun n6 => c2 [(DV.v (AV.i .i64 n1))] H2 fun d3 H3 => onV d3 fun v3 => isI .i64 v3 fun n7 => wrp .i64 (isub n6 n7) fun n8 => rng n1 nn4 <| wrK H3 b1 (Nat.add (Nat.add m1 (Nat.mul (itn n1) nn3)) nn2) (AV.i .i64 n8) fun H4 => Kb1 DV.n H4
/-- (*edca.Edca).grow -/
def g116 : G DV := fun R1 H1 Kb1 => lc R1 fun d1 R2 => onV d1 fun v1 => isP v1 fun p1 => lc R2 fun d2 R3 => onV d2 fun v2 => isI .i64 v2 fun n1 => ln R3 <| onA p1 fun b1 m1 => c1 [(DV.v (AV.p p1)), (DV.v (AV.i .i64 n1))] H1 fun d3 H2 => g116x1 d3 n1 m1 b1 H2 c3 c2 Kb1
def G116 : G DV := g116 G114 G203 G204

def g60x1 := jn (fun d2 H2 => jn (fun d3 H3 => pickK t1 (DV.v (AV.b true)) d3 fun d4 => onV d4 fun v1 => isB v1 fun t2 => br t2 (Kc1 (DV.v (AV.i .i64 n1)) (DV.v (AV.i .i64 n2)) H3) (Kc1 (DV.v (AV.i .i64 n3)) (DV.v (AV.i .i64 n4)) H3)) fun Kb1 => br t1 (Kb1 DV.n H2) (onV d1 fun v1 => onV d2 fun v2 => isI .i64 v1 fun n5 => isI .i64 v2 fun n6 => frcB (ile n5 n6) fun t2 => Kb1 (DV.v (AV.b t2)) H2)) fun Kb1 => br t1 (Kb1 DV.n H1) (Kb1 (DV.v (AV.i .i64 n4)) H1)
def g60x2 := rdK H1 b1 (Nat.add (Nat.add m1 (Nat.mul (itn n1) nn3)) nn1) fun v1 => isI .i64 v1 fun n4 => c1 [(DV.v (AV.i .i64 n1))] H1 fun d1 H2 => onV d1 fun v2 => isI .i64 v2 fun n5 => rdK H2 b1 (Nat.add (Nat.add m1 (Nat.mul (itn n1) nn3)) nn1) fun v3 => must (aveq (AV.i .i64 n4) v3) <| wrp .i64 (iadd n5 n4) fun n6 => frcB (ilt n2 ii0) fun t1 => jn (fun d2 H3 => g60x1 d2 n1 n6 n2 n3 t1 H3 Kc1) fun Kb1 => br t1 (Kb1 DV.n H2) (Kb1 (DV.v (AV.i .i64 n6)) H2)
def g60x3 := rdK H1 b1 (Nat.add nn0 (itn n1)) fun v1 => must (aveq (AV.i .u32 n2) v1) <| wrp .i64 (iadd n3 ii1) fun n4 => wrp .u32 n4 fun n5 => must (bnot (ieq n5 ii0)) <| asI (irem n2 n5) fun n6 => wrp .i64 n6 fun n7 => wrK H1 b2 (Nat.add m1 (Nat.mul (itn n1) nn3)) (AV.b true) fun H2 => rdK H2 b1 (Nat.add nn0 (itn n1)) fun v2 => must (aveq (AV.i .u32 n2) v2) <| wrK H2 b2 (Nat.add (Nat.add m1 (Nat.mul (itn n1) nn3)) nn1) (AV.i .i64 n7) fun H3 => Ka1 H3
def g60x4 := jF [] (fun H2 => onA p1 fun b2 m1 => rng n1 nn4 <| g60x2 n1 n2 n3 m1 b2 H2 c1 Kc1) fun Ka1 => onA p1 fun b2 m1 => rng n1 nn4 <| rdK H1 b2 (Nat.add m1 (Nat.mul (itn n1) nn3)) fun v1 => isB v1 fun t1 => frcB (bnot t1) fun t2 => br t2 (rng n1 nn4 <| rdK H1 b1 (Nat.add nn0 (itn n1)) fun v2 => isI .u32 v2 fun n4 => c2 [(DV.v (AV.p p1)), (DV.v (AV.i .i64 n1))] H1 fun d1 H2 => onV d1 fun v3 => isI .i64 v3 fun n5 => g60x3 n1 n4 n5 m1 b1 b2 H2 Ka1) (Ka1 H1)
def g60x5 := jF [(9 , .int .i64), (10 , .int .i64)] (fun d1 d2 H2 => onV d1 fun v1 => isI .i64 v1 fun n4 => onV d2 fun v2 => isI .i64 v2 fun n5 => wrp .i64 (iadd n1 ii1) fun n6 => Kd1 (DV.v (AV.i .i64 n4)) (DV.v (AV.i .i64 n5)) (DV.v (AV.i .i64 n6)) H2) fun Kc1 => rng n1 nn4 <| rdK H1 b1 (Nat.add nn0 (itn n1)) fun v1 => isB v1 fun t1 => frcB (bnot t1) fun t2 => br t2 (Kc1 (DV.v (AV.i .i64 n2)) (DV.v (AV.i .i64 n3)) H1) (g60x4 n1 n2 n3 p1 b2 H1 c1 c2 Kc1)
def g60x6 := rdK H1 b1 (Nat.add (Nat.add m1 (Nat.mul (itn n1) nn3)) nn1) fun v1 => isI .i64 v1 fun n3 => c1 [(DV.v (AV.i .i64 n1))] H1 fun d1 H2 => onV d1 fun v2 => isI .i64 v2 fun n4 => rdK H2 b1 (Nat.add (Nat.add m1 (Nat.mul (itn n1) nn3)) nn1) fun v3 => must (aveq (AV.i .i64 n3) v3) <| wrp .i64 (isub n2 n4) fun n5 => asI (imax n5 ii0) fun n6 => wrp .i64 (isub n3 n6) fun n7 => asI (imax n7 ii0) fun n8 => wrK H2 b1 (Nat.add (Nat.add m1 (Nat.mul (itn n1) nn3)) nn1) (AV.i .i64 n8) fun H3 => Ka1 H3
def g60x7 := must (aveq (AV.i .i64 n1) v1) <| wrp .i64 (iadd n2 n1) fun n6 => frcB (ilt n3 n6) fun t1 => br t1 (g60x6 n4 n3 m1 b1 H1 c1 Ka1) (jF [] (fun H2 => wrK H2 b1 (Nat.add m1 (Nat.mul (itn n4) nn3)) (AV.b false) fun H3 => wrK H3 b1 (Nat.add (Nat.add m1 (Nat.mul (itn n4) nn3)) nn1) (AV.i .i64 ii0) fun H4 => Ka1 H4) fun Ka2 => frcB (bnot (ieq n4 n5)) fun t2 => br t2 (c2 [(DV.v (AV.p p1)), (DV.v (AV.i .i64 n4))] H1 fun d1 H2 => Ka2 H2) (Ka2 H1))
def g60x8 := rng n1 nn4 <| rng n1 nn4 <| rdK H1 b1 (Nat.add nn0 (itn n1)) fun v1 => isB v1 fun t1 => frcB (bnot t1) fun t2 => br t2 (Ka1 H1) (rdK H1 b2 (Nat.add (Nat.add m1 (Nat.mul (itn n1) nn3)) nn1) fun v2 => isI .i64 v2 fun n4 => c1 [(DV.v (AV.i .i64 n1))] H1 fun d1 H2 => onV d1 fun v3 => isI .i64 v3 fun n5 => rdK H2 b2 (Nat.add (Nat.add m1 (Nat.mul (itn n1) nn3)) nn1) fun v4 => g60x7 v4 n4 n5 n2 n1 n3 m1 p1 b2 H2 c1 c2 Ka1)
def g60x9 := br t1 (Kb1 (DV.c (DV.v (AV.i .i64 ii0)) (DV.c (DV.v (AV.i .i64 ii0)) (DV.c (DV.v (AV.b false)) DV.n))) H1) (lpR (failF [(71 , .int .i64)]) (fun Kb2 => fun d1 H2 => onV d1 fun v1 => isI .i64 v1 fun n3 => frcB (ilt n3 ii4) fun t2 => br t2 (jF [] (fun H3 => wrp .i64 (iadd n3 ii1) fun n4 => Kb2 (DV.v (AV.i .i64 n4)) H3) fun Ka1 => onA p1 fun b2 m1 => g60x8 n3 n1 n2 m1 p1 b1 b2 H2 c1 c2 Ka1) (Kb1 (DV.c (DV.v (AV.i .i64 n2)) (DV.c (DV.v (AV.i .i64 n1)) (DV.c (DV.v (AV.b true)) DV.n))) H2)) (nat_lit 100000) (DV.v (AV.i .i64 ii0)) H1)
def g60x10 := lpR (failF [(9 , .int .i64), (10 , .int .i64), (16 , .int .i64)]) (fun Kd1 => fun d1 d2 d3 H2 => onV d1 fun v1 => isI .i64 v1 fun n1 => onV d2 fun v2 => isI .i64 v2 fun n2 => onV d3 fun v3 => isI .i64 v3 fun n3 => frcB (ilt n3 ii4) fun t1 => br t1 (g60x5 n3 n1 n2 p1 b1 b2 H2 c1 c2 Kd1) (frcB (ilt n1 ii0) fun t2 => g60x9 n2 n1 t2 p1 b1 H2 c1 c3 Kb1)) (nat_lit 100000) (DV.v (AV.i .i64 im1)) (DV.v (AV.i .i64 ii0)) (DV.v (AV.i .i64 ii0)) H1
/-- (*edca.Edca).Contend -/
def g60 : G DV := fun R1 H1 Kb1 => lc R1 fun d1 R2 => onV d1 fun v1 => isP v1 fun p1 => lc R2 fun d2 R3 => lc R3 fun d3 R4 => ln R4 <| cellsD d2 fun l1 => alK H1 l1 fun b1 H2 => cellsD d3 fun l2 => alK H2 l2 fun b2 H3 => g60x10 p1 b1 b2 H3 c2 c1 c3 Kb1
def G60 : G DV := g60 G114 G115 G116

/-- aql.there -/
def g122 : G DV := fun R1 H1 Kb1 => lc R1 fun d1 R2 => onV d1 fun v1 => isI .i64 v1 fun n1 => ln R2 <| frcB (ile ii1 n1) fun t1 => jn (fun d2 H2 => jn (fun d3 H3 => pickK t1 d3 (DV.v (AV.b false)) fun d4 => onV d4 fun v2 => isB v2 fun t2 => Kb1 (DV.v (AV.b t2)) H3) fun Kb2 => br t1 (onV d2 fun v2 => isI .i64 v2 fun n2 => frcB (ile n2 ii16) fun t2 => Kb2 (DV.v (AV.b t2)) H2) (Kb2 DV.n H2)) fun Kb2 => br t1 (Kb2 (DV.v (AV.i .i64 n1)) H1) (Kb2 DV.n H1)
def G122 : G DV := g122

def g123x1 := lc R1 fun d1 R2 => onV d1 fun v1 => isP v1 fun p1 => lc R2 fun d2 R3 => onV d2 fun v2 => isI .i64 v2 fun n1 => ln R3 <| c1 [(DV.v (AV.i .i64 n1))] H1 fun d3 H2 => onV d3 fun v3 => isB v3 fun t1 => frcB (bnot t1) fun t2 => br t2 (Kb1 (DV.v (AV.i .i64 ii0)) H2) (wrp .i64 (isub n1 ii1) fun n2 => onA p1 fun b1 m1 => rng n2 nn16 <| rdK H2 b1 (Nat.add (Nat.add m1 nn2) (itn n2)) fun v4 => isI .i64 v4 fun n3 => Kb1 (DV.v (AV.i .i64 n3)) H2)
/-- (*aql.Limit).Of -/
def g123 : G DV := fun R1 H1 Kb1 => g123x1 R1 H1 c1 Kb1
def G123 : G DV := g123 G122

def g124x1 := lpR (failF [(3 , .int .i64), (10 , .int .i64)]) (fun Kc1 => fun d1 d2 H2 => onV d1 fun v1 => isI .i64 v1 fun n1 => onV d2 fun v2 => isI .i64 v2 fun n2 => frcB (ilt n2 ii16) fun t1 => br t1 (rng n2 nn16 <| lgetK (itn n2) l1 fun v3 => isI .i64 v3 fun n3 => wrp .i64 (iadd n1 n3) fun n4 => wrp .i64 (iadd n2 ii1) fun n5 => Kc1 (DV.v (AV.i .i64 n4)) (DV.v (AV.i .i64 n5)) H2) (Kb1 (DV.v (AV.i .i64 n1)) H2)) (nat_lit 100000) (DV.v (AV.i .i64 ii0)) (DV.v (AV.i .i64 ii0)) H1
/-- (*aql.Limit).All -/
def g124 : G DV := fun R1 H1 Kb1 => lc R1 fun d1 R2 => onV d1 fun v1 => isP v1 fun p1 => ln R2 <| onA p1 fun b1 m1 => rdR H1 b1 (Nat.add m1 nn2) nn16 fun l1 => g124x1 l1 H1 Kb1
def G124 : G DV := g124

def g63x1 := onV d1 fun v1 => isI .i64 v1 fun n2 => rdK H1 b1 m1 fun v2 => must (aveq (AV.i .i64 n1) v2) <| frcB (ilt n2 n1) fun t1 => br t1 (onA p1 fun b2 m2 => rdK H1 b2 (Nat.add m2 nn1) fun v3 => isI .i64 v3 fun n3 => c1 [(DV.v (AV.p p1))] H1 fun d2 H2 => onV d2 fun v4 => isI .i64 v4 fun n4 => rdK H2 b2 (Nat.add m2 nn1) fun v5 => must (aveq (AV.i .i64 n3) v5) <| frcB (ilt n4 n3) fun t2 => Kb1 (DV.v (AV.b t2)) H2) (Kb1 (DV.v (AV.b false)) H1)
def g63x2 := onV d1 fun v1 => isB v1 fun t1 => frcB (bnot t1) fun t2 => br t2 (Kb1 (DV.v (AV.b false)) H1) (c1 [(DV.v (AV.p p1)), (DV.v (AV.i .i64 n1))] H1 fun d2 H2 => onV d2 fun v2 => isI .i64 v2 fun n2 => frcB (ieq n2 ii0) fun t3 => br t3 (Kb1 (DV.v (AV.b true)) H2) (onA p1 fun b1 m1 => rdK H2 b1 m1 fun v3 => isI .i64 v3 fun n3 => c1 [(DV.v (AV.p p1)), (DV.v (AV.i .i64 n1))] H2 fun d3 H3 => g63x1 d3 n3 m1 p1 b1 H3 c2 Kb1))
/-- (*aql.Limit).May -/
def g63 : G DV := fun R1 H1 Kb1 => lc R1 fun d1 R2 => onV d1 fun v1 => isP v1 fun p1 => lc R2 fun d2 R3 => onV d2 fun v2 => isI .i64 v2 fun n1 => ln R3 <| c1 [(DV.v (AV.i .i64 n1))] H1 fun d3 H2 => g63x2 d3 n1 p1 H2 c2 c3 Kb1
def G63 : G DV := g63 G122 G123 G124

def z13 : T4 AV := (@T4.n AV yy6 (@T4.n AV yy1 (@T4.n AV yy11 te te te te) te te te) (@T4.n AV yy1 (@T4.n AV yy10 te te te te) te te te) (@T4.n AV yy6 (@T4.n AV yy10 te te te te) te te te) (@T4.n AV yy11 te te te te))
/-- ap.category -/
def g125 : G DV := fun R1 H1 Kb1 => lc R1 fun d1 R2 => onV d1 fun v1 => isI .i64 v1 fun n1 => ln R2 <| alB H1 z13 nn8 nn0 fun b1 H2 => ixA (AS.sl b1 nn0 nn8 nn8) n1 (fun x => x) fun b2 m1 => rdK H2 b2 m1 fun v2 => isI .i64 v2 fun n2 => Kb1 (DV.v (AV.i .i64 n2)) H2
def G125 : G DV := pure1 (g125)

/-- (*ba.Session).State -/
def g131 : G DV := fun R1 H1 Kb1 => lc R1 fun d1 R2 => onV d1 fun v1 => isP v1 fun p1 => ln R2 <| onA p1 fun b1 m1 => rdK H1 b1 (Nat.add m1 nn4) fun v2 => isI .i64 v2 fun n1 => Kb1 (DV.v (AV.i .i64 n1)) H1
def G131 : G DV := g131

/-- (*win.Win).Start -/
def g210 : G DV := fun R1 H1 Kb1 => lc R1 fun d1 R2 => onV d1 fun v1 => isP v1 fun p1 => ln R2 <| onA p1 fun b1 m1 => rdK H1 b1 m1 fun v2 => isI .i64 v2 fun n1 => Kb1 (DV.v (AV.i .i64 n1)) H1
def G210 : G DV := g210

def g132x1 := lc R1 fun d1 R2 => onV d1 fun v1 => isP v1 fun p1 => ln R2 <| onA p1 fun b1 m1 => rdK H1 b1 (Nat.add m1 nn7) fun v2 => isB v2 fun t1 => frcB (bnot t1) fun t2 => br t2 (Kb1 (DV.c (DV.v (AV.i .i64 ii0)) (DV.c (DV.v (AV.b false)) DV.n)) H1) (onA p1 fun b2 m2 => rdK H1 b2 m2 fun v3 => isP v3 fun p2 => c1 [(DV.v (AV.p p2))] H1 fun d2 H2 => onV d2 fun v4 => isI .i64 v4 fun n1 => Kb1 (DV.c (DV.v (AV.i .i64 n1)) (DV.c (DV.v (AV.b true)) DV.n)) H2)
/-- (*ba.Session).Bar -/
def g132 : G DV := fun R1 H1 Kb1 => g132x1 R1 H1 c1 Kb1
def G132 : G DV := g132 G210

/-- (*ba.Session).Due -/
def g134 : G DV := fun R1 H1 Kb1 => lc R1 fun d1 R2 => onV d1 fun v1 => isP v1 fun p1 => ln R2 <| c1 [(DV.v (AV.p p1)), (DV.v (AV.fn (nat_lit 213) []))] H1 fun d2 H2 => onV d2 fun v2 => isS v2 fun s1 => Kb1 (DV.v (AV.s s1)) H2
def G134 : G DV := g134 G200

/-- (*fq.Queue).Len -/
def g49 : G DV := fun R1 H1 Kb1 => lc R1 fun d1 R2 => onV d1 fun v1 => isP v1 fun p1 => ln R2 <| onA p1 fun b1 m1 => rdK H1 b1 (Nat.add m1 nn133) fun v2 => isI .i64 v2 fun n1 => Kb1 (DV.v (AV.i .i64 n1)) H1
def G49 : G DV := g49

def g226x1 := jn (fun d2 H2 => pickK t1 d2 (DV.v (AV.b false)) fun d3 => onV d3 fun v1 => isB v1 fun t2 => jn (fun d4 H3 => jn (fun d5 H4 => pickK t2 d5 (DV.v (AV.b false)) fun d6 => onV d6 fun v2 => isB v2 fun t3 => Kb1 (DV.v (AV.b t3)) H4) fun Kb2 => br t2 (onV d4 fun v2 => isI .i64 v2 fun n2 => frcB (ilt n2 ii8) fun t3 => Kb2 (DV.v (AV.b t3)) H3) (Kb2 DV.n H3)) fun Kb2 => br t2 (Kb2 (DV.v (AV.i .i64 n1)) H2) (Kb2 DV.n H2)) fun Kb2 => br t1 (onV d1 fun v1 => isI .i64 v1 fun n2 => frcB (ile ii0 n2) fun t2 => Kb2 (DV.v (AV.b t2)) H1) (Kb2 DV.n H1)
def g226x2 := ln R1 <| frcB (ile ii1 n1) fun t1 => jn (fun d1 H2 => jn (fun d2 H3 => pickK t1 d2 (DV.v (AV.b false)) fun d3 => onV d3 fun v1 => isB v1 fun t2 => jn (fun d4 H4 => g226x1 d4 n2 t2 H4 Kb1) fun Kb2 => br t2 (Kb2 (DV.v (AV.i .i64 n2)) H3) (Kb2 DV.n H3)) fun Kb2 => br t1 (onV d1 fun v1 => isI .i64 v1 fun n3 => frcB (ile n3 ii16) fun t2 => Kb2 (DV.v (AV.b t2)) H2) (Kb2 DV.n H2)) fun Kb2 => br t1 (Kb2 (DV.v (AV.i .i64 n1)) H1) (Kb2 DV.n H1)
/-- pool.there -/
def g226 : G DV := fun R1 H1 Kb1 => lc R1 fun d1 R2 => onV d1 fun v1 => isI .i64 v1 fun n1 => lc R2 fun d2 R3 => onV d2 fun v2 => isI .i64 v2 fun n2 => g226x2 R3 n1 n2 H1 Kb1
def G226 : G DV := g226

def g207x1 := jn (fun d2 H2 => jn (fun d3 H3 => jn (fun d4 H4 => pickK t1 d4 (DV.v (AV.b false)) fun d5 => onV d5 fun v1 => isB v1 fun t2 => Kb1 (DV.v (AV.b t2)) H4) fun Kb2 => br t1 (onV d3 fun v1 => isI .i64 v1 fun n1 => frcB (ilt ii0 n1) fun t2 => Kb2 (DV.v (AV.b t2)) H3) (Kb2 DV.n H3)) fun Kb2 => br t1 (c1 [d2] H2 fun d3 H3 => onV d3 fun v1 => isI .i64 v1 fun n1 => Kb2 (DV.v (AV.i .i64 n1)) H3) (Kb2 DV.n H2)) fun Kb2 => br t1 (onV d1 fun v1 => isP v1 fun p1 => onA p1 fun b1 m1 => rdK H1 b1 m1 fun v2 => isP v2 fun p2 => Kb2 (DV.v (AV.p p2)) H1) (Kb2 DV.n H1)
def g207x2 := jn (fun d4 H2 => jn (fun d5 H3 => g207x1 d5 t1 H3 c1 Kb1) fun Kb2 => br t1 (onV d1 fun v1 => isJ v1 fun n1 => onV d4 fun v2 => isP v2 fun p1 => onA p1 fun b1 m1 => rng n1 nn8 <| Kb2 (DV.v (AV.p (AP.at b1 (Nat.add m1 (itn n1))))) H2) (Kb2 DV.n H2)) fun Kb2 => br t1 (onV d2 fun v1 => isJ v1 fun n1 => onV d3 fun v2 => isP v2 fun p1 => onA p1 fun b1 m1 => rng n1 nn16 <| Kb2 (DV.v (AV.p (AP.at b1 (Nat.add m1 (Nat.mul (itn n1) nn8))))) H1) (Kb2 DV.n H1)
def g207x3 := jn (fun d3 H2 => jn (fun d4 H3 => jn (fun d5 H4 => jn (fun d6 H5 => g207x2 d4 d3 d6 t1 H5 c1 Kb1) fun Kb2 => br t1 (onV d5 fun v1 => isP v1 fun p1 => onA p1 fun b1 m1 => Kb2 (DV.v (AV.p (AP.at b1 (Nat.add m1 nn5)))) H4) (Kb2 DV.n H4)) fun Kb2 => br t1 (onV d1 fun v1 => isP v1 fun p1 => onA p1 fun b1 m1 => Kb2 (DV.v (AV.p (AP.at b1 m1))) H3) (Kb2 DV.n H3)) fun Kb2 => br t1 (Kb2 (DV.v (AV.i .i64 n1)) H2) (Kb2 DV.n H2)) fun Kb2 => br t1 (onV d2 fun v1 => isI .i64 v1 fun n2 => wrp .i64 (isub n2 ii1) fun n3 => Kb2 (DV.v (AV.i .i64 n3)) H1) (Kb2 DV.n H1)
def g207x4 := isP v1 fun p1 => lc R1 fun d1 R2 => onV d1 fun v2 => isI .i64 v2 fun n1 => lc R2 fun d2 R3 => onV d2 fun v3 => isI .i64 v3 fun n2 => ln R3 <| c1 [(DV.v (AV.i .i64 n1)), (DV.v (AV.i .i64 n2))] H1 fun d3 H2 => onV d3 fun v4 => isB v4 fun t1 => jn (fun d4 H3 => jn (fun d5 H4 => g207x3 d4 d5 n2 t1 H4 c2 Kb1) fun Kb2 => br t1 (Kb2 (DV.v (AV.i .i64 n1)) H3) (Kb2 DV.n H3)) fun Kb2 => br t1 (Kb2 (DV.v (AV.p p1)) H2) (Kb2 DV.n H2)
/-- (*pool.Pool).Has -/
def g207 : G DV := fun R1 H1 Kb1 => lc R1 fun d1 R2 => onV d1 fun v1 => g207x4 v1 R2 H1 c2 c1 Kb1
def G207 : G DV := g207 G49 G226

def g265x1 := isI .i64 v1 fun n1 => onA p1 fun b2 m2 => rdK H1 b2 m2 fun v2 => isI .i64 v2 fun n2 => onA p1 fun b3 m3 => rdK H1 b3 (Nat.add m3 nn1) fun v3 => isI .i64 v3 fun n3 => c1 [(DV.v (AV.i .i64 n2)), (DV.v (AV.i .i64 n3))] H1 fun d1 H2 => onV d1 fun v4 => isI .i64 v4 fun n4 => rdK H2 b1 (Nat.add m1 nn2) fun v5 => must (aveq (AV.i .i64 n1) v5) <| wrp .i64 (isub n1 n4) fun n5 => asI (imax n5 ii0) fun n6 => Kb1 (DV.v (AV.i .i64 n6)) H2
/-- (*win.Win).Room -/
def g265 : G DV := fun R1 H1 Kb1 => lc R1 fun d1 R2 => onV d1 fun v1 => isP v1 fun p1 => ln R2 <| onA p1 fun b1 m1 => rdK H1 b1 (Nat.add m1 nn2) fun v2 => g265x1 v2 m1 p1 b1 H1 c1 Kb1
def G265 : G DV := g265 G239

/-- (*ba.Session).Room -/
def g208 : G DV := fun R1 H1 Kb1 => lc R1 fun d1 R2 => onV d1 fun v1 => isP v1 fun p1 => ln R2 <| onA p1 fun b1 m1 => rdK H1 b1 m1 fun v2 => isP v2 fun p2 => c1 [(DV.v (AV.p p2))] H1 fun d2 H2 => onV d2 fun v3 => isI .i64 v3 fun n1 => Kb1 (DV.v (AV.i .i64 n1)) H2
def G208 : G DV := g208 G265

def g126x1 := jn (fun d3 H2 => jn (fun d4 H3 => jn (fun d5 H4 => pickK t1 d5 (DV.v (AV.b false)) fun d6 => onV d6 fun v1 => isB v1 fun t2 => Kb1 (DV.v (AV.b t2)) H4) fun Kb2 => br t1 (onV d1 fun v1 => isB v1 fun t2 => pickK t2 (DV.v (AV.b true)) d4 fun d5 => onV d5 fun v2 => isB v2 fun t3 => Kb2 (DV.v (AV.b t3)) H3) (Kb2 DV.n H3)) fun Kb2 => grd d1 false (onV d3 fun v1 => isI .i64 v1 fun n1 => frcB (ieq n1 ii1) fun t2 => Kb2 (DV.v (AV.b t2)) H2) (Kb2 DV.n H2)) fun Kb2 => grd d1 false (c1 [d2] H1 fun d3 H2 => onV d3 fun v1 => isI .i64 v1 fun n1 => Kb2 (DV.v (AV.i .i64 n1)) H2) (Kb2 DV.n H1)
def g126x2 := jn (fun d3 H2 => jn (fun d4 H3 => jn (fun d5 H4 => g126x1 d1 d5 t1 H4 c1 Kb1) fun Kb2 => grd d1 false (onV d4 fun v1 => isP v1 fun p1 => onA p1 fun b1 m1 => rdK H3 b1 m1 fun v2 => isP v2 fun p2 => Kb2 (DV.v (AV.p p2)) H3) (Kb2 DV.n H3)) fun Kb2 => grd d1 false (onV d3 fun v1 => isP v1 fun p1 => onA p1 fun b1 m1 => Kb2 (DV.v (AV.p (AP.at b1 m1))) H2) (Kb2 DV.n H2)) fun Kb2 => grd d1 false (onV d2 fun v1 => isP v1 fun p1 => onA p1 fun b1 m1 => Kb2 (DV.v (AV.p (AP.at b1 m1))) H1) (Kb2 DV.n H1)
def g126x3 := jn (fun d2 H2 => jn (fun d3 H3 => jn (fun d4 H4 => jn (fun d5 H5 => g126x2 d4 d5 t1 H5 c1 Kb1) fun Kb2 => grd d4 false (Kb2 (DV.v (AV.p (AP.at b1 (Nat.add (Nat.add m1 nn6) (Nat.mul (itn n1) nn5))))) H4) (Kb2 DV.n H4)) fun Kb2 => br t1 (Kb2 d3 H3) (Kb2 DV.n H3)) fun Kb2 => br t1 (onV d2 fun v1 => isI .i64 v1 fun n2 => frcB (ilt ii0 n2) fun t2 => Kb2 (DV.v (AV.b t2)) H2) (Kb2 DV.n H2)) fun Kb2 => br t1 (c2 [d1] H1 fun d2 H2 => onV d2 fun v1 => isI .i64 v1 fun n2 => Kb2 (DV.v (AV.i .i64 n2)) H2) (Kb2 DV.n H1)
def g126x4 := jn (fun d2 H2 => jn (fun d3 H3 => jn (fun d4 H4 => g126x3 d4 n1 m1 t1 b1 H4 c1 c2 Kb1) fun Kb2 => br t1 (onV d3 fun v1 => isP v1 fun p1 => onA p1 fun b2 m2 => rdK H3 b2 m2 fun v2 => isP v2 fun p2 => Kb2 (DV.v (AV.p p2)) H3) (Kb2 DV.n H3)) fun Kb2 => br t1 (onV d2 fun v1 => isP v1 fun p1 => onA p1 fun b2 m2 => Kb2 (DV.v (AV.p (AP.at b2 m2))) H2) (Kb2 DV.n H2)) fun Kb2 => br t1 (onV d1 fun v1 => isP v1 fun p1 => onA p1 fun b2 m2 => Kb2 (DV.v (AV.p (AP.at b2 m2))) H1) (Kb2 DV.n H1)
def g126x5 := onV d1 fun v1 => isB v1 fun t1 => br t1 (Kb1 (DV.v (AV.b true)) H1) (onA p1 fun b2 m2 => rdK H1 b2 (Nat.add m2 nn311) fun v2 => isP v2 fun p2 => c1 [(DV.v (AV.p p2)), (DV.v (AV.i .i64 n1)), (DV.v (AV.i .i64 n2))] H1 fun d2 H2 => onV d2 fun v3 => isB v3 fun t2 => jn (fun d3 H3 => g126x4 d3 n2 m1 t2 b1 H3 c2 c3 Kb1) fun Kb2 => br t2 (Kb2 (DV.v (AV.p (AP.at b1 (Nat.add (Nat.add m1 nn6) (Nat.mul (itn n2) nn5))))) H2) (Kb2 DV.n H2))
def g126x6 := jn (fun d2 H2 => jn (fun d3 H3 => jn (fun d4 H4 => pickK t1 (DV.v (AV.b true)) d4 fun d5 => g126x5 d5 n1 n2 m1 p1 b1 H4 c1 c2 c3 Kb1) fun Kb2 => br t1 (Kb2 DV.n H3) (onV d3 fun v1 => isI .i64 v1 fun n3 => frcB (ilt ii0 n3) fun t2 => Kb2 (DV.v (AV.b t2)) H3)) fun Kb2 => br t1 (Kb2 DV.n H2) (onV d2 fun v1 => isS v1 fun s1 => lenA s1 fun m2 => Kb2 (DV.v (AV.i .i64 (Int.ofNat m2))) H2)) fun Kb2 => br t1 (Kb2 DV.n H1) (c4 [d1] H1 fun d2 H2 => onV d2 fun v1 => isS v1 fun s1 => Kb2 (DV.v (AV.s s1)) H2)
def g126x7 := jn (fun d2 H2 => jn (fun d3 H3 => jn (fun d4 H4 => g126x6 d4 n1 n2 m1 t1 p1 b1 H4 c1 c2 c3 c4 Kb1) fun Kb2 => br t1 (Kb2 DV.n H3) (onV d3 fun v1 => isP v1 fun p2 => onA p2 fun b2 m2 => rdK H3 b2 m2 fun v2 => isP v2 fun p3 => Kb2 (DV.v (AV.p p3)) H3)) fun Kb2 => br t1 (Kb2 DV.n H2) (onV d2 fun v1 => isP v1 fun p2 => onA p2 fun b2 m2 => Kb2 (DV.v (AV.p (AP.at b2 m2))) H2)) fun Kb2 => br t1 (Kb2 DV.n H1) (onV d1 fun v1 => isP v1 fun p2 => onA p2 fun b2 m2 => Kb2 (DV.v (AV.p (AP.at b2 m2))) H1)
def g126x8 := rdK H1 b1 (Nat.add (Nat.add m1 nn6) (Nat.mul (itn n1) nn5)) fun v1 => isP v1 fun p2 => c1 [(DV.v (AV.p p2))] H1 fun d1 H2 => onC d1 fun d2 d3 => onV d2 fun v2 => isI .i64 v2 fun n3 => onC d3 fun d4 d5 => onV d4 fun v3 => isB v3 fun t1 => onN d5 <| jn (fun d6 H3 => g126x7 d6 n2 n1 m1 t1 p1 b1 H3 c2 c3 c4 c5 Kb1) fun Kb2 => br t1 (Kb2 DV.n H2) (Kb2 (DV.v (AV.p (AP.at b1 (Nat.add (Nat.add m1 nn6) (Nat.mul (itn n1) nn5))))) H2)
def g126x9 := onV d1 fun v1 => isI .i64 v1 fun n1 => lc R1 fun d2 R2 => onV d2 fun v2 => isI .i64 v2 fun n2 => ln R2 <| c1 [(DV.v (AV.p p1)), (DV.v (AV.i .i64 n1))] H1 fun d3 H2 => onV d3 fun v3 => isP v3 fun p2 => onA p2 fun b1 m1 => rng n2 nn8 <| rdK H2 b1 (Nat.add (Nat.add (Nat.add m1 nn6) (Nat.mul (itn n2) nn5)) nn4) fun v4 => isB v4 fun t1 => br t1 (Kb1 (DV.v (AV.b false)) H2) (g126x8 n2 n1 m1 p1 b1 H2 c2 c3 c4 c5 c6 Kb1)
/-- (*ap.AP).ready -/
def g126 : G DV := fun R1 H1 Kb1 => lc R1 fun d1 R2 => onV d1 fun v1 => isP v1 fun p1 => lc R2 fun d2 R3 => g126x9 d2 R3 p1 H1 c1 c3 c5 c2 c6 c4 Kb1
def G126 : G DV := g126 G58 G131 G132 G134 G207 G208

def g64x1 := jn (fun d3 H2 => jn (fun d4 H3 => pickK t1 d4 (DV.v (AV.b false)) fun d5 => onV d5 fun v1 => isB v1 fun t2 => br t2 (alB H3 (@T4.n AV (AV.i .i64 n1) te te te te) nn1 nn0 fun b1 H4 => appD nn1 nn8 s1 (AS.sl b1 nn0 nn1 nn1) H4 fun s2 H5 => Kb1 (DV.v (AV.s s2)) H5) (Kb1 (DV.v (AV.s s1)) H3)) fun Kb2 => br t1 (c1 [d1, d2, d3] H2 fun d4 H3 => onV d4 fun v1 => isB v1 fun t2 => Kb2 (DV.v (AV.b t2)) H3) (Kb2 DV.n H2)) fun Kb2 => br t1 (Kb2 (DV.v (AV.i .i64 n1)) H1) (Kb2 DV.n H1)
def g64x2 := jF [(7 , .slice)] (fun d1 H2 => onV d1 fun v1 => isS v1 fun s2 => wrp .i64 (iadd n1 ii1) fun n4 => Kc1 (DV.v (AV.s s2)) (DV.v (AV.i .i64 n4)) H2) fun Kb1 => c1 [(DV.v (AV.i .i64 n1))] H1 fun d1 H2 => onV d1 fun v1 => isI .i64 v1 fun n4 => frcB (ieq n4 n2) fun t1 => jn (fun d2 H3 => jn (fun d3 H4 => g64x1 d2 d3 n1 t1 s1 H4 c2 Kb1) fun Kb2 => br t1 (Kb2 (DV.v (AV.i .i64 n3)) H3) (Kb2 DV.n H3)) fun Kb2 => br t1 (Kb2 (DV.v (AV.p p1)) H2) (Kb2 DV.n H2)
def g64x3 := lc R1 fun d1 R2 => onV d1 fun v1 => isI .i64 v1 fun n1 => lc R2 fun d2 R3 => onV d2 fun v2 => isI .i64 v2 fun n2 => ln R3 <| lpR (failF [(7 , .slice), (9 , .int .i64)]) (fun Kc1 => fun d3 d4 H2 => onV d3 fun v3 => isS v3 fun s1 => onV d4 fun v4 => isI .i64 v4 fun n3 => frcB (ilt n3 ii8) fun t1 => br t1 (g64x2 n3 n2 n1 p1 s1 H2 c1 c2 Kc1) (Kb1 (DV.v (AV.s s1)) H2)) (nat_lit 100000) (DV.v (AV.s AS.nil)) (DV.v (AV.i .i64 ii0)) H1
/-- (*ap.AP).readies -/
def g64 : G DV := fun R1 H1 Kb1 => lc R1 fun d1 R2 => onV d1 fun v1 => isP v1 fun p1 => g64x3 R2 p1 H1 c1 c2 Kb1
def G64 : G DV := g64 G125 G126

def g151x1 := jn (fun d2 H2 => jn (fun d3 H3 => pickK t1 (DV.v (AV.b true)) d3 fun d4 => onV d4 fun v1 => isB v1 fun t2 => br t2 (Kb1 (DV.v (AV.p AP.nil)) H3) (wrp .i64 (isub n1 ii1) fun n2 => onA p1 fun b1 m1 => rng n2 nn16 <| Kb1 (DV.v (AV.p (AP.at b1 (Nat.add m1 (Nat.mul (itn n2) nn10))))) H3)) fun Kb2 => br t1 (Kb2 DV.n H2) (onV d2 fun v1 => isB v1 fun t2 => frcB (bnot t2) fun t3 => Kb2 (DV.v (AV.b t3)) H2)) fun Kb2 => br t1 (Kb2 DV.n H1) (onV d1 fun v1 => isP v1 fun p2 => onA p2 fun b1 m1 => rdK H1 b1 m1 fun v2 => isB v2 fun t2 => Kb2 (DV.v (AV.b t2)) H1)
def g151x2 := jn (fun d3 H2 => jn (fun d4 H3 => jn (fun d5 H4 => g151x1 d5 n1 t1 p1 H4 Kb1) fun Kb2 => br t1 (Kb2 DV.n H3) (onV d4 fun v1 => isP v1 fun p2 => onA p2 fun b1 m1 => Kb2 (DV.v (AV.p (AP.at b1 m1))) H3)) fun Kb2 => br t1 (Kb2 DV.n H2) (onV d1 fun v1 => isJ v1 fun n2 => onV d3 fun v2 => isP v2 fun p2 => onA p2 fun b1 m1 => rng n2 nn16 <| Kb2 (DV.v (AV.p (AP.at b1 (Nat.add m1 (Nat.mul (itn n2) nn10))))) H2)) fun Kb2 => br t1 (Kb2 DV.n H1) (onV d2 fun v1 => isP v1 fun p2 => onA p2 fun b1 m1 => Kb2 (DV.v (AV.p (AP.at b1 m1))) H1)
def g151x3 := jn (fun d1 H2 => jn (fun d2 H3 => jn (fun d3 H4 => jn (fun d4 H5 => g151x2 d3 d4 n1 t1 p1 H5 Kb1) fun Kb2 => br t1 (Kb2 DV.n H4) (onV d1 fun v1 => isP v1 fun p2 => onA p2 fun b1 m1 => Kb2 (DV.v (AV.p (AP.at b1 m1))) H4)) fun Kb2 => br t1 (Kb2 DV.n H3) (onV d2 fun v1 => isI .i64 v1 fun n2 => wrp .i64 (isub n2 ii1) fun n3 => Kb2 (DV.v (AV.i .i64 n3)) H3)) fun Kb2 => br t1 (Kb2 DV.n H2) (Kb2 (DV.v (AV.i .i64 n1)) H2)) fun Kb2 => br t1 (Kb2 DV.n H1) (Kb2 (DV.v (AV.p p1)) H1)
def g151x4 := isP v1 fun p1 => lc R1 fun d1 R2 => onV d1 fun v2 => isI .i64 v2 fun n1 => ln R2 <| frcB (ilt n1 ii1) fun t1 => jn (fun d2 H2 => jn (fun d3 H3 => pickK t1 (DV.v (AV.b true)) d3 fun d4 => onV d4 fun v3 => isB v3 fun t2 => g151x3 n1 t2 p1 H3 Kb1) fun Kb2 => br t1 (Kb2 DV.n H2) (onV d2 fun v3 => isI .i64 v3 fun n2 => frcB (ilt ii16 n2) fun t2 => Kb2 (DV.v (AV.b t2)) H2)) fun Kb2 => br t1 (Kb2 DV.n H1) (Kb2 (DV.v (AV.i .i64 n1)) H1)
/-- (*ps.Power).of -/
def g151 : G DV := fun R1 H1 Kb1 => lc R1 fun d1 R2 => onV d1 fun v1 => g151x4 v1 R2 H1 Kb1
def G151 : G DV := g151

/-- ps.fair -/
def g184 : G DV := fun R1 H1 Kb1 => lc R1 fun d1 R2 => onV d1 fun v1 => isI .i64 v1 fun n1 => ln R2 <| frcB (ile ii0 n1) fun t1 => jn (fun d2 H2 => jn (fun d3 H3 => pickK t1 d3 (DV.v (AV.b false)) fun d4 => onV d4 fun v2 => isB v2 fun t2 => Kb1 (DV.v (AV.b t2)) H3) fun Kb2 => br t1 (onV d2 fun v2 => isI .i64 v2 fun n2 => frcB (ilt n2 ii4) fun t2 => Kb2 (DV.v (AV.b t2)) H2) (Kb2 DV.n H2)) fun Kb2 => br t1 (Kb2 (DV.v (AV.i .i64 n1)) H1) (Kb2 DV.n H1)
def G184 : G DV := g184

def g117x1 := jn (fun d4 H2 => jn (fun d5 H3 => pickK t1 d5 (DV.v (AV.b false)) fun d6 => onV d6 fun v1 => isB v1 fun t2 => Kb1 (DV.v (AV.b t2)) H3) fun Kb2 => br t1 (onV d1 fun v1 => isB v1 fun t2 => pickK t2 (DV.v (AV.b true)) d4 fun d5 => onV d5 fun v2 => isB v2 fun t3 => Kb2 (DV.v (AV.b t3)) H2) (Kb2 DV.n H2)) fun Kb2 => grd d1 false (onV d2 fun v1 => isB v1 fun t2 => pickK t2 d3 (DV.v (AV.b false)) fun d4 => onV d4 fun v2 => isB v2 fun t3 => Kb2 (DV.v (AV.b t3)) H1) (Kb2 DV.n H1)
def g117x2 := jn (fun d5 H2 => jn (fun d6 H3 => jn (fun d7 H4 => g117x1 d1 d2 d7 t1 H4 Kb1) fun Kb2 => grd d2 true (onV d6 fun v1 => isP v1 fun p1 => onA p1 fun b1 m1 => rdK H3 b1 m1 fun v2 => isB v2 fun t2 => Kb2 (DV.v (AV.b t2)) H3) (Kb2 DV.n H3)) fun Kb2 => grd d2 true (onV d3 fun v1 => isJ v1 fun n1 => onV d5 fun v2 => isP v2 fun p1 => onA p1 fun b1 m1 => rng n1 nn4 <| Kb2 (DV.v (AV.p (AP.at b1 (Nat.add m1 (itn n1))))) H2) (Kb2 DV.n H2)) fun Kb2 => grd d2 true (onV d4 fun v1 => isP v1 fun p1 => onA p1 fun b1 m1 => Kb2 (DV.v (AV.p (AP.at b1 (Nat.add m1 nn4)))) H1) (Kb2 DV.n H1)
def g117x3 := jn (fun d3 H2 => jn (fun d4 H3 => jn (fun d5 H4 => jn (fun d6 H5 => jn (fun d7 H6 => g117x2 d1 d4 d6 d7 t1 H6 Kb1) fun Kb2 => grd d4 true (onV d5 fun v1 => isP v1 fun p2 => onA p2 fun b1 m1 => Kb2 (DV.v (AV.p (AP.at b1 m1))) H5) (Kb2 DV.n H5)) fun Kb2 => grd d4 true (Kb2 (DV.v (AV.i .i64 n1)) H4) (Kb2 DV.n H4)) fun Kb2 => grd d4 true (Kb2 (DV.v (AV.p p1)) H3) (Kb2 DV.n H3)) fun Kb2 => grd d1 false (Kb2 d3 H2) (Kb2 DV.n H2)) fun Kb2 => grd d1 false (onV d2 fun v1 => isP v1 fun p2 => onA p2 fun b1 m1 => rdK H1 b1 m1 fun v2 => isB v2 fun t2 => Kb2 (DV.v (AV.b t2)) H1) (Kb2 DV.n H1)
def g117x4 := jn (fun d2 H2 => jn (fun d3 H3 => jn (fun d4 H4 => jn (fun d5 H5 => g117x3 d2 d5 n1 t1 p1 H5 Kb1) fun Kb2 => grd d2 false (onV d4 fun v1 => isP v1 fun p2 => onA p2 fun b1 m1 => Kb2 (DV.v (AV.p (AP.at b1 (Nat.add m1 nn3)))) H4) (Kb2 DV.n H4)) fun Kb2 => grd d2 false (onV d3 fun v1 => isP v1 fun p2 => onA p2 fun b1 m1 => Kb2 (DV.v (AV.p (AP.at b1 m1))) H3) (Kb2 DV.n H3)) fun Kb2 => grd d2 false (Kb2 (DV.v (AV.p p1)) H2) (Kb2 DV.n H2)) fun Kb2 => br t1 (Kb2 d1 H1) (Kb2 DV.n H1)
def g117x5 := jn (fun d3 H2 => jn (fun d4 H3 => jn (fun d5 H4 => g117x4 d5 n1 t1 p1 H4 Kb1) fun Kb2 => br t1 (onV d1 fun v1 => isB v1 fun t2 => pickK t2 (DV.v (AV.b true)) d4 fun d5 => onV d5 fun v2 => isB v2 fun t3 => Kb2 (DV.v (AV.b t3)) H3) (Kb2 DV.n H3)) fun Kb2 => grd d1 false (onV d3 fun v1 => isP v1 fun p2 => onA p2 fun b1 m1 => rdK H2 b1 m1 fun v2 => isB v2 fun t2 => Kb2 (DV.v (AV.b t2)) H2) (Kb2 DV.n H2)) fun Kb2 => grd d1 false (onV d2 fun v1 => isP v1 fun p2 => onA p2 fun b1 m1 => Kb2 (DV.v (AV.p (AP.at b1 (Nat.add m1 nn2)))) H1) (Kb2 DV.n H1)
def g117x6 := jn (fun d2 H2 => jn (fun d3 H3 => jn (fun d4 H4 => jn (fun d5 H5 => g117x5 d3 d5 n1 t1 p1 H5 Kb1) fun Kb2 => grd d3 false (onV d4 fun v1 => isP v1 fun p2 => onA p2 fun b1 m1 => Kb2 (DV.v (AV.p (AP.at b1 m1))) H4) (Kb2 DV.n H4)) fun Kb2 => grd d3 false (Kb2 (DV.v (AV.p p1)) H3) (Kb2 DV.n H3)) fun Kb2 => br t1 (Kb2 d2 H2) (Kb2 DV.n H2)) fun Kb2 => br t1 (onV d1 fun v1 => isB v1 fun t2 => frcB (bnot t2) fun t3 => Kb2 (DV.v (AV.b t3)) H1) (Kb2 DV.n H1)
def g117x7 := jn (fun d2 H2 => jn (fun d3 H3 => jn (fun d4 H4 => g117x6 d4 n1 t1 p1 H4 Kb1) fun Kb2 => br t1 (onV d3 fun v1 => isP v1 fun p2 => onA p2 fun b1 m1 => rdK H3 b1 m1 fun v2 => isB v2 fun t2 => Kb2 (DV.v (AV.b t2)) H3) (Kb2 DV.n H3)) fun Kb2 => br t1 (onV d2 fun v1 => isP v1 fun p2 => onA p2 fun b1 m1 => Kb2 (DV.v (AV.p (AP.at b1 (Nat.add m1 nn1)))) H2) (Kb2 DV.n H2)) fun Kb2 => br t1 (onV d1 fun v1 => isP v1 fun p2 => onA p2 fun b1 m1 => Kb2 (DV.v (AV.p (AP.at b1 m1))) H1) (Kb2 DV.n H1)
def g117x8 := isP v1 fun p1 => frcB (bnot (isNilA p1)) fun t1 => jn (fun d1 H2 => jn (fun d2 H3 => pickK t1 d2 (DV.v (AV.b false)) fun d3 => onV d3 fun v2 => isB v2 fun t2 => jn (fun d4 H4 => g117x7 d4 n1 t2 p1 H4 Kb1) fun Kb2 => br t2 (Kb2 (DV.v (AV.p p1)) H3) (Kb2 DV.n H3)) fun Kb2 => br t1 (c1 [d1] H2 fun d2 H3 => onV d2 fun v2 => isB v2 fun t2 => Kb2 (DV.v (AV.b t2)) H3) (Kb2 DV.n H2)) fun Kb2 => br t1 (Kb2 (DV.v (AV.i .i64 n1)) H1) (Kb2 DV.n H1)
/-- (*ps.Power).May -/
def g117 : G DV := fun R1 H1 Kb1 => lc R1 fun d1 R2 => onV d1 fun v1 => isP v1 fun p1 => lc R2 fun d2 R3 => onV d2 fun v2 => isI .i64 v2 fun n1 => lc R3 fun d3 R4 => onV d3 fun v3 => isI .i64 v3 fun n2 => ln R4 <| c1 [(DV.v (AV.p p1)), (DV.v (AV.i .i64 n1))] H1 fun d4 H2 => onV d4 fun v4 => g117x8 v4 n2 H2 c2 Kb1
def G117 : G DV := g117 G151 G184

/-- (*sched.turns).Len -/
def g120 : G DV := fun R1 H1 Kb1 => lc R1 fun d1 R2 => onV d1 fun v1 => isP v1 fun p1 => ln R2 <| onA p1 fun b1 m1 => rdK H1 b1 m1 fun v2 => isS v2 fun s1 => lenA s1 fun m2 => Kb1 (DV.v (AV.i .i64 (Int.ofNat m2))) H1
def G120 : G DV := g120

def g345x1 := br t1 (Kb1 (DV.v (AV.b true)) H1) (onA p1 fun b1 m1 => rdK H1 b1 (Nat.add m1 nn2) fun v1 => isI .i64 v1 fun n1 => onA p2 fun b2 m2 => rdK H1 b2 (Nat.add m2 nn2) fun v2 => isI .i64 v2 fun n2 => frcB (ieq n1 n2) fun t2 => br t2 (onA p1 fun b3 m3 => rdK H1 b3 m3 fun v3 => isI .i64 v3 fun n3 => onA p2 fun b4 m4 => rdK H1 b4 m4 fun v4 => isI .i64 v4 fun n4 => frcB (ilt n3 n4) fun t3 => Kb1 (DV.v (AV.b t3)) H1) (Kb1 (DV.v (AV.b false)) H1))
def g345x2 := ixA s1 n1 (fun x => x) fun b1 m1 => rdK H1 b1 m1 fun v1 => isP v1 fun p2 => onA p1 fun b2 m2 => rdK H1 b2 m2 fun v2 => isS v2 fun s2 => ixA s2 n2 (fun x => x) fun b3 m3 => rdK H1 b3 m3 fun v3 => isP v3 fun p3 => onA p2 fun b4 m4 => rdK H1 b4 (Nat.add m4 nn2) fun v4 => isI .i64 v4 fun n3 => onA p3 fun b5 m5 => rdK H1 b5 (Nat.add m5 nn2) fun v5 => isI .i64 v5 fun n4 => frcB (ilt n3 n4) fun t1 => g345x1 t1 p2 p3 H1 Kb1
/-- (*sched.turns).Less -/
def g345 : G DV := fun R1 H1 Kb1 => lc R1 fun d1 R2 => onV d1 fun v1 => isP v1 fun p1 => lc R2 fun d2 R3 => onV d2 fun v2 => isI .i64 v2 fun n1 => lc R3 fun d3 R4 => onV d3 fun v3 => isI .i64 v3 fun n2 => ln R4 <| onA p1 fun b1 m1 => rdK H1 b1 m1 fun v4 => isS v4 fun s1 => g345x2 n1 n2 p1 s1 H1 Kb1
def G345 : G DV := g345

def g348x1 := rdK H1 b1 m1 fun v1 => isS v1 fun s1 => ixA s1 n1 (fun x => x) fun b2 m2 => rdK H1 b2 m2 fun v2 => isP v2 fun p2 => onA p1 fun b3 m3 => rdK H1 b3 m3 fun v3 => isS v3 fun s2 => ixA s2 n2 (fun x => x) fun b4 m4 => rdK H1 b4 m4 fun v4 => isP v4 fun p3 => onA p2 fun b5 m5 => wrK H1 b5 (Nat.add m5 nn4) (AV.i .i64 n1) fun H2 => onA p3 fun b6 m6 => wrK H2 b6 (Nat.add m6 nn4) (AV.i .i64 n2) fun H3 => Kb1 DV.n H3
def g348x2 := ixA s1 n1 (fun x => x) fun b1 m1 => rdK H1 b1 m1 fun v1 => isP v1 fun p2 => onA p1 fun b2 m2 => rdK H1 b2 m2 fun v2 => isS v2 fun s4 => ixA s4 n2 (fun x => x) fun b3 m3 => rdK H1 b3 m3 fun v3 => isP v3 fun p3 => ixA s2 n2 (fun x => x) fun b4 m4 => wrK H1 b4 m4 (AV.p p2) fun H2 => ixA s3 n1 (fun x => x) fun b5 m5 => wrK H2 b5 m5 (AV.p p3) fun H3 => onA p1 fun b6 m6 => g348x1 n2 n1 m6 p1 b6 H3 Kb1
/-- (*sched.turns).Swap -/
def g348 : G DV := fun R1 H1 Kb1 => lc R1 fun d1 R2 => onV d1 fun v1 => isP v1 fun p1 => lc R2 fun d2 R3 => onV d2 fun v2 => isI .i64 v2 fun n1 => lc R3 fun d3 R4 => onV d3 fun v3 => isI .i64 v3 fun n2 => ln R4 <| onA p1 fun b1 m1 => rdK H1 b1 m1 fun v4 => isS v4 fun s1 => onA p1 fun b2 m2 => rdK H1 b2 m2 fun v5 => isS v5 fun s2 => onA p1 fun b3 m3 => rdK H1 b3 m3 fun v6 => isS v6 fun s3 => g348x2 n2 n1 p1 s3 s1 s2 H1 Kb1
def G348 : G DV := g348

def g205x1 := jn (fun d5 H2 => jn (fun d6 H3 => pickK t1 (DV.v (AV.b true)) d6 fun d7 => onV d7 fun v1 => isB v1 fun t2 => br t2 (Kb1 DV.n H3) (onV d1 fun v2 => isM v2 fun m1 v3 => br (Nat.beq (nat_lit 232) m1) (c1 [(DV.v v3), (DV.v (AV.i .i64 n1)), (DV.v (AV.i .i64 n2))] H3 fun d8 H4 => Kb2 (DV.v (AV.i .i64 n1)) H4) (none))) fun Kb3 => br t1 (Kb3 DV.n H2) (onV d5 fun v1 => isB v1 fun t2 => frcB (bnot t2) fun t3 => Kb3 (DV.v (AV.b t3)) H2)) fun Kb3 => br t1 (Kb3 DV.n H1) (onV d2 fun v1 => isM v1 fun m1 v2 => br (Nat.beq (nat_lit 232) m1) (c2 [(DV.v v2), d3, d4] H1 fun d5 H2 => onV d5 fun v3 => isB v3 fun t2 => Kb3 (DV.v (AV.b t2)) H2) (none))
def g205x2 := isI .i64 v1 fun n1 => wrp .i64 (isub n1 ii1) fun n2 => must (bnot (ieq ii2 ii0)) <| wrp .i64 (iquo n2 ii2) fun n3 => frcB (ieq n3 n1) fun t1 => jn (fun d2 H2 => jn (fun d3 H3 => jn (fun d4 H4 => g205x1 d1 d2 d3 d4 n3 n1 t1 H4 c1 c2 Kb1 Kb2) fun Kb3 => br t1 (Kb3 DV.n H3) (Kb3 (DV.v (AV.i .i64 n3)) H3)) fun Kb3 => br t1 (Kb3 DV.n H2) (Kb3 (DV.v (AV.i .i64 n1)) H2)) fun Kb3 => br t1 (Kb3 DV.n H1) (Kb3 d1 H1)
/-- container/heap.up -/
def g205 : G DV := fun R1 H1 Kb1 => lc R1 fun d1 R2 => lc R2 fun d2 R3 => onV d2 fun v1 => isI .i64 v1 fun n1 => ln R3 <| lpR (failF [(1 , .int .i64)]) (fun Kb2 => fun d3 H2 => onV d3 fun v2 => g205x2 v2 d1 H2 c2 c1 Kb1 Kb2) (nat_lit 100000) (DV.v (AV.i .i64 n1)) H1
def G205 : G DV := g205 G345 G348

def g347x1 := onA p1 fun b1 m1 => rdK H1 b1 m1 fun v1 => isS v1 fun s1 => lenA s1 fun m2 => onA p2 fun b2 m3 => wrK H1 b2 (Nat.add m3 nn4) (AV.i .i64 (Int.ofNat m2)) fun H2 => onA p1 fun b3 m4 => rdK H2 b3 m4 fun v2 => isS v2 fun s2 => alB H2 (@T4.n AV (AV.p p2) te te te te) nn1 nn0 fun b4 H3 => appD nn1 nn8 s2 (AS.sl b4 nn0 nn1 nn1) H3 fun s3 H4 => onA p1 fun b5 m5 => wrK H4 b5 m5 (AV.s s3) fun H5 => Kb1 DV.n H5
/-- (*sched.turns).Push -/
def g347 : G DV := fun R1 H1 Kb1 => lc R1 fun d1 R2 => onV d1 fun v1 => isP v1 fun p1 => lc R2 fun d2 R3 => ln R3 <| onV d2 fun v2 => asT (nat_lit 236) (AV.p AP.nil) v2 fun v3 t1 => isP v3 fun p2 => frcB (bnot t1) fun t2 => br t2 (Kb1 DV.n H1) (g347x1 p1 p2 H1 Kb1)
def G347 : G DV := g347

/-- container/heap.Push -/
def g119 : G DV := fun R1 H1 Kb1 => lc R1 fun d1 R2 => lc R2 fun d2 R3 => ln R3 <| onV d1 fun v1 => isM v1 fun m1 v2 => br (Nat.beq (nat_lit 232) m1) (c3 [(DV.v v2), d2] H1 fun d3 H2 => onV d1 fun v3 => isM v3 fun m2 v4 => br (Nat.beq (nat_lit 232) m2) (c1 [(DV.v v4)] H2 fun d4 H3 => onV d4 fun v5 => isI .i64 v5 fun n1 => wrp .i64 (isub n1 ii1) fun n2 => c2 [d1, (DV.v (AV.i .i64 n2))] H3 fun d5 H4 => Kb1 DV.n H4) (none)) (none)
def G119 : G DV := g119 G120 G205 G347

def g206x1 := isI .i64 v1 fun n2 => onV d1 fun v2 => isM v2 fun m1 v3 => br (Nat.beq (nat_lit 232) m1) (c1 [(DV.v v3), (DV.v (AV.i .i64 n2)), (DV.v (AV.i .i64 n1))] H1 fun d2 H2 => onV d2 fun v4 => isB v4 fun t1 => frcB (bnot t1) fun t2 => br t2 (Kb1 (DV.v (AV.i .i64 n1)) H2) (onV d1 fun v5 => isM v5 fun m2 v6 => br (Nat.beq (nat_lit 232) m2) (c2 [(DV.v v6), (DV.v (AV.i .i64 n1)), (DV.v (AV.i .i64 n2))] H2 fun d3 H3 => Kb2 (DV.v (AV.i .i64 n2)) H3) (none))) (none)
def g206x2 := jn (fun d3 H2 => jn (fun d4 H3 => pickK t1 d4 (DV.v (AV.b false)) fun d5 => onV d5 fun v1 => isB v1 fun t2 => br t2 (Kb1 (DV.v (AV.i .i64 n1)) H3) (Kb1 (DV.v (AV.i .i64 n2)) H3)) fun Kb2 => br t1 (onV d1 fun v1 => isM v1 fun m1 v2 => br (Nat.beq (nat_lit 232) m1) (c1 [(DV.v v2), d2, d3] H2 fun d4 H3 => onV d4 fun v3 => isB v3 fun t2 => Kb2 (DV.v (AV.b t2)) H3) (none)) (Kb2 DV.n H2)) fun Kb2 => br t1 (Kb2 (DV.v (AV.i .i64 n2)) H1) (Kb2 DV.n H1)
def g206x3 := onV d1 fun v1 => isB v1 fun t1 => br t1 (Kb1 (DV.v (AV.i .i64 n1)) H1) (jF [(9 , .int .i64)] (fun d3 H2 => onV d3 fun v2 => g206x1 v2 d2 n1 H2 c1 c2 Kb1 Kb2) fun Kb3 => wrp .i64 (iadd n2 ii1) fun n4 => frcB (ilt n4 n3) fun t2 => jn (fun d3 H2 => jn (fun d4 H3 => g206x2 d3 d4 n4 n2 t2 H3 c1 Kb3) fun Kb4 => br t2 (Kb4 (DV.v (AV.i .i64 n4)) H2) (Kb4 DV.n H2)) fun Kb4 => br t2 (Kb4 d2 H1) (Kb4 DV.n H1))
def g206x4 := onV d1 fun v1 => isI .i64 v1 fun n2 => wrp .i64 (imul ii2 n2) fun n3 => wrp .i64 (iadd n3 ii1) fun n4 => frcB (ile n1 n4) fun t1 => jn (fun d3 H2 => jn (fun d4 H3 => pickK t1 (DV.v (AV.b true)) d4 fun d5 => g206x3 d5 d2 n2 n4 n1 H3 c1 c2 Kb1 Kb2) fun Kb3 => br t1 (Kb3 DV.n H2) (onV d3 fun v2 => isI .i64 v2 fun n5 => frcB (ilt n5 ii0) fun t2 => Kb3 (DV.v (AV.b t2)) H2)) fun Kb3 => br t1 (Kb3 DV.n H1) (Kb3 (DV.v (AV.i .i64 n4)) H1)
/-- container/heap.down -/
def g206 : G DV := fun R1 H1 Kb1 => lc R1 fun d1 R2 => lc R2 fun d2 R3 => onV d2 fun v1 => isI .i64 v1 fun n1 => lc R3 fun d3 R4 => onV d3 fun v2 => isI .i64 v2 fun n2 => ln R4 <| jF [(7 , .int .i64)] (fun d4 H2 => onV d4 fun v3 => isI .i64 v3 fun n3 => frcB (ilt n1 n3) fun t1 => Kb1 (DV.v (AV.b t1)) H2) fun Kb2 => lpR (failF [(7 , .int .i64)]) (fun Kb3 => fun d4 H2 => g206x4 d4 d1 n2 H2 c1 c2 Kb2 Kb3) (nat_lit 100000) (DV.v (AV.i .i64 n1)) H1
def G206 : G DV := g206 G345 G348

def g346x1 := wrp .i64 (isub (Int.ofNat m1) ii1) fun n1 => ixA s1 n1 (fun x => x) fun b1 m2 => rdK H1 b1 m2 fun v1 => isP v1 fun p2 => onA p1 fun b2 m3 => rdK H1 b2 m3 fun v2 => isS v2 fun s2 => onA p1 fun b3 m4 => rdK H1 b3 m4 fun v3 => isS v3 fun s3 => lenA s3 fun m5 => wrp .i64 (isub (Int.ofNat m5) ii1) fun n2 => natK n2 fun m6 => slA s2 nn0 m6 (fun x => x) fun s4 => onA p1 fun b4 m7 => wrK H1 b4 m7 (AV.s s4) fun H2 => Kb1 (DV.v (AV.ifc (nat_lit 236) (AV.p p2))) H2
/-- (*sched.turns).Pop -/
def g346 : G DV := fun R1 H1 Kb1 => lc R1 fun d1 R2 => onV d1 fun v1 => isP v1 fun p1 => ln R2 <| onA p1 fun b1 m1 => rdK H1 b1 m1 fun v2 => isS v2 fun s1 => onA p1 fun b2 m2 => rdK H1 b2 m2 fun v3 => isS v3 fun s2 => lenA s2 fun m3 => g346x1 m3 p1 s1 H1 Kb1
def G346 : G DV := g346

def g121x1 := jF [] (fun H2 => onV d1 fun v1 => isM v1 fun m1 v2 => br (Nat.beq (nat_lit 232) m1) (c1 [(DV.v v2)] H2 fun d2 H3 => onV d2 fun v3 => Kb1 (DV.v v3) H3) (none)) fun Ka1 => frcB (bnot (ieq n1 n2)) fun t1 => br t1 (onV d1 fun v1 => isM v1 fun m1 v2 => br (Nat.beq (nat_lit 232) m1) (c2 [(DV.v v2), (DV.v (AV.i .i64 n2)), (DV.v (AV.i .i64 n1))] H1 fun d2 H2 => c3 [d1, (DV.v (AV.i .i64 n2)), (DV.v (AV.i .i64 n1))] H2 fun d3 H3 => onV d3 fun v3 => isB v3 fun t2 => frcB (bnot t2) fun t3 => br t3 (c4 [d1, (DV.v (AV.i .i64 n2))] H3 fun d4 H4 => Ka1 H4) (Ka1 H3)) (none)) (Ka1 H1)
/-- container/heap.Remove -/
def g121 : G DV := fun R1 H1 Kb1 => lc R1 fun d1 R2 => lc R2 fun d2 R3 => onV d2 fun v1 => isI .i64 v1 fun n1 => ln R3 <| onV d1 fun v2 => isM v2 fun m1 v3 => br (Nat.beq (nat_lit 232) m1) (c1 [(DV.v v3)] H1 fun d3 H2 => onV d3 fun v4 => isI .i64 v4 fun n2 => wrp .i64 (isub n2 ii1) fun n3 => g121x1 d1 n3 n1 H2 c4 c5 c3 c2 Kb1) (none)
def G121 : G DV := g121 G120 G205 G206 G346 G348

/-- sched.there -/
def g148 : G DV := fun R1 H1 Kb1 => lc R1 fun d1 R2 => onV d1 fun v1 => isI .i64 v1 fun n1 => ln R2 <| frcB (ile ii1 n1) fun t1 => jn (fun d2 H2 => jn (fun d3 H3 => pickK t1 d3 (DV.v (AV.b false)) fun d4 => onV d4 fun v2 => isB v2 fun t2 => Kb1 (DV.v (AV.b t2)) H3) fun Kb2 => br t1 (onV d2 fun v2 => isI .i64 v2 fun n2 => frcB (ile n2 ii16) fun t2 => Kb2 (DV.v (AV.b t2)) H2) (Kb2 DV.n H2)) fun Kb2 => br t1 (Kb2 (DV.v (AV.i .i64 n1)) H1) (Kb2 DV.n H1)
def G148 : G DV := g148

/-- (*sched.Sched).of -/
def g150 : G DV := fun R1 H1 Kb1 => lc R1 fun d1 R2 => onV d1 fun v1 => isP v1 fun p1 => lc R2 fun d2 R3 => onV d2 fun v2 => isI .i64 v2 fun n1 => ln R3 <| c1 [(DV.v (AV.i .i64 n1))] H1 fun d3 H2 => onV d3 fun v3 => isB v3 fun t1 => frcB (bnot t1) fun t2 => br t2 (Kb1 (DV.v (AV.p AP.nil)) H2) (wrp .i64 (isub n1 ii1) fun n2 => onA p1 fun b1 m1 => rng n2 nn16 <| rdK H2 b1 (Nat.add m1 (itn n2)) fun v4 => isP v4 fun p2 => Kb1 (DV.v (AV.p p2)) H2)
def G150 : G DV := g150 G148

def g118x1 := isI .i64 v1 fun n1 => onA p1 fun b1 m1 => rdK H1 b1 (Nat.add m1 nn16) fun v2 => isP v2 fun p3 => onA p3 fun b2 m2 => rdK H1 b2 m2 fun v3 => isS v3 fun s1 => ixA s1 ii0 (fun x => x) fun b3 m3 => rdK H1 b3 m3 fun v4 => isP v4 fun p4 => onA p4 fun b4 m4 => rdK H1 b4 (Nat.add m4 nn2) fun v5 => isI .i64 v5 fun n2 => asI (imax n1 n2) fun n3 => onA p2 fun b5 m5 => wrK H1 b5 (Nat.add m5 nn2) (AV.i .i64 n3) fun H2 => Ka1 H2
def g118x2 := jF [] (fun H2 => onA p1 fun b1 m1 => wrK H2 b1 (Nat.add m1 nn3) (AV.b true) fun H3 => onA p2 fun b2 m2 => rdK H3 b2 (Nat.add m2 nn16) fun v1 => isP v1 fun p3 => c1 [(DV.v (AV.ifc (nat_lit 232) (AV.p p3))), (DV.v (AV.ifc (nat_lit 236) (AV.p p1)))] H3 fun d1 H4 => Ka1 H4) fun Ka2 => onA p2 fun b1 m1 => rdK H1 b1 (Nat.add m1 nn16) fun v1 => isP v1 fun p3 => c2 [(DV.v (AV.p p3))] H1 fun d1 H2 => onV d1 fun v2 => isI .i64 v2 fun n1 => frcB (ilt ii0 n1) fun t1 => br t1 (onA p1 fun b2 m2 => rdK H2 b2 (Nat.add m2 nn2) fun v3 => g118x1 v3 p2 p1 H2 Ka2) (Ka2 H2)
def g118x3 := jn (fun d2 H2 => pickK t1 d2 (DV.v (AV.b false)) fun d3 => onV d3 fun v1 => isB v1 fun t2 => br t2 (onA p1 fun b1 m1 => wrK H2 b1 (Nat.add m1 nn3) (AV.b false) fun H3 => onA p2 fun b2 m2 => rdK H3 b2 (Nat.add m2 nn16) fun v2 => isP v2 fun p3 => onA p1 fun b3 m3 => rdK H3 b3 (Nat.add m3 nn4) fun v3 => isI .i64 v3 fun n1 => c1 [(DV.v (AV.ifc (nat_lit 232) (AV.p p3))), (DV.v (AV.i .i64 n1))] H3 fun d4 H4 => onV d4 fun v4 => Ka1 H4) (Ka1 H2)) fun Kb1 => br t1 (onV d1 fun v1 => isP v1 fun p3 => onA p3 fun b1 m1 => rdK H1 b1 m1 fun v2 => isB v2 fun t2 => Kb1 (DV.v (AV.b t2)) H1) (Kb1 DV.n H1)
def g118x4 := br t1 (g118x2 p1 p2 H1 c1 c2 Ka1) (frcB (bnot t2) fun t3 => jn (fun d1 H2 => jn (fun d2 H3 => jn (fun d3 H4 => g118x3 d3 t3 p1 p2 H4 c3 Ka1) fun Kb1 => br t3 (onV d2 fun v1 => isP v1 fun p3 => onA p3 fun b1 m1 => Kb1 (DV.v (AV.p (AP.at b1 (Nat.add m1 nn3)))) H3) (Kb1 DV.n H3)) fun Kb1 => br t3 (onV d1 fun v1 => isP v1 fun p3 => onA p3 fun b1 m1 => Kb1 (DV.v (AV.p (AP.at b1 m1))) H2) (Kb1 DV.n H2)) fun Kb1 => br t3 (Kb1 (DV.v (AV.p p1)) H1) (Kb1 DV.n H1))
def g118x5 := jn (fun d2 H2 => jn (fun d3 H3 => jn (fun d4 H4 => pickK t1 d4 (DV.v (AV.b false)) fun d5 => onV d5 fun v1 => isB v1 fun t2 => g118x4 t2 t1 p1 p2 H4 c1 c2 c3 Ka1) fun Kb1 => br t1 (onV d3 fun v1 => isB v1 fun t2 => frcB (bnot t2) fun t3 => Kb1 (DV.v (AV.b t3)) H3) (Kb1 DV.n H3)) fun Kb1 => br t1 (onV d2 fun v1 => isP v1 fun p3 => onA p3 fun b1 m1 => rdK H2 b1 m1 fun v2 => isB v2 fun t2 => Kb1 (DV.v (AV.b t2)) H2) (Kb1 DV.n H2)) fun Kb1 => br t1 (onV d1 fun v1 => isP v1 fun p3 => onA p3 fun b1 m1 => Kb1 (DV.v (AV.p (AP.at b1 (Nat.add m1 nn3)))) H1) (Kb1 DV.n H1)
def g118x6 := c1 [(DV.v (AV.p p1)), (DV.v (AV.i .i64 n1))] H1 fun d1 H2 => onV d1 fun v1 => isP v1 fun p2 => jF [] (fun H3 => Kb1 (DV.v AV.ni) H3) fun Ka1 => frcB (isNilA p2) fun t2 => br t2 (Kb1 (DV.v (AV.er (nat_lit 6))) H2) (jn (fun d2 H3 => jn (fun d3 H4 => g118x5 d3 t1 p2 p1 H4 c2 c3 c4 Ka1) fun Kb2 => br t1 (onV d2 fun v2 => isP v2 fun p3 => onA p3 fun b1 m1 => Kb2 (DV.v (AV.p (AP.at b1 m1))) H3) (Kb2 DV.n H3)) fun Kb2 => br t1 (Kb2 (DV.v (AV.p p2)) H2) (Kb2 DV.n H2))
/-- (*sched.Sched).Active -/
def g118 : G DV := fun R1 H1 Kb1 => lc R1 fun d1 R2 => onV d1 fun v1 => isP v1 fun p1 => lc R2 fun d2 R3 => onV d2 fun v2 => isI .i64 v2 fun n1 => lc R3 fun d3 R4 => onV d3 fun v3 => isB v3 fun t1 => ln R4 <| g118x6 n1 t1 p1 H1 c4 c1 c2 c3 Kb1
def G118 : G DV := g118 G119 G120 G121 G150

def z14 : T4 AV := (@T4.n AV yy3 (@T4.n AV yy3 te te te te) (@T4.n AV yy3 te te te te) (@T4.n AV yy3 te te te te) te)
def g61x1 := jn (fun d2 H2 => jn (fun d3 H3 => jn (fun d4 H4 => pickK t1 (DV.v (AV.b true)) d4 fun d5 => onV d5 fun v1 => isB v1 fun t2 => rng n1 nn4 <| wrK H4 b1 (Nat.add nn0 (itn n1)) (AV.b t2) fun H5 => Kb1 (DV.v (AV.s s1)) H5) fun Kb2 => br t1 (Kb2 DV.n H3) (c1 [d2, d3] H3 fun d4 H4 => onV d4 fun v1 => isB v1 fun t2 => Kb2 (DV.v (AV.b t2)) H4)) fun Kb2 => br t1 (Kb2 DV.n H2) (Kb2 (DV.v (AV.i .i64 n2)) H2)) fun Kb2 => br t1 (Kb2 DV.n H1) (onV d1 fun v1 => isP v1 fun p1 => onA p1 fun b2 m1 => rdK H1 b2 m1 fun v2 => isP v2 fun p2 => Kb2 (DV.v (AV.p p2)) H1)
def g61x2 := isB v1 fun t1 => jn (fun d1 H2 => jn (fun d2 H3 => jn (fun d3 H4 => g61x1 d3 n1 n2 t1 b1 s1 H4 c1 Kb1) fun Kb2 => br t1 (Kb2 DV.n H3) (onV d2 fun v2 => isP v2 fun p2 => onA p2 fun b2 m1 => Kb2 (DV.v (AV.p (AP.at b2 (Nat.add m1 nn312)))) H3)) fun Kb2 => br t1 (Kb2 DV.n H2) (onV d1 fun v2 => isP v2 fun p2 => onA p2 fun b2 m1 => Kb2 (DV.v (AV.p (AP.at b2 m1))) H2)) fun Kb2 => br t1 (Kb2 DV.n H1) (Kb2 (DV.v (AV.p p1)) H1)
def g61x3 := pickK t1 d1 (DV.v (AV.b false)) fun d2 => onV d2 fun v1 => isB v1 fun t2 => br t2 (alB H1 (@T4.n AV (AV.i .i64 n1) te te te te) nn1 nn0 fun b2 H2 => appD nn1 nn8 s1 (AS.sl b2 nn0 nn1 nn1) H2 fun s2 H3 => rng n2 nn4 <| rdK H3 b1 (Nat.add nn0 (itn n2)) fun v2 => g61x2 v2 n2 n1 p1 b1 s2 H3 c1 Kb1) (c2 [(DV.v (AV.p p2)), (DV.v (AV.i .i64 n1)), (DV.v (AV.b false))] H1 fun d3 H2 => onV d3 fun v2 => Kb1 (DV.v (AV.s s1)) H2)
def g61x4 := jn (fun d4 H2 => jn (fun d5 H3 => jn (fun d6 H4 => g61x3 d6 n1 n2 t1 p1 p2 b1 s1 H4 c1 c2 Kb1) fun Kb2 => br t1 (onV d5 fun v1 => isI .i64 v1 fun n3 => frcB (ilt ii0 n3) fun t2 => Kb2 (DV.v (AV.b t2)) H3) (Kb2 DV.n H3)) fun Kb2 => br t1 (onV d4 fun v1 => isS v1 fun s2 => lenA s2 fun m1 => Kb2 (DV.v (AV.i .i64 (Int.ofNat m1))) H2) (Kb2 DV.n H2)) fun Kb2 => br t1 (c3 [d1, d2, d3] H1 fun d4 H2 => onV d4 fun v1 => isS v1 fun s2 => Kb2 (DV.v (AV.s s2)) H2) (Kb2 DV.n H1)
def g61x5 := c1 [(DV.v (AV.p (AP.at b1 (Nat.add m1 nn150)))), (DV.v (AV.i .i64 n1)), (DV.v (AV.i .i64 n2))] H1 fun d1 H2 => onV d1 fun v1 => isB v1 fun t1 => jn (fun d2 H3 => jn (fun d3 H4 => jn (fun d4 H5 => g61x4 d2 d3 d4 n1 n2 t1 p1 p2 b2 s1 H5 c2 c3 c4 Kb1) fun Kb2 => br t1 (Kb2 (DV.v (AV.i .i64 n2)) H4) (Kb2 DV.n H4)) fun Kb2 => br t1 (Kb2 (DV.v (AV.i .i64 n1)) H3) (Kb2 DV.n H3)) fun Kb2 => br t1 (Kb2 (DV.v (AV.p p1)) H2) (Kb2 DV.n H2)
def g61x6 := lpR (failF [(65 , .int .i64)]) (fun Kb2 => fun d1 H2 => onV d1 fun v1 => isI .i64 v1 fun n2 => frcB (ilt n2 (Int.ofNat m1)) fun t1 => br t1 (ixA s1 n2 (fun x => x) fun b1 m2 => rdK H2 b1 m2 fun v2 => isI .i64 v2 fun n3 => c1 [(DV.v (AV.p p1)), (DV.v (AV.i .i64 n3)), (DV.v (AV.b true))] H2 fun d2 H3 => onV d2 fun v3 => wrp .i64 (iadd n2 ii1) fun n4 => Kb2 (DV.v (AV.i .i64 n4)) H3) (wrp .i64 (iadd n1 ii1) fun n3 => Kb1 (DV.v (AV.i .i64 n3)) H2)) (nat_lit 100000) (DV.v (AV.i .i64 ii0)) H1
def g61x7 := frcB (ilt n1 (Int.ofNat m1)) fun t1 => br t1 (jF [(6 , .slice)] (fun d1 H2 => onV d1 fun v1 => isS v1 fun s3 => wrp .i64 (iadd n1 ii1) fun n3 => Kc1 (DV.v (AV.s s3)) (DV.v (AV.i .i64 n3)) H2) fun Kb2 => ixA s1 n1 (fun x => x) fun b2 m2 => rdK H1 b2 m2 fun v1 => isI .i64 v1 fun n3 => onA p1 fun b3 m3 => g61x5 n3 n2 m3 p1 p2 b3 b1 s2 H1 c1 c2 c3 c4 Kb2) (lenA s2 fun m2 => g61x6 n2 m2 p2 s2 H1 c3 Kb1)
def g61x8 := isP v1 fun p2 => onA p1 fun b2 m1 => c1 [(DV.v (AV.p (AP.at b2 (Nat.add m1 nn22))))] H1 fun d1 H2 => onV d1 fun v2 => isS v2 fun s1 => lenA s1 fun m2 => lpR (failF [(6 , .slice), (24 , .int .i64)]) (fun Kc1 => fun d2 d3 H3 => onV d2 fun v3 => isS v3 fun s2 => onV d3 fun v4 => isI .i64 v4 fun n2 => g61x7 n2 n1 m2 p1 p2 b1 s1 s2 H3 c2 c3 c4 c5 Kb1 Kc1) (nat_lit 100000) (DV.v (AV.s AS.nil)) (DV.v (AV.i .i64 ii0)) H2
def g61x9 := rdR H1 b1 (Nat.add m1 nn313) nn4 fun l1 => lpR (failF [(15 , .int .i64)]) (fun Kb2 => fun d1 H2 => onV d1 fun v1 => isI .i64 v1 fun n1 => frcB (ilt n1 ii4) fun t1 => br t1 (rng n1 nn4 <| lgetK (itn n1) l1 fun v2 => g61x8 v2 n1 p1 b2 H2 c1 c2 c3 c4 c5 Kb2) (rdR H2 b2 nn0 nn4 fun l2 => must (Nat.beq (llen l2) nn4) <| wrL H2 b3 nn0 l2 fun H3 => rdR H3 b3 nn0 nn4 fun l3 => Kb1 (DV.a l3) H3)) (nat_lit 100000) (DV.v (AV.i .i64 ii0)) H1
/-- (*ap.AP).actives -/
def g61 : G DV := fun R1 H1 Kb1 => lc R1 fun d1 R2 => onV d1 fun v1 => isP v1 fun p1 => ln R2 <| alB H1 z14 nn4 nn0 fun b1 H2 => alB H2 z14 nn4 nn0 fun b2 H3 => onA p1 fun b3 m1 => g61x9 m1 p1 b3 b2 b1 H3 c1 c4 c2 c5 c3 Kb1
def G61 : G DV := g61 G57 G63 G64 G117 G118

def z15 : T4 AV := (@T4.n AV yy1 (@T4.n AV yy1 te te te te) (@T4.n AV yy1 te te te te) (@T4.n AV yy3 te te te te) (@T4.n AV yy1 te te te te))
def g62x1 := isS v1 fun s2 => ixA s2 ii0 (fun x => x) fun b2 m1 => rdK H1 b2 m1 fun v2 => isP v2 fun p1 => onA p1 fun b3 m2 => rdK H1 b3 m2 fun v3 => isI .i64 v3 fun n1 => alB H1 (@T4.n AV (AV.i .i64 n1) te te te te) nn1 nn0 fun b4 H2 => appD nn1 nn8 s1 (AS.sl b4 nn0 nn1 nn1) H2 fun s3 H3 => c1 [(DV.v (AV.ifc (nat_lit 232) (AV.p (AP.at b1 nn0)))), (DV.v (AV.i .i64 ii0))] H3 fun d1 H4 => onV d1 fun v4 => Kb1 (DV.v (AV.s s3)) H4
def g62x2 := br t1 (ixA s1 n1 (fun x => x) fun b2 m1 => rdK H1 b2 m1 fun v1 => isP v1 fun p1 => onA p1 fun b3 m2 => rdR H1 b3 m2 nn5 fun l1 => alB H1 z15 nn5 nn0 fun b4 H2 => must (Nat.beq (llen l1) nn5) <| wrL H2 b4 nn0 l1 fun H3 => c1 [(DV.v (AV.ifc (nat_lit 232) (AV.p (AP.at b1 nn0)))), (DV.v (AV.ifc (nat_lit 236) (AV.p (AP.at b4 nn0))))] H3 fun d1 H4 => wrp .i64 (iadd n1 ii1) fun n2 => Kb1 (DV.v (AV.i .i64 n2)) H4) (lpR (failF [(7 , .slice)]) (fun Kb3 => fun d1 H2 => onV d1 fun v1 => isS v1 fun s2 => c2 [(DV.v (AV.p (AP.at b1 nn0)))] H2 fun d2 H3 => onV d2 fun v2 => isI .i64 v2 fun n2 => frcB (ilt ii0 n2) fun t2 => br t2 (rdK H3 b1 nn0 fun v3 => g62x1 v3 b1 s2 H3 c3 Kb3) (Kb2 (DV.v (AV.s s2)) H3)) (nat_lit 100000) (DV.v (AV.s AS.nil)) H1)
def g62x3 := alB H1 (@T4.n AV yy4 te te te te) nn1 nn0 fun b1 H2 => onA p1 fun b2 m1 => rdK H2 b2 (Nat.add m1 nn16) fun v1 => isP v1 fun p2 => onA p2 fun b3 m2 => rdK H2 b3 m2 fun v2 => isS v2 fun s1 => lenA s1 fun m3 => lpR (failF [(18 , .int .i64)]) (fun Kb2 => fun d1 H3 => onV d1 fun v3 => isI .i64 v3 fun n1 => frcB (ilt n1 (Int.ofNat m3)) fun t1 => g62x2 n1 t1 b1 s1 H3 c1 c2 c3 Kb2 Kb1) (nat_lit 100000) (DV.v (AV.i .i64 ii0)) H2
/-- (*sched.Sched).Order -/
def g62 : G DV := fun R1 H1 Kb1 => lc R1 fun d1 R2 => onV d1 fun v1 => isP v1 fun p1 => ln R2 <| g62x3 p1 H1 c1 c2 c3 Kb1
def G62 : G DV := g62 G119 G120 G121

def g209x1 := jn (fun d2 H2 => jn (fun d3 H3 => pickK t1 (DV.v (AV.b true)) d3 fun d4 => onV d4 fun v1 => isB v1 fun t2 => br t2 (Kb1 (DV.v (AV.p AP.nil)) H3) (wrp .i64 (isub n1 ii1) fun n2 => onA p1 fun b1 m1 => rng n2 nn16 <| Kb1 (DV.v (AV.p (AP.at b1 (Nat.add m1 (Nat.mul (itn n2) nn8))))) H3)) fun Kb2 => br t1 (Kb2 DV.n H2) (onV d2 fun v1 => isB v1 fun t2 => frcB (bnot t2) fun t3 => Kb2 (DV.v (AV.b t3)) H2)) fun Kb2 => br t1 (Kb2 DV.n H1) (onV d1 fun v1 => isP v1 fun p2 => onA p2 fun b1 m1 => rdK H1 b1 m1 fun v2 => isB v2 fun t2 => Kb2 (DV.v (AV.b t2)) H1)
def g209x2 := jn (fun d3 H2 => jn (fun d4 H3 => jn (fun d5 H4 => g209x1 d5 n1 t1 p1 H4 Kb1) fun Kb2 => br t1 (Kb2 DV.n H3) (onV d4 fun v1 => isP v1 fun p2 => onA p2 fun b1 m1 => Kb2 (DV.v (AV.p (AP.at b1 m1))) H3)) fun Kb2 => br t1 (Kb2 DV.n H2) (onV d1 fun v1 => isJ v1 fun n2 => onV d3 fun v2 => isP v2 fun p2 => onA p2 fun b1 m1 => rng n2 nn16 <| Kb2 (DV.v (AV.p (AP.at b1 (Nat.add m1 (Nat.mul (itn n2) nn8))))) H2)) fun Kb2 => br t1 (Kb2 DV.n H1) (onV d2 fun v1 => isP v1 fun p2 => onA p2 fun b1 m1 => Kb2 (DV.v (AV.p (AP.at b1 m1))) H1)
def g209x3 := jn (fun d1 H2 => jn (fun d2 H3 => jn (fun d3 H4 => jn (fun d4 H5 => g209x2 d3 d4 n1 t1 p1 H5 Kb1) fun Kb2 => br t1 (Kb2 DV.n H4) (onV d1 fun v1 => isP v1 fun p2 => onA p2 fun b1 m1 => Kb2 (DV.v (AV.p (AP.at b1 m1))) H4)) fun Kb2 => br t1 (Kb2 DV.n H3) (onV d2 fun v1 => isI .i64 v1 fun n2 => wrp .i64 (isub n2 ii1) fun n3 => Kb2 (DV.v (AV.i .i64 n3)) H3)) fun Kb2 => br t1 (Kb2 DV.n H2) (Kb2 (DV.v (AV.i .i64 n1)) H2)) fun Kb2 => br t1 (Kb2 DV.n H1) (Kb2 (DV.v (AV.p p1)) H1)
def g209x4 := isP v1 fun p1 => lc R1 fun d1 R2 => onV d1 fun v2 => isI .i64 v2 fun n1 => ln R2 <| frcB (ilt n1 ii1) fun t1 => jn (fun d2 H2 => jn (fun d3 H3 => pickK t1 (DV.v (AV.b true)) d3 fun d4 => onV d4 fun v3 => isB v3 fun t2 => g209x3 n1 t2 p1 H3 Kb1) fun Kb2 => br t1 (Kb2 DV.n H2) (onV d2 fun v3 => isI .i64 v3 fun n2 => frcB (ilt ii16 n2) fun t2 => Kb2 (DV.v (AV.b t2)) H2)) fun Kb2 => br t1 (Kb2 DV.n H1) (Kb2 (DV.v (AV.i .i64 n1)) H1)
/-- (*sta.Table).of -/
def g209 : G DV := fun R1 H1 Kb1 => lc R1 fun d1 R2 => onV d1 fun v1 => g209x4 v1 R2 H1 Kb1
def G209 : G DV := g209

def g127x1 := c1 [(DV.v (AV.p p1)), (DV.v (AV.i .i64 n1))] H1 fun d1 H2 => onV d1 fun v1 => isP v1 fun p2 => frcB (isNilA p2) fun t1 => br t1 (wrL H2 b1 nn0 z4 fun H3 => rdR H3 b1 nn0 nn6 fun l1 => Kb1 (DV.c (DV.a l1) (DV.c (DV.v (AV.b false)) DV.n)) H3) (onA p2 fun b2 m1 => rdR H2 b2 (Nat.add m1 nn1) nn6 fun l1 => must (Nat.beq (llen l1) nn6) <| wrL H2 b1 nn0 l1 fun H3 => rdR H3 b1 nn0 nn6 fun l2 => Kb1 (DV.c (DV.a l2) (DV.c (DV.v (AV.b true)) DV.n)) H3)
/-- (*sta.Table).Addr -/
def g127 : G DV := fun R1 H1 Kb1 => lc R1 fun d1 R2 => onV d1 fun v1 => isP v1 fun p1 => lc R2 fun d2 R3 => onV d2 fun v2 => isI .i64 v2 fun n1 => ln R3 <| alB H1 z0 nn6 nn0 fun b1 H2 => g127x1 n1 p1 b1 H2 c1 Kb1
def G127 : G DV := g127 G209

def z16 : T4 AV := (@T4.n AV yy1 (@T4.n AV yy1 te te te te) (@T4.n AV yy1 te te te te) (@T4.n AV yy1 te te te te) (@T4.n AV yy1 te te te te))
def z17 : List AV := [(AV.i .i64 ii1), (AV.i .i64 ii4), (AV.i .i64 ii1), (AV.i .i64 ii20), (AV.i .i64 ii0)]
/-- ap.slow -/
def g128 : G DV := fun R1 H1 Kb1 => ln R1 <| alB H1 z16 nn5 nn0 fun b1 H2 => wrL H2 b1 nn0 z17 fun H3 => rdR H3 b1 nn0 nn5 fun l1 => Kb1 (DV.a l1) H3
def G128 : G DV := g128

/-- (*ba.Session).Start -/
def g129 : G DV := fun R1 H1 Kb1 => lc R1 fun d1 R2 => onV d1 fun v1 => isP v1 fun p1 => ln R2 <| onA p1 fun b1 m1 => rdK H1 b1 m1 fun v2 => isP v2 fun p2 => c1 [(DV.v (AV.p p2))] H1 fun d2 H2 => onV d2 fun v3 => isI .i64 v3 fun n1 => Kb1 (DV.v (AV.i .i64 n1)) H2
def G129 : G DV := g129 G210

/-- (*win.Win).Size -/
def g211 : G DV := fun R1 H1 Kb1 => lc R1 fun d1 R2 => onV d1 fun v1 => isP v1 fun p1 => ln R2 <| onA p1 fun b1 m1 => rdK H1 b1 (Nat.add m1 nn2) fun v2 => isI .i64 v2 fun n1 => Kb1 (DV.v (AV.i .i64 n1)) H1
def G211 : G DV := g211

/-- (*ba.Session).Size -/
def g130 : G DV := fun R1 H1 Kb1 => lc R1 fun d1 R2 => onV d1 fun v1 => isP v1 fun p1 => ln R2 <| onA p1 fun b1 m1 => rdK H1 b1 m1 fun v2 => isP v2 fun p2 => c1 [(DV.v (AV.p p2))] H1 fun d2 H2 => onV d2 fun v3 => isI .i64 v3 fun n1 => Kb1 (DV.v (AV.i .i64 n1)) H2
def G130 : G DV := g130 G211

/-- ctl.two -/
def g266 : G DV := fun R1 H1 Kb1 => lc R1 fun d1 R2 => onV d1 fun v1 => isI .i64 v1 fun n1 => ln R2 <| wrp .u8 n1 fun n2 => asI (idiv n1 (ip2 ii8)) fun n3 => wrp .u8 n3 fun n4 => alB H1 (@T4.n AV (AV.i .u8 n2) (@T4.n AV (AV.i .u8 n4) te te te te) te te te) nn2 nn0 fun b1 H2 => Kb1 (DV.v (AV.s (AS.sl b1 nn0 nn2 nn2))) H2
def G266 : G DV := g266

def g212x1 := appD nn1 nn1 s1 (AS.sl b1 nn0 nn6 nn6) H1 fun s2 H2 => wrp .i64 (imul n1 ii4096) fun n3 => wrp .i64 (iadd ii4 n3) fun n4 => c1 [(DV.v (AV.i .i64 n4))] H2 fun d1 H3 => onV d1 fun v1 => isS v1 fun s3 => appD nn1 nn1 s2 s3 H3 fun s4 H4 => wrp .i64 (imul n2 ii16) fun n5 => c1 [(DV.v (AV.i .i64 n5))] H4 fun d2 H5 => onV d2 fun v2 => isS v2 fun s5 => appD nn1 nn1 s4 s5 H5 fun s6 H6 => Kb1 (DV.c (DV.v (AV.s s6)) (DV.c (DV.v AV.ni) DV.n)) H6
def g212x2 := pickK t1 (DV.v (AV.b true)) d1 fun d2 => onV d2 fun v1 => isB v1 fun t2 => br t2 (Kb1 (DV.c (DV.v (AV.s AS.nil)) (DV.c (DV.v (AV.er (nat_lit 2))) DV.n)) H1) (alB H1 (@T4.n AV (AV.i .u8 n1) (@T4.n AV yy0 te te te te) (@T4.n AV yy0 te te te te) (@T4.n AV yy0 te te te te) te) nn4 nn0 fun b3 H2 => appD nn1 nn1 (AS.sl b3 nn0 nn4 nn4) (AS.sl b1 nn0 nn6 nn6) H2 fun s1 H3 => g212x1 n2 n3 b2 s1 H3 c1 Kb1)
def g212x3 := jn (fun d2 H2 => pickK t1 (DV.v (AV.b true)) d2 fun d3 => onV d3 fun v1 => isB v1 fun t2 => jn (fun d4 H3 => jn (fun d5 H4 => g212x2 d5 n1 n2 n3 t2 b1 b2 H4 c1 Kb1) fun Kb2 => br t2 (Kb2 DV.n H3) (onV d4 fun v2 => isI .i64 v2 fun n4 => frcB (ile ii4096 n4) fun t3 => Kb2 (DV.v (AV.b t3)) H3)) fun Kb2 => br t2 (Kb2 DV.n H2) (Kb2 (DV.v (AV.i .i64 n3)) H2)) fun Kb2 => br t1 (Kb2 DV.n H1) (onV d1 fun v1 => isI .i64 v1 fun n4 => frcB (ilt n4 ii0) fun t2 => Kb2 (DV.v (AV.b t2)) H1)
def g212x4 := frcB (ilt n1 ii0) fun t1 => jn (fun d1 H2 => jn (fun d2 H3 => pickK t1 (DV.v (AV.b true)) d2 fun d3 => onV d3 fun v1 => isB v1 fun t2 => jn (fun d4 H4 => g212x3 d4 n2 n1 n3 t2 b1 b2 H4 c1 Kb1) fun Kb2 => br t2 (Kb2 DV.n H3) (Kb2 (DV.v (AV.i .i64 n3)) H3)) fun Kb2 => br t1 (Kb2 DV.n H2) (onV d1 fun v1 => isI .i64 v1 fun n4 => frcB (ile ii8 n4) fun t2 => Kb2 (DV.v (AV.b t2)) H2)) fun Kb2 => br t1 (Kb2 DV.n H1) (Kb2 (DV.v (AV.i .i64 n1)) H1)
/-- ctl.asks -/
def g212 : G DV := fun R1 H1 Kb1 => lc R1 fun d1 R2 => onV d1 fun v1 => isI .u8 v1 fun n1 => lc R2 fun d2 R3 => lc R3 fun d3 R4 => lc R4 fun d4 R5 => onV d4 fun v2 => isI .i64 v2 fun n2 => lc R5 fun d5 R6 => onV d5 fun v3 => isI .i64 v3 fun n3 => ln R6 <| cellsD d2 fun l1 => alK H1 l1 fun b1 H2 => cellsD d3 fun l2 => alK H2 l2 fun b2 H3 => g212x4 n2 n1 n3 b1 b2 H3 c1 Kb1
def G212 : G DV := g212 G266

def g133x1 := alK H1 l1 fun b1 H2 => rdR H2 b1 nn0 nn6 fun l2 => rdR H2 b1 nn6 nn6 fun l3 => rdK H2 b1 nn12 fun v1 => isI .i64 v1 fun n1 => rdK H2 b1 nn13 fun v2 => isI .i64 v2 fun n2 => c1 [(DV.v (AV.i .u8 ii132)), (DV.a l2), (DV.a l3), (DV.v (AV.i .i64 n1)), (DV.v (AV.i .i64 n2))] H2 fun d1 H3 => onC d1 fun d2 d3 => onV d2 fun v3 => isS v3 fun s1 => onC d3 fun d4 d5 => onV d4 fun v4 => onN d5 <| Kb1 (DV.c (DV.v (AV.s s1)) (DV.c (DV.v v4) DV.n)) H3
/-- ctl.BarBytes -/
def g133 : G DV := fun R1 H1 Kb1 => lc R1 fun d1 R2 => ln R2 <| cellsD d1 fun l1 => g133x1 l1 H1 c1 Kb1
def G133 : G DV := g133 G212

/-- (*win.Win).Ahead -/
def g214 : G DV := fun R1 H1 Kb1 => lc R1 fun d1 R2 => onV d1 fun v1 => isP v1 fun p1 => ln R2 <| onA p1 fun b1 m1 => rdK H1 b1 (Nat.add m1 nn1) fun v2 => isI .i64 v2 fun n1 => Kb1 (DV.v (AV.i .i64 n1)) H1
def G214 : G DV := g214

def g135x1 := br t1 (Kb1 (DV.c (DV.v (AV.i .i64 ii0)) (DV.c (DV.v (AV.er (nat_lit 9))) DV.n)) H1) (onA p1 fun b1 m1 => wrK H1 b1 (Nat.add m1 nn4) (AV.i .i64 ii2) fun H2 => onA p1 fun b2 m2 => wrK H2 b2 (Nat.add m2 nn5) (AV.i .i64 n1) fun H3 => onA p1 fun b3 m3 => rdK H3 b3 m3 fun v1 => isP v1 fun p2 => c1 [(DV.v (AV.p p2))] H3 fun d1 H4 => onV d1 fun v2 => isI .i64 v2 fun n2 => Kb1 (DV.c (DV.v (AV.i .i64 n2)) (DV.c (DV.v AV.ni) DV.n)) H4)
def g135x2 := jn (fun d2 H2 => jn (fun d3 H3 => jn (fun d4 H4 => pickK t1 (DV.v (AV.b true)) d4 fun d5 => onV d5 fun v1 => isB v1 fun t2 => g135x1 n1 t2 p1 H4 c1 Kb1) fun Kb2 => br t1 (Kb2 DV.n H3) (onV d3 fun v1 => isI .i64 v1 fun n2 => frcB (ilt ii0 n2) fun t2 => Kb2 (DV.v (AV.b t2)) H3)) fun Kb2 => br t1 (Kb2 DV.n H2) (onV d2 fun v1 => isS v1 fun s1 => lenA s1 fun m1 => Kb2 (DV.v (AV.i .i64 (Int.ofNat m1))) H2)) fun Kb2 => br t1 (Kb2 DV.n H1) (onV d1 fun v1 => isP v1 fun p2 => onA p2 fun b1 m1 => rdK H1 b1 m1 fun v2 => isS v2 fun s1 => Kb2 (DV.v (AV.s s1)) H1)
def g135x3 := frcB (bnot (ieq n1 ii1)) fun t1 => jn (fun d1 H2 => jn (fun d2 H3 => jn (fun d3 H4 => g135x2 d3 n2 t1 p1 H4 c1 Kb1) fun Kb2 => br t1 (Kb2 DV.n H3) (onV d2 fun v1 => isP v1 fun p2 => onA p2 fun b1 m1 => Kb2 (DV.v (AV.p (AP.at b1 (Nat.add m1 nn6)))) H3)) fun Kb2 => br t1 (Kb2 DV.n H2) (onV d1 fun v1 => isP v1 fun p2 => onA p2 fun b1 m1 => Kb2 (DV.v (AV.p (AP.at b1 m1))) H2)) fun Kb2 => br t1 (Kb2 DV.n H1) (Kb2 (DV.v (AV.p p1)) H1)
def g135x4 := jn (fun d1 H2 => jn (fun d2 H3 => pickK t1 (DV.v (AV.b true)) d2 fun d3 => onV d3 fun v1 => isB v1 fun t2 => br t2 (Kb1 (DV.c (DV.v (AV.i .i64 ii0)) (DV.c (DV.v (AV.er (nat_lit 2))) DV.n)) H3) (onA p1 fun b1 m1 => rdK H3 b1 (Nat.add m1 nn4) fun v2 => isI .i64 v2 fun n2 => g135x3 n2 n1 p1 H3 c1 Kb1)) fun Kb2 => br t1 (Kb2 DV.n H2) (onV d1 fun v1 => isI .i64 v1 fun n2 => frcB (ile ii256 n2) fun t2 => Kb2 (DV.v (AV.b t2)) H2)) fun Kb2 => br t1 (Kb2 DV.n H1) (Kb2 (DV.v (AV.i .i64 n1)) H1)
/-- (*ba.Session).Ask -/
def g135 : G DV := fun R1 H1 Kb1 => lc R1 fun d1 R2 => onV d1 fun v1 => isP v1 fun p1 => lc R2 fun d2 R3 => onV d2 fun v2 => isI .i64 v2 fun n1 => ln R3 <| frcB (ilt n1 ii0) fun t1 => g135x4 n1 t1 p1 H1 c1 Kb1
def G135 : G DV := g135 G214

def g215x1 := jn (fun d1 H2 => jn (fun d2 H3 => jn (fun d3 H4 => pickK t1 d3 (DV.v (AV.b false)) fun d4 => onV d4 fun v1 => isB v1 fun t2 => Kb1 (DV.v (AV.b t2)) H4) fun Kb2 => br t1 (onV d1 fun v1 => onV d2 fun v2 => isI .i64 v1 fun n3 => isI .i64 v2 fun n4 => frcB (ile n3 n4) fun t2 => Kb2 (DV.v (AV.b t2)) H3) (Kb2 DV.n H3)) fun Kb2 => br t1 (Kb2 (DV.v (AV.i .i64 n1)) H2) (Kb2 DV.n H2)) fun Kb2 => br t1 (Kb2 (DV.v (AV.i .i64 n2)) H1) (Kb2 DV.n H1)
/-- act.top -/
def g215 : G DV := fun R1 H1 Kb1 => lc R1 fun d1 R2 => onV d1 fun v1 => isI .i64 v1 fun n1 => lc R2 fun d2 R3 => onV d2 fun v2 => isI .i64 v2 fun n2 => ln R3 <| frcB (ile ii0 n1) fun t1 => g215x1 n2 n1 t1 H1 Kb1
def G215 : G DV := g215

def z18 : T4 AV := (@T4.n AV yy14 (@T4.n AV yy0 te te te te) (@T4.n AV yy0 te te te te) (@T4.n AV yy0 te te te te) te)
def g216x1 := br t1 (ixA (AS.sl b1 nn0 nn3 nn3) n1 (fun x => Nat.mul x nn6) fun b2 m1 => rdR H1 b2 m1 nn6 fun l1 => alB H1 z0 nn6 nn0 fun b3 H2 => must (Nat.beq (llen l1) nn6) <| wrL H2 b3 nn0 l1 fun H3 => appD nn1 nn1 s1 (AS.sl b3 nn0 nn6 nn6) H3 fun s2 H4 => wrp .i64 (iadd n1 ii1) fun n3 => Kc1 (DV.v (AV.s s2)) (DV.v (AV.i .i64 n3)) H4) (alB H1 (@T4.n AV yy0 (@T4.n AV yy0 te te te te) (@T4.n AV yy15 te te te te) (@T4.n AV (AV.i .u8 n2) te te te te) te) nn4 nn0 fun b2 H2 => appD nn1 nn1 s1 (AS.sl b2 nn0 nn4 nn4) H2 fun s2 H3 => Kb1 (DV.v (AV.s s2)) H3)
def g216x2 := must (Nat.beq (llen l1) nn6) <| must (Nat.beq (llen l2) nn6) <| alK H1 (lapp l3 (lapp l1 (lapp l2 []))) fun b2 H2 => lenA (AS.sl b2 nn0 nn3 nn3) fun m1 => lpR (failF [(9 , .slice), (18 , .int .i64)]) (fun Kc1 => fun d1 d2 H3 => onV d1 fun v1 => isS v1 fun s1 => onV d2 fun v2 => isI .i64 v2 fun n2 => frcB (ilt n2 (Int.ofNat m1)) fun t1 => g216x1 n2 n1 t1 b2 s1 H3 Kb1 Kc1) (nat_lit 100000) (DV.v (AV.s (AS.sl b1 nn0 nn4 nn4))) (DV.v (AV.i .i64 ii0)) H2
def g216x3 := lc R1 fun d2 R2 => lc R2 fun d3 R3 => lc R3 fun d4 R4 => onV d4 fun v1 => isI .u8 v1 fun n1 => ln R4 <| cellsD d1 fun l1 => alK H1 l1 fun b1 H2 => cellsD d2 fun l2 => alK H2 l2 fun b2 H3 => cellsD d3 fun l3 => alK H3 l3 fun b3 H4 => alB H4 z18 nn4 nn0 fun b4 H5 => rdR H5 b1 nn0 nn6 fun l4 => rdR H5 b2 nn0 nn6 fun l5 => rdR H5 b3 nn0 nn6 fun l6 => must (Nat.beq (llen l4) nn6) <| g216x2 l5 l6 l4 n1 b4 H5 Kb1
/-- act.front -/
def g216 : G DV := fun R1 H1 Kb1 => lc R1 fun d1 R2 => g216x3 d1 R2 H1 Kb1
def G216 : G DV := g216

/-- act.two -/
def g217 : G DV := fun R1 H1 Kb1 => lc R1 fun d1 R2 => onV d1 fun v1 => isI .i64 v1 fun n1 => ln R2 <| wrp .u8 n1 fun n2 => asI (idiv n1 (ip2 ii8)) fun n3 => wrp .u8 n3 fun n4 => alB H1 (@T4.n AV (AV.i .u8 n2) (@T4.n AV (AV.i .u8 n4) te te te te) te te te) nn2 nn0 fun b1 H2 => Kb1 (DV.v (AV.s (AS.sl b1 nn0 nn2 nn2))) H2
def G217 : G DV := g217

def g136x1 := jF [(5 , .slice)] (fun d1 H2 => onV d1 fun v1 => isS v1 fun s2 => Kb1 (DV.c (DV.v (AV.s s2)) (DV.c (DV.v AV.ni) DV.n)) H2) fun Kb2 => rdK H1 b1 nn18 fun v1 => isB v1 fun t1 => frcB (bnot t1) fun t2 => br t2 (rdK H1 b1 nn23 fun v2 => isI .i64 v2 fun n1 => wrp .i64 (imul n1 ii16) fun n2 => c1 [(DV.v (AV.i .i64 n2))] H1 fun d1 H2 => onV d1 fun v3 => isS v3 fun s2 => appD nn1 nn1 s1 s2 H2 fun s3 H3 => Kb2 (DV.v (AV.s s3)) H3) (Kb2 (DV.v (AV.s s1)) H1)
def g136x2 := rdK H1 b1 nn21 fun v1 => isI .i64 v1 fun n2 => wrp .i64 (imul n2 ii64) fun n3 => wrp .i64 (iadd n1 n3) fun n4 => c1 [(DV.v (AV.i .i64 n4))] H1 fun d1 H2 => onV d1 fun v2 => isS v2 fun s2 => appD nn1 nn1 s1 s2 H2 fun s3 H3 => rdK H3 b1 nn22 fun v3 => isI .i64 v3 fun n5 => c1 [(DV.v (AV.i .i64 n5))] H3 fun d2 H4 => onV d2 fun v4 => isS v4 fun s4 => appD nn1 nn1 s3 s4 H4 fun s5 H5 => g136x1 b1 s5 H5 c1 Kb1
def g136x3 := jF [(5 , .slice)] (fun d1 H2 => onV d1 fun v1 => isS v1 fun s2 => rdK H2 b1 nn20 fun v2 => isI .i64 v2 fun n1 => wrp .i64 (imul n1 ii4) fun n2 => wrp .i64 (iadd ii2 n2) fun n3 => g136x2 n3 b1 s2 H2 c1 Kb1) fun Kb2 => rdK H1 b1 nn18 fun v1 => isB v1 fun t1 => br t1 (rdK H1 b1 nn24 fun v2 => isI .i64 v2 fun n1 => c1 [(DV.v (AV.i .i64 n1))] H1 fun d1 H2 => onV d1 fun v3 => isS v3 fun s2 => appD nn1 nn1 s1 s2 H2 fun s3 H3 => Kb2 (DV.v (AV.s s3)) H3) (Kb2 (DV.v (AV.s s1)) H1)
def g136x4 := rdR H1 b1 nn12 nn6 fun l3 => rdK H1 b1 nn19 fun v1 => isI .i64 v1 fun n2 => wrp .u8 n2 fun n3 => c1 [(DV.a l1), (DV.a l2), (DV.a l3), (DV.v (AV.i .u8 n1))] H1 fun d1 H2 => onV d1 fun v2 => isS v2 fun s1 => rdK H2 b1 nn19 fun v3 => must (aveq (AV.i .i64 n2) v3) <| alB H2 (@T4.n AV (AV.i .u8 n3) te te te te) nn1 nn0 fun b2 H3 => appD nn1 nn1 s1 (AS.sl b2 nn0 nn1 nn1) H3 fun s2 H4 => g136x3 b1 s2 H4 c2 Kb1
def g136x5 := pickK t1 (DV.v (AV.b true)) d1 fun d2 => onV d2 fun v1 => isB v1 fun t2 => br t2 (Kb1 (DV.c (DV.v (AV.s AS.nil)) (DV.c (DV.v (AV.er (nat_lit 2))) DV.n)) H1) (jF [(4 , .int .u8)] (fun d3 H2 => onV d3 fun v2 => isI .u8 v2 fun n1 => rdR H2 b1 nn0 nn6 fun l1 => rdR H2 b1 nn6 nn6 fun l2 => g136x4 l1 l2 n1 b1 H2 c1 c2 Kb1) fun Kb2 => rdK H1 b1 nn18 fun v2 => isB v2 fun t3 => br t3 (Kb2 (DV.v (AV.i .u8 ii1)) H1) (Kb2 (DV.v (AV.i .u8 ii0)) H1))
def g136x6 := jn (fun d3 H2 => jn (fun d4 H3 => jn (fun d5 H4 => g136x5 d5 t1 b1 H4 c1 c2 Kb1) fun Kb2 => br t1 (Kb2 DV.n H3) (onV d1 fun v1 => isB v1 fun t2 => pickK t2 d4 (DV.v (AV.b false)) fun d5 => onV d5 fun v2 => isB v2 fun t3 => Kb2 (DV.v (AV.b t3)) H3)) fun Kb2 => grd d1 true (onV d3 fun v1 => isI .i64 v1 fun n1 => frcB (bnot (ieq n1 ii0)) fun t2 => Kb2 (DV.v (AV.b t2)) H2) (Kb2 DV.n H2)) fun Kb2 => grd d1 true (onV d2 fun v1 => isP v1 fun p1 => onA p1 fun b2 m1 => rdK H1 b2 m1 fun v2 => isI .i64 v2 fun n1 => Kb2 (DV.v (AV.i .i64 n1)) H1) (Kb2 DV.n H1)
def g136x7 := jn (fun d1 H2 => jn (fun d2 H3 => jn (fun d3 H4 => jn (fun d4 H5 => g136x6 d3 d4 t1 b1 H5 c1 c2 Kb1) fun Kb2 => grd d3 true (Kb2 (DV.v (AV.p (AP.at b1 nn23))) H4) (Kb2 DV.n H4)) fun Kb2 => br t1 (Kb2 DV.n H3) (Kb2 d2 H3)) fun Kb2 => br t1 (Kb2 DV.n H2) (onV d1 fun v1 => isP v1 fun p1 => onA p1 fun b2 m1 => rdK H2 b2 m1 fun v2 => isB v2 fun t2 => Kb2 (DV.v (AV.b t2)) H2)) fun Kb2 => br t1 (Kb2 DV.n H1) (Kb2 (DV.v (AV.p (AP.at b1 nn18))) H1)
def g136x8 := jn (fun d3 H2 => jn (fun d4 H3 => pickK t1 (DV.v (AV.b true)) d4 fun d5 => onV d5 fun v1 => isB v1 fun t2 => g136x7 t2 b1 H3 c1 c2 Kb1) fun Kb2 => br t1 (Kb2 DV.n H2) (onV d1 fun v1 => isB v1 fun t2 => pickK t2 d3 (DV.v (AV.b false)) fun d4 => onV d4 fun v2 => isB v2 fun t3 => Kb2 (DV.v (AV.b t3)) H2)) fun Kb2 => grd d1 true (onV d2 fun v1 => isI .i64 v1 fun n1 => frcB (bnot (ieq n1 ii0)) fun t2 => Kb2 (DV.v (AV.b t2)) H1) (Kb2 DV.n H1)
def g136x9 := jn (fun d2 H2 => jn (fun d3 H3 => jn (fun d4 H4 => jn (fun d5 H5 => g136x8 d3 d5 t1 b1 H5 c1 c2 Kb1) fun Kb2 => grd d3 true (onV d4 fun v1 => isP v1 fun p1 => onA p1 fun b2 m1 => rdK H4 b2 m1 fun v2 => isI .i64 v2 fun n1 => Kb2 (DV.v (AV.i .i64 n1)) H4) (Kb2 DV.n H4)) fun Kb2 => grd d3 true (Kb2 (DV.v (AV.p (AP.at b1 nn24))) H3) (Kb2 DV.n H3)) fun Kb2 => br t1 (Kb2 DV.n H2) (Kb2 d2 H2)) fun Kb2 => br t1 (Kb2 DV.n H1) (onV d1 fun v1 => isB v1 fun t2 => frcB (bnot t2) fun t3 => Kb2 (DV.v (AV.b t3)) H1)
def g136x10 := jn (fun d2 H2 => pickK t1 (DV.v (AV.b true)) d2 fun d3 => onV d3 fun v1 => isB v1 fun t2 => jn (fun d4 H3 => jn (fun d5 H4 => g136x9 d5 t2 b1 H4 c1 c2 Kb1) fun Kb2 => br t2 (Kb2 DV.n H3) (onV d4 fun v2 => isP v2 fun p1 => onA p1 fun b2 m1 => rdK H3 b2 m1 fun v3 => isB v3 fun t3 => Kb2 (DV.v (AV.b t3)) H3)) fun Kb2 => br t2 (Kb2 DV.n H2) (Kb2 (DV.v (AV.p (AP.at b1 nn18))) H2)) fun Kb2 => br t1 (Kb2 DV.n H1) (onV d1 fun v1 => isB v1 fun t2 => frcB (bnot t2) fun t3 => Kb2 (DV.v (AV.b t3)) H1)
def g136x11 := jn (fun d1 H2 => jn (fun d2 H3 => jn (fun d3 H4 => g136x10 d3 t1 b1 H4 c1 c2 Kb1) fun Kb2 => br t1 (Kb2 DV.n H3) (c3 [d2, (DV.v (AV.i .i64 ii4095))] H3 fun d3 H4 => onV d3 fun v1 => isB v1 fun t2 => Kb2 (DV.v (AV.b t2)) H4)) fun Kb2 => br t1 (Kb2 DV.n H2) (onV d1 fun v1 => isP v1 fun p1 => onA p1 fun b2 m1 => rdK H2 b2 m1 fun v2 => isI .i64 v2 fun n1 => Kb2 (DV.v (AV.i .i64 n1)) H2)) fun Kb2 => br t1 (Kb2 DV.n H1) (Kb2 (DV.v (AV.p (AP.at b1 nn23))) H1)
def g136x12 := jn (fun d2 H2 => jn (fun d3 H3 => jn (fun d4 H4 => pickK t1 (DV.v (AV.b true)) d4 fun d5 => onV d5 fun v1 => isB v1 fun t2 => g136x11 t2 b1 H4 c1 c2 c3 Kb1) fun Kb2 => br t1 (Kb2 DV.n H3) (onV d3 fun v1 => isB v1 fun t2 => frcB (bnot t2) fun t3 => Kb2 (DV.v (AV.b t3)) H3)) fun Kb2 => br t1 (Kb2 DV.n H2) (c3 [d2, (DV.v (AV.i .i64 ii65535))] H2 fun d3 H3 => onV d3 fun v1 => isB v1 fun t2 => Kb2 (DV.v (AV.b t2)) H3)) fun Kb2 => br t1 (Kb2 DV.n H1) (onV d1 fun v1 => isP v1 fun p1 => onA p1 fun b2 m1 => rdK H1 b2 m1 fun v2 => isI .i64 v2 fun n1 => Kb2 (DV.v (AV.i .i64 n1)) H1)
def g136x13 := jn (fun d2 H2 => jn (fun d3 H3 => pickK t1 (DV.v (AV.b true)) d3 fun d4 => onV d4 fun v1 => isB v1 fun t2 => jn (fun d5 H4 => g136x12 d5 t2 b1 H4 c1 c2 c3 Kb1) fun Kb2 => br t2 (Kb2 DV.n H3) (Kb2 (DV.v (AV.p (AP.at b1 nn24))) H3)) fun Kb2 => br t1 (Kb2 DV.n H2) (onV d2 fun v1 => isB v1 fun t2 => frcB (bnot t2) fun t3 => Kb2 (DV.v (AV.b t3)) H2)) fun Kb2 => br t1 (Kb2 DV.n H1) (c3 [d1, (DV.v (AV.i .i64 ii65535))] H1 fun d2 H2 => onV d2 fun v1 => isB v1 fun t2 => Kb2 (DV.v (AV.b t2)) H2)
def g136x14 := jn (fun d2 H2 => pickK t1 (DV.v (AV.b true)) d2 fun d3 => onV d3 fun v1 => isB v1 fun t2 => jn (fun d4 H3 => jn (fun d5 H4 => g136x13 d5 t2 b1 H4 c1 c2 c3 Kb1) fun Kb2 => br t2 (Kb2 DV.n H3) (onV d4 fun v2 => isP v2 fun p1 => onA p1 fun b2 m1 => rdK H3 b2 m1 fun v3 => isI .i64 v3 fun n1 => Kb2 (DV.v (AV.i .i64 n1)) H3)) fun Kb2 => br t2 (Kb2 DV.n H2) (Kb2 (DV.v (AV.p (AP.at b1 nn22))) H2)) fun Kb2 => br t1 (Kb2 DV.n H1) (onV d1 fun v1 => isB v1 fun t2 => frcB (bnot t2) fun t3 => Kb2 (DV.v (AV.b t3)) H1)
def g136x15 := jn (fun d1 H2 => jn (fun d2 H3 => jn (fun d3 H4 => g136x14 d3 t1 b1 H4 c1 c2 c3 Kb1) fun Kb2 => br t1 (Kb2 DV.n H3) (c3 [d2, (DV.v (AV.i .i64 ii1023))] H3 fun d3 H4 => onV d3 fun v1 => isB v1 fun t2 => Kb2 (DV.v (AV.b t2)) H4)) fun Kb2 => br t1 (Kb2 DV.n H2) (onV d1 fun v1 => isP v1 fun p1 => onA p1 fun b2 m1 => rdK H2 b2 m1 fun v2 => isI .i64 v2 fun n1 => Kb2 (DV.v (AV.i .i64 n1)) H2)) fun Kb2 => br t1 (Kb2 DV.n H1) (Kb2 (DV.v (AV.p (AP.at b1 nn21))) H1)
def g136x16 := jn (fun d2 H2 => jn (fun d3 H3 => jn (fun d4 H4 => pickK t1 (DV.v (AV.b true)) d4 fun d5 => onV d5 fun v1 => isB v1 fun t2 => g136x15 t2 b1 H4 c1 c2 c3 Kb1) fun Kb2 => br t1 (Kb2 DV.n H3) (onV d3 fun v1 => isB v1 fun t2 => frcB (bnot t2) fun t3 => Kb2 (DV.v (AV.b t3)) H3)) fun Kb2 => br t1 (Kb2 DV.n H2) (c3 [d2, (DV.v (AV.i .i64 ii7))] H2 fun d3 H3 => onV d3 fun v1 => isB v1 fun t2 => Kb2 (DV.v (AV.b t2)) H3)) fun Kb2 => br t1 (Kb2 DV.n H1) (onV d1 fun v1 => isP v1 fun p1 => onA p1 fun b2 m1 => rdK H1 b2 m1 fun v2 => isI .i64 v2 fun n1 => Kb2 (DV.v (AV.i .i64 n1)) H1)
/-- act.AddBytes -/
def g136 : G DV := fun R1 H1 Kb1 => lc R1 fun d1 R2 => ln R2 <| cellsD d1 fun l1 => alK H1 l1 fun b1 H2 => rdK H2 b1 nn19 fun v1 => isI .i64 v1 fun n1 => c1 [(DV.v (AV.i .i64 n1)), (DV.v (AV.i .i64 ii255))] H2 fun d2 H3 => onV d2 fun v2 => isB v2 fun t1 => frcB (bnot t1) fun t2 => jn (fun d3 H4 => g136x16 d3 t2 b1 H4 c2 c3 c1 Kb1) fun Kb2 => br t2 (Kb2 DV.n H3) (Kb2 (DV.v (AV.p (AP.at b1 nn20))) H3)
def G136 : G DV := g136 G215 G216 G217

def g139x1 := jn (fun d2 H2 => pickK t1 (DV.v (AV.b true)) d2 fun d3 => onV d3 fun v1 => isB v1 fun t2 => br t2 (onA p1 fun b1 m1 => wrK H2 b1 (Nat.add m1 nn3) (AV.b false) fun H3 => onA p1 fun b2 m2 => wrK H3 b2 (Nat.add m2 nn9) (AV.i .i64 ii0) fun H4 => Kb1 (DV.c (DV.v (AV.b true)) (DV.c (DV.v AV.ni) DV.n)) H4) (Kb1 (DV.c (DV.v (AV.b false)) (DV.c (DV.v AV.ni) DV.n)) H2)) fun Kb2 => br t1 (Kb2 DV.n H1) (onV d1 fun v1 => isB v1 fun t2 => frcB (bnot t2) fun t3 => Kb2 (DV.v (AV.b t3)) H1)
def g139x2 := rdK H1 b1 (Nat.add m1 nn8) fun v1 => isI .i64 v1 fun n1 => frcB (ilt ii0 n1) fun t1 => br t1 (onA p1 fun b2 m2 => rdK H1 b2 (Nat.add m2 nn9) fun v2 => isI .i64 v2 fun n2 => wrp .i64 (isub n2 ii1) fun n3 => onA p1 fun b3 m3 => wrK H1 b3 (Nat.add m3 nn9) (AV.i .i64 n3) fun H2 => onA p1 fun b4 m4 => rdK H2 b4 (Nat.add m4 nn9) fun v3 => isI .i64 v3 fun n4 => frcB (ieq n4 ii0) fun t2 => Kb1 (DV.v (AV.b t2)) H2) (Kb1 (DV.v (AV.b false)) H1)
def g139x3 := onA p1 fun b1 m1 => rdK H1 b1 (Nat.add m1 nn2) fun v1 => isB v1 fun t2 => br t2 (onA p1 fun b2 m2 => wrK H1 b2 (Nat.add m2 nn2) (AV.b false) fun H2 => Kb1 (DV.c (DV.v (AV.b false)) (DV.c (DV.v AV.ni) DV.n)) H2) (jF [(11 , .bool)] (fun d1 H2 => onV d1 fun v2 => isB v2 fun t3 => jn (fun d2 H3 => g139x1 d2 t3 p1 H3 Kb1) fun Kb2 => br t3 (Kb2 DV.n H2) (Kb2 (DV.v (AV.b t1)) H2)) fun Kb2 => onA p1 fun b2 m2 => g139x2 m2 p1 b2 H1 Kb2)
def g139x4 := br t1 (Kb1 (DV.c (DV.v (AV.b false)) (DV.c (DV.v (AV.er (nat_lit 2))) DV.n)) H1) (c1 [(DV.v (AV.p p1)), (DV.v (AV.i .i64 n1)), (DV.v (AV.i .i64 n2))] H1 fun d1 H2 => onV d1 fun v1 => isB v1 fun t3 => frcB (bnot t3) fun t4 => br t4 (Kb1 (DV.c (DV.v (AV.b false)) (DV.c (DV.v (AV.er (nat_lit 9))) DV.n)) H2) (onA p2 fun b1 m1 => rdK H2 b1 (Nat.add m1 nn1) fun v2 => isB v2 fun t5 => frcB (bnot t5) fun t6 => br t6 (Kb1 (DV.c (DV.v (AV.b false)) (DV.c (DV.v AV.ni) DV.n)) H2) (g139x3 t2 p2 H2 Kb1)))
def g139x5 := isI .i64 v1 fun n2 => lc R1 fun d1 R2 => onV d1 fun v2 => isB v2 fun t1 => ln R2 <| c1 [(DV.v (AV.p p1)), (DV.v (AV.i .i64 n1))] H1 fun d2 H2 => onV d2 fun v3 => isP v3 fun p2 => frcB (isNilA p2) fun t2 => br t2 (Kb1 (DV.c (DV.v (AV.b false)) (DV.c (DV.v (AV.er (nat_lit 6))) DV.n)) H2) (c2 [(DV.v (AV.i .i64 n2))] H2 fun d3 H3 => onV d3 fun v4 => isB v4 fun t3 => frcB (bnot t3) fun t4 => g139x4 n1 n2 t4 t1 p1 p2 H3 c3 Kb1)
/-- (*ps.Power).Sent -/
def g139 : G DV := fun R1 H1 Kb1 => lc R1 fun d1 R2 => onV d1 fun v1 => isP v1 fun p1 => lc R2 fun d2 R3 => onV d2 fun v2 => isI .i64 v2 fun n1 => lc R3 fun d3 R4 => onV d3 fun v3 => g139x5 v3 R4 n1 p1 H1 c2 c3 c1 Kb1
def G139 : G DV := g139 G117 G151 G184

def g140x1 := jn (fun d2 H2 => jn (fun d3 H3 => jn (fun d4 H4 => pickK t1 (DV.v (AV.b true)) d4 fun d5 => onV d5 fun v1 => isB v1 fun t2 => br t2 (Kb1 (DV.v (AV.b true)) H4) (wrp .i64 (iadd n1 ii1) fun n3 => Kb2 (DV.v (AV.i .i64 n3)) H4)) fun Kb3 => br t1 (Kb3 DV.n H3) (c1 [d1, d2, d3] H3 fun d4 H4 => onV d4 fun v1 => isB v1 fun t2 => Kb3 (DV.v (AV.b t2)) H4)) fun Kb3 => br t1 (Kb3 DV.n H2) (Kb3 (DV.v (AV.i .i64 n1)) H2)) fun Kb3 => br t1 (Kb3 DV.n H1) (Kb3 (DV.v (AV.i .i64 n2)) H1)
def g140x2 := jn (fun d2 H2 => jn (fun d3 H3 => jn (fun d4 H4 => g140x1 d4 n1 n2 t1 H4 c1 Kb1 Kb2) fun Kb3 => br t1 (Kb3 DV.n H3) (onV d3 fun v1 => isP v1 fun p1 => onA p1 fun b1 m1 => rdK H3 b1 m1 fun v2 => isP v2 fun p2 => Kb3 (DV.v (AV.p p2)) H3)) fun Kb3 => br t1 (Kb3 DV.n H2) (onV d2 fun v1 => isP v1 fun p1 => onA p1 fun b1 m1 => Kb3 (DV.v (AV.p (AP.at b1 (Nat.add m1 nn311)))) H2)) fun Kb3 => br t1 (Kb3 DV.n H1) (onV d1 fun v1 => isP v1 fun p1 => onA p1 fun b1 m1 => Kb3 (DV.v (AV.p (AP.at b1 m1))) H1)
def g140x3 := c1 [(DV.v (AV.p p1))] H1 fun d1 H2 => onV d1 fun v1 => isS v1 fun s1 => lenA s1 fun m1 => jF [(11 , .int .i64)] (fun d2 H3 => onV d2 fun v2 => isI .i64 v2 fun n5 => frcB (ilt ii0 n5) fun t1 => jn (fun d3 H4 => g140x2 d3 n1 n2 t1 H4 c2 Kb1 Kb2) fun Kb3 => br t1 (Kb3 DV.n H3) (Kb3 (DV.v (AV.p p2)) H3)) fun Kb3 => frcB (ieq n1 n3) fun t1 => br t1 (wrp .i64 (isub (Int.ofNat m1) n4) fun n5 => Kb3 (DV.v (AV.i .i64 n5)) H2) (Kb3 (DV.v (AV.i .i64 (Int.ofNat m1))) H2)
def g140x4 := c1 [(DV.v (AV.p p1)), (DV.v (AV.i .i64 n1))] H1 fun d1 H2 => onV d1 fun v1 => isP v1 fun p2 => lpR (failF [(15 , .int .i64)]) (fun Kb2 => fun d2 H3 => onV d2 fun v2 => isI .i64 v2 fun n4 => frcB (ilt n4 ii8) fun t1 => br t1 (onA p2 fun b1 m1 => rng n4 nn8 <| rdK H3 b1 (Nat.add (Nat.add m1 nn6) (Nat.mul (itn n4) nn5)) fun v3 => isP v3 fun p3 => g140x3 n4 n1 n2 n3 p3 p1 H3 c2 c3 Kb1 Kb2) (Kb1 (DV.v (AV.b false)) H3)) (nat_lit 100000) (DV.v (AV.i .i64 ii0)) H2
/-- (*ap.AP).has -/
def g140 : G DV := fun R1 H1 Kb1 => lc R1 fun d1 R2 => onV d1 fun v1 => isP v1 fun p1 => lc R2 fun d2 R3 => onV d2 fun v2 => isI .i64 v2 fun n1 => lc R3 fun d3 R4 => onV d3 fun v3 => isI .i64 v3 fun n2 => lc R4 fun d4 R5 => onV d4 fun v4 => isI .i64 v4 fun n3 => ln R5 <| g140x4 n1 n2 n3 p1 H1 c1 c2 c3 Kb1
def G140 : G DV := g140 G58 G112 G207

def g189x1 := jn (fun d3 H2 => jn (fun d4 H3 => pickK t1 (DV.v (AV.b true)) d4 fun d5 => onV d5 fun v1 => isB v1 fun t2 => br t2 (Kb1 (DV.v (AV.er (nat_lit 9))) H3) (onA p1 fun b1 m1 => wrK H3 b1 m1 (AV.i .i64 n1) fun H4 => Kb1 (DV.v AV.ni) H4)) fun Kb2 => br t1 (Kb2 DV.n H2) (onV d1 fun v1 => isB v1 fun t2 => pickK t2 d3 (DV.v (AV.b false)) fun d4 => onV d4 fun v2 => isB v2 fun t3 => Kb2 (DV.v (AV.b t3)) H2)) fun Kb2 => grd d1 true (onV d2 fun v1 => isI .i64 v1 fun n2 => frcB (ieq n2 ii1) fun t2 => Kb2 (DV.v (AV.b t2)) H1) (Kb2 DV.n H1)
def g189x2 := jn (fun d3 H2 => jn (fun d4 H3 => jn (fun d5 H4 => g189x1 d1 d5 n1 t1 p1 H4 Kb1) fun Kb2 => grd d1 true (onV d4 fun v1 => isP v1 fun p2 => onA p2 fun b1 m1 => rdK H3 b1 m1 fun v2 => isI .i64 v2 fun n2 => Kb2 (DV.v (AV.i .i64 n2)) H3) (Kb2 DV.n H3)) fun Kb2 => grd d1 true (onV d3 fun v1 => isP v1 fun p2 => onA p2 fun b1 m1 => Kb2 (DV.v (AV.p (AP.at b1 m1))) H2) (Kb2 DV.n H2)) fun Kb2 => grd d1 true (onV d2 fun v1 => isP v1 fun p2 => onA p2 fun b1 m1 => Kb2 (DV.v (AV.p (AP.at b1 m1))) H1) (Kb2 DV.n H1)
def g189x3 := onV d1 fun v1 => isB v1 fun t1 => jn (fun d2 H2 => jn (fun d3 H3 => jn (fun d4 H4 => jn (fun d5 H5 => g189x2 d4 d5 n1 t1 p1 H5 Kb1) fun Kb2 => grd d4 true (Kb2 (DV.v (AV.p p1)) H4) (Kb2 DV.n H4)) fun Kb2 => br t1 (Kb2 DV.n H3) (Kb2 d3 H3)) fun Kb2 => br t1 (Kb2 DV.n H2) (onV d2 fun v2 => isI .i64 v2 fun n2 => frcB (ieq n2 ii3) fun t2 => Kb2 (DV.v (AV.b t2)) H2)) fun Kb2 => br t1 (Kb2 DV.n H1) (Kb2 (DV.v (AV.i .i64 n1)) H1)
def g189x4 := onV d1 fun v1 => isB v1 fun t1 => br t1 (Kb1 (DV.v (AV.er (nat_lit 2))) H1) (c1 [(DV.v (AV.p p1))] H1 fun d2 H2 => onV d2 fun v2 => isB v2 fun t2 => jn (fun d3 H3 => jn (fun d4 H4 => pickK t2 (DV.v (AV.b true)) d4 fun d5 => g189x3 d5 n1 p1 H4 Kb1) fun Kb2 => br t2 (Kb2 DV.n H3) (onV d3 fun v3 => isI .i64 v3 fun n2 => frcB (ieq n2 ii1) fun t3 => Kb2 (DV.v (AV.b t3)) H3)) fun Kb2 => br t2 (Kb2 DV.n H2) (Kb2 (DV.v (AV.i .i64 n1)) H2))
def g189x5 := onV d1 fun v1 => onN d2 <| ifA true true v1 AV.ni fun t1 => frcB (bnot t1) fun t2 => br t2 (Kb1 (DV.v v1) H1) (frcB (ilt n1 ii1) fun t3 => jn (fun d3 H2 => jn (fun d4 H3 => pickK t3 (DV.v (AV.b true)) d4 fun d5 => g189x4 d5 n1 p1 H3 c1 Kb1) fun Kb2 => br t3 (Kb2 DV.n H2) (onV d3 fun v2 => isI .i64 v2 fun n2 => frcB (ilt ii3 n2) fun t4 => Kb2 (DV.v (AV.b t4)) H2)) fun Kb2 => br t3 (Kb2 DV.n H1) (Kb2 (DV.v (AV.i .i64 n1)) H1))
/-- (*count.Book).Move -/
def g189 : G DV := fun R1 H1 Kb1 => lc R1 fun d1 R2 => onV d1 fun v1 => isP v1 fun p1 => lc R2 fun d2 R3 => onV d2 fun v2 => isI .i64 v2 fun n1 => lc R3 fun d3 R4 => onV d3 fun v3 => isI .i64 v3 fun n2 => ln R4 <| c1 [(DV.v (AV.p p1)), (DV.v (AV.i .i64 n1))] H1 fun d4 H2 => onC d4 fun d5 d6 => onV d5 fun v4 => isP v4 fun p2 => onC d6 fun d7 d8 => g189x5 d7 d8 n2 p2 H2 c2 Kb1
def G189 : G DV := g189 G44 G260

/-- slices.Clone[[]api.Packet,api.Packet] -/
def g310 : G DV := fun R1 H1 Kb1 => lc R1 fun d1 R2 => onV d1 fun v1 => isS v1 fun s1 => ln R2 <| frcB (isNilS s1) fun t1 => br t1 (Kb1 (DV.v (AV.s AS.nil)) H1) (alB H1 te nn0 nn0 fun b1 H2 => appD nn5 nn56 (AS.sl b1 nn0 nn0 nn0) s1 H2 fun s2 H3 => Kb1 (DV.v (AV.s s2)) H3)
def G310 : G DV := g310

def g304x1 := wrK H1 b1 (Nat.add m1 nn133) (AV.i .i64 n1) fun H2 => onA p1 fun b4 m2 => rdK H2 b4 (Nat.add m2 nn134) fun v1 => isI .i64 v1 fun n2 => rdK H2 b2 nn4 fun v2 => isS v2 fun s1 => lenA s1 fun m3 => wrp .i64 (isub n2 (Int.ofNat m3)) fun n3 => onA p1 fun b5 m4 => wrK H2 b5 (Nat.add m4 nn134) (AV.i .i64 n3) fun H3 => rdR H3 b2 nn0 nn5 fun l1 => must (Nat.beq (llen l1) nn5) <| wrL H3 b3 nn0 l1 fun H4 => rdR H4 b3 nn0 nn5 fun l2 => Kb1 (DV.a l2) H4
def g304x2 := rdK H1 b1 (Nat.add (Nat.add (Nat.add m1 nn3) (Nat.mul (itn n1) nn8)) nn1) fun v1 => isI .i64 v1 fun n2 => rdK H1 b2 nn4 fun v2 => isS v2 fun s1 => lenA s1 fun m2 => wrp .i64 (isub n2 (Int.ofNat m2)) fun n3 => wrK H1 b1 (Nat.add (Nat.add (Nat.add m1 nn3) (Nat.mul (itn n1) nn8)) nn1) (AV.i .i64 n3) fun H2 => onA p1 fun b4 m3 => rdK H2 b4 (Nat.add m3 nn133) fun v3 => isI .i64 v3 fun n4 => wrp .i64 (isub n4 ii1) fun n5 => onA p1 fun b5 m4 => g304x1 n5 m4 p1 b5 b2 b3 H2 Kb1
def g304x3 := alB H1 z9 nn5 nn0 fun b3 H2 => must (Nat.beq (llen l1) nn5) <| wrL H2 b3 nn0 l1 fun H3 => rdK H3 b1 (Nat.add (Nat.add m1 nn3) (Nat.mul (itn n1) nn8)) fun v1 => isS v1 fun s1 => lenA s1 fun m2 => slA s1 nn1 m2 (fun x => Nat.mul x nn5) fun s2 => c1 [(DV.v (AV.s s2))] H3 fun d1 H4 => onV d1 fun v2 => isS v2 fun s3 => wrK H4 b1 (Nat.add (Nat.add m1 nn3) (Nat.mul (itn n1) nn8)) (AV.s s3) fun H5 => g304x2 n1 m1 p1 b1 b3 b2 H5 Kb1
/-- (*fq.Queue).shift -/
def g304 : G DV := fun R1 H1 Kb1 => lc R1 fun d1 R2 => onV d1 fun v1 => isP v1 fun p1 => lc R2 fun d2 R3 => onV d2 fun v2 => isI .i64 v2 fun n1 => ln R3 <| alB H1 z9 nn5 nn0 fun b1 H2 => onA p1 fun b2 m1 => rng n1 nn16 <| rdK H2 b2 (Nat.add (Nat.add m1 nn3) (Nat.mul (itn n1) nn8)) fun v3 => isS v3 fun s1 => ixA s1 ii0 (fun x => Nat.mul x nn5) fun b3 m2 => rdR H2 b3 m2 nn5 fun l1 => g304x3 l1 n1 m1 p1 b2 b1 H2 c1 Kb1
def G304 : G DV := g304 G310

def g315x1 := br t1 (onA p1 fun b1 m1 => rdK H1 b1 (Nat.add m1 nn5) fun v1 => isI .i64 v1 fun n1 => onA p1 fun b2 m2 => rdK H1 b2 (Nat.add m2 nn7) fun v2 => isI .i64 v2 fun n2 => wrp .i64 (iadd n1 n2) fun n3 => onA p1 fun b3 m3 => wrK H1 b3 m3 (AV.i .i64 n3) fun H2 => Kb1 (DV.c (DV.v (AV.b true)) (DV.c (DV.v (AV.b false)) DV.n)) H2) (onA p1 fun b1 m1 => rdK H1 b1 (Nat.add m1 nn5) fun v1 => isI .i64 v1 fun n1 => onA p1 fun b2 m2 => rdK H1 b2 m2 fun v2 => isI .i64 v2 fun n2 => frcB (ile n2 n1) fun t2 => Kb1 (DV.c (DV.v (AV.b true)) (DV.c (DV.v (AV.b t2)) DV.n)) H1)
def g315x2 := onA p1 fun b2 m1 => rdK H1 b2 (Nat.add m1 nn5) fun v1 => isI .i64 v1 fun n1 => rdK H1 b1 nn0 fun v2 => isI .i64 v2 fun n2 => wrp .i64 (isub n1 n2) fun n3 => onA p1 fun b3 m2 => rdK H1 b3 (Nat.add m2 nn6) fun v3 => isI .i64 v3 fun n4 => frcB (ilt n3 n4) fun t1 => br t1 (Kb1 (DV.v (AV.b true)) H1) (onA p1 fun b4 m3 => rdK H1 b4 (Nat.add m3 nn8) fun v4 => isI .i64 v4 fun n5 => frcB (ile n5 ii1514) fun t2 => Kb1 (DV.v (AV.b t2)) H1)
def g315x3 := onA p1 fun b2 m1 => wrK H1 b2 (Nat.add m1 nn8) (AV.i .i64 n1) fun H2 => jF [(39 , .bool)] (fun d1 H3 => onV d1 fun v1 => isB v1 fun t1 => br t1 (onA p1 fun b3 m2 => wrK H3 b3 m2 (AV.i .i64 ii0) fun H4 => Kb1 (DV.c (DV.v (AV.b true)) (DV.c (DV.v (AV.b false)) DV.n)) H4) (onA p1 fun b3 m2 => rdK H3 b3 m2 fun v2 => isI .i64 v2 fun n2 => frcB (ieq n2 ii0) fun t2 => g315x1 t2 p1 H3 Kb1)) fun Kb2 => g315x2 p1 b1 H2 Kb2
def g315x4 := ixA s1 n1 (fun x => Nat.mul x nn2) fun b1 m1 => rdR H1 b1 m1 nn2 fun l1 => alB H1 (@T4.n AV yy1 (@T4.n AV yy1 te te te te) te te te) nn2 nn0 fun b2 H2 => must (Nat.beq (llen l1) nn2) <| wrL H2 b2 nn0 l1 fun H3 => onA p1 fun b3 m2 => rdK H3 b3 (Nat.add m2 nn8) fun v1 => isI .i64 v1 fun n2 => rdK H3 b2 nn1 fun v2 => isI .i64 v2 fun n3 => asI (imax n3 ii0) fun n4 => wrp .i64 (isub n2 n4) fun n5 => g315x3 n5 p1 b2 H3 Kb1
def g315x5 := onA p1 fun b1 m1 => rdK H1 b1 (Nat.add m1 nn9) fun v1 => isS v1 fun s1 => lenA s1 fun m2 => frcB (ile (Int.ofNat m2) n1) fun t1 => br t1 (onA p1 fun b2 m3 => wrK H1 b2 m3 (AV.i .i64 ii0) fun H2 => Kb1 (DV.c (DV.v (AV.b false)) (DV.c (DV.v (AV.b false)) DV.n)) H2) (onA p1 fun b2 m3 => rdK H1 b2 (Nat.add m3 nn9) fun v2 => isS v2 fun s2 => onA p1 fun b3 m4 => rdK H1 b3 (Nat.add m4 nn10) fun v3 => isI .i64 v3 fun n2 => g315x4 n2 p1 s2 H1 Kb1)
/-- (*codel.state).look -/
def g315 : G DV := fun R1 H1 Kb1 => lc R1 fun d1 R2 => onV d1 fun v1 => isP v1 fun p1 => ln R2 <| onA p1 fun b1 m1 => rdK H1 b1 (Nat.add m1 nn10) fun v2 => isI .i64 v2 fun n1 => g315x5 n1 p1 H1 Kb1
def G315 : G DV := g315

def g323x1 := jF [(0 , .int .u64), (2 , .int .i64)] (fun d1 d2 H2 => onV d1 fun v1 => isI .u64 v1 fun n3 => onV d2 fun v2 => isI .i64 v2 fun n4 => wrp .u8 n3 fun n5 => rng n5 (ByteArray.size ⟨#[0, 1, 2, 2, 3, 3, 3, 3, 4, 4, 4, 4, 4, 4, 4, 4, 5, 5, 5, 5, 5, 5, 5, 5, 5, 5, 5, 5, 5, 5, 5, 5, 6, 6, 6, 6, 6, 6, 6, 6, 6, 6, 6, 6, 6, 6, 6, 6, 6, 6, 6, 6, 6, 6, 6, 6, 6, 6, 6, 6, 6, 6, 6, 6, 7, 7, 7, 7, 7, 7, 7, 7, 7, 7, 7, 7, 7, 7, 7, 7, 7, 7, 7, 7, 7, 7, 7, 7, 7, 7, 7, 7, 7, 7, 7, 7, 7, 7, 7, 7, 7, 7, 7, 7, 7, 7, 7, 7, 7, 7, 7, 7, 7, 7, 7, 7, 7, 7, 7, 7, 7, 7, 7, 7, 7, 7, 7, 7, 8, 8, 8, 8, 8, 8, 8, 8, 8, 8, 8, 8, 8, 8, 8, 8, 8, 8, 8, 8, 8, 8, 8, 8, 8, 8, 8, 8, 8, 8, 8, 8, 8, 8, 8, 8, 8, 8, 8, 8, 8, 8, 8, 8, 8, 8, 8, 8, 8, 8, 8, 8, 8, 8, 8, 8, 8, 8, 8, 8, 8, 8, 8, 8, 8, 8, 8, 8, 8, 8, 8, 8, 8, 8, 8, 8, 8, 8, 8, 8, 8, 8, 8, 8, 8, 8, 8, 8, 8, 8, 8, 8, 8, 8, 8, 8, 8, 8, 8, 8, 8, 8, 8, 8, 8, 8, 8, 8, 8, 8, 8, 8, 8, 8, 8, 8, 8, 8, 8, 8, 8, 8, 8, 8, 8, 8, 8, 8]⟩) <| asI (strAt ⟨#[0, 1, 2, 2, 3, 3, 3, 3, 4, 4, 4, 4, 4, 4, 4, 4, 5, 5, 5, 5, 5, 5, 5, 5, 5, 5, 5, 5, 5, 5, 5, 5, 6, 6, 6, 6, 6, 6, 6, 6, 6, 6, 6, 6, 6, 6, 6, 6, 6, 6, 6, 6, 6, 6, 6, 6, 6, 6, 6, 6, 6, 6, 6, 6, 7, 7, 7, 7, 7, 7, 7, 7, 7, 7, 7, 7, 7, 7, 7, 7, 7, 7, 7, 7, 7, 7, 7, 7, 7, 7, 7, 7, 7, 7, 7, 7, 7, 7, 7, 7, 7, 7, 7, 7, 7, 7, 7, 7, 7, 7, 7, 7, 7, 7, 7, 7, 7, 7, 7, 7, 7, 7, 7, 7, 7, 7, 7, 7, 8, 8, 8, 8, 8, 8, 8, 8, 8, 8, 8, 8, 8, 8, 8, 8, 8, 8, 8, 8, 8, 8, 8, 8, 8, 8, 8, 8, 8, 8, 8, 8, 8, 8, 8, 8, 8, 8, 8, 8, 8, 8, 8, 8, 8, 8, 8, 8, 8, 8, 8, 8, 8, 8, 8, 8, 8, 8, 8, 8, 8, 8, 8, 8, 8, 8, 8, 8, 8, 8, 8, 8, 8, 8, 8, 8, 8, 8, 8, 8, 8, 8, 8, 8, 8, 8, 8, 8, 8, 8, 8, 8, 8, 8, 8, 8, 8, 8, 8, 8, 8, 8, 8, 8, 8, 8, 8, 8, 8, 8, 8, 8, 8, 8, 8, 8, 8, 8, 8, 8, 8, 8, 8, 8, 8, 8, 8, 8]⟩ (itn n5)) fun n6 => wrp .i64 n6 fun n7 => wrp .i64 (iadd n4 n7) fun n8 => Kb1 (DV.v (AV.i .i64 n8)) H2) fun Kc1 => frcB (ile ii256 n1) fun t1 => br t1 (asI (idiv n1 (ip2 ii8)) fun n3 => wrp .i64 (iadd n2 ii8) fun n4 => Kc1 (DV.v (AV.i .u64 n3)) (DV.v (AV.i .i64 n4)) H1) (Kc1 (DV.v (AV.i .u64 n1)) (DV.v (AV.i .i64 n2)) H1)
def g323x2 := isI .u64 v1 fun n1 => onV d1 fun v2 => isI .i64 v2 fun n2 => jF [(0 , .int .u64), (2 , .int .i64)] (fun d2 d3 H2 => onV d2 fun v3 => isI .u64 v3 fun n3 => onV d3 fun v4 => isI .i64 v4 fun n4 => g323x1 n3 n4 H2 Kb1) fun Kc1 => frcB (ile ii65536 n1) fun t1 => br t1 (asI (idiv n1 (ip2 ii16)) fun n3 => wrp .i64 (iadd n2 ii16) fun n4 => Kc1 (DV.v (AV.i .u64 n3)) (DV.v (AV.i .i64 n4)) H1) (Kc1 (DV.v (AV.i .u64 n1)) (DV.v (AV.i .i64 n2)) H1)
/-- math/bits.Len64 -/
def g323 : G DV := fun R1 H1 Kb1 => lc R1 fun d1 R2 => onV d1 fun v1 => isI .u64 v1 fun n1 => ln R2 <| jF [(0 , .int .u64), (2 , .int .i64)] (fun d2 d3 H2 => onV d2 fun v2 => g323x2 v2 d3 H2 Kb1) fun Kc1 => frcB (ile ii4294967296 n1) fun t1 => br t1 (asI (idiv n1 (ip2 ii32)) fun n2 => Kc1 (DV.v (AV.i .u64 n2)) (DV.v (AV.i .i64 ii32)) H1) (Kc1 (DV.v (AV.i .u64 n1)) (DV.v (AV.i .i64 ii0)) H1)
def G323 : G DV := g323

/-- math/bits.LeadingZeros64 -/
def g322 : G DV := fun R1 H1 Kb1 => lc R1 fun d1 R2 => onV d1 fun v1 => isI .u64 v1 fun n1 => ln R2 <| c1 [(DV.v (AV.i .u64 n1))] H1 fun d2 H2 => onV d2 fun v2 => isI .i64 v2 fun n2 => wrp .i64 (isub ii64 n2) fun n3 => Kb1 (DV.v (AV.i .i64 n3)) H2
def G322 : G DV := g322 G323

def g320x1 := jn (fun d3 H2 => pickK t1 (DV.v (AV.b true)) d3 fun d4 => onV d4 fun v1 => isB v1 fun t2 => br t2 (wrp .u64 (isub n1 ii1) fun n4 => wrp .u64 (iadd n2 n3) fun n5 => frcB (ile ii4294967296 n5) fun t3 => br t3 (Kb1 (DV.v (AV.i .u64 n4)) H2) (Kc1 (DV.v (AV.i .u64 n5)) (DV.v (AV.i .u64 n4)) H2)) (Kb1 (DV.v (AV.i .u64 n1)) H2)) fun Kb2 => br t1 (Kb2 DV.n H1) (onV d1 fun v1 => onV d2 fun v2 => isI .u64 v1 fun n4 => isI .u64 v2 fun n5 => frcB (ilt n5 n4) fun t2 => Kb2 (DV.v (AV.b t2)) H1)
def g320x2 := jn (fun d3 H2 => jn (fun d4 H3 => jn (fun d5 H4 => g320x1 d1 d5 n1 n2 n3 t1 H4 Kb1 Kc1) fun Kb2 => br t1 (Kb2 DV.n H3) (onV d3 fun v1 => onV d4 fun v2 => isI .u64 v1 fun n5 => isI .u64 v2 fun n6 => wrp .u64 (iadd n5 n6) fun n7 => Kb2 (DV.v (AV.i .u64 n7)) H3)) fun Kb2 => br t1 (Kb2 DV.n H2) (Kb2 (DV.v (AV.i .u64 n4)) H2)) fun Kb2 => br t1 (Kb2 DV.n H1) (onV d2 fun v1 => isI .u64 v1 fun n5 => wrp .u64 (imul ii4294967296 n5) fun n6 => Kb2 (DV.v (AV.i .u64 n6)) H1)
def g320x3 := jn (fun d1 H2 => jn (fun d2 H3 => jn (fun d3 H4 => jn (fun d4 H5 => g320x2 d3 d4 n1 n2 n3 n4 t1 H5 Kb1 Kc1) fun Kb2 => br t1 (Kb2 DV.n H4) (Kb2 (DV.v (AV.i .u64 n2)) H4)) fun Kb2 => br t1 (Kb2 DV.n H3) (onV d1 fun v1 => onV d2 fun v2 => isI .u64 v1 fun n6 => isI .u64 v2 fun n7 => wrp .u64 (imul n6 n7) fun n8 => Kb2 (DV.v (AV.i .u64 n8)) H3)) fun Kb2 => br t1 (Kb2 DV.n H2) (Kb2 (DV.v (AV.i .u64 n5)) H2)) fun Kb2 => br t1 (Kb2 DV.n H1) (Kb2 (DV.v (AV.i .u64 n1)) H1)
def g320x4 := jF [(18 , .int .u64)] (fun d1 H2 => onV d1 fun v1 => isI .u64 v1 fun n10 => wrp .u64 (imul n1 ii4294967296) fun n11 => wrp .u64 (iadd n11 n10) fun n12 => wrp .u64 (imul n2 ii4294967296) fun n13 => wrp .u64 (iadd n13 n3) fun n14 => wrp .u64 (imul n10 n4) fun n15 => wrp .u64 (isub n14 n15) fun n16 => must (ile ii0 n5) <| must (ile n5 ii64) <| asI (idiv n16 (ip2 n5)) fun n17 => Kb1 (DV.c (DV.v (AV.i .u64 n12)) (DV.c (DV.v (AV.i .u64 n17)) DV.n)) H2) fun Kb2 => lpR (failF [(16 , .int .u64), (18 , .int .u64)]) (fun Kc1 => fun d1 d2 H2 => onV d1 fun v1 => isI .u64 v1 fun n10 => onV d2 fun v2 => isI .u64 v2 fun n11 => frcB (ile ii4294967296 n11) fun t1 => g320x3 n11 n10 n6 n3 n7 t1 H2 Kb2 Kc1) (nat_lit 100000) (DV.v (AV.i .u64 n8)) (DV.v (AV.i .u64 n9)) H1
def g320x5 := jn (fun d3 H2 => pickK t1 (DV.v (AV.b true)) d3 fun d4 => onV d4 fun v1 => isB v1 fun t2 => br t2 (wrp .u64 (isub n1 ii1) fun n4 => wrp .u64 (iadd n2 n3) fun n5 => frcB (ile ii4294967296 n5) fun t3 => br t3 (Kb1 (DV.v (AV.i .u64 n4)) H2) (Kc1 (DV.v (AV.i .u64 n4)) (DV.v (AV.i .u64 n5)) H2)) (Kb1 (DV.v (AV.i .u64 n1)) H2)) fun Kb2 => br t1 (Kb2 DV.n H1) (onV d1 fun v1 => onV d2 fun v2 => isI .u64 v1 fun n4 => isI .u64 v2 fun n5 => frcB (ilt n5 n4) fun t2 => Kb2 (DV.v (AV.b t2)) H1)
def g320x6 := jn (fun d3 H2 => jn (fun d4 H3 => jn (fun d5 H4 => g320x5 d1 d5 n1 n2 n3 t1 H4 Kb1 Kc1) fun Kb2 => br t1 (Kb2 DV.n H3) (onV d3 fun v1 => onV d4 fun v2 => isI .u64 v1 fun n5 => isI .u64 v2 fun n6 => wrp .u64 (iadd n5 n6) fun n7 => Kb2 (DV.v (AV.i .u64 n7)) H3)) fun Kb2 => br t1 (Kb2 DV.n H2) (Kb2 (DV.v (AV.i .u64 n4)) H2)) fun Kb2 => br t1 (Kb2 DV.n H1) (onV d2 fun v1 => isI .u64 v1 fun n5 => wrp .u64 (imul ii4294967296 n5) fun n6 => Kb2 (DV.v (AV.i .u64 n6)) H1)
def g320x7 := jn (fun d1 H2 => jn (fun d2 H3 => jn (fun d3 H4 => jn (fun d4 H5 => g320x6 d3 d4 n1 n2 n3 n4 t1 H5 Kb1 Kc1) fun Kb2 => br t1 (Kb2 DV.n H4) (Kb2 (DV.v (AV.i .u64 n2)) H4)) fun Kb2 => br t1 (Kb2 DV.n H3) (onV d1 fun v1 => onV d2 fun v2 => isI .u64 v1 fun n6 => isI .u64 v2 fun n7 => wrp .u64 (imul n6 n7) fun n8 => Kb2 (DV.v (AV.i .u64 n8)) H3)) fun Kb2 => br t1 (Kb2 DV.n H2) (Kb2 (DV.v (AV.i .u64 n5)) H2)) fun Kb2 => br t1 (Kb2 DV.n H1) (Kb2 (DV.v (AV.i .u64 n1)) H1)
def g320x8 := jF [(15 , .int .u64)] (fun d1 H2 => onV d1 fun v1 => isI .u64 v1 fun n10 => wrp .u64 (imul n1 ii4294967296) fun n11 => wrp .u64 (iadd n11 n2) fun n12 => wrp .u64 (imul n10 n3) fun n13 => wrp .u64 (isub n12 n13) fun n14 => must (bnot (ieq n4 ii0)) <| wrp .u64 (iquo n14 n4) fun n15 => wrp .u64 (imul n15 n4) fun n16 => wrp .u64 (isub n14 n16) fun n17 => g320x4 n10 n14 n5 n3 n6 n4 n7 n17 n15 H2 Kb1) fun Kb2 => lpR (failF [(15 , .int .u64), (16 , .int .u64)]) (fun Kc1 => fun d1 d2 H2 => onV d1 fun v1 => isI .u64 v1 fun n10 => onV d2 fun v2 => isI .u64 v2 fun n11 => frcB (ile ii4294967296 n10) fun t1 => g320x7 n10 n11 n4 n2 n7 t1 H2 Kb2 Kc1) (nat_lit 100000) (DV.v (AV.i .u64 n8)) (DV.v (AV.i .u64 n9)) H1
def g320x9 := must (ile ii0 n1) <| must (ile n1 ii64) <| asI (idiv n2 (ip2 n1)) fun n8 => asI (bits .or .u64 n3 n8) fun n9 => must (ile ii0 n4) <| must (ile n4 ii64) <| wrp .u64 (imul n2 (ip2 n4)) fun n10 => asI (idiv n10 (ip2 ii32)) fun n11 => asI (bits .and .u64 n10 ii4294967295) fun n12 => must (bnot (ieq n5 ii0)) <| wrp .u64 (iquo n9 n5) fun n13 => wrp .u64 (imul n13 n5) fun n14 => wrp .u64 (isub n9 n14) fun n15 => g320x8 n9 n11 n6 n5 n12 n4 n7 n13 n15 H1 Kb1
def g320x10 := br t1 (must (bnot (ieq n1 ii0)) <| wrp .u64 (iquo n2 n1) fun n4 => must (bnot (ieq n1 ii0)) <| asI (irem n2 n1) fun n5 => Kb1 (DV.c (DV.v (AV.i .u64 n4)) (DV.c (DV.v (AV.i .u64 n5)) DV.n)) H1) (c1 [(DV.v (AV.i .u64 n1))] H1 fun d1 H2 => onV d1 fun v1 => isI .i64 v1 fun n4 => wrp .u64 n4 fun n5 => must (ile ii0 n5) <| must (ile n5 ii64) <| wrp .u64 (imul n1 (ip2 n5)) fun n6 => asI (idiv n6 (ip2 ii32)) fun n7 => asI (bits .and .u64 n6 ii4294967295) fun n8 => must (ile ii0 n5) <| must (ile n5 ii64) <| wrp .u64 (imul n3 (ip2 n5)) fun n9 => wrp .u64 (isub ii64 n5) fun n10 => g320x9 n10 n2 n9 n5 n7 n6 n8 H2 Kb1)
/-- math/bits.Div64 -/
def g320 : G DV := fun R1 H1 Kb1 => lc R1 fun d1 R2 => onV d1 fun v1 => isI .u64 v1 fun n1 => lc R2 fun d2 R3 => onV d2 fun v2 => isI .u64 v2 fun n2 => lc R3 fun d3 R4 => onV d3 fun v3 => isI .u64 v3 fun n3 => ln R4 <| jF [] (fun H2 => jF [] (fun H3 => frcB (ieq n1 ii0) fun t1 => g320x10 n3 n2 n1 t1 H3 c1 Kb1) fun Ka1 => frcB (ile n3 n1) fun t1 => br t1 (none) (Ka1 H2)) fun Ka1 => frcB (ieq n3 ii0) fun t1 => br t1 (none) (Ka1 H1)
def G320 : G DV := g320 G322

def g321x1 := frcB (ilt ii0 n1) fun t1 => br t1 (jF [(3 , .int .u64)] (fun d1 H2 => onV d1 fun v1 => isI .u64 v1 fun n4 => must (bnot (ieq ii2 ii0)) <| wrp .u64 (iquo n1 ii2) fun n5 => Kc1 (DV.v (AV.i .u64 n4)) (DV.v (AV.i .u64 n5)) H2) fun Kb2 => wrp .u64 (iadd n2 n1) fun n4 => wrp .u64 (imul n4 n4) fun n5 => frcB (ile n5 n3) fun t2 => br t2 (Kb2 (DV.v (AV.i .u64 n4)) H1) (Kb2 (DV.v (AV.i .u64 n2)) H1)) (Kb1 (DV.v (AV.i .u64 n2)) H1)
/-- inv.Root -/
def g321 : G DV := fun R1 H1 Kb1 => lc R1 fun d1 R2 => onV d1 fun v1 => isI .u64 v1 fun n1 => ln R2 <| lpR (failF [(3 , .int .u64), (4 , .int .u64)]) (fun Kc1 => fun d2 d3 H2 => onV d2 fun v2 => isI .u64 v2 fun n2 => onV d3 fun v3 => isI .u64 v3 fun n3 => g321x1 n3 n2 n1 H2 Kb1 Kc1) (nat_lit 100000) (DV.v (AV.i .u64 ii0)) (DV.v (AV.i .u64 ii2147483648)) H1
def G321 : G DV := g321

def g319x1 := ln R1 <| frcB (ile n1 ii1) fun t1 => br t1 (Kb1 (DV.v (AV.i .u64 ii4294967296)) H1) (wrp .u64 n1 fun n2 => c1 [(DV.v (AV.i .u64 ii1)), (DV.v (AV.i .u64 ii0)), (DV.v (AV.i .u64 n2))] H1 fun d1 H2 => onC d1 fun d2 d3 => onV d2 fun v1 => isI .u64 v1 fun n3 => onC d3 fun d4 d5 => onV d4 fun v2 => isI .u64 v2 fun n4 => onN d5 <| c2 [(DV.v (AV.i .u64 n3))] H2 fun d6 H3 => onV d6 fun v3 => isI .u64 v3 fun n5 => Kb1 (DV.v (AV.i .u64 n5)) H3)
/-- inv.Inv -/
def g319 : G DV := fun R1 H1 Kb1 => lc R1 fun d1 R2 => onV d1 fun v1 => isI .u32 v1 fun n1 => g319x1 R2 n1 H1 c1 c2 Kb1
def G319 : G DV := g319 G320 G321

def g318x1 := lc R1 fun d1 R2 => onV d1 fun v1 => isI .u32 v1 fun n3 => ln R2 <| asI (imax n1 ii0) fun n4 => asI (imin n4 ii1125899906842624) fun n5 => asI (imax n2 ii0) fun n6 => asI (imin n6 ii1073741824) fun n7 => wrp .u64 n7 fun n8 => c1 [(DV.v (AV.i .u32 n3))] H1 fun d2 H2 => onV d2 fun v2 => isI .u64 v2 fun n9 => wrp .u64 (imul n8 n9) fun n10 => asI (idiv n10 (ip2 ii32)) fun n11 => wrp .i64 n11 fun n12 => wrp .i64 (iadd n5 n12) fun n13 => Kb1 (DV.v (AV.i .i64 n13)) H2
/-- inv.Next -/
def g318 : G DV := fun R1 H1 Kb1 => lc R1 fun d1 R2 => onV d1 fun v1 => isI .i64 v1 fun n1 => lc R2 fun d2 R3 => onV d2 fun v2 => isI .i64 v2 fun n2 => g318x1 R3 n1 n2 H1 c1 Kb1
def G318 : G DV := g318 G319

def g316x1 := rdK H1 b1 (Nat.add m1 nn1) fun v1 => isI .i64 v1 fun n1 => onA p1 fun b2 m2 => rdK H1 b2 (Nat.add m2 nn7) fun v2 => isI .i64 v2 fun n2 => onA p1 fun b3 m3 => rdK H1 b3 (Nat.add m3 nn2) fun v3 => isI .u32 v3 fun n3 => c1 [(DV.v (AV.i .i64 n1)), (DV.v (AV.i .i64 n2)), (DV.v (AV.i .u32 n3))] H1 fun d1 H2 => onV d1 fun v4 => isI .i64 v4 fun n4 => onA p1 fun b4 m4 => wrK H2 b4 (Nat.add m4 nn1) (AV.i .i64 n4) fun H3 => Kb1 (DV.v (AV.b t1)) H3
def g316x2 := jn (fun d1 H2 => jn (fun d2 H3 => pickK t1 (DV.v (AV.b true)) d2 fun d3 => onV d3 fun v1 => isB v1 fun t4 => br t4 (onA p1 fun b1 m1 => wrK H3 b1 (Nat.add m1 nn4) (AV.b false) fun H4 => Kb1 (DV.v (AV.b t2)) H4) (onA p1 fun b1 m1 => g316x1 m1 t2 p1 b1 H3 c1 Kb1)) fun Kb2 => br t1 (Kb2 DV.n H2) (onV d1 fun v1 => isB v1 fun t4 => frcB (bnot t4) fun t5 => Kb2 (DV.v (AV.b t5)) H2)) fun Kb2 => br t1 (Kb2 DV.n H1) (Kb2 (DV.v (AV.b t3)) H1)
def g316x3 := jF [] (fun H2 => c1 [(DV.v (AV.p p1))] H2 fun d1 H3 => onC d1 fun d2 d3 => onV d2 fun v1 => isB v1 fun t1 => onC d3 fun d4 d5 => onV d4 fun v2 => isB v2 fun t2 => onN d5 <| frcB (bnot t1) fun t3 => g316x2 t3 t1 t2 p1 H3 c2 Kb1) fun Ka1 => onA p1 fun b1 m1 => rdK H1 b1 (Nat.add m1 nn2) fun v1 => isI .u32 v1 fun n1 => frcB (ilt n1 ii4294967295) fun t1 => br t1 (onA p1 fun b2 m2 => rdK H1 b2 (Nat.add m2 nn2) fun v2 => isI .u32 v2 fun n2 => wrp .u32 (iadd n2 ii1) fun n3 => onA p1 fun b3 m3 => wrK H1 b3 (Nat.add m3 nn2) (AV.i .u32 n3) fun H2 => Ka1 H2) (Ka1 H1)
def g316x4 := jF [] (fun H2 => onA p1 fun b1 m1 => rdK H2 b1 (Nat.add m1 nn10) fun v1 => isI .i64 v1 fun n1 => wrp .i64 (iadd n1 ii1) fun n2 => onA p1 fun b2 m2 => wrK H2 b2 (Nat.add m2 nn10) (AV.i .i64 n2) fun H3 => g316x3 p1 H3 c1 c2 Kb1) fun Ka1 => onA p1 fun b1 m1 => rdK H1 b1 (Nat.add m1 nn5) fun v1 => isI .i64 v1 fun n1 => onA p1 fun b2 m2 => rdK H1 b2 (Nat.add m2 nn1) fun v2 => isI .i64 v2 fun n2 => frcB (ile n2 n1) fun t2 => br t2 (onA p1 fun b3 m3 => rdK H1 b3 (Nat.add m3 nn4) fun v3 => isB v3 fun t3 => br t3 (Ka1 H1) (Kb2 (DV.v (AV.b t1)) H1)) (Kb2 (DV.v (AV.b t1)) H1)
/-- (*codel.state).more -/
def g316 : G DV := fun R1 H1 Kb1 => lc R1 fun d1 R2 => onV d1 fun v1 => isP v1 fun p1 => ln R2 <| jF [(3 , .bool)] (fun d2 H2 => onV d2 fun v2 => isB v2 fun t1 => Kb1 (DV.v (AV.b t1)) H2) fun Kb2 => lpR (failF [(3 , .bool)]) (fun Kb3 => fun d2 H2 => onV d2 fun v2 => isB v2 fun t1 => g316x4 t1 p1 H2 c1 c2 Kb3 Kb2) (nat_lit 100000) (DV.v (AV.b true)) H1
def G316 : G DV := g316 G315 G318

def g317x1 := rdK H1 b1 (Nat.add m1 nn5) fun v1 => isI .i64 v1 fun n1 => onA p1 fun b2 m2 => rdK H1 b2 (Nat.add m2 nn7) fun v2 => isI .i64 v2 fun n2 => onA p1 fun b3 m3 => rdK H1 b3 (Nat.add m3 nn2) fun v3 => isI .u32 v3 fun n3 => c1 [(DV.v (AV.i .i64 n1)), (DV.v (AV.i .i64 n2)), (DV.v (AV.i .u32 n3))] H1 fun d1 H2 => onV d1 fun v4 => isI .i64 v4 fun n4 => onA p1 fun b4 m4 => wrK H2 b4 (Nat.add m4 nn1) (AV.i .i64 n4) fun H3 => Kb1 (DV.v (AV.b t1)) H3
def g317x2 := jF [(56 , .bool)] (fun d1 H2 => onV d1 fun v1 => isB v1 fun t1 => br t1 (onA p1 fun b1 m1 => wrK H2 b1 (Nat.add m1 nn2) (AV.i .u32 n1) fun H3 => Ka1 H3) (Ka1 H2)) fun Kb1 => frcB (ilt ii1 n1) fun t1 => br t1 (onA p1 fun b1 m1 => rdK H1 b1 (Nat.add m1 nn5) fun v1 => isI .i64 v1 fun n2 => onA p1 fun b2 m2 => rdK H1 b2 (Nat.add m2 nn1) fun v2 => isI .i64 v2 fun n3 => wrp .i64 (isub n2 n3) fun n4 => onA p1 fun b3 m3 => rdK H1 b3 (Nat.add m3 nn7) fun v3 => isI .i64 v3 fun n5 => wrp .i64 (imul ii16 n5) fun n6 => frcB (ilt n4 n6) fun t2 => Kb1 (DV.v (AV.b t2)) H1) (Kb1 (DV.v (AV.b false)) H1)
def g317x3 := rdK H1 b1 (Nat.add m1 nn3) fun v1 => isI .u32 v1 fun n2 => wrp .u32 (isub n1 n2) fun n3 => onA p1 fun b2 m2 => wrK H1 b2 (Nat.add m2 nn2) (AV.i .u32 ii1) fun H2 => jF [] (fun H3 => onA p1 fun b3 m3 => rdK H3 b3 (Nat.add m3 nn2) fun v2 => isI .u32 v2 fun n4 => onA p1 fun b4 m4 => wrK H3 b4 (Nat.add m4 nn3) (AV.i .u32 n4) fun H4 => onA p1 fun b5 m5 => g317x1 m5 t1 p1 b5 H4 c1 Kb1) fun Ka1 => g317x2 n3 p1 H2 Ka1
def g317x4 := wrK H1 b1 (Nat.add m1 nn10) (AV.i .i64 n1) fun H2 => c1 [(DV.v (AV.p p1))] H2 fun d1 H3 => onC d1 fun d2 d3 => onV d2 fun v1 => isB v1 fun t1 => onC d3 fun d4 d5 => onV d4 fun v2 => isB v2 fun t2 => onN d5 <| onA p1 fun b2 m2 => wrK H3 b2 (Nat.add m2 nn4) (AV.b true) fun H4 => onA p1 fun b3 m3 => rdK H4 b3 (Nat.add m3 nn2) fun v3 => isI .u32 v3 fun n2 => onA p1 fun b4 m4 => g317x3 n2 m4 t1 p1 b4 H4 c2 Kb1
/-- (*codel.state).begins -/
def g317 : G DV := fun R1 H1 Kb1 => lc R1 fun d1 R2 => onV d1 fun v1 => isP v1 fun p1 => ln R2 <| onA p1 fun b1 m1 => rdK H1 b1 (Nat.add m1 nn10) fun v2 => isI .i64 v2 fun n1 => wrp .i64 (iadd n1 ii1) fun n2 => onA p1 fun b2 m2 => g317x4 n2 m2 p1 b2 H1 c1 c2 Kb1
def G317 : G DV := g317 G315 G318

def g314x1 := br t1 (onA p1 fun b1 m1 => wrK H1 b1 (Nat.add m1 nn4) (AV.b false) fun H2 => Kb1 (DV.v (AV.b true)) H2) (onA p1 fun b1 m1 => rdK H1 b1 (Nat.add m1 nn4) fun v1 => isB v1 fun t3 => br t3 (c1 [(DV.v (AV.p p1))] H1 fun d1 H2 => onV d1 fun v2 => isB v2 fun t4 => Kb1 (DV.v (AV.b t4)) H2) (br t2 (c2 [(DV.v (AV.p p1))] H1 fun d1 H2 => onV d1 fun v2 => isB v2 fun t4 => Kb1 (DV.v (AV.b t4)) H2) (Kb1 (DV.v (AV.b true)) H1)))
def g314x2 := br t1 (onA p1 fun b1 m1 => wrK H1 b1 (Nat.add m1 nn4) (AV.b false) fun H2 => Kb1 (DV.v (AV.b false)) H2) (onA p1 fun b1 m1 => rdK H1 b1 (Nat.add m1 nn4) fun v1 => isB v1 fun t3 => jn (fun d1 H2 => jn (fun d2 H3 => pickK t3 d2 (DV.v (AV.b false)) fun d3 => onV d3 fun v2 => isB v2 fun t4 => g314x1 t4 t2 p1 H3 c1 c2 Kb1) fun Kb2 => br t3 (onV d1 fun v2 => isB v2 fun t4 => frcB (bnot t4) fun t5 => Kb2 (DV.v (AV.b t5)) H2) (Kb2 DV.n H2)) fun Kb2 => br t3 (Kb2 (DV.v (AV.b t2)) H1) (Kb2 DV.n H1))
/-- (*codel.state).run -/
def g314 : G DV := fun R1 H1 Kb1 => lc R1 fun d1 R2 => onV d1 fun v1 => isP v1 fun p1 => ln R2 <| c1 [(DV.v (AV.p p1))] H1 fun d2 H2 => onC d2 fun d3 d4 => onV d3 fun v2 => isB v2 fun t1 => onC d4 fun d5 d6 => onV d5 fun v3 => isB v3 fun t2 => onN d6 <| frcB (bnot t1) fun t3 => g314x2 t3 t2 p1 H2 c2 c3 Kb1
def G314 : G DV := g314 G315 G316 G317

def z19 : T4 AV := (@T4.n AV yy1 (@T4.n AV yy1 te te te te) (@T4.n AV yy2 te te te te) (@T4.n AV yy2 te te te te) (@T4.n AV yy3 te te te te))
def g313x1 := alK H1 (lapp l1 ((AV.i .i64 n1) :: ((AV.i .i64 n2) :: ((AV.i .i64 n3) :: ((AV.i .i64 n4) :: ((AV.s s1) :: ((AV.i .i64 ii0) :: []))))))) fun b2 H2 => c1 [(DV.v (AV.p (AP.at b2 nn0)))] H2 fun d1 H3 => onV d1 fun v1 => isB v1 fun t1 => rdR H3 b2 nn0 nn5 fun l2 => rdK H3 b2 nn10 fun v2 => isI .i64 v2 fun n5 => must (Nat.beq (llen l2) nn5) <| wrL H3 b1 nn0 l2 fun H4 => rdK H4 b2 nn10 fun v3 => must (aveq (AV.i .i64 n5) v3) <| rdR H4 b1 nn0 nn5 fun l3 => Kb1 (DV.c (DV.a l3) (DV.c (DV.v (AV.i .i64 n5)) (DV.c (DV.v (AV.b t1)) DV.n))) H4
def g313x2 := isI .i64 v1 fun n3 => lc R1 fun d2 R2 => onV d2 fun v2 => isI .i64 v2 fun n4 => lc R2 fun d3 R3 => onV d3 fun v3 => isS v3 fun s1 => ln R3 <| cellsD d1 fun l1 => alK H1 l1 fun b1 H2 => alB H2 z19 nn5 nn0 fun b2 H3 => rdR H3 b1 nn0 nn5 fun l2 => asI (imax n1 ii0) fun n5 => asI (imin n5 ii1073741824) fun n6 => asI (imax n3 ii0) fun n7 => asI (imin n7 ii1073741824) fun n8 => must (Nat.beq (llen l2) nn5) <| g313x1 l2 n2 n6 n8 n4 b2 s1 H3 c1 Kb1
/-- (codel.Codel).Pull -/
def g313 : G DV := fun R1 H1 Kb1 => lc R1 fun d1 R2 => lc R2 fun d2 R3 => onV d2 fun v1 => isI .i64 v1 fun n1 => lc R3 fun d3 R4 => onV d3 fun v2 => isI .i64 v2 fun n2 => lc R4 fun d4 R5 => onV d4 fun v3 => g313x2 v3 d1 R5 n2 n1 H1 c1 Kb1
def G313 : G DV := g313 G314

def g311x1 := must (Nat.beq (llen l1) nn5) <| wrL H1 b1 nn0 l1 fun H2 => rdK H2 b1 nn3 fun v1 => isI .i64 v1 fun n2 => rdK H2 b1 nn4 fun v2 => isS v2 fun s2 => lenA s2 fun m1 => alB H2 (@T4.n AV (AV.i .i64 n2) (@T4.n AV (AV.i .i64 (Int.ofNat m1)) te te te te) te te te) nn2 nn0 fun b2 H3 => appD nn2 nn16 s1 (AS.sl b2 nn0 nn1 nn1) H3 fun s3 H4 => wrp .i64 (iadd n1 ii1) fun n3 => Kc1 (DV.v (AV.s s3)) (DV.v (AV.i .i64 n3)) H4
def g311x2 := isS v1 fun s1 => onV d1 fun v2 => isI .i64 v2 fun n3 => frcB (ilt n3 n1) fun t2 => br t2 (c1 [(DV.v (AV.p p1)), (DV.v (AV.i .i64 n2))] H1 fun d2 H2 => onL d2 fun l1 => must (Nat.beq (llen l1) nn5) <| alK H2 (lapp l1 []) fun b1 H3 => appD nn5 nn56 s1 (AS.sl b1 nn0 nn1 nn1) H3 fun s2 H4 => wrp .i64 (iadd n3 ii1) fun n4 => Kc1 (DV.v (AV.s s2)) (DV.v (AV.i .i64 n4)) H4) (Kb1 (DV.c (DV.v (AV.s s1)) (DV.c (DV.v (AV.b t1)) DV.n)) H1)
def g311x3 := alB H1 z19 nn5 nn0 fun b2 H2 => must (Nat.beq (llen l1) nn5) <| wrL H2 b2 nn0 l1 fun H3 => rdR H3 b2 nn0 nn5 fun l2 => must (Nat.beq (llen l2) nn5) <| wrL H3 b1 (Nat.add (Nat.add (Nat.add m1 nn3) (Nat.mul (itn n1) nn8)) nn3) l2 fun H4 => lpR (failF [(15 , .slice), (68 , .int .i64)]) (fun Kc1 => fun d1 d2 H5 => onV d1 fun v1 => g311x2 v1 d2 n2 n1 t1 p1 H5 c1 Kb1 Kc1) (nat_lit 100000) (DV.v (AV.s AS.nil)) (DV.v (AV.i .i64 ii0)) H4
def g311x4 := rdK H1 b1 (Nat.add (Nat.add (Nat.add m1 nn3) (Nat.mul (itn n1) nn8)) nn1) fun v1 => isI .i64 v1 fun n5 => c1 [(DV.a l1), (DV.v (AV.i .i64 n2)), (DV.v (AV.i .i64 n3)), (DV.v (AV.i .i64 n4)), (DV.v (AV.i .i64 n5)), (DV.v (AV.s s1))] H1 fun d1 H2 => onC d1 fun d2 d3 => onL d2 fun l2 => onC d3 fun d4 d5 => onV d4 fun v2 => isI .i64 v2 fun n6 => onC d5 fun d6 d7 => onV d6 fun v3 => isB v3 fun t1 => onN d7 <| g311x3 l2 n1 n6 m1 t1 p1 b1 H2 c2 Kb1
def g311x5 := br t1 (ixA s1 n1 (fun x => Nat.mul x nn5) fun b2 m2 => rdR H1 b2 m2 nn5 fun l1 => alB H1 z9 nn5 nn0 fun b3 H2 => g311x1 l1 n1 b3 s2 H2 Kc1) (rdR H1 b1 (Nat.add (Nat.add (Nat.add m1 nn3) (Nat.mul (itn n2) nn8)) nn3) nn5 fun l1 => onA p1 fun b2 m2 => rdK H1 b2 (Nat.add m2 nn1) fun v1 => isI .i64 v1 fun n4 => onA p1 fun b3 m3 => rdK H1 b3 (Nat.add m3 nn2) fun v2 => isI .i64 v2 fun n5 => g311x4 l1 n2 n3 n4 n5 m1 p1 b1 s2 H1 c1 c2 Kb1)
def g311x6 := onA p1 fun b1 m1 => rng n1 nn16 <| rdK H1 b1 (Nat.add (Nat.add m1 nn3) (Nat.mul (itn n1) nn8)) fun v1 => isS v1 fun s1 => lenA s1 fun m2 => lpR (failF [(9 , .slice), (26 , .int .i64)]) (fun Kc1 => fun d1 d2 H2 => onV d1 fun v2 => isS v2 fun s2 => onV d2 fun v3 => isI .i64 v3 fun n3 => frcB (ilt n3 (Int.ofNat m2)) fun t1 => g311x5 n3 n1 n2 m1 t1 p1 b1 s1 s2 H2 c1 c2 Kb1 Kc1) (nat_lit 100000) (DV.v (AV.s AS.nil)) (DV.v (AV.i .i64 ii0)) H1
/-- (*fq.Queue).pull -/
def g311 : G DV := fun R1 H1 Kb1 => lc R1 fun d1 R2 => onV d1 fun v1 => isP v1 fun p1 => lc R2 fun d2 R3 => onV d2 fun v2 => isI .i64 v2 fun n1 => lc R3 fun d3 R4 => onV d3 fun v3 => isI .i64 v3 fun n2 => ln R4 <| g311x6 n1 n2 p1 H1 c2 c1 Kb1
def G311 : G DV := g311 G304 G313

def z20 : List AV := [(AV.i .i64 ii0), (AV.i .u32 ii0), (AV.i .i64 ii0), (AV.i .i64 ii0), (AV.s AS.nil)]
def g306x1 := isS v1 fun s2 => lenA s2 fun m1 => slA s2 nn1 m1 (fun x => x) fun s3 => onA p1 fun b1 m2 => wrK H1 b1 m2 (AV.s s3) fun H2 => onA p2 fun b2 m3 => rdK H2 b2 (Nat.add m3 nn132) fun v2 => isS v2 fun s4 => alB H2 (@T4.n AV (AV.i .i64 n1) te te te te) nn1 nn0 fun b3 H3 => appD nn1 nn8 s4 (AS.sl b3 nn0 nn1 nn1) H3 fun s5 H4 => onA p2 fun b4 m4 => wrK H4 b4 (Nat.add m4 nn132) (AV.s s5) fun H5 => Kb1 (DV.v (AV.s s1)) H5
def g306x2 := rdK H1 b1 (Nat.add (Nat.add (Nat.add m1 nn3) (Nat.mul (itn n1) nn8)) nn2) fun v1 => isI .i64 v1 fun n2 => rdK H1 b2 nn4 fun v2 => isS v2 fun s2 => lenA s2 fun m2 => wrp .i64 (isub n2 (Int.ofNat m2)) fun n3 => wrK H1 b1 (Nat.add (Nat.add (Nat.add m1 nn3) (Nat.mul (itn n1) nn8)) nn2) (AV.i .i64 n3) fun H2 => rdR H2 b2 nn0 nn5 fun l1 => must (Nat.beq (llen l1) nn5) <| wrL H2 b3 nn0 l1 fun H3 => rdR H3 b3 nn0 nn5 fun l2 => Kb1 (DV.c (DV.a l2) (DV.c (DV.v (AV.s s1)) (DV.c (DV.v (AV.b true)) DV.n))) H3
def g306x3 := jn (fun d2 H2 => pickK t1 d2 (DV.v (AV.b false)) fun d3 => onV d3 fun v1 => isB v1 fun t2 => br t2 (onA p1 fun b1 m1 => rdK H2 b1 (Nat.add m1 nn132) fun v2 => isS v2 fun s2 => alB H2 (@T4.n AV (AV.i .i64 n1) te te te te) nn1 nn0 fun b2 H3 => appD nn1 nn8 s2 (AS.sl b2 nn0 nn1 nn1) H3 fun s3 H4 => onA p1 fun b3 m2 => wrK H4 b3 (Nat.add m2 nn132) (AV.s s3) fun H5 => Kb1 (DV.v (AV.s s1)) H5) (Kb1 (DV.v (AV.s s1)) H2)) fun Kb2 => br t1 (onV d1 fun v1 => isI .i64 v1 fun n2 => frcB (ilt ii0 n2) fun t2 => Kb2 (DV.v (AV.b t2)) H1) (Kb2 DV.n H1)
def g306x4 := jn (fun d2 H2 => jn (fun d3 H3 => jn (fun d4 H4 => g306x3 d4 n1 t1 p1 s1 H4 Kb1) fun Kb2 => br t1 (onV d3 fun v1 => isS v1 fun s2 => lenA s2 fun m1 => Kb2 (DV.v (AV.i .i64 (Int.ofNat m1))) H3) (Kb2 DV.n H3)) fun Kb2 => br t1 (onV d2 fun v1 => isP v1 fun p2 => onA p2 fun b1 m1 => rdK H2 b1 m1 fun v2 => isS v2 fun s2 => Kb2 (DV.v (AV.s s2)) H2) (Kb2 DV.n H2)) fun Kb2 => br t1 (onV d1 fun v1 => isP v1 fun p2 => onA p2 fun b1 m1 => Kb2 (DV.v (AV.p (AP.at b1 (Nat.add m1 nn132)))) H1) (Kb2 DV.n H1)
def g306x5 := onA p1 fun b1 m1 => rdK H1 b1 m1 fun v1 => isS v1 fun s2 => lenA s2 fun m2 => slA s2 nn1 m2 (fun x => x) fun s3 => onA p1 fun b2 m3 => wrK H1 b2 m3 (AV.s s3) fun H2 => jn (fun d1 H3 => jn (fun d2 H4 => g306x4 d2 n1 t1 p2 s1 H4 Kb1) fun Kb2 => br t1 (onV d1 fun v2 => isP v2 fun p3 => onA p3 fun b3 m4 => Kb2 (DV.v (AV.p (AP.at b3 m4))) H3) (Kb2 DV.n H3)) fun Kb2 => br t1 (Kb2 (DV.v (AV.p p2)) H2) (Kb2 DV.n H2)
def g306x6 := onC d1 fun d2 d3 => onV d2 fun v1 => isS v1 fun s2 => onC d3 fun d4 d5 => onV d4 fun v2 => isB v2 fun t2 => onN d5 <| appD nn5 nn56 s1 s2 H1 fun s3 H2 => br t2 (c1 [(DV.v (AV.p p1)), (DV.v (AV.i .i64 n1))] H2 fun d6 H3 => onL d6 fun l1 => alB H3 z9 nn5 nn0 fun b3 H4 => must (Nat.beq (llen l1) nn5) <| wrL H4 b3 nn0 l1 fun H5 => g306x2 n1 m1 b1 b3 b2 s3 H5 Kb1) (g306x5 n1 t1 p2 p1 s3 H2 Kb2)
def g306x7 := br t1 (rdK H1 b1 (Nat.add (Nat.add (Nat.add m1 nn3) (Nat.mul (itn n1) nn8)) nn2) fun v1 => isI .i64 v1 fun n3 => wrp .i64 (iadd n3 ii300) fun n4 => wrK H1 b1 (Nat.add (Nat.add (Nat.add m1 nn3) (Nat.mul (itn n1) nn8)) nn2) (AV.i .i64 n4) fun H2 => onA p1 fun b3 m2 => rdK H2 b3 m2 fun v2 => g306x1 v2 n1 p1 p2 s1 H2 Kb1) (c1 [(DV.v (AV.p p2)), (DV.v (AV.i .i64 n1)), (DV.v (AV.i .i64 n2))] H1 fun d1 H2 => g306x6 d1 n1 m1 t2 p2 p1 b1 b2 s1 H2 c2 Kb2 Kb1)
def g306x8 := br t1 (wrL H1 b1 nn0 z20 fun H2 => rdR H2 b1 nn0 nn5 fun l1 => Kb1 (DV.c (DV.a l1) (DV.c (DV.v (AV.s s1)) (DV.c (DV.v (AV.b false)) DV.n))) H2) (onA p1 fun b2 m1 => rdK H1 b2 m1 fun v1 => isS v1 fun s2 => ixA s2 ii0 (fun x => x) fun b3 m2 => rdK H1 b3 m2 fun v2 => isI .i64 v2 fun n2 => onA p2 fun b4 m3 => rng n2 nn16 <| rdK H1 b4 (Nat.add (Nat.add (Nat.add m3 nn3) (Nat.mul (itn n2) nn8)) nn2) fun v3 => isI .i64 v3 fun n3 => frcB (ile n3 ii0) fun t3 => g306x7 n2 n1 m3 t3 t2 p1 p2 b4 b1 s1 H1 c1 c2 Kb2 Kb1)
def g306x9 := jF [(8 , .ptr), (9 , .bool)] (fun d1 d2 H2 => onV d1 fun v1 => isP v1 fun p2 => onV d2 fun v2 => isB v2 fun t1 => onA p2 fun b3 m2 => rdK H2 b3 m2 fun v3 => isS v3 fun s2 => lenA s2 fun m3 => frcB (ieq (Int.ofNat m3) ii0) fun t2 => g306x8 n1 t2 t1 p2 p1 b1 s1 H2 c1 c2 Kb1 Kb2) fun Kc1 => onA p1 fun b3 m2 => rdK H1 b3 (Nat.add m2 nn131) fun v1 => isS v1 fun s2 => lenA s2 fun m3 => frcB (ieq (Int.ofNat m3) ii0) fun t1 => br t1 (onA p1 fun b4 m4 => Kc1 (DV.v (AV.p (AP.at b4 (Nat.add m4 nn132)))) (DV.v (AV.b false)) H1) (Kc1 (DV.v (AV.p (AP.at b2 (Nat.add m1 nn131)))) (DV.v (AV.b true)) H1)
/-- (*fq.Queue).Take -/
def g306 : G DV := fun R1 H1 Kb1 => lc R1 fun d1 R2 => onV d1 fun v1 => isP v1 fun p1 => lc R2 fun d2 R3 => onV d2 fun v2 => isI .i64 v2 fun n1 => ln R3 <| alB H1 z9 nn5 nn0 fun b1 H2 => lpR (failF [(7 , .slice)]) (fun Kb2 => fun d3 H3 => onV d3 fun v3 => isS v3 fun s1 => onA p1 fun b2 m1 => g306x9 n1 m1 p1 b1 b2 s1 H3 c2 c1 Kb1 Kb2) (nat_lit 100000) (DV.v (AV.s AS.nil)) H2
def G306 : G DV := g306 G304 G311

def g295x1 := rdK H1 b1 (Nat.add (Nat.add (Nat.add m1 nn5) (Nat.mul (itn n1) nn8)) (itn n2)) fun v1 => isP v1 fun p1 => c1 [(DV.v (AV.p p1)), (DV.v (AV.i .i64 n3))] H1 fun d1 H2 => onC d1 fun d2 d3 => onL d2 fun l1 => onC d3 fun d4 d5 => onV d4 fun v2 => isS v2 fun s1 => onC d5 fun d6 d7 => onV d6 fun v3 => isB v3 fun t1 => onN d7 <| must (Nat.beq (llen l1) nn5) <| wrL H2 b2 nn0 l1 fun H3 => rdR H3 b2 nn0 nn5 fun l2 => Kb1 (DV.c (DV.a l2) (DV.c (DV.v (AV.s s1)) (DV.c (DV.v (AV.b t1)) DV.n))) H3
def g295x2 := alB H1 z9 nn5 nn0 fun b1 H2 => c1 [(DV.v (AV.i .i64 n1)), (DV.v (AV.i .i64 n2))] H2 fun d1 H3 => onV d1 fun v1 => isB v1 fun t1 => frcB (bnot t1) fun t2 => br t2 (wrL H3 b1 nn0 z20 fun H4 => rdR H4 b1 nn0 nn5 fun l1 => Kb1 (DV.c (DV.a l1) (DV.c (DV.v (AV.s AS.nil)) (DV.c (DV.v (AV.b false)) DV.n))) H4) (wrp .i64 (isub n1 ii1) fun n4 => onA p1 fun b2 m1 => rng n4 nn16 <| rng n2 nn8 <| g295x1 n4 n2 n3 m1 b2 b1 H3 c2 Kb1)
/-- (*pool.Pool).Take -/
def g295 : G DV := fun R1 H1 Kb1 => lc R1 fun d1 R2 => onV d1 fun v1 => isP v1 fun p1 => lc R2 fun d2 R3 => onV d2 fun v2 => isI .i64 v2 fun n1 => lc R3 fun d3 R4 => onV d3 fun v3 => isI .i64 v3 fun n2 => lc R4 fun d4 R5 => onV d4 fun v4 => isI .i64 v4 fun n3 => ln R5 <| g295x2 n1 n2 n3 p1 H1 c1 c2 Kb1
def G295 : G DV := g295 G226 G306

def g312x1 := lc R1 fun d1 R2 => onV d1 fun v1 => isI .i64 v1 fun n1 => lc R2 fun d2 R3 => onV d2 fun v2 => isI .i64 v2 fun n2 => ln R3 <| c1 [(DV.v (AV.i .i64 n1))] H1 fun d3 H2 => onV d3 fun v3 => isI .i64 v3 fun n3 => c1 [(DV.v (AV.i .i64 n2))] H2 fun d4 H3 => onV d4 fun v4 => isI .i64 v4 fun n4 => wrp .i64 (iadd n3 n4) fun n5 => c1 [(DV.v (AV.i .i64 n5))] H3 fun d5 H4 => onV d5 fun v5 => isI .i64 v5 fun n6 => Kb1 (DV.v (AV.i .i64 n6)) H4
/-- seq.Add -/
def g312 : G DV := fun R1 H1 Kb1 => g312x1 R1 H1 c1 Kb1
def G312 : G DV := g312 G287

def g307x1 := isI .i64 v1 fun n2 => onA p1 fun b1 m1 => wrK H1 b1 (Nat.add m1 nn1) (AV.i .i64 n2) fun H2 => onA p1 fun b2 m2 => rdK H2 b2 (Nat.add m2 nn3) fun v2 => isS v2 fun s1 => alB H2 (@T4.n AV (AV.i .i64 n1) te te te te) nn1 nn0 fun b3 H3 => appD nn1 nn8 s1 (AS.sl b3 nn0 nn1 nn1) H3 fun s2 H4 => onA p1 fun b4 m3 => wrK H4 b4 (Nat.add m3 nn3) (AV.s s2) fun H5 => Kb1 (DV.c (DV.v (AV.i .i64 n1)) (DV.c (DV.v (AV.b true)) DV.n)) H5
def g307x2 := lc R1 fun d1 R2 => onV d1 fun v1 => isP v1 fun p1 => ln R2 <| c1 [(DV.v (AV.p p1))] H1 fun d2 H2 => onV d2 fun v2 => isI .i64 v2 fun n1 => frcB (ieq n1 ii0) fun t1 => br t1 (Kb1 (DV.c (DV.v (AV.i .i64 ii0)) (DV.c (DV.v (AV.b false)) DV.n)) H2) (onA p1 fun b1 m1 => rdK H2 b1 (Nat.add m1 nn1) fun v3 => isI .i64 v3 fun n2 => c2 [(DV.v (AV.i .i64 n2)), (DV.v (AV.i .i64 ii1))] H2 fun d3 H3 => onV d3 fun v4 => g307x1 v4 n2 p1 H3 Kb1)
/-- (*win.Win).Next -/
def g307 : G DV := fun R1 H1 Kb1 => g307x2 R1 H1 c1 c2 Kb1
def G307 : G DV := g307 G265 G312

def z21 : List AV := [(AV.i .i64 ii0), (AV.i .u32 ii0), (AV.i .i64 ii0), (AV.i .i64 ii0), (AV.s AS.nil), (AV.i .i64 ii0), (AV.i .i64 ii0), (AV.i .i64 ii0)]
def g296x1 := must (Nat.beq (llen (lapp l1 ((AV.b false) :: []))) nn9) <| alK H1 (lapp (lapp l1 ((AV.b false) :: [])) []) fun b3 H2 => appD nn9 nn88 s1 (AS.sl b3 nn0 nn1 nn1) H2 fun s2 H3 => onA p1 fun b4 m1 => wrK H3 b4 (Nat.add m1 nn6) (AV.s s2) fun H4 => rdR H4 b1 nn0 nn8 fun l2 => c1 [(DV.a l2)] H4 fun d1 H5 => onL d1 fun l3 => must (Nat.beq (llen l3) nn8) <| wrL H5 b2 nn0 l3 fun H6 => rdR H6 b2 nn0 nn8 fun l4 => Kb1 (DV.c (DV.a l4) (DV.c (DV.v AV.ni) DV.n)) H6
def g296x2 := must (Nat.beq (llen l1) nn5) <| c1 [(DV.a (lapp l1 ((AV.i .i64 n1) :: ((AV.i .i64 ii0) :: ((AV.i .i64 n2) :: [])))))] H1 fun d1 H2 => onL d1 fun l2 => alB H2 z6 nn8 nn0 fun b2 H3 => must (Nat.beq (llen l2) nn8) <| wrL H3 b2 nn0 l2 fun H4 => onA p1 fun b3 m1 => rdK H4 b3 (Nat.add m1 nn6) fun v1 => isS v1 fun s1 => rdR H4 b2 nn0 nn8 fun l3 => must (Nat.beq (llen l3) nn8) <| g296x1 l3 p1 b2 b1 s1 H4 c1 Kb1
def g296x3 := isI .i64 v1 fun n2 => onC d1 fun d2 d3 => onV d2 fun v2 => isB v2 fun t1 => onN d3 <| frcB (bnot t1) fun t2 => br t2 (wrL H1 b1 nn0 z21 fun H2 => rdR H2 b1 nn0 nn8 fun l1 => Kb1 (DV.c (DV.a l1) (DV.c (DV.v (AV.er (nat_lit 8))) DV.n)) H2) (rdR H1 b2 nn0 nn5 fun l1 => onA p1 fun b3 m1 => rdK H1 b3 (Nat.add m1 nn3) fun v3 => isI .i64 v3 fun n3 => wrp .i64 (iadd n1 n3) fun n4 => g296x2 l1 n2 n4 p1 b1 H1 c1 Kb1)
def g296x4 := br t1 (wrL H1 b1 nn0 z21 fun H2 => rdR H2 b1 nn0 nn8 fun l1 => Kb1 (DV.c (DV.a l1) (DV.c (DV.v (AV.er (nat_lit 9))) DV.n)) H2) (onA p1 fun b3 m1 => rdK H1 b3 (Nat.add m1 nn7) fun v1 => isB v1 fun t2 => br t2 (wrL H1 b1 nn0 z21 fun H2 => rdR H2 b1 nn0 nn8 fun l1 => Kb1 (DV.c (DV.a l1) (DV.c (DV.v (AV.er (nat_lit 8))) DV.n)) H2) (onA p1 fun b4 m2 => rdK H1 b4 m2 fun v2 => isP v2 fun p2 => c1 [(DV.v (AV.p p2))] H1 fun d1 H2 => onC d1 fun d2 d3 => onV d2 fun v3 => g296x3 v3 d3 n1 p1 b1 b2 H2 c2 Kb1))
/-- (*ba.Session).Fresh -/
def g296 : G DV := fun R1 H1 Kb1 => lc R1 fun d1 R2 => onV d1 fun v1 => isP v1 fun p1 => lc R2 fun d2 R3 => lc R3 fun d3 R4 => onV d3 fun v2 => isI .i64 v2 fun n1 => ln R4 <| cellsD d2 fun l1 => alK H1 l1 fun b1 H2 => alB H2 z6 nn8 nn0 fun b2 H3 => onA p1 fun b3 m1 => rdK H3 b3 (Nat.add m1 nn4) fun v3 => isI .i64 v3 fun n2 => frcB (ieq n2 ii2) fun t1 => g296x4 n1 t1 p1 b2 b1 H3 c2 c1 Kb1
def G296 : G DV := g296 G264 G307

def g267x1 := br t1 (wrL H1 b1 nn0 z21 fun H2 => rdR H2 b1 nn0 nn8 fun l1 => Kb1 (DV.c (DV.a l1) (DV.c (DV.v (AV.b false)) DV.n)) H2) (onA p1 fun b4 m1 => rdK H1 b2 nn0 fun v1 => isI .i64 v1 fun n1 => c1 [(DV.v (AV.p (AP.at b4 (Nat.add m1 nn310)))), (DV.v (AV.i .i64 n1)), (DV.v (AV.i .i64 ii2))] H1 fun d1 H2 => onV d1 fun v2 => rdR H2 b3 nn0 nn8 fun l1 => must (Nat.beq (llen l1) nn8) <| wrL H2 b1 nn0 l1 fun H3 => rdR H3 b1 nn0 nn8 fun l2 => Kb1 (DV.c (DV.a l2) (DV.c (DV.v (AV.b true)) DV.n)) H3)
def g267x2 := onA p1 fun b3 m1 => rdK H1 b3 (Nat.add m1 nn21) fun v1 => isI .i64 v1 fun n1 => c1 [(DV.v (AV.p p2)), (DV.a l1), (DV.v (AV.i .i64 n1))] H1 fun d1 H2 => onC d1 fun d2 d3 => onL d2 fun l2 => onC d3 fun d4 d5 => onV d4 fun v2 => onN d5 <| alB H2 z6 nn8 nn0 fun b4 H3 => must (Nat.beq (llen l2) nn8) <| wrL H3 b4 nn0 l2 fun H4 => ifA true true v2 AV.ni fun t1 => frcB (bnot t1) fun t2 => g267x1 t2 p1 b1 b2 b4 H4 c2 Kb1
def g267x3 := must (Nat.beq (llen l1) nn5) <| wrL H1 b1 nn0 l1 fun H2 => c1 [(DV.v (AV.p p1)), (DV.v (AV.i .i64 ii2)), (DV.v (AV.s s1))] H2 fun d1 H3 => frcB (bnot t1) fun t2 => br t2 (wrL H3 b2 nn0 z21 fun H4 => rdR H4 b2 nn0 nn8 fun l2 => Kb1 (DV.c (DV.a l2) (DV.c (DV.v (AV.b false)) DV.n)) H4) (onA p2 fun b3 m1 => rdK H3 b3 m1 fun v1 => isP v1 fun p3 => rdR H3 b1 nn0 nn5 fun l2 => g267x2 l2 p1 p3 b2 b1 H3 c2 c3 Kb1)
def g267x4 := onA p1 fun b2 m1 => rdK H1 b2 (Nat.add m1 nn21) fun v1 => isI .i64 v1 fun n3 => c1 [(DV.v (AV.p p2)), (DV.v (AV.i .i64 n1)), (DV.v (AV.i .i64 n2)), (DV.v (AV.i .i64 n3))] H1 fun d1 H2 => onC d1 fun d2 d3 => onL d2 fun l1 => onC d3 fun d4 d5 => onV d4 fun v2 => isS v2 fun s1 => onC d5 fun d6 d7 => onV d6 fun v3 => isB v3 fun t1 => onN d7 <| alB H2 z9 nn5 nn0 fun b3 H3 => g267x3 l1 t1 p1 p3 b3 b1 s1 H3 c2 c3 c4 Kb1
def g267x5 := onV d1 fun v1 => isP v1 fun p2 => lc R1 fun d2 R2 => onV d2 fun v2 => isP v2 fun p3 => ln R2 <| alB H1 z6 nn8 nn0 fun b1 H2 => onA p1 fun b2 m1 => rdK H2 b2 (Nat.add m1 nn311) fun v3 => isP v3 fun p4 => onA p2 fun b3 m2 => rdK H2 b3 (Nat.add m2 nn1) fun v4 => isI .i64 v4 fun n1 => onA p2 fun b4 m3 => rdK H2 b4 (Nat.add m3 nn2) fun v5 => isI .i64 v5 fun n2 => g267x4 n1 n2 p1 p4 p3 b1 H2 c1 c2 c3 c4 Kb1
/-- (*ap.AP).fresh -/
def g267 : G DV := fun R1 H1 Kb1 => lc R1 fun d1 R2 => onV d1 fun v1 => isP v1 fun p1 => lc R2 fun d2 R3 => g267x5 d2 R3 p1 H1 c3 c1 c4 c2 Kb1
def G267 : G DV := g267 G111 G189 G295 G296

def g144x1 := br t1 (Kb1 (DV.c (DV.v (AV.i .i64 ii7)) (DV.c (DV.v (AV.i .i64 ii4)) (DV.c (DV.v (AV.i .i64 ii1)) DV.n))) H1) (frcB (ieq n1 ii3) fun t2 => br t2 (Kb1 (DV.c (DV.v (AV.i .i64 ii9)) (DV.c (DV.v (AV.i .i64 ii8)) (DV.c (DV.v (AV.i .i64 ii1)) DV.n))) H1) (frcB (ieq n1 ii4) fun t3 => br t3 (Kb1 (DV.c (DV.v (AV.i .i64 ii11)) (DV.c (DV.v (AV.i .i64 ii8)) (DV.c (DV.v (AV.i .i64 ii2)) DV.n))) H1) (Kb1 (DV.c (DV.v (AV.i .i64 im1)) (DV.c (DV.v (AV.i .i64 ii0)) (DV.c (DV.v (AV.i .i64 im1)) DV.n))) H1)))
/-- rate.tops -/
def g144 : G DV := fun R1 H1 Kb1 => lc R1 fun d1 R2 => onV d1 fun v1 => isI .i64 v1 fun n1 => ln R2 <| frcB (ieq n1 ii1) fun t1 => br t1 (Kb1 (DV.c (DV.v (AV.i .i64 ii7)) (DV.c (DV.v (AV.i .i64 ii1)) (DV.c (DV.v (AV.i .i64 ii0)) DV.n))) H1) (frcB (ieq n1 ii2) fun t2 => g144x1 n1 t2 H1 Kb1)
def G144 : G DV := g144

/-- slices.Contains[[]int,int] -/
def g145 : G DV := fun R1 H1 Kb1 => lc R1 fun d1 R2 => onV d1 fun v1 => isS v1 fun s1 => lc R2 fun d2 R3 => onV d2 fun v2 => isI .i64 v2 fun n1 => ln R3 <| c1 [(DV.v (AV.s s1)), (DV.v (AV.i .i64 n1))] H1 fun d3 H2 => onV d3 fun v3 => isI .i64 v3 fun n2 => frcB (ile ii0 n2) fun t1 => Kb1 (DV.v (AV.b t1)) H2
def G145 : G DV := g145 G225

def z22 : T4 AV := (@T4.n AV yy16 (@T4.n AV yy17 te te te te) (@T4.n AV yy18 te te te te) (@T4.n AV yy19 te te te te) te)
def g146x1 := br t1 (alB H1 (@T4.n AV yy16 (@T4.n AV yy17 te te te te) te te te) nn2 nn0 fun b1 H2 => Kb1 (DV.v (AV.s (AS.sl b1 nn0 nn2 nn2))) H2) (jF [(10 , .bool)] (fun d1 H2 => onV d1 fun v1 => isB v1 fun t2 => br t2 (alB H2 z22 nn4 nn0 fun b1 H3 => Kb1 (DV.v (AV.s (AS.sl b1 nn0 nn4 nn4))) H3) (Kb1 (DV.v (AV.s AS.nil)) H2)) fun Kb2 => frcB (ieq n1 ii3) fun t2 => br t2 (Kb2 (DV.v (AV.b t2)) H1) (frcB (ieq n1 ii4) fun t3 => Kb2 (DV.v (AV.b t3)) H1))
/-- rate.widths -/
def g146 : G DV := fun R1 H1 Kb1 => lc R1 fun d1 R2 => onV d1 fun v1 => isI .i64 v1 fun n1 => ln R2 <| frcB (ieq n1 ii1) fun t1 => br t1 (alB H1 (@T4.n AV yy16 te te te te) nn1 nn0 fun b1 H2 => Kb1 (DV.v (AV.s (AS.sl b1 nn0 nn1 nn1))) H2) (frcB (ieq n1 ii2) fun t2 => g146x1 n1 t2 H1 Kb1)
def G146 : G DV := g146

def g67x1 := must (aveq (AV.i .i64 n1) v1) <| c1 [(DV.v (AV.s s1)), (DV.v (AV.i .i64 n2))] H1 fun d1 H2 => onV d1 fun v2 => isB v2 fun t1 => rdK H2 b1 nn4 fun v3 => must (aveq (AV.i .i64 n3) v3) <| rdK H2 b1 nn2 fun v4 => must (aveq (AV.i .i64 n4) v4) <| rdK H2 b1 nn2 fun v5 => must (aveq (AV.i .i64 n5) v5) <| rdK H2 b1 nn1 fun v6 => must (aveq (AV.i .i64 n6) v6) <| rdK H2 b1 nn1 fun v7 => must (aveq (AV.i .i64 n1) v7) <| Kb1 (DV.v (AV.b t1)) H2
def g67x2 := c1 [(DV.v (AV.i .i64 n1))] H1 fun d1 H2 => onV d1 fun v1 => isS v1 fun s1 => rdK H2 b1 nn3 fun v2 => must (aveq (AV.i .i64 n2) v2) <| rdK H2 b1 nn4 fun v3 => must (aveq (AV.i .i64 n3) v3) <| rdK H2 b1 nn2 fun v4 => must (aveq (AV.i .i64 n4) v4) <| rdK H2 b1 nn2 fun v5 => must (aveq (AV.i .i64 n5) v5) <| rdK H2 b1 nn1 fun v6 => must (aveq (AV.i .i64 n6) v6) <| rdK H2 b1 nn1 fun v7 => g67x1 v7 n7 n2 n3 n4 n5 n6 b1 s1 H2 c2 Kb1
def g67x3 := frcB (ile n1 n2) fun t1 => br t1 (rdK H1 b1 nn4 fun v1 => isI .i64 v1 fun n7 => frcB (ile ii0 n7) fun t2 => br t2 (rdK H1 b1 nn4 fun v2 => isI .i64 v2 fun n8 => frcB (ile n8 n3) fun t3 => br t3 (rdK H1 b1 nn0 fun v3 => isI .i64 v3 fun n9 => rdK H1 b1 nn3 fun v4 => isI .i64 v4 fun n10 => g67x2 n9 n10 n7 n1 n4 n5 n6 b1 H1 c1 c2 Kb1) (Kb1 (DV.v (AV.b false)) H1)) (Kb1 (DV.v (AV.b false)) H1)) (Kb1 (DV.v (AV.b false)) H1)
def g67x4 := rdK H1 b1 nn1 fun v1 => isI .i64 v1 fun n4 => frcB (ile ii0 n4) fun t1 => br t1 (rdK H1 b1 nn1 fun v2 => isI .i64 v2 fun n5 => frcB (ile n5 n1) fun t2 => br t2 (rdK H1 b1 nn2 fun v3 => isI .i64 v3 fun n6 => frcB (ile ii1 n6) fun t3 => br t3 (rdK H1 b1 nn2 fun v4 => isI .i64 v4 fun n7 => g67x3 n7 n2 n3 n6 n5 n4 b1 H1 c1 c2 Kb1) (Kb1 (DV.v (AV.b false)) H1)) (Kb1 (DV.v (AV.b false)) H1)) (Kb1 (DV.v (AV.b false)) H1)
/-- rate.Valid -/
def g67 : G DV := fun R1 H1 Kb1 => lc R1 fun d1 R2 => ln R2 <| cellsD d1 fun l1 => alK H1 l1 fun b1 H2 => rdK H2 b1 nn0 fun v1 => isI .i64 v1 fun n1 => c1 [(DV.v (AV.i .i64 n1))] H2 fun d2 H3 => onC d2 fun d3 d4 => onV d3 fun v2 => isI .i64 v2 fun n2 => onC d4 fun d5 d6 => onV d5 fun v3 => isI .i64 v3 fun n3 => onC d6 fun d7 d8 => onV d7 fun v4 => isI .i64 v4 fun n4 => onN d8 <| g67x4 n2 n3 n4 b1 H3 c3 c2 Kb1
def G67 : G DV := pure1 (g67 G144 G145 G146)

def z23 : T4 AV := (@T4.n AV yy6 (@T4.n AV yy6 (@T4.n AV yy11 (@T4.n AV yy20 te te te te) te te te) (@T4.n AV yy21 (@T4.n AV yy10 te te te te) te te te) (@T4.n AV yy10 (@T4.n AV yy20 te te te te) te te te) (@T4.n AV yy10 (@T4.n AV yy22 te te te te) te te te)) (@T4.n AV yy11 (@T4.n AV yy11 (@T4.n AV yy23 te te te te) te te te) (@T4.n AV yy6 (@T4.n AV yy21 te te te te) te te te) (@T4.n AV yy21 (@T4.n AV yy22 te te te te) te te te) (@T4.n AV yy20 (@T4.n AV yy23 te te te te) te te te)) (@T4.n AV yy11 (@T4.n AV yy10 (@T4.n AV yy20 te te te te) te te te) (@T4.n AV yy11 (@T4.n AV yy24 te te te te) te te te) (@T4.n AV yy20 (@T4.n AV yy10 te te te te) te te te) (@T4.n AV yy10 (@T4.n AV yy20 te te te te) te te te)) (@T4.n AV yy6 (@T4.n AV yy21 (@T4.n AV yy24 te te te te) te te te) (@T4.n AV yy21 (@T4.n AV yy23 te te te te) te te te) (@T4.n AV yy11 (@T4.n AV yy21 te te te te) te te te) (@T4.n AV yy21 te te te te)))
def z24 : T4 AV := (@T4.n AV yy1 (@T4.n AV yy1 te te te te) (@T4.n AV yy1 te te te te) te te)
def g300x1 := ixA (AS.sl b1 nn0 nn12 nn12) n1 (fun x => Nat.mul x nn3) fun b2 m1 => rdR H1 b2 m1 nn3 fun l1 => alB H1 z24 nn3 nn0 fun b3 H2 => must (Nat.beq (llen l1) nn3) <| wrL H2 b3 nn0 l1 fun H3 => rdK H3 b3 nn0 fun v1 => isI .i64 v1 fun n2 => rdK H3 b3 nn1 fun v2 => isI .i64 v2 fun n3 => rdK H3 b3 nn2 fun v3 => isI .i64 v3 fun n4 => Kb1 (DV.c (DV.v (AV.i .i64 n2)) (DV.c (DV.v (AV.i .i64 n3)) (DV.c (DV.v (AV.i .i64 n4)) DV.n))) H3
/-- rate.part -/
def g300 : G DV := fun R1 H1 Kb1 => lc R1 fun d1 R2 => onV d1 fun v1 => isI .i64 v1 fun n1 => ln R2 <| alB H1 z23 nn36 nn0 fun b1 H2 => g300x1 n1 b1 H2 Kb1
def G300 : G DV := g300

def z25 : T4 AV := (@T4.n AV yy25 (@T4.n AV yy26 te te te te) (@T4.n AV yy27 te te te te) (@T4.n AV yy28 te te te te) te)
def z26 : T4 AV := (@T4.n AV yy29 (@T4.n AV yy30 te te te te) (@T4.n AV yy25 te te te te) (@T4.n AV yy26 te te te te) te)
def g301x1 := rdK H1 b1 nn0 fun v1 => isI .i64 v1 fun n2 => frcB (ieq n2 ii4) fun t1 => br t1 (alB H1 z25 nn4 nn0 fun b2 H2 => ixA (AS.sl b2 nn0 nn4 nn4) n1 (fun x => x) fun b3 m1 => rdK H2 b3 m1 fun v2 => isI .i64 v2 fun n3 => Kb1 (DV.v (AV.i .i64 n3)) H2) (alB H1 z26 nn4 nn0 fun b2 H2 => ixA (AS.sl b2 nn0 nn4 nn4) n1 (fun x => x) fun b3 m1 => rdK H2 b3 m1 fun v2 => isI .i64 v2 fun n3 => Kb1 (DV.v (AV.i .i64 n3)) H2)
def g301x2 := lc R1 fun d1 R2 => ln R2 <| cellsD d1 fun l1 => alK H1 l1 fun b1 H2 => rdK H2 b1 nn0 fun v1 => isI .i64 v1 fun n1 => rdK H2 b1 nn3 fun v2 => isI .i64 v2 fun n2 => c1 [(DV.v (AV.i .i64 n1))] H2 fun d2 H3 => onV d2 fun v3 => isS v3 fun s1 => rdK H3 b1 nn3 fun v4 => must (aveq (AV.i .i64 n2) v4) <| c2 [(DV.v (AV.s s1)), (DV.v (AV.i .i64 n2))] H3 fun d3 H4 => onV d3 fun v5 => isI .i64 v5 fun n3 => g301x1 n3 b1 H4 Kb1
/-- rate.carriers -/
def g301 : G DV := fun R1 H1 Kb1 => g301x2 R1 H1 c1 c2 Kb1
def G301 : G DV := g301 G146 G225

def z27 : T4 AV := (@T4.n AV yy31 (@T4.n AV yy32 (@T4.n AV yy33 te te te te) te te te) (@T4.n AV yy34 (@T4.n AV yy35 te te te te) te te te) (@T4.n AV yy36 (@T4.n AV yy37 te te te te) te te te) (@T4.n AV yy38 te te te te))
def g275x1 := isI .i64 v1 fun n3 => onN d1 <| rdR H1 b1 nn0 nn5 fun l1 => rdK H1 b1 nn2 fun v2 => isI .i64 v2 fun n4 => c1 [(DV.a l1)] H1 fun d2 H2 => onV d2 fun v3 => isI .i64 v3 fun n5 => rdK H2 b1 nn2 fun v4 => must (aveq (AV.i .i64 n4) v4) <| wrp .i64 (imul n5 n1) fun n6 => wrp .i64 (imul n6 n4) fun n7 => wrp .i64 (imul n7 n2) fun n8 => must (bnot (ieq n3 ii0)) <| wrp .i64 (iquo n8 n3) fun n9 => Kb1 (DV.v (AV.i .i64 n9)) H2
def g275x2 := br t1 (alB H1 z27 nn8 nn0 fun b2 H2 => rdK H2 b1 nn1 fun v1 => isI .i64 v1 fun n1 => ixA (AS.sl b2 nn0 nn8 nn8) n1 (fun x => x) fun b3 m1 => rdK H2 b3 m1 fun v2 => isI .i64 v2 fun n2 => Kb1 (DV.v (AV.i .i64 n2)) H2) (rdK H1 b1 nn1 fun v1 => isI .i64 v1 fun n1 => c1 [(DV.v (AV.i .i64 n1))] H1 fun d1 H2 => onC d1 fun d2 d3 => onV d2 fun v2 => isI .i64 v2 fun n2 => onC d3 fun d4 d5 => onV d4 fun v3 => isI .i64 v3 fun n3 => onC d5 fun d6 d7 => onV d6 fun v4 => g275x1 v4 d7 n2 n3 b1 H2 c2 Kb1)
/-- rate.Bits -/
def g275 : G DV := fun R1 H1 Kb1 => lc R1 fun d1 R2 => ln R2 <| cellsD d1 fun l1 => alK H1 l1 fun b1 H2 => rdR H2 b1 nn0 nn5 fun l2 => c1 [(DV.a l2)] H2 fun d2 H3 => onV d2 fun v1 => isB v1 fun t1 => frcB (bnot t1) fun t2 => br t2 (Kb1 (DV.v (AV.i .i64 ii0)) H3) (rdK H3 b1 nn0 fun v2 => isI .i64 v2 fun n1 => frcB (ieq n1 ii1) fun t3 => g275x2 t3 b1 H3 c2 c3 Kb1)
def G275 : G DV := g275 G67 G300 G301

def g276x1 := frcB (ieq n1 ii1) fun t1 => br t1 (Kb1 (DV.v (AV.i .i64 ii200)) H1) (frcB (ieq n1 ii2) fun t2 => br t2 (wrp .i64 (imul ii40 n2) fun n3 => wrp .i64 (iadd ii320 n3) fun n4 => Kb1 (DV.v (AV.i .i64 n4)) H1) (frcB (ieq n1 ii3) fun t3 => br t3 (wrp .i64 (imul ii40 n2) fun n3 => wrp .i64 (iadd ii360 n3) fun n4 => Kb1 (DV.v (AV.i .i64 n4)) H1) (wrp .i64 (imul ii80 n2) fun n3 => wrp .i64 (iadd ii360 n3) fun n4 => Kb1 (DV.v (AV.i .i64 n4)) H1)))
def g276x2 := br t1 (Kb1 (DV.v (AV.i .i64 ii0)) H1) (rdK H1 b1 nn2 fun v1 => isI .i64 v1 fun n1 => rdK H1 b1 nn2 fun v2 => isI .i64 v2 fun n2 => must (bnot (ieq ii2 ii0)) <| asI (irem n2 ii2) fun n3 => rdK H1 b1 nn2 fun v3 => isI .i64 v3 fun n4 => wrp .i64 (isub n4 ii1) fun n5 => asI (imin n5 ii1) fun n6 => wrp .i64 (imul n3 n6) fun n7 => wrp .i64 (iadd n1 n7) fun n8 => rdK H1 b1 nn0 fun v4 => isI .i64 v4 fun n9 => g276x1 n9 n8 H1 Kb1)
/-- rate.Preamble -/
def g276 : G DV := fun R1 H1 Kb1 => lc R1 fun d1 R2 => ln R2 <| cellsD d1 fun l1 => alK H1 l1 fun b1 H2 => rdR H2 b1 nn0 nn5 fun l2 => c1 [(DV.a l2)] H2 fun d2 H3 => onV d2 fun v1 => isB v1 fun t1 => frcB (bnot t1) fun t2 => g276x2 t2 b1 H3 Kb1
def G276 : G DV := g276 G67

def z28 : T4 AV := (@T4.n AV yy19 (@T4.n AV yy33 te te te te) (@T4.n AV yy39 te te te te) te te)
def g277x1 := isI .i64 v1 fun n1 => frcB (ieq n1 ii4) fun t1 => br t1 (alB H1 z28 nn3 nn0 fun b2 H2 => rdK H2 b1 nn4 fun v2 => isI .i64 v2 fun n2 => ixA (AS.sl b2 nn0 nn3 nn3) n2 (fun x => x) fun b3 m1 => rdK H2 b3 m1 fun v3 => isI .i64 v3 fun n3 => Kb1 (DV.v (AV.i .i64 n3)) H2) (rdK H1 b1 nn4 fun v2 => isI .i64 v2 fun n2 => frcB (ieq n2 ii1) fun t2 => br t2 (Kb1 (DV.v (AV.i .i64 ii36)) H1) (Kb1 (DV.v (AV.i .i64 ii40)) H1))
/-- rate.Symbol -/
def g277 : G DV := fun R1 H1 Kb1 => lc R1 fun d1 R2 => ln R2 <| cellsD d1 fun l1 => alK H1 l1 fun b1 H2 => rdR H2 b1 nn0 nn5 fun l2 => c1 [(DV.a l2)] H2 fun d2 H3 => onV d2 fun v1 => isB v1 fun t1 => frcB (bnot t1) fun t2 => br t2 (Kb1 (DV.v (AV.i .i64 ii0)) H3) (rdK H3 b1 nn0 fun v2 => g277x1 v2 b1 H3 Kb1)
def G277 : G DV := g277 G67

def g222x1 := wrp .i64 (isub n1 ii1) fun n3 => must (bnot (ieq n2 ii0)) <| wrp .i64 (iquo n3 n2) fun n4 => rdR H1 b1 nn0 nn5 fun l1 => rdR H1 b1 nn0 nn5 fun l2 => c1 [(DV.a l1)] H1 fun d1 H2 => onV d1 fun v1 => isI .i64 v1 fun n5 => rdR H2 b1 nn0 nn5 fun l3 => must (aleq l2 l3) <| c2 [(DV.a l2)] H2 fun d2 H3 => onV d2 fun v2 => isI .i64 v2 fun n6 => wrp .i64 (imul n4 n6) fun n7 => wrp .i64 (iadd n5 n7) fun n8 => Kb1 (DV.v (AV.i .i64 n8)) H3
def g222x2 := jn (fun d2 H2 => pickK t1 (DV.v (AV.b true)) d2 fun d3 => onV d3 fun v1 => isB v1 fun t2 => br t2 (Kb1 (DV.v (AV.i .i64 ii0)) H2) (rdR H2 b1 nn0 nn5 fun l1 => c1 [(DV.a l1)] H2 fun d4 H3 => onV d4 fun v2 => isI .i64 v2 fun n2 => wrp .i64 (imul ii8 n1) fun n3 => wrp .i64 (iadd ii22 n3) fun n4 => wrp .i64 (iadd n4 n2) fun n5 => g222x1 n5 n2 b1 H3 c2 c3 Kb1)) fun Kb2 => br t1 (Kb2 DV.n H1) (onV d1 fun v1 => isI .i64 v1 fun n2 => frcB (ilt ii1048576 n2) fun t2 => Kb2 (DV.v (AV.b t2)) H1)
def g222x3 := frcB (bnot t1) fun t2 => jn (fun d1 H2 => jn (fun d2 H3 => pickK t2 (DV.v (AV.b true)) d2 fun d3 => onV d3 fun v1 => isB v1 fun t3 => jn (fun d4 H4 => g222x2 d4 n1 t3 b1 H4 c1 c2 c3 Kb1) fun Kb2 => br t3 (Kb2 DV.n H3) (Kb2 (DV.v (AV.i .i64 n1)) H3)) fun Kb2 => br t2 (Kb2 DV.n H2) (onV d1 fun v1 => isI .i64 v1 fun n2 => frcB (ilt n2 ii0) fun t3 => Kb2 (DV.v (AV.b t3)) H2)) fun Kb2 => br t2 (Kb2 DV.n H1) (Kb2 (DV.v (AV.i .i64 n1)) H1)
/-- air.Ppdu -/
def g222 : G DV := fun R1 H1 Kb1 => lc R1 fun d1 R2 => lc R2 fun d2 R3 => onV d2 fun v1 => isI .i64 v1 fun n1 => ln R3 <| cellsD d1 fun l1 => alK H1 l1 fun b1 H2 => rdR H2 b1 nn0 nn5 fun l2 => c1 [(DV.a l2)] H2 fun d3 H3 => onV d3 fun v2 => isB v2 fun t1 => g222x3 n1 t1 b1 H3 c2 c3 c4 Kb1
def G222 : G DV := pure1 (g222 G67 G275 G276 G277)

/-- ampdu.up -/
def g234 : G DV := fun R1 H1 Kb1 => lc R1 fun d1 R2 => onV d1 fun v1 => isI .i64 v1 fun n1 => ln R2 <| wrp .i64 (iadd n1 ii4) fun n2 => wrp .i64 (isub n2 ii1) fun n3 => must (bnot (ieq ii4 ii0)) <| wrp .i64 (iquo n3 ii4) fun n4 => wrp .i64 (imul n4 ii4) fun n5 => Kb1 (DV.v (AV.i .i64 n5)) H1
def G234 : G DV := g234

def g272x1 := isI .i64 v1 fun n2 => frcB (ilt n2 (Int.ofNat m1)) fun t1 => br t1 (ixA s1 n2 (fun x => x) fun b1 m2 => rdK H1 b1 m2 fun v2 => isI .i64 v2 fun n3 => c1 [(DV.v (AV.i .i64 n1))] H1 fun d1 H2 => onV d1 fun v3 => isI .i64 v3 fun n4 => wrp .i64 (iadd n4 ii4) fun n5 => asI (imax n3 ii0) fun n6 => wrp .i64 (iadd n5 n6) fun n7 => wrp .i64 (iadd n2 ii1) fun n8 => Kc1 (DV.v (AV.i .i64 n7)) (DV.v (AV.i .i64 n8)) H2) (Kb1 (DV.v (AV.i .i64 n1)) H1)
/-- ampdu.Len -/
def g272 : G DV := fun R1 H1 Kb1 => lc R1 fun d1 R2 => onV d1 fun v1 => isS v1 fun s1 => ln R2 <| lenA s1 fun m1 => lpR (failF [(3 , .int .i64), (8 , .int .i64)]) (fun Kc1 => fun d2 d3 H2 => onV d2 fun v2 => isI .i64 v2 fun n1 => onV d3 fun v3 => g272x1 v3 n1 m1 s1 H2 c1 Kb1 Kc1) (nat_lit 100000) (DV.v (AV.i .i64 ii0)) (DV.v (AV.i .i64 ii0)) H1
def G272 : G DV := g272 G234

/-- build.wrong -/
def g297 : G DV := fun R1 H1 Kb1 => lc R1 fun d1 R2 => onV d1 fun v1 => isI .i64 v1 fun n1 => ln R2 <| frcB (ilt n1 ii1) fun t1 => jn (fun d2 H2 => jn (fun d3 H3 => pickK t1 (DV.v (AV.b true)) d3 fun d4 => onV d4 fun v2 => isB v2 fun t2 => Kb1 (DV.v (AV.b t2)) H3) fun Kb2 => br t1 (Kb2 DV.n H2) (onV d2 fun v2 => isI .i64 v2 fun n2 => frcB (ilt ii4095 n2) fun t2 => Kb2 (DV.v (AV.b t2)) H2)) fun Kb2 => br t1 (Kb2 DV.n H1) (Kb2 (DV.v (AV.i .i64 n1)) H1)
def G297 : G DV := g297

def g308x1 := frcB (ilt n1 (Int.ofNat m1)) fun t1 => br t1 (ixA s1 n1 (fun x => x) fun b1 m2 => rdK H1 b1 m2 fun v1 => isI .i64 v1 fun n2 => onV d1 fun v2 => isF v2 fun m3 L1 => lookD [((nat_lit 297) , c1)] m3 (appA [(DV.v (AV.i .i64 n2))] (mapP L1)) H1 fun d2 H2 => onV d2 fun v3 => isB v3 fun t2 => br t2 (Kb1 (DV.v (AV.i .i64 n1)) H2) (wrp .i64 (iadd n1 ii1) fun n3 => Kb2 (DV.v (AV.i .i64 n3)) H2)) (Kb1 (DV.v (AV.i .i64 im1)) H1)
/-- slices.IndexFunc[[]int,int] -/
def g308 : G DV := fun R1 H1 Kb1 => lc R1 fun d1 R2 => onV d1 fun v1 => isS v1 fun s1 => lc R2 fun d2 R3 => ln R3 <| lenA s1 fun m1 => lpR (failF [(8 , .int .i64)]) (fun Kb2 => fun d3 H2 => onV d3 fun v2 => isI .i64 v2 fun n1 => g308x1 d2 n1 m1 s1 H2 c1 Kb1 Kb2) (nat_lit 100000) (DV.v (AV.i .i64 ii0)) H1
def G308 : G DV := g308 G297

/-- slices.ContainsFunc[[]int,int] -/
def g298 : G DV := fun R1 H1 Kb1 => lc R1 fun d1 R2 => onV d1 fun v1 => isS v1 fun s1 => lc R2 fun d2 R3 => ln R3 <| c1 [(DV.v (AV.s s1)), d2] H1 fun d3 H2 => onV d3 fun v2 => isI .i64 v2 fun n1 => frcB (ile ii0 n1) fun t1 => Kb1 (DV.v (AV.b t1)) H2
def G298 : G DV := g298 G308

def g270x1 := rdK H1 b1 nn1 fun v1 => isI .i64 v1 fun n2 => asI (imin n2 ii65535) fun n3 => frcB (ile n1 n3) fun t1 => br t1 (rdR H1 b2 nn0 nn5 fun l1 => rdK H1 b1 nn2 fun v2 => isI .i64 v2 fun n4 => asI (imin n4 ii54840) fun n5 => c1 [(DV.a l1), (DV.v (AV.i .i64 n1))] H1 fun d1 H2 => onV d1 fun v3 => isI .i64 v3 fun n6 => rdK H2 b1 nn2 fun v4 => must (aveq (AV.i .i64 n4) v4) <| frcB (ile n6 n5) fun t2 => Kb1 (DV.v (AV.b t2)) H2) (Kb1 (DV.v (AV.b false)) H1)
def g270x2 := jn (fun d3 H2 => jn (fun d4 H3 => pickK t1 (DV.v (AV.b true)) d4 fun d5 => onV d5 fun v1 => isB v1 fun t2 => br t2 (Kb1 (DV.v (AV.b false)) H3) (c1 [(DV.v (AV.s s1))] H3 fun d6 H4 => onV d6 fun v2 => isI .i64 v2 fun n1 => g270x1 n1 b1 b2 H4 c2 Kb1)) fun Kb2 => br t1 (Kb2 DV.n H2) (onV d1 fun v1 => onV d3 fun v2 => isI .i64 v1 fun n1 => isI .i64 v2 fun n2 => frcB (ilt n2 n1) fun t2 => Kb2 (DV.v (AV.b t2)) H2)) fun Kb2 => br t1 (Kb2 DV.n H1) (onV d2 fun v1 => isI .i64 v1 fun n1 => asI (imin n1 ii64) fun n2 => Kb2 (DV.v (AV.i .i64 n2)) H1)
def g270x3 := jn (fun d2 H2 => jn (fun d3 H3 => jn (fun d4 H4 => g270x2 d2 d4 t1 b1 b2 s1 H4 c1 c2 Kb1) fun Kb2 => br t1 (Kb2 DV.n H3) (onV d3 fun v1 => isP v1 fun p1 => onA p1 fun b3 m1 => rdK H3 b3 m1 fun v2 => isI .i64 v2 fun n1 => Kb2 (DV.v (AV.i .i64 n1)) H3)) fun Kb2 => br t1 (Kb2 DV.n H2) (Kb2 (DV.v (AV.p (AP.at b1 nn0))) H2)) fun Kb2 => br t1 (Kb2 DV.n H1) (onV d1 fun v1 => isS v1 fun s2 => lenA s2 fun m1 => Kb2 (DV.v (AV.i .i64 (Int.ofNat m1))) H1)
def g270x4 := jn (fun d1 H2 => jn (fun d2 H3 => pickK t1 (DV.v (AV.b true)) d2 fun d3 => onV d3 fun v1 => isB v1 fun t2 => jn (fun d4 H4 => g270x3 d4 t2 b1 b2 s1 H4 c1 c2 Kb1) fun Kb2 => br t2 (Kb2 DV.n H3) (Kb2 (DV.v (AV.s s1)) H3)) fun Kb2 => br t1 (Kb2 DV.n H2) (c3 [d1, (DV.v (AV.fn (nat_lit 297) []))] H2 fun d2 H3 => onV d2 fun v1 => isB v1 fun t2 => Kb2 (DV.v (AV.b t2)) H3)) fun Kb2 => br t1 (Kb2 DV.n H1) (Kb2 (DV.v (AV.s s1)) H1)
def g270x5 := jn (fun d1 H2 => jn (fun d2 H3 => jn (fun d3 H4 => pickK t1 (DV.v (AV.b true)) d3 fun d4 => onV d4 fun v1 => isB v1 fun t2 => g270x4 t2 b1 b2 s1 H4 c1 c2 c3 Kb1) fun Kb2 => br t1 (Kb2 DV.n H3) (onV d2 fun v1 => isI .i64 v1 fun n1 => frcB (ieq n1 ii0) fun t2 => Kb2 (DV.v (AV.b t2)) H3)) fun Kb2 => br t1 (Kb2 DV.n H2) (onV d1 fun v1 => isS v1 fun s2 => lenA s2 fun m1 => Kb2 (DV.v (AV.i .i64 (Int.ofNat m1))) H2)) fun Kb2 => br t1 (Kb2 DV.n H1) (Kb2 (DV.v (AV.s s1)) H1)
/-- build.Fits -/
def g270 : G DV := fun R1 H1 Kb1 => lc R1 fun d1 R2 => lc R2 fun d2 R3 => lc R3 fun d3 R4 => onV d3 fun v1 => isS v1 fun s1 => ln R4 <| cellsD d1 fun l1 => alK H1 l1 fun b1 H2 => cellsD d2 fun l2 => alK H2 l2 fun b2 H3 => rdR H3 b1 nn0 nn5 fun l3 => c1 [(DV.a l3)] H3 fun d4 H4 => onV d4 fun v2 => isB v2 fun t1 => frcB (bnot t1) fun t2 => g270x5 t2 b2 b1 s1 H4 c3 c2 c4 Kb1
def G270 : G DV := g270 G67 G222 G272 G298

def g268x1 := jn (fun d2 H2 => jn (fun d3 H3 => pickK t1 d3 (DV.v (AV.b false)) fun d4 => onV d4 fun v1 => isB v1 fun t2 => br t2 (Kb1 (DV.c (DV.v (AV.i .i64 ii1)) (DV.c (DV.v (AV.b false)) DV.n)) H3) (Kb1 (DV.c (DV.v (AV.i .i64 ii0)) (DV.c (DV.v (AV.b false)) DV.n)) H3)) fun Kb2 => br t1 (onV d2 fun v1 => isB v1 fun t2 => frcB (bnot t2) fun t3 => Kb2 (DV.v (AV.b t3)) H2) (Kb2 DV.n H2)) fun Kb2 => br t1 (c1 [d1] H1 fun d2 H2 => onV d2 fun v1 => isB v1 fun t2 => Kb2 (DV.v (AV.b t2)) H2) (Kb2 DV.n H1)
def g268x2 := jn (fun d1 H2 => jn (fun d2 H3 => jn (fun d3 H4 => g268x1 d3 t1 H4 c1 Kb1) fun Kb2 => br t1 (onV d2 fun v1 => isP v1 fun p1 => onA p1 fun b1 m1 => rdK H3 b1 m1 fun v2 => isI .i64 v2 fun n1 => Kb2 (DV.v (AV.i .i64 n1)) H3) (Kb2 DV.n H3)) fun Kb2 => br t1 (onV d1 fun v1 => isS v1 fun s2 => ixA s2 ii0 (fun x => x) fun b1 m1 => Kb2 (DV.v (AV.p (AP.at b1 m1))) H2) (Kb2 DV.n H2)) fun Kb2 => br t1 (Kb2 (DV.v (AV.s s1)) H1) (Kb2 DV.n H1)
def g268x3 := br t1 (rdR H1 b1 nn0 nn5 fun l1 => rdR H1 b2 nn0 nn3 fun l2 => natK n1 fun m1 => slA s1 nn0 m1 (fun x => x) fun s2 => c1 [(DV.a l1), (DV.a l2), (DV.v (AV.s s2))] H1 fun d1 H2 => onV d1 fun v1 => isB v1 fun t2 => br t2 (Kb1 (DV.c (DV.v (AV.i .i64 n1)) (DV.c (DV.v (AV.b true)) DV.n)) H2) (wrp .i64 (isub n1 ii1) fun n2 => Kb2 (DV.v (AV.i .i64 n2)) H2)) (lenA s1 fun m1 => frcB (ilt ii0 (Int.ofNat m1)) fun t2 => jn (fun d1 H2 => jn (fun d2 H3 => pickK t2 d2 (DV.v (AV.b false)) fun d3 => onV d3 fun v1 => isB v1 fun t3 => g268x2 t3 s1 H3 c2 Kb1) fun Kb3 => br t2 (c3 [d1] H2 fun d2 H3 => onV d2 fun v1 => isB v1 fun t3 => Kb3 (DV.v (AV.b t3)) H3) (Kb3 DV.n H2)) fun Kb3 => br t2 (rdR H1 b1 nn0 nn5 fun l1 => Kb3 (DV.a l1) H1) (Kb3 DV.n H1))
def g268x4 := lc R1 fun d2 R2 => lc R2 fun d3 R3 => onV d3 fun v1 => isS v1 fun s1 => ln R3 <| cellsD d1 fun l1 => alK H1 l1 fun b1 H2 => cellsD d2 fun l2 => alK H2 l2 fun b2 H3 => lenA s1 fun m1 => asI (imin (Int.ofNat m1) ii64) fun n1 => lpR (failF [(8 , .int .i64)]) (fun Kb2 => fun d4 H4 => onV d4 fun v2 => isI .i64 v2 fun n2 => frcB (ilt ii0 n2) fun t1 => g268x3 n2 t1 b1 b2 s1 H4 c1 c2 c3 Kb1 Kb2) (nat_lit 100000) (DV.v (AV.i .i64 n1)) H3
/-- build.Choose -/
def g268 : G DV := fun R1 H1 Kb1 => lc R1 fun d1 R2 => g268x4 d1 R2 H1 c2 c3 c1 Kb1
def G268 : G DV := g268 G67 G270 G297

/-- qos.Len -/
def g271 : G DV := fun R1 H1 Kb1 => lc R1 fun d1 R2 => onV d1 fun v1 => isI .i64 v1 fun n1 => ln R2 <| asI (imax n1 ii0) fun n2 => wrp .i64 (iadd ii26 n2) fun n3 => Kb1 (DV.v (AV.i .i64 n3)) H1
def G271 : G DV := g271

def g269x1 := must (Nat.beq (llen l1) nn8) <| wrL H1 b1 nn0 l1 fun H2 => rdK H2 b1 nn4 fun v1 => isS v1 fun s2 => lenA s2 fun m1 => c1 [(DV.v (AV.i .i64 (Int.ofNat m1)))] H2 fun d1 H3 => onV d1 fun v2 => isI .i64 v2 fun n2 => alB H3 (@T4.n AV (AV.i .i64 n2) te te te te) nn1 nn0 fun b2 H4 => appD nn1 nn8 s1 (AS.sl b2 nn0 nn1 nn1) H4 fun s3 H5 => wrp .i64 (iadd n1 ii1) fun n3 => Kc1 (DV.v (AV.s s3)) (DV.v (AV.i .i64 n3)) H5
def g269x2 := lenA s1 fun m1 => lpR (failF [(3 , .slice), (8 , .int .i64)]) (fun Kc1 => fun d1 d2 H2 => onV d1 fun v1 => isS v1 fun s2 => onV d2 fun v2 => isI .i64 v2 fun n1 => frcB (ilt n1 (Int.ofNat m1)) fun t1 => br t1 (ixA s1 n1 (fun x => Nat.mul x nn8) fun b1 m2 => rdR H2 b1 m2 nn8 fun l1 => alB H2 z6 nn8 nn0 fun b2 H3 => g269x1 l1 n1 b2 s2 H3 c1 Kc1) (Kb1 (DV.v (AV.s s2)) H2)) (nat_lit 100000) (DV.v (AV.s AS.nil)) (DV.v (AV.i .i64 ii0)) H1
/-- ap.lens -/
def g269 : G DV := fun R1 H1 Kb1 => lc R1 fun d1 R2 => onV d1 fun v1 => isS v1 fun s1 => ln R2 <| g269x2 s1 H1 c1 Kb1
def G269 : G DV := g269 G271

def g218x1 := onC d1 fun d2 d3 => onL d2 fun l1 => onC d3 fun d4 d5 => onV d4 fun v1 => isB v1 fun t1 => onN d5 <| alB H1 z6 nn8 nn0 fun b1 H2 => must (Nat.beq (llen l1) nn8) <| wrL H2 b1 nn0 l1 fun H3 => frcB (bnot t1) fun t2 => br t2 (Kb1 (DV.v (AV.s s1)) H3) (rdR H3 b1 nn0 nn8 fun l2 => must (Nat.beq (llen l2) nn8) <| alK H3 (lapp l2 []) fun b2 H4 => appD nn8 nn80 s1 (AS.sl b2 nn0 nn1 nn1) H4 fun s2 H5 => Kb2 (DV.v (AV.s s2)) H5)
def g218x2 := rdR H1 b1 nn0 nn5 fun l3 => must (aleq l1 l3) <| alB H1 (@T4.n AV (AV.i .i64 n1) te te te te) nn1 nn0 fun b3 H2 => appD nn1 nn8 s1 (AS.sl b3 nn0 nn1 nn1) H2 fun s3 H3 => rdR H3 b2 nn0 nn3 fun l4 => must (aleq l2 l4) <| rdR H3 b1 nn0 nn5 fun l5 => must (aleq l1 l5) <| c1 [(DV.a l1), (DV.a l2), (DV.v (AV.s s3))] H3 fun d1 H4 => onV d1 fun v1 => isB v1 fun t1 => br t1 (Ka1 H4) (Kb1 (DV.v (AV.s s2)) H4)
def g218x3 := rdR H1 b1 nn0 nn5 fun l1 => rdR H1 b2 nn0 nn3 fun l2 => c1 [(DV.v (AV.s s1))] H1 fun d1 H2 => onV d1 fun v1 => isS v1 fun s2 => rdR H2 b2 nn0 nn3 fun l3 => must (aleq l2 l3) <| rdR H2 b1 nn0 nn5 fun l4 => must (aleq l1 l4) <| c2 [(DV.v (AV.i .i64 ii1500))] H2 fun d2 H3 => onV d2 fun v2 => isI .i64 v2 fun n1 => rdR H3 b2 nn0 nn3 fun l5 => must (aleq l2 l5) <| g218x2 l1 l2 n1 b1 b2 s2 s1 H3 c3 Ka1 Kb1
def g218x4 := lpR (failF [(13 , .slice)]) (fun Kb2 => fun d1 H2 => onV d1 fun v1 => isS v1 fun s2 => jF [] (fun H3 => c1 [(DV.v (AV.p p1)), (DV.v (AV.p p2)), (DV.v (AV.p p3))] H3 fun d2 H4 => g218x1 d2 s2 H4 Kb1 Kb2) fun Ka1 => onA p3 fun b3 m1 => rdK H2 b3 m1 fun v2 => isP v2 fun p4 => c2 [(DV.v (AV.p p4))] H2 fun d2 H3 => onV d2 fun v3 => isI .i64 v3 fun n1 => frcB (ilt ii0 n1) fun t1 => br t1 (g218x3 b1 b2 s2 H3 c3 c4 c5 Ka1 Kb1) (Kb1 (DV.v (AV.s s2)) H3)) (nat_lit 100000) (DV.v (AV.s s1)) H1
def g218x5 := jn (fun d2 H2 => pickK t1 (DV.v (AV.b true)) d2 fun d3 => onV d3 fun v1 => isB v1 fun t3 => br t3 (natK n1 fun m1 => slA s1 nn0 m1 (fun x => Nat.mul x nn8) fun s2 => Kb1 (DV.c (DV.v (AV.s s2)) (DV.c (DV.v (AV.b t2)) DV.n)) H2) (jF [(13 , .slice)] (fun d4 H3 => onV d4 fun v2 => isS v2 fun s2 => Kb1 (DV.c (DV.v (AV.s s2)) (DV.c (DV.v (AV.b true)) DV.n)) H3) fun Kb2 => g218x4 p1 p2 p3 b1 b2 s1 H2 c1 c2 c3 c4 c5 Kb2)) fun Kb2 => br t1 (Kb2 DV.n H1) (onV d1 fun v1 => isB v1 fun t3 => frcB (bnot t3) fun t4 => Kb2 (DV.v (AV.b t4)) H1)
def g218x6 := rdR H1 b1 nn0 nn5 fun l3 => must (aleq l1 l3) <| c1 [(DV.a l1), (DV.a l2), (DV.v (AV.s s1))] H1 fun d1 H2 => onC d1 fun d2 d3 => onV d2 fun v1 => isI .i64 v1 fun n1 => onC d3 fun d4 d5 => onV d4 fun v2 => isB v2 fun t1 => onN d5 <| lenA s2 fun m1 => frcB (ilt n1 (Int.ofNat m1)) fun t2 => jn (fun d6 H3 => g218x5 d6 n1 t2 t1 p1 p2 p3 b1 b2 s2 H3 c2 c3 c4 c5 c6 Kb1) fun Kb2 => br t2 (Kb2 DV.n H2) (Kb2 (DV.v (AV.b t1)) H2)
def g218x7 := onV d1 fun v1 => isS v1 fun s1 => br t1 (slA s1 nn0 nn1 (fun x => Nat.mul x nn8) fun s2 => Kb1 (DV.c (DV.v (AV.s s2)) (DV.c (DV.v (AV.b false)) DV.n)) H1) (rdR H1 b1 nn0 nn5 fun l1 => rdR H1 b2 nn0 nn3 fun l2 => c1 [(DV.v (AV.s s1))] H1 fun d2 H2 => onV d2 fun v2 => isS v2 fun s2 => rdR H2 b2 nn0 nn3 fun l3 => must (aleq l2 l3) <| g218x6 l1 l2 p1 p2 p3 b1 b2 s2 s1 H2 c2 c3 c4 c1 c5 c6 Kb1)
def g218x8 := onC d1 fun d2 d3 => onV d2 fun v1 => isB v1 fun t1 => onN d3 <| alB H1 z6 nn8 nn0 fun b1 H2 => must (Nat.beq (llen l1) nn8) <| wrL H2 b1 nn0 l1 fun H3 => frcB (bnot t1) fun t2 => br t2 (Kb1 (DV.c (DV.v (AV.s AS.nil)) (DV.c (DV.v (AV.b false)) DV.n)) H3) (rdR H3 b1 nn0 nn8 fun l2 => must (Nat.beq (llen l2) nn8) <| alK H3 (lapp l2 []) fun b2 H4 => appD nn8 nn80 s1 (AS.sl b2 nn0 nn1 nn1) H4 fun s2 H5 => Kb2 (DV.v (AV.s s2)) H5)
def g218x9 := c1 [(DV.v (AV.p p1))] H1 fun d1 H2 => onV d1 fun v1 => isS v1 fun s1 => jF [(13 , .slice)] (fun d2 H3 => g218x7 d2 t1 p2 p3 p4 b1 b2 H3 c2 c3 c4 c5 c6 c7 Kb1) fun Kb2 => lenA s1 fun m1 => frcB (ieq (Int.ofNat m1) ii0) fun t2 => br t2 (c4 [(DV.v (AV.p p2)), (DV.v (AV.p p3)), (DV.v (AV.p p4))] H2 fun d2 H3 => onC d2 fun d3 d4 => onL d3 fun l1 => g218x8 l1 d4 s1 H3 Kb1 Kb2) (Kb2 (DV.v (AV.s s1)) H2)
def g218x10 := isI .i64 v1 fun n3 => rdK H1 b1 (Nat.add (Nat.add m1 nn11) nn20) fun v2 => must (aveq (AV.i .i64 n1) v2) <| rdK H1 b2 (Nat.add m2 nn14) fun v3 => must (aveq (AV.i .i64 n2) v3) <| alB H1 z24 nn3 nn0 fun b4 H2 => wrL H2 b4 nn0 [(AV.i .i64 n3), (AV.i .i64 n2), (AV.i .i64 n1)] fun H3 => onA p1 fun b5 m3 => rdK H3 b5 m3 fun v4 => isP v4 fun p4 => g218x9 t1 p4 p2 p3 p1 b3 b4 H3 c1 c2 c3 c4 c5 c6 c7 Kb1
def g218x11 := alK H1 l1 fun b1 H2 => onA p1 fun b2 m1 => rdK H2 b2 m1 fun v1 => isP v1 fun p4 => onA p2 fun b3 m2 => rdK H2 b3 (Nat.add m2 nn14) fun v2 => isI .i64 v2 fun n1 => onA p3 fun b4 m3 => rdK H2 b4 (Nat.add (Nat.add m3 nn11) nn20) fun v3 => isI .i64 v3 fun n2 => c1 [(DV.v (AV.p p4))] H2 fun d1 H3 => onV d1 fun v4 => g218x10 v4 n2 n1 m3 m2 t1 p1 p2 p3 b4 b3 b1 H3 c2 c3 c4 c5 c6 c7 c8 Kb1
/-- (*ap.AP).choose -/
def g218 : G DV := fun R1 H1 Kb1 => lc R1 fun d1 R2 => onV d1 fun v1 => isP v1 fun p1 => lc R2 fun d2 R3 => onV d2 fun v2 => isP v2 fun p2 => lc R3 fun d3 R4 => onV d3 fun v3 => isP v3 fun p3 => lc R4 fun d4 R5 => lc R5 fun d5 R6 => onV d5 fun v4 => isB v4 fun t1 => ln R6 <| cellsD d4 fun l1 => g218x11 l1 t1 p3 p1 p2 H1 c1 c2 c6 c5 c4 c3 c8 c7 Kb1
def G218 : G DV := g218 G130 G134 G208 G267 G268 G269 G270 G271

def g219x1 := asI (idiv n1 (ip2 ii8)) fun n4 => wrp .u8 n4 fun n5 => alB H1 (@T4.n AV (AV.i .u8 n2) (@T4.n AV (AV.i .u8 n5) te te te te) (@T4.n AV (AV.i .u8 n3) te te te te) (@T4.n AV yy0 te te te te) te) nn4 nn0 fun b2 H2 => appD nn1 nn1 s1 (AS.sl b2 nn0 nn4 nn4) H2 fun s2 H3 => rdK H3 b1 nn23 fun v1 => isS v1 fun s3 => appD nn1 nn1 s2 s3 H3 fun s4 H4 => Kb1 (DV.c (DV.v (AV.s s4)) (DV.c (DV.v AV.ni) DV.n)) H4
def g219x2 := br t1 (ixA (AS.sl b1 nn0 nn3 nn3) n1 (fun x => Nat.mul x nn6) fun b3 m1 => rdR H1 b3 m1 nn6 fun l1 => alB H1 z0 nn6 nn0 fun b4 H2 => must (Nat.beq (llen l1) nn6) <| wrL H2 b4 nn0 l1 fun H3 => appD nn1 nn1 s1 (AS.sl b4 nn0 nn6 nn6) H3 fun s2 H4 => wrp .i64 (iadd n1 ii1) fun n3 => Kc1 (DV.v (AV.s s2)) (DV.v (AV.i .i64 n3)) H4) (rdK H1 b2 nn19 fun v1 => isI .i64 v1 fun n3 => wrp .i64 (imul n3 ii16) fun n4 => wrp .u8 n4 fun n5 => g219x1 n4 n5 n2 b2 s1 H1 Kb1)
def g219x3 := must (Nat.beq (llen l1) nn6) <| must (Nat.beq (llen l2) nn6) <| alK H1 (lapp l3 (lapp l1 (lapp l2 []))) fun b3 H2 => lenA (AS.sl b3 nn0 nn3 nn3) fun m1 => lpR (failF [(6 , .slice), (60 , .int .i64)]) (fun Kc1 => fun d1 d2 H3 => onV d1 fun v1 => isS v1 fun s1 => onV d2 fun v2 => isI .i64 v2 fun n2 => frcB (ilt n2 (Int.ofNat m1)) fun t1 => g219x2 n2 n1 t1 b3 b1 s1 H3 Kb1 Kc1) (nat_lit 100000) (DV.v (AV.s (AS.sl b2 nn0 nn4 nn4))) (DV.v (AV.i .i64 ii0)) H2
def g219x4 := jF [(5 , .int .u8)] (fun d1 H2 => onV d1 fun v1 => isI .u8 v1 fun n3 => alB H2 (@T4.n AV yy40 (@T4.n AV (AV.i .u8 n1) te te te te) (@T4.n AV yy0 te te te te) (@T4.n AV yy0 te te te te) te) nn4 nn0 fun b2 H3 => rdR H3 b1 nn0 nn6 fun l1 => rdR H3 b1 nn6 nn6 fun l2 => rdR H3 b1 nn12 nn6 fun l3 => must (Nat.beq (llen l1) nn6) <| g219x3 l2 l3 l1 n3 b1 b2 H3 Kb1) fun Kb2 => rdK H1 b1 nn22 fun v1 => isB v1 fun t1 => br t1 (asI (bits .or .u8 n2 ii16) fun n3 => Kb2 (DV.v (AV.i .u8 n3)) H1) (Kb2 (DV.v (AV.i .u8 n2)) H1)
def g219x5 := jF [(4 , .int .u8)] (fun d1 H2 => onV d1 fun v1 => isI .u8 v1 fun n2 => jF [(4 , .int .u8)] (fun d2 H3 => onV d2 fun v2 => isI .u8 v2 fun n3 => g219x4 n3 n1 b1 H3 Kb1) fun Kb2 => rdK H2 b1 nn21 fun v2 => isB v2 fun t1 => br t1 (asI (bits .or .u8 n2 ii32) fun n3 => Kb2 (DV.v (AV.i .u8 n3)) H2) (Kb2 (DV.v (AV.i .u8 n2)) H2)) fun Kb2 => rdK H1 b1 nn20 fun v1 => isB v1 fun t1 => br t1 (asI (bits .or .u8 ii2 ii8) fun n2 => Kb2 (DV.v (AV.i .u8 n2)) H1) (Kb2 (DV.v (AV.i .u8 ii2)) H1)
def g219x6 := jn (fun d2 H2 => jn (fun d3 H3 => pickK t1 (DV.v (AV.b true)) d3 fun d4 => onV d4 fun v1 => isB v1 fun t2 => br t2 (Kb1 (DV.c (DV.v (AV.s AS.nil)) (DV.c (DV.v (AV.er (nat_lit 2))) DV.n)) H3) (rdK H3 b1 nn18 fun v2 => isI .i64 v2 fun n1 => wrp .u8 n1 fun n2 => g219x5 n2 b1 H3 Kb1)) fun Kb2 => br t1 (Kb2 DV.n H2) (onV d2 fun v1 => isI .i64 v1 fun n1 => frcB (ilt ii1500 n1) fun t2 => Kb2 (DV.v (AV.b t2)) H2)) fun Kb2 => br t1 (Kb2 DV.n H1) (onV d1 fun v1 => isS v1 fun s1 => lenA s1 fun m1 => Kb2 (DV.v (AV.i .i64 (Int.ofNat m1))) H1)
def g219x7 := jn (fun d2 H2 => pickK t1 (DV.v (AV.b true)) d2 fun d3 => onV d3 fun v1 => isB v1 fun t2 => jn (fun d4 H3 => jn (fun d5 H4 => g219x6 d5 t2 b1 H4 Kb1) fun Kb2 => br t2 (Kb2 DV.n H3) (onV d4 fun v2 => isP v2 fun p1 => onA p1 fun b2 m1 => rdK H3 b2 m1 fun v3 => isS v3 fun s1 => Kb2 (DV.v (AV.s s1)) H3)) fun Kb2 => br t2 (Kb2 DV.n H2) (Kb2 (DV.v (AV.p (AP.at b1 nn23))) H2)) fun Kb2 => br t1 (Kb2 DV.n H1) (onV d1 fun v1 => isI .i64 v1 fun n1 => frcB (ile ii4096 n1) fun t2 => Kb2 (DV.v (AV.b t2)) H1)
def g219x8 := jn (fun d2 H2 => pickK t1 (DV.v (AV.b true)) d2 fun d3 => onV d3 fun v1 => isB v1 fun t2 => jn (fun d4 H3 => jn (fun d5 H4 => g219x7 d5 t2 b1 H4 Kb1) fun Kb2 => br t2 (Kb2 DV.n H3) (onV d4 fun v2 => isP v2 fun p1 => onA p1 fun b2 m1 => rdK H3 b2 m1 fun v3 => isI .i64 v3 fun n1 => Kb2 (DV.v (AV.i .i64 n1)) H3)) fun Kb2 => br t2 (Kb2 DV.n H2) (Kb2 (DV.v (AV.p (AP.at b1 nn19))) H2)) fun Kb2 => br t1 (Kb2 DV.n H1) (onV d1 fun v1 => isI .i64 v1 fun n1 => frcB (ilt n1 ii0) fun t2 => Kb2 (DV.v (AV.b t2)) H1)
def g219x9 := jn (fun d2 H2 => pickK t1 (DV.v (AV.b true)) d2 fun d3 => onV d3 fun v1 => isB v1 fun t2 => jn (fun d4 H3 => jn (fun d5 H4 => g219x8 d5 t2 b1 H4 Kb1) fun Kb2 => br t2 (Kb2 DV.n H3) (onV d4 fun v2 => isP v2 fun p1 => onA p1 fun b2 m1 => rdK H3 b2 m1 fun v3 => isI .i64 v3 fun n1 => Kb2 (DV.v (AV.i .i64 n1)) H3)) fun Kb2 => br t2 (Kb2 DV.n H2) (Kb2 (DV.v (AV.p (AP.at b1 nn19))) H2)) fun Kb2 => br t1 (Kb2 DV.n H1) (onV d1 fun v1 => isI .i64 v1 fun n1 => frcB (ile ii8 n1) fun t2 => Kb2 (DV.v (AV.b t2)) H1)
def g219x10 := lc R1 fun d1 R2 => ln R2 <| cellsD d1 fun l1 => alK H1 l1 fun b1 H2 => rdK H2 b1 nn18 fun v1 => isI .i64 v1 fun n1 => frcB (ilt n1 ii0) fun t1 => jn (fun d2 H3 => jn (fun d3 H4 => g219x9 d3 t1 b1 H4 Kb1) fun Kb2 => br t1 (Kb2 DV.n H3) (onV d2 fun v2 => isP v2 fun p1 => onA p1 fun b2 m1 => rdK H3 b2 m1 fun v3 => isI .i64 v3 fun n2 => Kb2 (DV.v (AV.i .i64 n2)) H3)) fun Kb2 => br t1 (Kb2 DV.n H2) (Kb2 (DV.v (AV.p (AP.at b1 nn18))) H2)
/-- qos.Bytes -/
def g219 : G DV := fun R1 H1 Kb1 => g219x10 R1 H1 Kb1
def G219 : G DV := g219

/-- math/bits.Reverse8 -/
def g309 : G DV := fun R1 H1 Kb1 => lc R1 fun d1 R2 => onV d1 fun v1 => isI .u8 v1 fun n1 => ln R2 <| rng n1 (ByteArray.size ⟨#[0, 128, 64, 192, 32, 160, 96, 224, 16, 144, 80, 208, 48, 176, 112, 240, 8, 136, 72, 200, 40, 168, 104, 232, 24, 152, 88, 216, 56, 184, 120, 248, 4, 132, 68, 196, 36, 164, 100, 228, 20, 148, 84, 212, 52, 180, 116, 244, 12, 140, 76, 204, 44, 172, 108, 236, 28, 156, 92, 220, 60, 188, 124, 252, 2, 130, 66, 194, 34, 162, 98, 226, 18, 146, 82, 210, 50, 178, 114, 242, 10, 138, 74, 202, 42, 170, 106, 234, 26, 154, 90, 218, 58, 186, 122, 250, 6, 134, 70, 198, 38, 166, 102, 230, 22, 150, 86, 214, 54, 182, 118, 246, 14, 142, 78, 206, 46, 174, 110, 238, 30, 158, 94, 222, 62, 190, 126, 254, 1, 129, 65, 193, 33, 161, 97, 225, 17, 145, 81, 209, 49, 177, 113, 241, 9, 137, 73, 201, 41, 169, 105, 233, 25, 153, 89, 217, 57, 185, 121, 249, 5, 133, 69, 197, 37, 165, 101, 229, 21, 149, 85, 213, 53, 181, 117, 245, 13, 141, 77, 205, 45, 173, 109, 237, 29, 157, 93, 221, 61, 189, 125, 253, 3, 131, 67, 195, 35, 163, 99, 227, 19, 147, 83, 211, 51, 179, 115, 243, 11, 139, 75, 203, 43, 171, 107, 235, 27, 155, 91, 219, 59, 187, 123, 251, 7, 135, 71, 199, 39, 167, 103, 231, 23, 151, 87, 215, 55, 183, 119, 247, 15, 143, 79, 207, 47, 175, 111, 239, 31, 159, 95, 223, 63, 191, 127, 255]⟩) <| asI (strAt ⟨#[0, 128, 64, 192, 32, 160, 96, 224, 16, 144, 80, 208, 48, 176, 112, 240, 8, 136, 72, 200, 40, 168, 104, 232, 24, 152, 88, 216, 56, 184, 120, 248, 4, 132, 68, 196, 36, 164, 100, 228, 20, 148, 84, 212, 52, 180, 116, 244, 12, 140, 76, 204, 44, 172, 108, 236, 28, 156, 92, 220, 60, 188, 124, 252, 2, 130, 66, 194, 34, 162, 98, 226, 18, 146, 82, 210, 50, 178, 114, 242, 10, 138, 74, 202, 42, 170, 106, 234, 26, 154, 90, 218, 58, 186, 122, 250, 6, 134, 70, 198, 38, 166, 102, 230, 22, 150, 86, 214, 54, 182, 118, 246, 14, 142, 78, 206, 46, 174, 110, 238, 30, 158, 94, 222, 62, 190, 126, 254, 1, 129, 65, 193, 33, 161, 97, 225, 17, 145, 81, 209, 49, 177, 113, 241, 9, 137, 73, 201, 41, 169, 105, 233, 25, 153, 89, 217, 57, 185, 121, 249, 5, 133, 69, 197, 37, 165, 101, 229, 21, 149, 85, 213, 53, 181, 117, 245, 13, 141, 77, 205, 45, 173, 109, 237, 29, 157, 93, 221, 61, 189, 125, 253, 3, 131, 67, 195, 35, 163, 99, 227, 19, 147, 83, 211, 51, 179, 115, 243, 11, 139, 75, 203, 43, 171, 107, 235, 27, 155, 91, 219, 59, 187, 123, 251, 7, 135, 71, 199, 39, 167, 103, 231, 23, 151, 87, 215, 55, 183, 119, 247, 15, 143, 79, 207, 47, 175, 111, 239, 31, 159, 95, 223, 63, 191, 127, 255]⟩ (itn n1)) fun n2 => Kb1 (DV.v (AV.i .u8 n2)) H1
def G309 : G DV := g309

def g299x1 := asI (bits .xor .u8 n1 n2) fun n6 => wrp .u8 (imul n3 (ip2 ii1)) fun n7 => jF [(3 , .int .u8)] (fun d1 H2 => onV d1 fun v1 => isI .u8 v1 fun n8 => asI (idiv n4 (ip2 ii1)) fun n9 => wrp .i64 (iadd n5 ii1) fun n10 => Kd1 (DV.v (AV.i .u8 n8)) (DV.v (AV.i .u8 n9)) (DV.v (AV.i .i64 n10)) H2) fun Kb1 => frcB (ieq n6 ii1) fun t1 => br t1 (asI (bits .xor .u8 n7 ii7) fun n8 => Kb1 (DV.v (AV.i .u8 n8)) H1) (Kb1 (DV.v (AV.i .u8 n7)) H1)
def g299x2 := lpR (failF [(3 , .int .u8), (5 , .int .u8), (13 , .int .i64)]) (fun Kd1 => fun d1 d2 d3 H2 => onV d1 fun v1 => isI .u8 v1 fun n4 => onV d2 fun v2 => isI .u8 v2 fun n5 => onV d3 fun v3 => isI .i64 v3 fun n6 => frcB (ilt n6 ii8) fun t1 => br t1 (asI (idiv n4 (ip2 ii7)) fun n7 => asI (bits .and .u8 n5 ii1) fun n8 => g299x1 n7 n8 n4 n5 n6 H2 Kd1) (wrp .i64 (iadd n1 ii1) fun n7 => Kc1 (DV.v (AV.i .u8 n4)) (DV.v (AV.i .i64 n7)) H2)) (nat_lit 100000) (DV.v (AV.i .u8 n2)) (DV.v (AV.i .u8 n3)) (DV.v (AV.i .i64 ii0)) H1
def g299x3 := lpR (failF [(3 , .int .u8), (9 , .int .i64)]) (fun Kc1 => fun d1 d2 H2 => onV d1 fun v1 => isI .u8 v1 fun n1 => onV d2 fun v2 => isI .i64 v2 fun n2 => frcB (ilt n2 (Int.ofNat m1)) fun t1 => br t1 (ixA s1 n2 (fun x => x) fun b1 m2 => rdK H2 b1 m2 fun v3 => isI .u8 v3 fun n3 => g299x2 n2 n1 n3 H2 Kc1) (asI (bits .xor .u8 (if IntKind.signed .u8 then -1 else IntKind.max .u8) n1) fun n3 => c1 [(DV.v (AV.i .u8 n3))] H2 fun d3 H3 => onV d3 fun v3 => isI .u8 v3 fun n4 => Kb1 (DV.v (AV.i .u8 n4)) H3)) (nat_lit 100000) (DV.v (AV.i .u8 ii255)) (DV.v (AV.i .i64 ii0)) H1
/-- crc.Sum -/
def g299 : G DV := fun R1 H1 Kb1 => lc R1 fun d1 R2 => onV d1 fun v1 => isS v1 fun s1 => ln R2 <| lenA s1 fun m1 => g299x3 m1 s1 H1 c1 Kb1
def G299 : G DV := g299 G309

/-- crc.Seal -/
def g273 : G DV := fun R1 H1 Kb1 => lc R1 fun d1 R2 => onV d1 fun v1 => isS v1 fun s1 => ln R2 <| c1 [(DV.v (AV.s s1))] H1 fun d2 H2 => onV d2 fun v2 => isS v2 fun s2 => c2 [(DV.v (AV.s s1))] H2 fun d3 H3 => onV d3 fun v3 => isI .u8 v3 fun n1 => alB H3 (@T4.n AV (AV.i .u8 n1) te te te te) nn1 nn0 fun b1 H4 => appD nn1 nn1 s2 (AS.sl b1 nn0 nn1 nn1) H4 fun s3 H5 => Kb1 (DV.v (AV.s s3)) H5
def G273 : G DV := g273 G237 G299

def g220x1 := jn (fun d2 H2 => pickK t1 (DV.v (AV.b true)) d2 fun d3 => onV d3 fun v1 => isB v1 fun t2 => br t2 (Kb1 (DV.c (DV.v (AV.s AS.nil)) (DV.c (DV.v (AV.er (nat_lit 2))) DV.n)) H2) (lenA s1 fun m1 => alB H2 (@T4.n AV (AV.i .i64 (Int.ofNat m1)) te te te te) nn1 nn0 fun b1 H3 => appD nn1 nn8 s2 (AS.sl b1 nn0 nn1 nn1) H3 fun s3 H4 => wrp .i64 (iadd n1 ii1) fun n2 => Kc1 (DV.v (AV.s s3)) (DV.v (AV.i .i64 n2)) H4)) fun Kb2 => br t1 (Kb2 DV.n H1) (onV d1 fun v1 => isI .i64 v1 fun n2 => frcB (ilt ii4095 n2) fun t2 => Kb2 (DV.v (AV.b t2)) H1)
def g220x2 := alB H1 (@T4.n AV (AV.i .u8 n1) (@T4.n AV (AV.i .u8 n2) te te te te) te te te) nn2 nn0 fun b1 H2 => c1 [(DV.v (AV.s (AS.sl b1 nn0 nn2 nn2)))] H2 fun d1 H3 => onV d1 fun v1 => isS v1 fun s3 => appD nn1 nn1 s1 s3 H3 fun s4 H4 => alB H4 (@T4.n AV yy41 te te te te) nn1 nn0 fun b2 H5 => appD nn1 nn1 s4 (AS.sl b2 nn0 nn1 nn1) H5 fun s5 H6 => appD nn1 nn1 s5 s2 H6 fun s6 H7 => wrp .i64 (iadd n3 ii1) fun n4 => Kc1 (DV.v (AV.s s6)) (DV.v (AV.i .i64 n4)) H7
def g220x3 := isS v1 fun s2 => lenA s1 fun m1 => c1 [(DV.v (AV.i .i64 (Int.ofNat m1)))] H1 fun d1 H2 => onV d1 fun v2 => isI .i64 v2 fun n2 => lenA s1 fun m2 => wrp .i64 (isub n2 (Int.ofNat m2)) fun n3 => natK n3 fun m3 => appM (nat_lit 1) (nat_lit 1) [(AV.i .u8 ii0)] s1 m3 H2 fun s3 H3 => lenA s2 fun m4 => wrp .i64 (imul (Int.ofNat m4) ii16) fun n4 => wrp .u8 n4 fun n5 => asI (idiv n4 (ip2 ii8)) fun n6 => wrp .u8 n6 fun n7 => g220x2 n5 n7 n1 s3 s2 H3 c2 Kc1
def g220x4 := br t1 (Kb1 (DV.c (DV.v (AV.s AS.nil)) (DV.c (DV.v (AV.er (nat_lit 3))) DV.n)) H1) (lenA s1 fun m1 => lpR (failF [(7 , .slice), (49 , .int .i64)]) (fun Kc1 => fun d1 d2 H2 => onV d1 fun v1 => isS v1 fun s2 => onV d2 fun v2 => isI .i64 v2 fun n1 => frcB (ilt n1 (Int.ofNat m1)) fun t2 => br t2 (ixA s1 n1 (fun x => x) fun b1 m2 => rdK H2 b1 m2 fun v3 => g220x3 v3 n1 s2 H2 c1 c2 Kc1) (Kb1 (DV.c (DV.v (AV.s s2)) (DV.c (DV.v AV.ni) DV.n)) H2)) (nat_lit 100000) (DV.v (AV.s AS.nil)) (DV.v (AV.i .i64 ii0)) H1)
def g220x5 := jn (fun d1 H2 => jn (fun d2 H3 => jn (fun d3 H4 => pickK t1 (DV.v (AV.b true)) d3 fun d4 => onV d4 fun v1 => isB v1 fun t2 => g220x4 t2 s1 H4 c1 c2 Kb1) fun Kb2 => br t1 (Kb2 DV.n H3) (onV d2 fun v1 => isI .i64 v1 fun n1 => frcB (ilt ii65535 n1) fun t2 => Kb2 (DV.v (AV.b t2)) H3)) fun Kb2 => br t1 (Kb2 DV.n H2) (c3 [d1] H2 fun d2 H3 => onV d2 fun v1 => isI .i64 v1 fun n1 => Kb2 (DV.v (AV.i .i64 n1)) H3)) fun Kb2 => br t1 (Kb2 DV.n H1) (Kb2 (DV.v (AV.s s2)) H1)
def g220x6 := br t1 (ixA s1 n1 (fun x => x) fun b1 m1 => rdK H1 b1 m1 fun v1 => isS v1 fun s3 => lenA s3 fun m2 => frcB (ilt (Int.ofNat m2) ii1) fun t2 => jn (fun d1 H2 => jn (fun d2 H3 => g220x1 d2 n1 t2 s3 s2 H3 Kb1 Kc1) fun Kb2 => br t2 (Kb2 DV.n H2) (onV d1 fun v2 => isS v2 fun s4 => lenA s4 fun m3 => Kb2 (DV.v (AV.i .i64 (Int.ofNat m3))) H2)) fun Kb2 => br t2 (Kb2 DV.n H1) (Kb2 (DV.v (AV.s s3)) H1)) (lenA s1 fun m1 => frcB (ieq (Int.ofNat m1) ii0) fun t2 => br t2 (Kb1 (DV.c (DV.v (AV.s AS.nil)) (DV.c (DV.v (AV.er (nat_lit 2))) DV.n)) H1) (lenA s1 fun m2 => frcB (ilt ii64 (Int.ofNat m2)) fun t3 => g220x5 t3 s1 s2 H1 c1 c2 c3 Kb1))
/-- ampdu.Pack -/
def g220 : G DV := fun R1 H1 Kb1 => lc R1 fun d1 R2 => onV d1 fun v1 => isS v1 fun s1 => ln R2 <| lenA s1 fun m1 => lpR (failF [(4 , .slice), (13 , .int .i64)]) (fun Kc1 => fun d2 d3 H2 => onV d2 fun v2 => isS v2 fun s2 => onV d3 fun v3 => isI .i64 v3 fun n1 => frcB (ilt n1 (Int.ofNat m1)) fun t1 => g220x6 n1 t1 s1 s2 H2 c1 c3 c2 Kb1 Kc1) (nat_lit 100000) (DV.v (AV.s AS.nil)) (DV.v (AV.i .i64 ii0)) H1
def G220 : G DV := g220 G234 G272 G273

/-- slices.ContainsFunc[[]ba.frame,ba.frame] -/
def g257 : G DV := fun R1 H1 Kb1 => lc R1 fun d1 R2 => onV d1 fun v1 => isS v1 fun s1 => lc R2 fun d2 R3 => ln R3 <| c1 [(DV.v (AV.s s1)), d2] H1 fun d3 H2 => onV d3 fun v2 => isI .i64 v2 fun n1 => frcB (ile ii0 n1) fun t1 => Kb1 (DV.v (AV.b t1)) H2
def G257 : G DV := g257 G293

/-- (*ba.Session).flies -/
def g256 : G DV := fun R1 H1 Kb1 => lc R1 fun d1 R2 => onV d1 fun v1 => isP v1 fun p1 => ln R2 <| onA p1 fun b1 m1 => rdK H1 b1 (Nat.add m1 nn6) fun v2 => isS v2 fun s1 => c1 [(DV.v (AV.s s1)), (DV.v (AV.fn (nat_lit 292) []))] H1 fun d2 H2 => onV d2 fun v3 => isB v3 fun t1 => Kb1 (DV.v (AV.b t1)) H2
def G256 : G DV := g256 G257

def g221x1 := slA s1 nn0 m1 (fun x => x) fun s2 => rdK H1 b1 nn0 fun v1 => isI .i64 v1 fun n1 => c1 [(DV.v (AV.s s2)), (DV.v (AV.i .i64 n1))] H1 fun d1 H2 => onV d1 fun v2 => isB v2 fun t1 => br t1 (Kb1 (DV.v (AV.b true)) H2) (onA p1 fun b2 m2 => rdK H2 b2 (Nat.add m2 nn6) fun v3 => isS v3 fun s3 => c2 [(DV.v (AV.s s3)), (DV.v (AV.fn (nat_lit 274) [(AP.at b1 nn0)]))] H2 fun d2 H3 => onV d2 fun v4 => isB v4 fun t2 => frcB (bnot t2) fun t3 => Kb1 (DV.v (AV.b t3)) H3)
def g221x2 := ixA s1 n1 (fun x => x) fun b1 m1 => rdK H1 b1 m1 fun v1 => isI .i64 v1 fun n2 => alB H1 (@T4.n AV yy1 te te te te) nn1 nn0 fun b2 H2 => wrK H2 b2 nn0 (AV.i .i64 n2) fun H3 => jF [(29 , .bool)] (fun d1 H4 => onV d1 fun v2 => isB v2 fun t1 => br t1 (Kb1 (DV.v (AV.er (nat_lit 6))) H4) (wrp .i64 (iadd n1 ii1) fun n3 => Kb2 (DV.v (AV.i .i64 n3)) H4)) fun Kb3 => natK n1 fun m2 => g221x1 m2 p1 b2 s1 H3 c1 c2 Kb3
def g221x3 := isS v1 fun s2 => ixA s2 n1 (fun x => Nat.mul x nn9) fun b1 m1 => rdK H1 b1 (Nat.add m1 nn5) fun v2 => isI .i64 v2 fun n2 => c1 [(DV.v (AV.s s1)), (DV.v (AV.i .i64 n2))] H1 fun d1 H2 => onV d1 fun v3 => isB v3 fun t1 => br t1 (wrK H2 b1 (Nat.add m1 nn8) (AV.b true) fun H3 => rdK H3 b1 (Nat.add m1 nn6) fun v4 => isI .i64 v4 fun n3 => wrp .i64 (iadd n3 ii1) fun n4 => wrK H3 b1 (Nat.add m1 nn6) (AV.i .i64 n4) fun H4 => Ka1 H4) (Ka1 H2)
def g221x4 := rdK H1 b1 (Nat.add m1 nn6) fun v1 => isS v1 fun s2 => lenA s2 fun m2 => lpR (failF [(40 , .int .i64)]) (fun Kb2 => fun d1 H2 => onV d1 fun v2 => isI .i64 v2 fun n1 => frcB (ilt n1 (Int.ofNat m2)) fun t1 => br t1 (jF [] (fun H3 => wrp .i64 (iadd n1 ii1) fun n2 => Kb2 (DV.v (AV.i .i64 n2)) H3) fun Ka1 => onA p1 fun b2 m3 => rdK H2 b2 (Nat.add m3 nn6) fun v3 => g221x3 v3 n1 s1 H2 c1 Ka1) (Kb1 (DV.v AV.ni) H2)) (nat_lit 100000) (DV.v (AV.i .i64 ii0)) H1
def g221x5 := isS v1 fun s1 => ln R1 <| lenA s1 fun m1 => lpR (failF [(11 , .int .i64)]) (fun Kb2 => fun d1 H2 => onV d1 fun v2 => isI .i64 v2 fun n1 => frcB (ilt n1 (Int.ofNat m1)) fun t1 => br t1 (g221x2 n1 p1 s1 H2 c1 c2 Kb1 Kb2) (c3 [(DV.v (AV.p p1))] H2 fun d2 H3 => onV d2 fun v3 => isB v3 fun t2 => br t2 (Kb1 (DV.v (AV.er (nat_lit 9))) H3) (onA p1 fun b1 m2 => g221x4 m2 p1 b1 s1 H3 c1 Kb1))) (nat_lit 100000) (DV.v (AV.i .i64 ii0)) H1
/-- (*ba.Session).Went -/
def g221 : G DV := fun R1 H1 Kb1 => lc R1 fun d1 R2 => onV d1 fun v1 => isP v1 fun p1 => lc R2 fun d2 R3 => onV d2 fun v2 => g221x5 v2 R3 p1 H1 c1 c3 c2 Kb1
def G221 : G DV := g221 G145 G256 G257

def g137x1 := onN d1 <| rdK H1 b1 nn5 fun v1 => isI .i64 v1 fun n2 => alB H1 (@T4.n AV (AV.i .i64 n2) te te te te) nn1 nn0 fun b2 H2 => appD nn1 nn8 s1 (AS.sl b2 nn0 nn1 nn1) H2 fun s4 H3 => alB H3 (@T4.n AV (AV.s s2) te te te te) nn1 nn0 fun b3 H4 => appD nn1 nn24 s3 (AS.sl b3 nn0 nn1 nn1) H4 fun s5 H5 => wrp .i64 (iadd n1 ii1) fun n3 => Kd1 (DV.v (AV.s s4)) (DV.v (AV.s s5)) (DV.v (AV.i .i64 n3)) H5
def g137x2 := rdK H1 b1 nn4 fun v1 => isS v1 fun s3 => must (Nat.beq (llen l1) nn6) <| must (Nat.beq (llen l2) nn6) <| must (Nat.beq (llen l3) nn6) <| c1 [(DV.a (lapp l1 (lapp l2 (lapp l3 ((AV.i .i64 n1) :: ((AV.i .i64 n2) :: ((AV.b t1) :: ((AV.b t2) :: ((AV.b t3) :: ((AV.s s3) :: []))))))))))] H1 fun d1 H2 => onC d1 fun d2 d3 => onV d2 fun v2 => isS v2 fun s4 => onC d3 fun d4 d5 => onV d4 fun v3 => g137x1 d5 n3 b1 s1 s4 s2 H2 Kd1
def g137x3 := rdR H1 b1 (Nat.add (Nat.add m1 nn11) nn6) nn6 fun l1 => onA p1 fun b3 m2 => rdR H1 b3 m2 nn6 fun l2 => onA p1 fun b4 m3 => rdR H1 b4 m3 nn6 fun l3 => onA p2 fun b5 m4 => rdK H1 b5 (Nat.add m4 nn2) fun v1 => isI .i64 v1 fun n2 => rdK H1 b2 nn5 fun v2 => isI .i64 v2 fun n3 => rdK H1 b2 nn6 fun v3 => isI .i64 v3 fun n4 => frcB (ilt ii0 n4) fun t3 => g137x2 l1 l2 l3 n2 n3 n1 t3 t1 t2 b2 s1 s2 H1 c1 Kd1
def g137x4 := jF [] (fun H2 => onA p1 fun b1 m1 => rdK H2 b1 m1 fun v1 => isP v1 fun p3 => c1 [(DV.v (AV.p p3)), (DV.v (AV.s s1))] H2 fun d1 H3 => onV d1 fun v2 => Kb1 (DV.v (AV.p p2)) H3) fun Ka1 => br t1 (c2 [(DV.v (AV.s s2))] H1 fun d1 H2 => onC d1 fun d2 d3 => onV d2 fun v1 => isS v1 fun s3 => onC d3 fun d4 d5 => onV d4 fun v2 => onN d5 <| onA p2 fun b1 m1 => wrK H2 b1 (Nat.add m1 nn7) (AV.s s3) fun H3 => Ka1 H3) (Ka1 H1)
def g137x5 := onA p1 fun b1 m2 => wrK H1 b1 (Nat.add m2 nn4) (AV.i .i64 ii1) fun H2 => onA p1 fun b2 m3 => wrK H2 b2 (Nat.add m3 nn5) (AV.i .i64 (Int.ofNat m1)) fun H3 => onA p1 fun b3 m4 => wrK H3 b3 (Nat.add m4 nn6) (AV.b t1) fun H4 => onA p1 fun b4 m5 => wrK H4 b4 (Nat.add m5 nn7) (AV.s s1) fun H5 => onA p1 fun b5 m6 => must (Nat.beq (llen l1) nn5) <| wrL H5 b5 (Nat.add (Nat.add m6 nn11) nn12) l1 fun H6 => g137x4 t1 p2 p1 s2 s3 H6 c1 c2 Kb1
def g137x6 := br t1 (ixA s1 n1 (fun x => Nat.mul x nn8) fun b1 m1 => rdR H1 b1 m1 nn8 fun l1 => alB H1 z6 nn8 nn0 fun b2 H2 => must (Nat.beq (llen l1) nn8) <| wrL H2 b2 nn0 l1 fun H3 => onA p1 fun b3 m2 => g137x3 n1 m2 t2 t3 p2 p1 b3 b2 s2 s3 H3 c1 Kd1) (lenA s1 fun m1 => ixA s3 ii0 (fun x => x) fun b1 m2 => rdK H1 b1 m2 fun v1 => isS v1 fun s4 => onA p3 fun b2 m3 => rdR H1 b2 m3 nn5 fun l1 => g137x5 l1 m1 t4 p1 p4 s4 s2 s3 H1 c2 c3 Kb1)
def g137x7 := onV d1 fun v1 => onN d2 <| lenA s1 fun m1 => lpR (failF [(15 , .slice), (16 , .slice), (77 , .int .i64)]) (fun Kd1 => fun d3 d4 d5 H2 => onV d3 fun v2 => isS v2 fun s2 => onV d4 fun v3 => isS v3 fun s3 => onV d5 fun v4 => isI .i64 v4 fun n1 => frcB (ilt n1 (Int.ofNat m1)) fun t4 => g137x6 n1 t4 t1 t2 t3 p1 p2 p3 p4 s1 s2 s3 H2 c1 c2 c3 Kb1 Kd1) (nat_lit 100000) (DV.v (AV.s AS.nil)) (DV.v (AV.s AS.nil)) (DV.v (AV.i .i64 ii0)) H1
def g137x8 := onA p1 fun b2 m2 => rdK H1 b2 (Nat.add m2 nn1) fun v1 => isI .i64 v1 fun n1 => onA p1 fun b3 m3 => rdK H1 b3 (Nat.add m3 nn3) fun v2 => isI .i64 v2 fun n2 => c1 [(DV.v (AV.p (AP.at b1 (Nat.add m1 nn150)))), (DV.v (AV.i .i64 n1)), (DV.v (AV.i .i64 n2)), (DV.v (AV.b t1))] H1 fun d1 H2 => onC d1 fun d2 d3 => onV d2 fun v3 => isB v3 fun t3 => onC d3 fun d4 d5 => g137x7 d4 d5 t1 t3 t2 p1 p2 p3 p4 s1 H2 c2 c3 c4 Kb1
def g137x9 := br t1 (Kb1 (DV.v (AV.p AP.nil)) H1) (onA p1 fun b1 m1 => rdK H1 b1 (Nat.add m1 nn1) fun v1 => isI .i64 v1 fun n1 => onA p1 fun b2 m2 => rdK H1 b2 (Nat.add m2 nn2) fun v2 => isI .i64 v2 fun n2 => lenA s1 fun m3 => c1 [(DV.v (AV.p p2)), (DV.v (AV.i .i64 n1)), (DV.v (AV.i .i64 n2)), (DV.v (AV.i .i64 (Int.ofNat m3)))] H1 fun d1 H2 => onV d1 fun v3 => isB v3 fun t3 => onA p2 fun b3 m4 => g137x8 m4 t3 t2 p1 p2 p3 p4 b3 s1 H2 c2 c3 c4 c5 Kb1)
def g137x10 := onV d1 fun v1 => isP v1 fun p4 => onA p4 fun b1 m1 => rdR H1 b1 m1 nn5 fun l1 => c1 [(DV.v (AV.p p1)), (DV.v (AV.p p2)), (DV.v (AV.p p3)), (DV.a l1), (DV.v (AV.b t1))] H1 fun d2 H2 => onC d2 fun d3 d4 => onV d3 fun v2 => isS v2 fun s1 => onC d4 fun d5 d6 => onV d5 fun v3 => isB v3 fun t2 => onN d6 <| lenA s1 fun m2 => frcB (ieq (Int.ofNat m2) ii0) fun t3 => g137x9 t3 t2 p2 p1 p4 p3 s1 H2 c2 c3 c4 c5 c6 Kb1
def g137x11 := lc R1 fun d1 R2 => onV d1 fun v1 => isP v1 fun p1 => lc R2 fun d2 R3 => onV d2 fun v2 => isP v2 fun p2 => lc R3 fun d3 R4 => onV d3 fun v3 => isP v3 fun p3 => lc R4 fun d4 R5 => onV d4 fun v4 => isB v4 fun t1 => ln R5 <| onA p2 fun b1 m1 => rdK H1 b1 (Nat.add m1 nn1) fun v5 => isI .i64 v5 fun n1 => c1 [(DV.v (AV.p p1)), (DV.v (AV.i .i64 n1))] H1 fun d5 H2 => g137x10 d5 t1 p1 p2 p3 H2 c2 c3 c4 c5 c6 c7 Kb1
/-- (*ap.AP).data -/
def g137 : G DV := fun R1 H1 Kb1 => g137x11 R1 H1 c1 c4 c3 c2 c5 c7 c6 Kb1
def G137 : G DV := g137 G58 G139 G140 G218 G219 G220 G221

def g138x1 := jn (fun d2 H2 => jn (fun d3 H3 => jn (fun d4 H4 => pickK t1 d4 (DV.v (AV.b false)) fun d5 => onV d5 fun v1 => isB v1 fun t2 => Kb1 (DV.v (AV.b t2)) H4) fun Kb2 => br t1 (onV d3 fun v1 => isP v1 fun p1 => onA p1 fun b1 m1 => rdK H3 b1 m1 fun v2 => isB v2 fun t2 => Kb2 (DV.v (AV.b t2)) H3) (Kb2 DV.n H3)) fun Kb2 => br t1 (onV d2 fun v1 => isP v1 fun p1 => onA p1 fun b1 m1 => Kb2 (DV.v (AV.p (AP.at b1 (Nat.add m1 nn2)))) H2) (Kb2 DV.n H2)) fun Kb2 => br t1 (onV d1 fun v1 => isP v1 fun p1 => onA p1 fun b1 m1 => Kb2 (DV.v (AV.p (AP.at b1 m1))) H1) (Kb2 DV.n H1)
/-- (*ps.Power).Polled -/
def g138 : G DV := fun R1 H1 Kb1 => lc R1 fun d1 R2 => onV d1 fun v1 => isP v1 fun p1 => lc R2 fun d2 R3 => onV d2 fun v2 => isI .i64 v2 fun n1 => ln R3 <| c1 [(DV.v (AV.p p1)), (DV.v (AV.i .i64 n1))] H1 fun d3 H2 => onV d3 fun v3 => isP v3 fun p2 => frcB (bnot (isNilA p2)) fun t1 => jn (fun d4 H3 => g138x1 d4 t1 H3 Kb1) fun Kb2 => br t1 (Kb2 (DV.v (AV.p p2)) H2) (Kb2 DV.n H2)
def G138 : G DV := g138 G151

def g65x1 := wrK H1 b1 nn4 (AV.i .i64 ii2) fun H2 => rdR H2 b2 nn0 nn6 fun l1 => onA p1 fun b3 m1 => rdR H2 b3 m1 nn6 fun l2 => must (Nat.beq (llen l1) nn6) <| must (Nat.beq (llen l2) nn6) <| c1 [(DV.a (lapp l1 (lapp l2 ((AV.i .i64 n1) :: ((AV.i .i64 n2) :: [])))))] H2 fun d1 H3 => onC d1 fun d2 d3 => onV d2 fun v1 => isS v1 fun s1 => onC d3 fun d4 d5 => onV d4 fun v2 => onN d5 <| wrK H3 b1 nn7 (AV.s s1) fun H4 => Ka1 H4
def g65x2 := c1 [(DV.a (lapp l1 (lapp l2 (lapp l3 ((AV.b false) :: ((AV.i .i64 n1) :: ((AV.i .i64 n2) :: ((AV.i .i64 n3) :: ((AV.i .i64 ii0) :: ((AV.i .i64 n4) :: ((AV.i .i64 ii0) :: [])))))))))))] H1 fun d1 H2 => onC d1 fun d2 d3 => onV d2 fun v1 => isS v1 fun s1 => onC d3 fun d4 d5 => onV d4 fun v2 => onN d5 <| wrK H2 b1 nn7 (AV.s s1) fun H3 => onA p1 fun b2 m1 => rdK H3 b2 (Nat.add m1 nn5) fun v3 => isI .i64 v3 fun n5 => wrp .i64 (iadd n5 ii1) fun n6 => must (bnot (ieq ii256 ii0)) <| asI (irem n6 ii256) fun n7 => onA p1 fun b3 m2 => wrK H3 b3 (Nat.add m2 nn5) (AV.i .i64 n7) fun H4 => Ka1 H4
def g65x3 := rdR H1 b1 nn0 nn6 fun l1 => onA p1 fun b3 m1 => rdR H1 b3 m1 nn6 fun l2 => onA p1 fun b4 m2 => rdR H1 b4 m2 nn6 fun l3 => onA p2 fun b5 m3 => rdK H1 b5 (Nat.add m3 nn5) fun v1 => isI .i64 v1 fun n3 => onA p1 fun b6 m4 => rdK H1 b6 (Nat.add m4 nn11) fun v2 => isI .i64 v2 fun n4 => must (Nat.beq (llen l1) nn6) <| must (Nat.beq (llen l2) nn6) <| must (Nat.beq (llen l3) nn6) <| g65x2 l1 l2 l3 n3 n1 n4 n2 p2 b2 H1 c1 Ka1
def g65x4 := c1 [(DV.v (AV.p p1)), (DV.v (AV.i .i64 n1))] H1 fun d1 H2 => onC d1 fun d2 d3 => onV d2 fun v1 => isI .i64 v1 fun n3 => onC d3 fun d4 d5 => onV d4 fun v2 => onN d5 <| ifA true true v2 AV.ni fun t1 => frcB (bnot t1) fun t2 => br t2 (Kb1 (DV.v (AV.p AP.nil)) H2) (onA p2 fun b3 m1 => rdK H2 b3 (Nat.add m1 nn5) fun v3 => isI .i64 v3 fun n4 => wrK H2 b1 nn4 (AV.i .i64 ii3) fun H3 => wrK H3 b1 nn10 (AV.i .i64 n4) fun H4 => g65x3 n2 n3 p3 p2 b2 b1 H4 c2 Ka1)
def g65x5 := jn (fun d2 H2 => jn (fun d3 H3 => pickK t1 (DV.v (AV.b true)) d3 fun d4 => onV d4 fun v1 => isB v1 fun t2 => c1 [(DV.v (AV.p p1)), (DV.v (AV.p (AP.at b1 nn0))), (DV.v (AV.p (AP.at b2 (Nat.add (Nat.add m1 nn6) (Nat.mul (itn n1) nn5))))), (DV.v (AV.b t2))] H3 fun d5 H4 => onV d5 fun v2 => isP v2 fun p2 => Kb1 (DV.v (AV.p p2)) H4) fun Kb2 => br t1 (Kb2 DV.n H2) (c2 [d1, d2] H2 fun d3 H3 => onV d3 fun v1 => isB v1 fun t2 => Kb2 (DV.v (AV.b t2)) H3)) fun Kb2 => br t1 (Kb2 DV.n H1) (Kb2 (DV.v (AV.i .i64 n2)) H1)
def g65x6 := jn (fun d1 H2 => jn (fun d2 H3 => jn (fun d3 H4 => g65x5 d3 n1 n2 m1 t1 p1 b1 b2 H4 c1 c2 Kb1) fun Kb2 => br t1 (Kb2 DV.n H3) (onV d2 fun v1 => isP v1 fun p2 => onA p2 fun b3 m2 => Kb2 (DV.v (AV.p (AP.at b3 (Nat.add m2 nn150)))) H3)) fun Kb2 => br t1 (Kb2 DV.n H2) (onV d1 fun v1 => isP v1 fun p2 => onA p2 fun b3 m2 => Kb2 (DV.v (AV.p (AP.at b3 m2))) H2)) fun Kb2 => br t1 (Kb2 DV.n H1) (Kb2 (DV.v (AV.p p1)) H1)
def g65x7 := frcB (ilt ii1 n1) fun t1 => br t1 (rdK H1 b1 (Nat.add (Nat.add (Nat.add m1 nn6) (Nat.mul (itn n2) nn5)) nn2) fun v1 => isB v1 fun t2 => frcB (bnot t2) fun t3 => br t3 (rdK H1 b1 (Nat.add (Nat.add (Nat.add m1 nn6) (Nat.mul (itn n2) nn5)) nn1) fun v2 => isI .i64 v2 fun n3 => onA p1 fun b2 m2 => rdK H1 b2 (Nat.add m2 nn12) fun v3 => isI .i64 v3 fun n4 => frcB (ile n3 n4) fun t4 => Kb1 (DV.v (AV.b t4)) H1) (Kb1 (DV.v (AV.b false)) H1)) (Kb1 (DV.v (AV.b false)) H1)
def g65x8 := jF [(131 , .bool)] (fun d1 H2 => onV d1 fun v1 => isB v1 fun t2 => br t2 (rdK H2 b1 (Nat.add (Nat.add m1 nn6) (Nat.mul (itn n1) nn5)) fun v2 => isP v2 fun p3 => onA p1 fun b4 m2 => rdK H2 b4 (Nat.add m2 nn5) fun v3 => isI .i64 v3 fun n3 => g65x4 n3 n1 p3 p1 p2 b2 b3 H2 c1 c2 Ka1 Kb1) (g65x6 n1 n2 m1 t1 p2 b2 b1 H2 c3 c4 Kb1)) fun Kb2 => br t1 (rdK H1 b1 (Nat.add (Nat.add m1 nn6) (Nat.mul (itn n1) nn5)) fun v1 => isP v1 fun p3 => c5 [(DV.v (AV.p p3))] H1 fun d1 H2 => onV d1 fun v2 => isS v2 fun s1 => lenA s1 fun m2 => frcB (ieq (Int.ofNat m2) ii0) fun t2 => br t2 (onA p2 fun b4 m3 => rdK H2 b4 (Nat.add m3 nn11) fun v3 => isI .i64 v3 fun n3 => g65x7 n3 n1 m1 p2 b1 H2 Kb2) (Kb2 (DV.v (AV.b false)) H2)) (Kb2 (DV.v (AV.b false)) H1)
def g65x9 := jF [] (fun H2 => onA p1 fun b4 m2 => c1 [(DV.v (AV.p p1)), (DV.v (AV.i .i64 n1)), (DV.v (AV.i .i64 ii0)), (DV.v (AV.i .i64 ii0))] H2 fun d1 H3 => onV d1 fun v1 => isB v1 fun t3 => c2 [(DV.v (AV.p (AP.at b4 (Nat.add m2 nn150)))), (DV.v (AV.i .i64 n1)), (DV.v (AV.i .i64 n2)), (DV.v (AV.b t3))] H3 fun d2 H4 => onC d2 fun d3 d4 => onV d3 fun v2 => isB v2 fun t4 => onC d4 fun d5 d6 => onV d5 fun v3 => onN d6 <| Kb1 (DV.v (AV.p (AP.at b1 nn0))) H4) fun Ka1 => br t1 (g65x1 n3 n4 p1 b1 b2 H1 c3 Ka1) (g65x8 n3 n1 m1 t2 p2 p1 b3 b1 b2 H1 c4 c5 c6 c7 c8 Ka1 Kb1)
def g65x10 := onC d1 fun d2 d3 => onV d2 fun v1 => isI .i64 v1 fun n4 => onC d3 fun d4 d5 => onV d4 fun v2 => isB v2 fun t1 => onN d5 <| rdK H1 b1 (Nat.add (Nat.add m1 nn6) (Nat.mul (itn n1) nn5)) fun v3 => isP v3 fun p3 => c1 [(DV.v (AV.p p3))] H1 fun d6 H2 => onV d6 fun v4 => isI .i64 v4 fun n5 => frcB (ieq n5 ii1) fun t2 => g65x9 n2 n3 n1 n4 m1 t1 t2 p1 p2 b2 b3 b1 H2 c2 c3 c4 c5 c6 c7 c8 c9 Kb1
def g65x11 := alK H1 ((AV.i .i64 ii0) :: ((AV.i .i64 n1) :: ((AV.i .i64 n2) :: ((AV.i .i64 n3) :: ((AV.i .i64 ii0) :: ((AV.i .i64 ii1) :: ((AV.b false) :: ((AV.s AS.nil) :: ((AV.i .i64 ii0) :: ((AV.i .i64 ii0) :: ((AV.i .i64 ii0) :: (lapp (lapp l1 (lapp l2 (lapp l3 ((AV.i .i64 n4) :: ((AV.i .i64 n5) :: ((AV.i .i64 n6) :: ((AV.i .i64 n7) :: ((AV.b t1) :: [])))))))) [])))))))))))) fun b3 H2 => rdK H2 b1 (Nat.add (Nat.add m1 nn6) (Nat.mul (itn n2) nn5)) fun v1 => isP v1 fun p3 => c1 [(DV.v (AV.p p3))] H2 fun d1 H3 => g65x10 d1 n2 n1 n3 m1 p1 p2 b1 b3 b2 H3 c2 c3 c4 c5 c6 c7 c8 c9 c10 Kb1
def g65x12 := must (aleq l1 l2) <| frcB (ieq n1 ii3) fun t1 => must (Nat.beq (llen l1) nn6) <| must (Nat.beq (llen l3) nn6) <| must (Nat.beq (llen l4) nn5) <| must (Nat.beq (llen (lapp l1 (lapp l3 (lapp l4 ((AV.i .i64 n2) :: ((AV.i .i64 n3) :: ((AV.i .i64 n4) :: ((AV.i .i64 n5) :: ((AV.b t1) :: []))))))))) nn22) <| g65x11 l1 l3 l4 n6 n7 n8 n2 n3 n4 n5 m1 t1 p1 p2 b1 b2 H1 c1 c2 c3 c4 c5 c6 c7 c8 c9 c10 Kb1
def g65x13 := rdR H1 b1 m1 nn6 fun l4 => must (aleq l1 l4) <| c1 [(DV.v (AV.p p1))] H1 fun d1 H2 => onV d1 fun v1 => isI .i64 v1 fun n8 => rdK H2 b2 (Nat.add m2 nn14) fun v2 => must (aveq (AV.i .i64 n1) v2) <| rdR H2 b3 nn0 nn6 fun l5 => must (aleq l2 l5) <| rdR H2 b1 m1 nn6 fun l6 => g65x12 l1 l6 l2 l3 n8 n2 n3 n1 n4 n5 n6 n7 m3 p2 p3 b4 b3 H2 c2 c1 c3 c4 c5 c6 c7 c8 c9 c10 Kb1
def g65x14 := c1 [(DV.v (AV.p p1))] H1 fun d1 H2 => onV d1 fun v1 => isI .i64 v1 fun n7 => rdK H2 b1 (Nat.add (Nat.add m1 nn6) (Nat.mul (itn n1) nn5)) fun v2 => must (aveq (AV.p p2) v2) <| rdK H2 b2 (Nat.add m2 nn14) fun v3 => must (aveq (AV.i .i64 n2) v3) <| rdR H2 b3 nn0 nn6 fun l4 => must (aleq l1 l4) <| g65x13 l2 l1 l3 n2 n3 n7 n4 n5 n1 n6 m3 m2 m1 p2 p3 p4 b4 b2 b3 b1 H2 c2 c3 c4 c5 c6 c7 c8 c9 c10 c11 Kb1
def g65x15 := rdK H1 b1 (Nat.add m1 nn14) fun v1 => must (aveq (AV.i .i64 n1) v1) <| rdK H1 b2 (Nat.add (Nat.add m2 nn6) (Nat.mul (itn n2) nn5)) fun v2 => must (aveq (AV.p p1) v2) <| rdR H1 b3 nn0 nn6 fun l4 => must (aleq l1 l4) <| rdR H1 b4 m3 nn6 fun l5 => must (aleq l2 l5) <| g65x14 l1 l2 l3 n2 n1 n3 n4 n5 n6 m2 m1 m3 p1 p2 p3 p4 b2 b1 b3 b4 H1 c1 c2 c3 c4 c5 c6 c7 c8 c9 c10 c11 Kb1
def g65x16 := rdR H1 b1 nn0 nn6 fun l4 => must (aleq l1 l4) <| rdR H1 b2 m1 nn6 fun l5 => must (aleq l2 l5) <| c1 [(DV.v (AV.p p1))] H1 fun d1 H2 => onV d1 fun v1 => isI .i64 v1 fun n6 => rdK H2 b3 (Nat.add (Nat.add m2 nn6) (Nat.mul (itn n1) nn5)) fun v2 => must (aveq (AV.p p2) v2) <| g65x15 l1 l2 l3 n2 n1 n6 n3 n4 n5 m3 m2 m1 p3 p2 p4 p5 b4 b3 b1 b2 H2 c2 c3 c4 c5 c6 c7 c8 c9 c10 c11 c12 Kb1
def g65x17 := rdK H1 b1 (Nat.add m1 nn14) fun v1 => must (aveq (AV.i .i64 n1) v1) <| rdK H1 b2 (Nat.add (Nat.add m2 nn6) (Nat.mul (itn n2) nn5)) fun v2 => must (aveq (AV.p p1) v2) <| rdK H1 b2 (Nat.add (Nat.add m2 nn6) (Nat.mul (itn n2) nn5)) fun v3 => must (aveq (AV.p p2) v3) <| g65x16 l1 l2 l3 n2 n1 n3 n4 n5 m3 m2 m1 p2 p3 p1 p4 p5 b3 b4 b2 b1 H1 c1 c2 c3 c4 c5 c6 c7 c8 c9 c10 c11 c12 Kb1
def g65x18 := rdK H1 b1 (Nat.add m1 nn14) fun v1 => isI .i64 v1 fun n5 => rdK H1 b2 (Nat.add (Nat.add m2 nn6) (Nat.mul (itn n1) nn5)) fun v2 => isP v2 fun p5 => c1 [] H1 fun d1 H2 => onL d1 fun l3 => rdK H2 b2 (Nat.add (Nat.add m2 nn6) (Nat.mul (itn n1) nn5)) fun v3 => must (aveq (AV.p p5) v3) <| g65x17 l1 l2 l3 n5 n1 n2 n3 n4 m1 m2 m3 p1 p2 p5 p3 p4 b1 b2 b3 b4 H2 c2 c3 c4 c5 c6 c7 c8 c9 c10 c11 c12 c13 Kb1
def g65x19 := onA p1 fun b3 m2 => rdR H1 b3 m2 nn6 fun l1 => rdR H1 b1 nn0 nn6 fun l2 => rdK H1 b2 (Nat.add (Nat.add m1 nn6) (Nat.mul (itn n1) nn5)) fun v1 => isP v1 fun p3 => rdK H1 b2 (Nat.add (Nat.add m1 nn6) (Nat.mul (itn n1) nn5)) fun v2 => isP v2 fun p4 => onA p1 fun b4 m3 => g65x18 l2 l1 n1 n2 n3 n4 m3 m1 m2 p4 p3 p1 p2 b4 b2 b1 b3 H1 c1 c2 c3 c4 c5 c6 c7 c8 c9 c10 c11 c12 c13 Kb1
def g65x20 := onA p1 fun b3 m2 => rng n1 nn4 <| rdK H1 b3 (Nat.add (Nat.add m2 nn15) (itn n1)) fun v1 => isI .i64 v1 fun n4 => jF [(12 , .int .i64)] (fun d1 H2 => onV d1 fun v2 => isI .i64 v2 fun n5 => g65x19 n2 n5 n3 n1 m1 p1 p2 b1 b2 H2 c1 c2 c3 c4 c5 c6 c7 c8 c9 c10 c11 c12 c13 Kb1) fun Kb2 => frcB (ieq n4 ii0) fun t1 => br t1 (Kb2 (DV.v (AV.i .i64 ii54840)) H1) (Kb2 (DV.v (AV.i .i64 n4)) H1)
def g65x21 := c1 [(DV.v (AV.p (AP.at b1 (Nat.add m1 nn22)))), (DV.v (AV.i .i64 n1))] H1 fun d1 H2 => onC d1 fun d2 d3 => onL d2 fun l1 => onC d3 fun d4 d5 => onV d4 fun v1 => isB v1 fun t1 => onN d5 <| alB H2 z0 nn6 nn0 fun b3 H3 => must (Nat.beq (llen l1) nn6) <| wrL H3 b3 nn0 l1 fun H4 => c2 [(DV.v (AV.i .i64 n2))] H4 fun d6 H5 => onV d6 fun v2 => isI .i64 v2 fun n3 => g65x20 n3 n2 n1 m2 p1 p2 b3 b2 H5 c3 c4 c5 c6 c7 c8 c9 c10 c11 c12 c13 c14 c15 Kb1
def g65x22 := isP v1 fun p1 => lc R1 fun d1 R2 => onV d1 fun v2 => isI .i64 v2 fun n1 => lc R2 fun d2 R3 => onV d2 fun v3 => isI .i64 v3 fun n2 => ln R3 <| c1 [(DV.v (AV.p p1)), (DV.v (AV.i .i64 n1))] H1 fun d3 H2 => onV d3 fun v4 => isP v4 fun p2 => onA p2 fun b1 m1 => rng n2 nn8 <| onA p1 fun b2 m2 => g65x21 n1 n2 m2 m1 p1 p2 b2 b1 H2 c2 c3 c4 c5 c6 c7 c8 c9 c10 c11 c12 c13 c14 c15 c16 Kb1
/-- (*ap.AP).make -/
def g65 : G DV := fun R1 H1 Kb1 => lc R1 fun d1 R2 => onV d1 fun v1 => g65x22 v1 R2 H1 c1 c3 c2 c4 c5 c6 c7 c8 c16 c15 c9 c11 c12 c13 c14 c10 Kb1
def G65 : G DV := g65 G58 G125 G127 G128 G129 G130 G131 G132 G133 G134 G135 G136 G137 G138 G139 G140

/-- air.Answer -/
def g223 : G DV := fun R1 H1 Kb1 => ln R1 <| c1 [(DV.a z17), (DV.v (AV.i .i64 ii32))] H1 fun d1 H2 => onV d1 fun v1 => isI .i64 v1 fun n1 => wrp .i64 (iadd ii160 n1) fun n2 => Kb1 (DV.v (AV.i .i64 n2)) H2
def G223 : G DV := g223 G222

def g141x1 := rdR H1 b1 nn0 nn5 fun l1 => c1 [(DV.a l1), (DV.v (AV.i .i64 n1))] H1 fun d1 H2 => onV d1 fun v1 => isI .i64 v1 fun n2 => frcB (ieq n2 ii0) fun t1 => br t1 (Kb1 (DV.v (AV.i .i64 ii0)) H2) (rdR H2 b1 nn0 nn5 fun l2 => c1 [(DV.a l2), (DV.v (AV.i .i64 n1))] H2 fun d2 H3 => onV d2 fun v2 => isI .i64 v2 fun n3 => c2 [] H3 fun d3 H4 => onV d3 fun v3 => isI .i64 v3 fun n4 => wrp .i64 (iadd n3 n4) fun n5 => Kb1 (DV.v (AV.i .i64 n5)) H4)
/-- air.Total -/
def g141 : G DV := fun R1 H1 Kb1 => lc R1 fun d1 R2 => lc R2 fun d2 R3 => onV d2 fun v1 => isI .i64 v1 fun n1 => ln R3 <| cellsD d1 fun l1 => alK H1 l1 fun b1 H2 => g141x1 n1 b1 H2 c1 c2 Kb1
def G141 : G DV := pure1 (g141 G222 G223)

def g224x1 := lc R1 fun d2 R2 => onV d2 fun v1 => isI .i64 v1 fun n1 => ln R2 <| onV d1 fun v2 => isM v2 fun m1 v3 => br (Nat.beq (nat_lit 232) m1) (c1 [(DV.v v3)] H1 fun d3 H2 => onV d3 fun v4 => isI .i64 v4 fun n2 => c2 [d1, (DV.v (AV.i .i64 n1)), (DV.v (AV.i .i64 n2))] H2 fun d4 H3 => onV d4 fun v5 => isB v5 fun t1 => frcB (bnot t1) fun t2 => br t2 (c3 [d1, (DV.v (AV.i .i64 n1))] H3 fun d5 H4 => Kb1 DV.n H4) (Kb1 DV.n H3)) (none)
/-- container/heap.Fix -/
def g224 : G DV := fun R1 H1 Kb1 => lc R1 fun d1 R2 => g224x1 d1 R2 H1 c1 c3 c2 Kb1
def G224 : G DV := g224 G120 G205 G206

def g142x1 := wrK H1 b1 (Nat.add m1 nn2) (AV.i .i64 n1) fun H2 => jF [] (fun H3 => Kb1 (DV.v AV.ni) H3) fun Ka1 => onA p1 fun b2 m2 => rdK H2 b2 (Nat.add m2 nn3) fun v1 => isB v1 fun t1 => br t1 (onA p2 fun b3 m3 => rdK H2 b3 (Nat.add m3 nn16) fun v2 => isP v2 fun p3 => onA p1 fun b4 m4 => rdK H2 b4 (Nat.add m4 nn4) fun v3 => isI .i64 v3 fun n2 => c1 [(DV.v (AV.ifc (nat_lit 232) (AV.p p3))), (DV.v (AV.i .i64 n2))] H2 fun d1 H3 => Ka1 H3) (Ka1 H2)
def g142x2 := isB v1 fun t1 => br t1 (Kb1 (DV.v (AV.er (nat_lit 2))) H1) (onA p1 fun b1 m1 => rdK H1 b1 (Nat.add m1 nn2) fun v2 => isI .i64 v2 fun n2 => wrp .i64 (imul ii10000 n1) fun n3 => onA p1 fun b2 m2 => rdK H1 b2 (Nat.add m2 nn1) fun v3 => isI .i64 v3 fun n4 => must (bnot (ieq n4 ii0)) <| wrp .i64 (iquo n3 n4) fun n5 => wrp .i64 (iadd n2 n5) fun n6 => asI (imin n6 ii1152921504606846976) fun n7 => onA p1 fun b3 m3 => g142x1 n7 m3 p1 p2 b3 H1 c1 Kb1)
def g142x3 := onV d1 fun v1 => isP v1 fun p2 => frcB (isNilA p2) fun t1 => br t1 (Kb1 (DV.v (AV.er (nat_lit 6))) H1) (frcB (ilt n1 ii0) fun t2 => jn (fun d2 H2 => jn (fun d3 H3 => pickK t2 (DV.v (AV.b true)) d3 fun d4 => onV d4 fun v2 => g142x2 v2 n1 p2 p1 H3 c1 Kb1) fun Kb2 => br t2 (Kb2 DV.n H2) (onV d2 fun v2 => isI .i64 v2 fun n2 => frcB (ilt ii1099511627776 n2) fun t3 => Kb2 (DV.v (AV.b t3)) H2)) fun Kb2 => br t2 (Kb2 DV.n H1) (Kb2 (DV.v (AV.i .i64 n1)) H1))
/-- (*sched.Sched).Charge -/
def g142 : G DV := fun R1 H1 Kb1 => lc R1 fun d1 R2 => onV d1 fun v1 => isP v1 fun p1 => lc R2 fun d2 R3 => onV d2 fun v2 => isI .i64 v2 fun n1 => lc R3 fun d3 R4 => onV d3 fun v3 => isI .i64 v3 fun n2 => ln R4 <| c1 [(DV.v (AV.p p1)), (DV.v (AV.i .i64 n1))] H1 fun d4 H2 => g142x3 d4 n2 p1 H2 c2 Kb1
def G142 : G DV := g142 G150 G224

def g143x1 := jn (fun d2 H2 => pickK t1 (DV.v (AV.b true)) d2 fun d3 => onV d3 fun v1 => isB v1 fun t2 => br t2 (Kb1 (DV.v (AV.er (nat_lit 2))) H2) (wrp .i64 (isub n1 ii1) fun n3 => onA p1 fun b1 m1 => rng n3 nn16 <| rdK H2 b1 (Nat.add (Nat.add m1 nn2) (itn n3)) fun v2 => isI .i64 v2 fun n4 => wrp .i64 (iadd n4 n2) fun n5 => onA p1 fun b2 m2 => rng n3 nn16 <| wrK H2 b2 (Nat.add (Nat.add m2 nn2) (itn n3)) (AV.i .i64 n5) fun H3 => Kb1 (DV.v AV.ni) H3)) fun Kb2 => br t1 (Kb2 DV.n H1) (onV d1 fun v1 => isB v1 fun t2 => frcB (bnot t2) fun t3 => Kb2 (DV.v (AV.b t3)) H1)
def g143x2 := lc R1 fun d1 R2 => onV d1 fun v1 => isI .i64 v1 fun n2 => ln R2 <| c1 [(DV.v (AV.i .i64 n1))] H1 fun d2 H2 => onV d2 fun v2 => isB v2 fun t1 => frcB (bnot t1) fun t2 => jn (fun d3 H3 => jn (fun d4 H4 => g143x1 d4 n1 n2 t2 p1 H4 Kb1) fun Kb2 => br t2 (Kb2 DV.n H3) (c2 [d3] H3 fun d4 H4 => onV d4 fun v3 => isB v3 fun t3 => Kb2 (DV.v (AV.b t3)) H4)) fun Kb2 => br t2 (Kb2 DV.n H2) (Kb2 (DV.v (AV.i .i64 n2)) H2)
/-- (*aql.Limit).Add -/
def g143 : G DV := fun R1 H1 Kb1 => lc R1 fun d1 R2 => onV d1 fun v1 => isP v1 fun p1 => lc R2 fun d2 R3 => onV d2 fun v2 => isI .i64 v2 fun n1 => g143x2 R3 n1 p1 H1 c2 c1 Kb1
def G143 : G DV := g143 G108 G122
end
end Go.Proofs.YthooeildnkfpkaaGreatDoor
