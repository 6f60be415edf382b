/- Functions of the program on the abstract machine: written by a program (ggen) off the elaborated code; each is the machine's own, by the kernel. -/
import Derived.Test.YtmdcbepepiabmaaGreatDoorRows
import Derived.Test.YtmdcbepepiabmaaGreatDoorAb16
set_option linter.unusedVariables false
set_option linter.constructorNameAsVariable false
set_option maxRecDepth 100000
namespace Go.Proofs.YtmdcbepepiabmaaGreatDoor
open Go.Vc Go.Ab
noncomputable section
variable (v1 : AV) (l1 l2 l3 l4 l5 : List AV) (L1 : List AP) (d1 d2 d3 d4 : DV) (R1 : List DV) (n1 n2 n3 n4 n5 n6 n7 n8 n9 : Int) (m1 m2 m3 m4 m5 : Nat) (t1 t2 t3 t4 : Bool) (p1 p2 p3 p4 p5 : AP) (b1 b2 b3 b4 b5 b6 : P4) (s1 s2 s3 s4 s5 s6 s7 s8 s9 : AS) (H1 : AH) (x1 x2 : List Int) (c1 c2 c3 c4 c5 c6 c7 c8 c9 c10 c11 c12 c13 c14 c15 c16 : G Unit) (Ka1 : AH → Option Unit) (Kb1 Kb2 : DV → AH → Option Unit) (Kc1 Kc2 : DV → DV → AH → Option Unit) (Kd1 : DV → DV → DV → AH → Option Unit)
variable {ads : List Addr}
def ii0 : Int := Int.ofNat (nat_lit 0)
def ii1 : Int := Int.ofNat (nat_lit 1)
def ii10 : Int := Int.ofNat (nat_lit 10)
def ii100 : Int := Int.ofNat (nat_lit 100)
def ii1000 : Int := Int.ofNat (nat_lit 1000)
def ii10000 : Int := Int.ofNat (nat_lit 10000)
def ii100000 : Int := Int.ofNat (nat_lit 100000)
def ii1000000 : Int := Int.ofNat (nat_lit 1000000)
def ii101 : Int := Int.ofNat (nat_lit 101)
def ii102 : Int := Int.ofNat (nat_lit 102)
def ii1023 : Int := Int.ofNat (nat_lit 1023)
def ii1024 : Int := Int.ofNat (nat_lit 1024)
def ii103 : Int := Int.ofNat (nat_lit 103)
def ii104 : Int := Int.ofNat (nat_lit 104)
def ii1048576 : Int := Int.ofNat (nat_lit 1048576)
def ii105 : Int := Int.ofNat (nat_lit 105)
def ii107 : Int := Int.ofNat (nat_lit 107)
def ii1073741824 : Int := Int.ofNat (nat_lit 1073741824)
def ii108 : Int := Int.ofNat (nat_lit 108)
def ii1099511627776 : Int := Int.ofNat (nat_lit 1099511627776)
def ii11 : Int := Int.ofNat (nat_lit 11)
def ii110 : Int := Int.ofNat (nat_lit 110)
def ii1125899906842624 : Int := Int.ofNat (nat_lit 1125899906842624)
def ii1152921504606846976 : Int := Int.ofNat (nat_lit 1152921504606846976)
def ii12 : Int := Int.ofNat (nat_lit 12)
def ii128 : Int := Int.ofNat (nat_lit 128)
def ii13 : Int := Int.ofNat (nat_lit 13)
def ii132 : Int := Int.ofNat (nat_lit 132)
def ii136 : Int := Int.ofNat (nat_lit 136)
def ii144 : Int := Int.ofNat (nat_lit 144)
def ii148 : Int := Int.ofNat (nat_lit 148)
def ii15 : Int := Int.ofNat (nat_lit 15)
def ii1500 : Int := Int.ofNat (nat_lit 1500)
def ii1514 : Int := Int.ofNat (nat_lit 1514)
def ii16 : Int := Int.ofNat (nat_lit 16)
def ii160 : Int := Int.ofNat (nat_lit 160)
def ii164 : Int := Int.ofNat (nat_lit 164)
def ii192 : Int := Int.ofNat (nat_lit 192)
def ii1960 : Int := Int.ofNat (nat_lit 1960)
def ii2 : Int := Int.ofNat (nat_lit 2)
def ii20 : Int := Int.ofNat (nat_lit 20)
def ii200 : Int := Int.ofNat (nat_lit 200)
def ii20000 : Int := Int.ofNat (nat_lit 20000)
def ii200000 : Int := Int.ofNat (nat_lit 200000)
def ii2007 : Int := Int.ofNat (nat_lit 2007)
def ii2047 : Int := Int.ofNat (nat_lit 2047)
def ii2048 : Int := Int.ofNat (nat_lit 2048)
def ii208 : Int := Int.ofNat (nat_lit 208)
def ii2147483648 : Int := Int.ofNat (nat_lit 2147483648)
def ii215 : Int := Int.ofNat (nat_lit 215)
def ii216 : Int := Int.ofNat (nat_lit 216)
def ii22 : Int := Int.ofNat (nat_lit 22)
def ii23 : Int := Int.ofNat (nat_lit 23)
def ii234 : Int := Int.ofNat (nat_lit 234)
def ii24 : Int := Int.ofNat (nat_lit 24)
def ii25 : Int := Int.ofNat (nat_lit 25)
def ii255 : Int := Int.ofNat (nat_lit 255)
def ii256 : Int := Int.ofNat (nat_lit 256)
def ii26 : Int := Int.ofNat (nat_lit 26)
def ii28 : Int := Int.ofNat (nat_lit 28)
def ii3 : Int := Int.ofNat (nat_lit 3)
def ii30 : Int := Int.ofNat (nat_lit 30)
def ii300 : Int := Int.ofNat (nat_lit 300)
def ii32 : Int := Int.ofNat (nat_lit 32)
def ii320 : Int := Int.ofNat (nat_lit 320)
def ii33 : Int := Int.ofNat (nat_lit 33)
def ii36 : Int := Int.ofNat (nat_lit 36)
def ii360 : Int := Int.ofNat (nat_lit 360)
def ii4 : Int := Int.ofNat (nat_lit 4)
def ii40 : Int := Int.ofNat (nat_lit 40)
def ii4095 : Int := Int.ofNat (nat_lit 4095)
def ii4096 : Int := Int.ofNat (nat_lit 4096)
def ii4294967295 : Int := Int.ofNat (nat_lit 4294967295)
def ii4294967296 : Int := Int.ofNat (nat_lit 4294967296)
def ii468 : Int := Int.ofNat (nat_lit 468)
def ii48 : Int := Int.ofNat (nat_lit 48)
def ii49152 : Int := Int.ofNat (nat_lit 49152)
def ii5 : Int := Int.ofNat (nat_lit 5)
def ii50 : Int := Int.ofNat (nat_lit 50)
def ii50000 : Int := Int.ofNat (nat_lit 50000)
def ii512 : Int := Int.ofNat (nat_lit 512)
def ii52 : Int := Int.ofNat (nat_lit 52)
def ii54840 : Int := Int.ofNat (nat_lit 54840)
def ii6 : Int := Int.ofNat (nat_lit 6)
def ii600 : Int := Int.ofNat (nat_lit 600)
def ii63 : Int := Int.ofNat (nat_lit 63)
def ii64 : Int := Int.ofNat (nat_lit 64)
def ii65535 : Int := Int.ofNat (nat_lit 65535)
def ii65536 : Int := Int.ofNat (nat_lit 65536)
def ii7 : Int := Int.ofNat (nat_lit 7)
def ii72 : Int := Int.ofNat (nat_lit 72)
def ii73244475 : Int := Int.ofNat (nat_lit 73244475)
def ii78 : Int := Int.ofNat (nat_lit 78)
def ii8 : Int := Int.ofNat (nat_lit 8)
def ii80 : Int := Int.ofNat (nat_lit 80)
def ii8000 : Int := Int.ofNat (nat_lit 8000)
def ii9 : Int := Int.ofNat (nat_lit 9)
def ii96 : Int := Int.ofNat (nat_lit 96)
def ii980 : Int := Int.ofNat (nat_lit 980)
def im1 : Int := Int.negSucc (nat_lit 0)
def im63 : Int := Int.negSucc (nat_lit 62)
def nn0 : Nat := nat_lit 0
def nn1 : Nat := nat_lit 1
def nn10 : Nat := nat_lit 10
def nn100 : Nat := nat_lit 100
def nn101 : Nat := nat_lit 101
def nn102 : Nat := nat_lit 102
def nn103 : Nat := nat_lit 103
def nn104 : Nat := nat_lit 104
def nn105 : Nat := nat_lit 105
def nn106 : Nat := nat_lit 106
def nn107 : Nat := nat_lit 107
def nn108 : Nat := nat_lit 108
def nn109 : Nat := nat_lit 109
def nn11 : Nat := nat_lit 11
def nn110 : Nat := nat_lit 110
def nn111 : Nat := nat_lit 111
def nn112 : Nat := nat_lit 112
def nn113 : Nat := nat_lit 113
def nn114 : Nat := nat_lit 114
def nn115 : Nat := nat_lit 115
def nn116 : Nat := nat_lit 116
def nn117 : Nat := nat_lit 117
def nn118 : Nat := nat_lit 118
def nn119 : Nat := nat_lit 119
def nn12 : Nat := nat_lit 12
def nn120 : Nat := nat_lit 120
def nn121 : Nat := nat_lit 121
def nn122 : Nat := nat_lit 122
def nn123 : Nat := nat_lit 123
def nn124 : Nat := nat_lit 124
def nn125 : Nat := nat_lit 125
def nn126 : Nat := nat_lit 126
def nn127 : Nat := nat_lit 127
def nn128 : Nat := nat_lit 128
def nn129 : Nat := nat_lit 129
def nn13 : Nat := nat_lit 13
def nn130 : Nat := nat_lit 130
def nn131 : Nat := nat_lit 131
def nn132 : Nat := nat_lit 132
def nn133 : Nat := nat_lit 133
def nn134 : Nat := nat_lit 134
def nn135 : Nat := nat_lit 135
def nn136 : Nat := nat_lit 136
def nn137 : Nat := nat_lit 137
def nn138 : Nat := nat_lit 138
def nn139 : Nat := nat_lit 139
def nn14 : Nat := nat_lit 14
def nn140 : Nat := nat_lit 140
def nn141 : Nat := nat_lit 141
def nn142 : Nat := nat_lit 142
def nn143 : Nat := nat_lit 143
def nn144 : Nat := nat_lit 144
def nn145 : Nat := nat_lit 145
def nn147 : Nat := nat_lit 147
def nn148 : Nat := nat_lit 148
def nn149 : Nat := nat_lit 149
def nn15 : Nat := nat_lit 15
def nn150 : Nat := nat_lit 150
def nn151 : Nat := nat_lit 151
def nn152 : Nat := nat_lit 152
def nn153 : Nat := nat_lit 153
def nn154 : Nat := nat_lit 154
def nn156 : Nat := nat_lit 156
def nn157 : Nat := nat_lit 157
def nn158 : Nat := nat_lit 158
def nn159 : Nat := nat_lit 159
def nn16 : Nat := nat_lit 16
def nn160 : Nat := nat_lit 160
def nn161 : Nat := nat_lit 161
def nn162 : Nat := nat_lit 162
def nn163 : Nat := nat_lit 163
def nn164 : Nat := nat_lit 164
def nn165 : Nat := nat_lit 165
def nn166 : Nat := nat_lit 166
def nn167 : Nat := nat_lit 167
def nn168 : Nat := nat_lit 168
def nn169 : Nat := nat_lit 169
def nn17 : Nat := nat_lit 17
def nn170 : Nat := nat_lit 170
def nn171 : Nat := nat_lit 171
def nn172 : Nat := nat_lit 172
def nn173 : Nat := nat_lit 173
def nn174 : Nat := nat_lit 174
def nn175 : Nat := nat_lit 175
def nn176 : Nat := nat_lit 176
def nn177 : Nat := nat_lit 177
def nn178 : Nat := nat_lit 178
def nn179 : Nat := nat_lit 179
def nn18 : Nat := nat_lit 18
def nn180 : Nat := nat_lit 180
def nn181 : Nat := nat_lit 181
def nn182 : Nat := nat_lit 182
def nn183 : Nat := nat_lit 183
def nn184 : Nat := nat_lit 184
def nn185 : Nat := nat_lit 185
def nn186 : Nat := nat_lit 186
def nn187 : Nat := nat_lit 187
def nn188 : Nat := nat_lit 188
def nn189 : Nat := nat_lit 189
def nn19 : Nat := nat_lit 19
def nn190 : Nat := nat_lit 190
def nn191 : Nat := nat_lit 191
def nn192 : Nat := nat_lit 192
def nn193 : Nat := nat_lit 193
def nn194 : Nat := nat_lit 194
def nn195 : Nat := nat_lit 195
def nn196 : Nat := nat_lit 196
def nn197 : Nat := nat_lit 197
def nn198 : Nat := nat_lit 198
def nn199 : Nat := nat_lit 199
def nn2 : Nat := nat_lit 2
def nn20 : Nat := nat_lit 20
def nn200 : Nat := nat_lit 200
def nn201 : Nat := nat_lit 201
def nn202 : Nat := nat_lit 202
def nn203 : Nat := nat_lit 203
def nn204 : Nat := nat_lit 204
def nn205 : Nat := nat_lit 205
def nn206 : Nat := nat_lit 206
def nn207 : Nat := nat_lit 207
def nn208 : Nat := nat_lit 208
def nn209 : Nat := nat_lit 209
def nn21 : Nat := nat_lit 21
def nn210 : Nat := nat_lit 210
def nn211 : Nat := nat_lit 211
def nn212 : Nat := nat_lit 212
def nn213 : Nat := nat_lit 213
def nn214 : Nat := nat_lit 214
def nn215 : Nat := nat_lit 215
def nn216 : Nat := nat_lit 216
def nn217 : Nat := nat_lit 217
def nn218 : Nat := nat_lit 218
def nn219 : Nat := nat_lit 219
def nn22 : Nat := nat_lit 22
def nn220 : Nat := nat_lit 220
def nn221 : Nat := nat_lit 221
def nn222 : Nat := nat_lit 222
def nn223 : Nat := nat_lit 223
def nn224 : Nat := nat_lit 224
def nn225 : Nat := nat_lit 225
def nn226 : Nat := nat_lit 226
def nn227 : Nat := nat_lit 227
def nn228 : Nat := nat_lit 228
def nn229 : Nat := nat_lit 229
def nn23 : Nat := nat_lit 23
def nn230 : Nat := nat_lit 230
def nn231 : Nat := nat_lit 231
def nn232 : Nat := nat_lit 232
def nn233 : Nat := nat_lit 233
def nn234 : Nat := nat_lit 234
def nn235 : Nat := nat_lit 235
def nn236 : Nat := nat_lit 236
def nn237 : Nat := nat_lit 237
def nn238 : Nat := nat_lit 238
def nn239 : Nat := nat_lit 239
def nn24 : Nat := nat_lit 24
def nn240 : Nat := nat_lit 240
def nn241 : Nat := nat_lit 241
def nn242 : Nat := nat_lit 242
def nn243 : Nat := nat_lit 243
def nn244 : Nat := nat_lit 244
def nn245 : Nat := nat_lit 245
def nn246 : Nat := nat_lit 246
def nn247 : Nat := nat_lit 247
def nn248 : Nat := nat_lit 248
def nn249 : Nat := nat_lit 249
def nn25 : Nat := nat_lit 25
def nn250 : Nat := nat_lit 250
def nn251 : Nat := nat_lit 251
def nn252 : Nat := nat_lit 252
def nn253 : Nat := nat_lit 253
def nn254 : Nat := nat_lit 254
def nn255 : Nat := nat_lit 255
def nn256 : Nat := nat_lit 256
def nn257 : Nat := nat_lit 257
def nn258 : Nat := nat_lit 258
def nn259 : Nat := nat_lit 259
def nn26 : Nat := nat_lit 26
def nn260 : Nat := nat_lit 260
def nn261 : Nat := nat_lit 261
def nn262 : Nat := nat_lit 262
def nn263 : Nat := nat_lit 263
def nn264 : Nat := nat_lit 264
def nn265 : Nat := nat_lit 265
def nn266 : Nat := nat_lit 266
def nn267 : Nat := nat_lit 267
def nn268 : Nat := nat_lit 268
def nn269 : Nat := nat_lit 269
def nn27 : Nat := nat_lit 27
def nn270 : Nat := nat_lit 270
def nn271 : Nat := nat_lit 271
def nn272 : Nat := nat_lit 272
def nn273 : Nat := nat_lit 273
def nn274 : Nat := nat_lit 274
def nn275 : Nat := nat_lit 275
def nn276 : Nat := nat_lit 276
def nn277 : Nat := nat_lit 277
def nn278 : Nat := nat_lit 278
def nn279 : Nat := nat_lit 279
def nn28 : Nat := nat_lit 28
def nn280 : Nat := nat_lit 280
def nn281 : Nat := nat_lit 281
def nn282 : Nat := nat_lit 282
def nn283 : Nat := nat_lit 283
def nn284 : Nat := nat_lit 284
def nn285 : Nat := nat_lit 285
def nn286 : Nat := nat_lit 286
def nn287 : Nat := nat_lit 287
def nn288 : Nat := nat_lit 288
def nn289 : Nat := nat_lit 289
def nn29 : Nat := nat_lit 29
def nn290 : Nat := nat_lit 290
def nn291 : Nat := nat_lit 291
def nn292 : Nat := nat_lit 292
def nn293 : Nat := nat_lit 293
def nn294 : Nat := nat_lit 294
def nn295 : Nat := nat_lit 295
def nn296 : Nat := nat_lit 296
def nn297 : Nat := nat_lit 297
def nn298 : Nat := nat_lit 298
def nn299 : Nat := nat_lit 299
def nn3 : Nat := nat_lit 3
def nn30 : Nat := nat_lit 30
def nn300 : Nat := nat_lit 300
def nn301 : Nat := nat_lit 301
def nn302 : Nat := nat_lit 302
def nn303 : Nat := nat_lit 303
def nn304 : Nat := nat_lit 304
def nn305 : Nat := nat_lit 305
def nn306 : Nat := nat_lit 306
def nn307 : Nat := nat_lit 307
def nn308 : Nat := nat_lit 308
def nn309 : Nat := nat_lit 309
def nn31 : Nat := nat_lit 31
def nn310 : Nat := nat_lit 310
def nn311 : Nat := nat_lit 311
def nn312 : Nat := nat_lit 312
def nn313 : Nat := nat_lit 313
def nn314 : Nat := nat_lit 314
def nn315 : Nat := nat_lit 315
def nn316 : Nat := nat_lit 316
def nn317 : Nat := nat_lit 317
def nn318 : Nat := nat_lit 318
def nn319 : Nat := nat_lit 319
def nn32 : Nat := nat_lit 32
def nn321 : Nat := nat_lit 321
def nn322 : Nat := nat_lit 322
def nn323 : Nat := nat_lit 323
def nn324 : Nat := nat_lit 324
def nn325 : Nat := nat_lit 325
def nn326 : Nat := nat_lit 326
def nn327 : Nat := nat_lit 327
def nn328 : Nat := nat_lit 328
def nn329 : Nat := nat_lit 329
def nn33 : Nat := nat_lit 33
def nn330 : Nat := nat_lit 330
def nn331 : Nat := nat_lit 331
def nn332 : Nat := nat_lit 332
def nn333 : Nat := nat_lit 333
def nn334 : Nat := nat_lit 334
def nn335 : Nat := nat_lit 335
def nn336 : Nat := nat_lit 336
def nn337 : Nat := nat_lit 337
def nn338 : Nat := nat_lit 338
def nn339 : Nat := nat_lit 339
def nn34 : Nat := nat_lit 34
def nn340 : Nat := nat_lit 340
def nn341 : Nat := nat_lit 341
def nn342 : Nat := nat_lit 342
def nn343 : Nat := nat_lit 343
def nn344 : Nat := nat_lit 344
def nn345 : Nat := nat_lit 345
def nn346 : Nat := nat_lit 346
def nn35 : Nat := nat_lit 35
def nn36 : Nat := nat_lit 36
def nn367 : Nat := nat_lit 367
def nn368 : Nat := nat_lit 368
def nn369 : Nat := nat_lit 369
def nn37 : Nat := nat_lit 37
def nn370 : Nat := nat_lit 370
def nn4 : Nat := nat_lit 4
def nn40 : Nat := nat_lit 40
def nn41 : Nat := nat_lit 41
def nn42 : Nat := nat_lit 42
def nn43 : Nat := nat_lit 43
def nn44 : Nat := nat_lit 44
def nn45 : Nat := nat_lit 45
def nn46 : Nat := nat_lit 46
def nn47 : Nat := nat_lit 47
def nn48 : Nat := nat_lit 48
def nn49 : Nat := nat_lit 49
def nn5 : Nat := nat_lit 5
def nn50 : Nat := nat_lit 50
def nn51 : Nat := nat_lit 51
def nn52 : Nat := nat_lit 52
def nn53 : Nat := nat_lit 53
def nn54 : Nat := nat_lit 54
def nn55 : Nat := nat_lit 55
def nn56 : Nat := nat_lit 56
def nn57 : Nat := nat_lit 57
def nn58 : Nat := nat_lit 58
def nn59 : Nat := nat_lit 59
def nn6 : Nat := nat_lit 6
def nn60 : Nat := nat_lit 60
def nn61 : Nat := nat_lit 61
def nn62 : Nat := nat_lit 62
def nn63 : Nat := nat_lit 63
def nn64 : Nat := nat_lit 64
def nn65 : Nat := nat_lit 65
def nn66 : Nat := nat_lit 66
def nn67 : Nat := nat_lit 67
def nn68 : Nat := nat_lit 68
def nn69 : Nat := nat_lit 69
def nn7 : Nat := nat_lit 7
def nn70 : Nat := nat_lit 70
def nn72 : Nat := nat_lit 72
def nn75 : Nat := nat_lit 75
def nn76 : Nat := nat_lit 76
def nn77 : Nat := nat_lit 77
def nn78 : Nat := nat_lit 78
def nn79 : Nat := nat_lit 79
def nn8 : Nat := nat_lit 8
def nn80 : Nat := nat_lit 80
def nn81 : Nat := nat_lit 81
def nn82 : Nat := nat_lit 82
def nn83 : Nat := nat_lit 83
def nn84 : Nat := nat_lit 84
def nn85 : Nat := nat_lit 85
def nn86 : Nat := nat_lit 86
def nn88 : Nat := nat_lit 88
def nn89 : Nat := nat_lit 89
def nn9 : Nat := nat_lit 9
def nn90 : Nat := nat_lit 90
def nn91 : Nat := nat_lit 91
def nn92 : Nat := nat_lit 92
def nn93 : Nat := nat_lit 93
def nn94 : Nat := nat_lit 94
def nn95 : Nat := nat_lit 95
def nn96 : Nat := nat_lit 96
def nn97 : Nat := nat_lit 97
def nn98 : Nat := nat_lit 98
def nn99 : Nat := nat_lit 99
def z0 : List AV := [(AV.i .u8 ii0), (AV.i .u8 ii0), (AV.i .u8 ii0), (AV.i .u8 ii0), (AV.i .u8 ii0), (AV.i .u8 ii0)]
def z1 : List AV := [(AV.i .u8 ii2), (AV.i .u8 ii0), (AV.i .u8 ii0), (AV.i .u8 ii0), (AV.i .u8 ii1), (AV.i .u8 ii0)]
/-- muezzinair.BSS -/
def g31 : G Unit := fun R1 H1 Kb1 => ln R1 <| alF H1 z0 nn6 fun b1 H2 => wrL H2 b1 nn0 z1 fun H3 => rdR H3 b1 nn0 nn6 fun l1 => Kb1 (DV.a l1) H3
theorem s31 : SN ads 31 (g31) :=
  mk_snd [] ⟨fun _ => [], fun _ => none⟩ [] Tryz.func31 rfl .nil
def G31 : G Unit := g31
theorem S31 : SN ads 31 G31 := s31

def z2 : List AV := [(AV.i .u8 ii0), (AV.i .u8 ii0), (AV.i .u8 ii0), (AV.i .u8 ii0), (AV.i .u8 ii0), (AV.i .u8 ii0), (AV.i .u32 ii0), (AV.i .i64 ii0), (AV.i .i64 ii0), (AV.i .i64 ii0), (AV.i .i64 ii0), (AV.i .i64 ii0), (AV.i .i64 ii0), (AV.i .i64 ii0), (AV.i .i64 ii0), (AV.i .i64 ii0), (AV.i .i64 ii0), (AV.i .i64 ii0), (AV.i .i64 ii0), (AV.i .i64 ii0), (AV.i .i64 ii0)]
def z3 : List AV := [(AV.i .i64 ii600), (AV.i .i64 ii600), (AV.i .i64 ii600), (AV.i .i64 ii600)]
def g15_1 := br t1 (wrK H1 b1 nn11 (AV.i .i64 ii4) fun H2 => wrK H2 b1 nn13 (AV.i .i64 ii20000) fun H3 => wrK H3 b1 nn9 (AV.i .i64 ii100) fun H4 => wrK H4 b1 nn10 (AV.i .i64 ii1000) fun H5 => wrK H5 b1 nn8 (AV.i .i64 ii100000) fun H6 => Ka1 H6) (frcB (ieq n1 ii4) fun t2 => br t2 (wrK H1 b1 nn11 (AV.i .i64 ii8) fun H2 => wrK H2 b1 nn12 (AV.i .i64 ii5) fun H3 => wrK H3 b1 nn14 (AV.i .i64 ii300) fun H4 => wrL H4 b1 nn15 z3 fun H5 => Ka1 H5) (Ka1 H1))
def g15_2 := asI (irem n1 ii5) fun n2 => frcB (ieq n2 ii1) fun t1 => br t1 (wrK H1 b1 nn11 (AV.i .i64 ii1) fun H2 => wrK H2 b1 nn12 (AV.i .i64 ii0) fun H3 => Ka1 H3) (frcB (ieq n2 ii2) fun t2 => br t2 (wrK H1 b1 nn11 (AV.i .i64 ii64) fun H2 => wrK H2 b1 nn7 (AV.i .i64 ii9) fun H3 => wrK H3 b1 nn19 (AV.i .i64 ii0) fun H4 => wrK H4 b1 nn20 (AV.i .i64 ii0) fun H5 => Ka1 H5) (frcB (ieq n2 ii3) fun t3 => g15_1 n2 t3 b1 H1 Ka1))
def g15_3 := wrL H1 b1 nn0 (lapp l1 ((AV.i .u32 n1) :: ((AV.i .i64 ii40) :: ((AV.i .i64 ii8000) :: ((AV.i .i64 ii50000) :: ((AV.i .i64 ii1000000) :: ((AV.i .i64 ii16) :: ((AV.i .i64 ii2) :: ((AV.i .i64 ii1073741824) :: ((AV.i .i64 ii20000) :: ((AV.i .i64 ii0) :: ((AV.i .i64 ii0) :: ((AV.i .i64 ii0) :: ((AV.i .i64 ii0) :: ((AV.i .i64 ii100000) :: ((AV.i .i64 ii200000) :: [])))))))))))))))) fun H2 => jF [] (fun H3 => rdR H3 b1 nn0 nn21 fun l2 => must (Nat.beq (llen l2) nn21) <| wrL H3 b2 nn0 l2 fun H4 => rdR H4 b2 nn0 nn21 fun l3 => Kb1 (DV.a l3) H4) fun Ka1 => must (bnot (ieq ii5 ii0)) <| g15_2 n2 b1 H2 Ka1
def g15_4 := alF H1 z2 nn21 fun b2 H2 => must (Nat.beq (llen (lapp l1 ((AV.i .u32 n1) :: ((AV.i .i64 ii40) :: ((AV.i .i64 ii8000) :: ((AV.i .i64 ii50000) :: ((AV.i .i64 ii1000000) :: ((AV.i .i64 ii16) :: ((AV.i .i64 ii2) :: ((AV.i .i64 ii1073741824) :: ((AV.i .i64 ii20000) :: ((AV.i .i64 ii0) :: ((AV.i .i64 ii0) :: ((AV.i .i64 ii0) :: ((AV.i .i64 ii0) :: ((AV.i .i64 ii100000) :: ((AV.i .i64 ii200000) :: []))))))))))))))))) nn21) <| g15_3 l1 n1 n2 b2 b1 H2 Kb1
/-- muezzinair.Config -/
def g15 : G Unit := fun R1 H1 Kb1 => lc R1 fun d1 R2 => onV d1 fun v1 => isI .i64 v1 fun n1 => ln R2 <| alF H1 z2 nn21 fun b1 H2 => c1 [(DV.v (AV.i .i64 n1)), (DV.v (AV.i .i64 ii1048576))] H2 fun d2 H3 => onV d2 fun v2 => isI .i64 v2 fun n2 => c2 [] H3 fun d3 H4 => onL d3 fun l1 => wrp .u32 n2 fun n3 => must (Nat.beq (llen l1) nn6) <| g15_4 l1 n3 n2 b1 H4 Kb1
theorem s15 (h14 : SN ads 14 c1) (h31 : SN ads 31 c2) : SN ads 15 (g15 c1 c2) :=
  mk_snd [(nn14, c1), (nn31, c2)] ⟨fun _ => [], fun n => match n with | 23 => some [] | _ => none⟩ [.int .i64] Tryz.func15 rfl (.cons h14 (.cons h31 .nil))
def G15 : G Unit := g15 gNumber.G G31
theorem S15 : SN ads 15 G15 := s15 _ _ gNumber.S S31

/-- muezzinair.Addr -/
def g30 : G Unit := fun R1 H1 Kb1 => lc R1 fun d1 R2 => onV d1 fun v1 => isI .i64 v1 fun n1 => ln R2 <| alF H1 z0 nn6 fun b1 H2 => wrp .u8 n1 fun n2 => wrL H2 b1 nn0 [(AV.i .u8 ii2), (AV.i .u8 ii0), (AV.i .u8 ii0), (AV.i .u8 ii0), (AV.i .u8 ii0), (AV.i .u8 n2)] fun H3 => rdR H3 b1 nn0 nn6 fun l1 => Kb1 (DV.a l1) H3
theorem s30 : SN ads 30 (g30) :=
  mk_snd [] ⟨fun _ => [], fun _ => none⟩ [.int .i64] Tryz.func30 rfl .nil
def G30 : G Unit := g30
theorem S30 : SN ads 30 G30 := s30

def g250_1 := alK H1 [(AV.i .u32 n1), (AV.i .i64 n2), (AV.i .i64 n3), (AV.s AS.nil), (AV.i .i64 ii0), (AV.i .i64 ii0), (AV.i .i64 ii0), (AV.i .i64 ii0), (AV.i .u32 ii0), (AV.i .u32 ii0), (AV.b false), (AV.s AS.nil), (AV.i .i64 ii0), (AV.i .i64 ii0), (AV.i .i64 ii0), (AV.i .i64 ii0), (AV.i .u32 ii0), (AV.i .u32 ii0), (AV.b false), (AV.s AS.nil), (AV.i .i64 ii0), (AV.i .i64 ii0), (AV.i .i64 ii0), (AV.i .i64 ii0), (AV.i .u32 ii0), (AV.i .u32 ii0), (AV.b false), (AV.s AS.nil), (AV.i .i64 ii0), (AV.i .i64 ii0), (AV.i .i64 ii0), (AV.i .i64 ii0), (AV.i .u32 ii0), (AV.i .u32 ii0), (AV.b false), (AV.s AS.nil), (AV.i .i64 ii0), (AV.i .i64 ii0), (AV.i .i64 ii0), (AV.i .i64 ii0), (AV.i .u32 ii0), (AV.i .u32 ii0), (AV.b false), (AV.s AS.nil), (AV.i .i64 ii0), (AV.i .i64 ii0), (AV.i .i64 ii0), (AV.i .i64 ii0), (AV.i .u32 ii0), (AV.i .u32 ii0), (AV.b false), (AV.s AS.nil), (AV.i .i64 ii0), (AV.i .i64 ii0), (AV.i .i64 ii0), (AV.i .i64 ii0), (AV.i .u32 ii0), (AV.i .u32 ii0), (AV.b false), (AV.s AS.nil), (AV.i .i64 ii0), (AV.i .i64 ii0), (AV.i .i64 ii0), (AV.i .i64 ii0), (AV.i .u32 ii0), (AV.i .u32 ii0), (AV.b false), (AV.s AS.nil), (AV.i .i64 ii0), (AV.i .i64 ii0), (AV.i .i64 ii0), (AV.i .i64 ii0), (AV.i .u32 ii0), (AV.i .u32 ii0), (AV.b false), (AV.s AS.nil), (AV.i .i64 ii0), (AV.i .i64 ii0), (AV.i .i64 ii0), (AV.i .i64 ii0), (AV.i .u32 ii0), (AV.i .u32 ii0), (AV.b false), (AV.s AS.nil), (AV.i .i64 ii0), (AV.i .i64 ii0), (AV.i .i64 ii0), (AV.i .i64 ii0), (AV.i .u32 ii0), (AV.i .u32 ii0), (AV.b false), (AV.s AS.nil), (AV.i .i64 ii0), (AV.i .i64 ii0), (AV.i .i64 ii0), (AV.i .i64 ii0), (AV.i .u32 ii0), (AV.i .u32 ii0), (AV.b false), (AV.s AS.nil), (AV.i .i64 ii0), (AV.i .i64 ii0), (AV.i .i64 ii0), (AV.i .i64 ii0), (AV.i .u32 ii0), (AV.i .u32 ii0), (AV.b false), (AV.s AS.nil), (AV.i .i64 ii0), (AV.i .i64 ii0), (AV.i .i64 ii0), (AV.i .i64 ii0), (AV.i .u32 ii0), (AV.i .u32 ii0), (AV.b false), (AV.s AS.nil), (AV.i .i64 ii0), (AV.i .i64 ii0), (AV.i .i64 ii0), (AV.i .i64 ii0), (AV.i .u32 ii0), (AV.i .u32 ii0), (AV.b false), (AV.s AS.nil), (AV.i .i64 ii0), (AV.i .i64 ii0), (AV.i .i64 ii0), (AV.i .i64 ii0), (AV.i .u32 ii0), (AV.i .u32 ii0), (AV.b false), (AV.s AS.nil), (AV.s AS.nil), (AV.i .i64 ii0), (AV.i .i64 ii0)] fun b1 H2 => Kb1 (DV.v (AV.p (AP.at b1 nn0))) H2
/-- fq.New -/
def g250 : G Unit := fun R1 H1 Kb1 => lc R1 fun d1 R2 => onV d1 fun v1 => isI .u32 v1 fun n1 => lc R2 fun d2 R3 => onV d2 fun v2 => isI .i64 v2 fun n2 => lc R3 fun d3 R4 => onV d3 fun v3 => isI .i64 v3 fun n3 => ln R4 <| g250_1 n1 n2 n3 H1 Kb1
theorem s250 : SN ads 250 (g250) :=
  mk_snd [] ⟨fun _ => [], fun _ => none⟩ [.int .u32, .int .i64, .int .i64] Tryz.func250 rfl .nil
def G250 : G Unit := g250
theorem S250 : SN ads 250 G250 := s250

def g156_1 := isI .i64 v1 fun n4 => onA p1 fun b1 m1 => rdK H1 b1 (Nat.add m1 nn2) fun v2 => isI .i64 v2 fun n5 => onA p1 fun b2 m2 => rng n1 nn16 <| c1 [(DV.v (AV.i .u32 n2)), (DV.v (AV.i .i64 n4)), (DV.v (AV.i .i64 n5))] H1 fun d1 H2 => onV d1 fun v3 => isP v3 fun p2 => rng n3 nn8 <| wrK H2 b2 (Nat.add (Nat.add (Nat.add m2 nn5) (Nat.mul (itn n1) nn8)) (itn n3)) (AV.p p2) fun H3 => wrp .i64 (iadd n3 ii1) fun n6 => Kb1 (DV.v (AV.i .i64 n6)) H3
def g156_2 := isP v1 fun p1 => lc R1 fun d1 R2 => onV d1 fun v2 => isI .i64 v2 fun n1 => ln R2 <| lpR (failF [(5 , .int .i64)]) (fun Kb2 => fun d2 H2 => onV d2 fun v3 => isI .i64 v3 fun n2 => frcB (ilt n2 ii8) fun t1 => br t1 (onA p1 fun b1 m1 => rdK H2 b1 m1 fun v4 => isI .u32 v4 fun n3 => onA p1 fun b2 m2 => rdK H2 b2 (Nat.add m2 nn1) fun v5 => g156_1 v5 n1 n3 n2 p1 H2 c1 Kb2) (Kb1 DV.n H2)) (nat_lit 100000) (DV.v (AV.i .i64 ii0)) H1
/-- (*pool.Pool).renew -/
def g156 : G Unit := fun R1 H1 Kb1 => lc R1 fun d1 R2 => onV d1 fun v1 => g156_2 v1 R2 H1 c1 Kb1
theorem s156 (h250 : SN ads 250 c1) : SN ads 156 (g156 c1) :=
  mk_snd [(nn250, c1)] ⟨fun n => match n with | 0 => [(5, .int .i64)] | _ => [], fun _ => none⟩ [.ptr, .int .i64] Tryz.func156 rfl (.cons h250 .nil)
def G156 : G Unit := g156 G250
theorem S156 : SN ads 156 G156 := s156 _ S250

def g91_1 := alK H1 [(AV.i .u32 n1), (AV.i .i64 n2), (AV.i .i64 n3), (AV.i .i64 n4), (AV.i .i64 n5), (AV.p AP.nil), (AV.p AP.nil), (AV.p AP.nil), (AV.p AP.nil), (AV.p AP.nil), (AV.p AP.nil), (AV.p AP.nil), (AV.p AP.nil), (AV.p AP.nil), (AV.p AP.nil), (AV.p AP.nil), (AV.p AP.nil), (AV.p AP.nil), (AV.p AP.nil), (AV.p AP.nil), (AV.p AP.nil), (AV.p AP.nil), (AV.p AP.nil), (AV.p AP.nil), (AV.p AP.nil), (AV.p AP.nil), (AV.p AP.nil), (AV.p AP.nil), (AV.p AP.nil), (AV.p AP.nil), (AV.p AP.nil), (AV.p AP.nil), (AV.p AP.nil), (AV.p AP.nil), (AV.p AP.nil), (AV.p AP.nil), (AV.p AP.nil), (AV.p AP.nil), (AV.p AP.nil), (AV.p AP.nil), (AV.p AP.nil), (AV.p AP.nil), (AV.p AP.nil), (AV.p AP.nil), (AV.p AP.nil), (AV.p AP.nil), (AV.p AP.nil), (AV.p AP.nil), (AV.p AP.nil), (AV.p AP.nil), (AV.p AP.nil), (AV.p AP.nil), (AV.p AP.nil), (AV.p AP.nil), (AV.p AP.nil), (AV.p AP.nil), (AV.p AP.nil), (AV.p AP.nil), (AV.p AP.nil), (AV.p AP.nil), (AV.p AP.nil), (AV.p AP.nil), (AV.p AP.nil), (AV.p AP.nil), (AV.p AP.nil), (AV.p AP.nil), (AV.p AP.nil), (AV.p AP.nil), (AV.p AP.nil), (AV.p AP.nil), (AV.p AP.nil), (AV.p AP.nil), (AV.p AP.nil), (AV.p AP.nil), (AV.p AP.nil), (AV.p AP.nil), (AV.p AP.nil), (AV.p AP.nil), (AV.p AP.nil), (AV.p AP.nil), (AV.p AP.nil), (AV.p AP.nil), (AV.p AP.nil), (AV.p AP.nil), (AV.p AP.nil), (AV.p AP.nil), (AV.p AP.nil), (AV.p AP.nil), (AV.p AP.nil), (AV.p AP.nil), (AV.p AP.nil), (AV.p AP.nil), (AV.p AP.nil), (AV.p AP.nil), (AV.p AP.nil), (AV.p AP.nil), (AV.p AP.nil), (AV.p AP.nil), (AV.p AP.nil), (AV.p AP.nil), (AV.p AP.nil), (AV.p AP.nil), (AV.p AP.nil), (AV.p AP.nil), (AV.p AP.nil), (AV.p AP.nil), (AV.p AP.nil), (AV.p AP.nil), (AV.p AP.nil), (AV.p AP.nil), (AV.p AP.nil), (AV.p AP.nil), (AV.p AP.nil), (AV.p AP.nil), (AV.p AP.nil), (AV.p AP.nil), (AV.p AP.nil), (AV.p AP.nil), (AV.p AP.nil), (AV.p AP.nil), (AV.p AP.nil), (AV.p AP.nil), (AV.p AP.nil), (AV.p AP.nil), (AV.p AP.nil), (AV.p AP.nil), (AV.p AP.nil), (AV.p AP.nil), (AV.p AP.nil), (AV.p AP.nil), (AV.p AP.nil), (AV.p AP.nil), (AV.p AP.nil)] fun b1 H2 => lpR (failF [(36 , .int .i64)]) (fun Kb2 => fun d1 H3 => onV d1 fun v1 => isI .i64 v1 fun n6 => frcB (ilt n6 ii16) fun t1 => br t1 (c1 [(DV.v (AV.p (AP.at b1 nn0))), (DV.v (AV.i .i64 n6))] H3 fun d2 H4 => wrp .i64 (iadd n6 ii1) fun n7 => Kb2 (DV.v (AV.i .i64 n7)) H4) (Kb1 (DV.c (DV.v (AV.p (AP.at b1 nn0))) (DV.c (DV.v AV.ni) DV.n)) H3)) (nat_lit 100000) (DV.v (AV.i .i64 ii0)) H2
def g91_2 := onV d1 fun v1 => isB v1 fun t1 => jn (fun d2 H2 => jn (fun d3 H3 => pickK t1 (DV.v (AV.b true)) d3 fun d4 => onV d4 fun v2 => isB v2 fun t2 => br t2 (Kb1 (DV.c (DV.v (AV.p AP.nil)) (DV.c (DV.v (AV.er (nat_lit 2))) DV.n)) H3) (g91_1 n1 n2 n3 n4 n5 H3 c1 Kb1)) fun Kb2 => br t1 (Kb2 DV.n H2) (onV d2 fun v2 => isI .i64 v2 fun n6 => frcB (ilt ii1048576 n6) fun t2 => Kb2 (DV.v (AV.b t2)) H2)) fun Kb2 => br t1 (Kb2 DV.n H1) (Kb2 (DV.v (AV.i .i64 n5)) H1)
def g91_3 := jn (fun d2 H2 => pickK t1 (DV.v (AV.b true)) d2 fun d3 => onV d3 fun v1 => isB v1 fun t2 => jn (fun d4 H3 => jn (fun d5 H4 => pickK t2 (DV.v (AV.b true)) d5 fun d6 => g91_2 d6 n1 n2 n3 n4 n5 H4 c1 Kb1) fun Kb2 => br t2 (Kb2 DV.n H3) (onV d4 fun v2 => isI .i64 v2 fun n6 => frcB (ilt n6 ii1) fun t3 => Kb2 (DV.v (AV.b t3)) H3)) fun Kb2 => br t2 (Kb2 DV.n H2) (Kb2 (DV.v (AV.i .i64 n5)) H2)) fun Kb2 => br t1 (Kb2 DV.n H1) (onV d1 fun v1 => isI .i64 v1 fun n6 => frcB (ilt ii512 n6) fun t2 => Kb2 (DV.v (AV.b t2)) H1)
def g91_4 := isI .u32 v1 fun n1 => lc R1 fun d1 R2 => onV d1 fun v2 => isI .i64 v2 fun n2 => lc R2 fun d2 R3 => onV d2 fun v3 => isI .i64 v3 fun n3 => lc R3 fun d3 R4 => onV d3 fun v4 => isI .i64 v4 fun n4 => lc R4 fun d4 R5 => onV d4 fun v5 => isI .i64 v5 fun n5 => ln R5 <| frcB (ilt n4 ii1) fun t1 => jn (fun d5 H2 => g91_3 d5 n1 n2 n3 n4 n5 t1 H2 c1 Kb1) fun Kb2 => br t1 (Kb2 DV.n H1) (Kb2 (DV.v (AV.i .i64 n4)) H1)
/-- pool.New -/
def g91 : G Unit := fun R1 H1 Kb1 => lc R1 fun d1 R2 => onV d1 fun v1 => g91_4 v1 R2 H1 c1 Kb1
theorem s91 (h156 : SN ads 156 c1) : SN ads 91 (g91 c1) :=
  mk_snd [(nn156, c1)] ⟨fun n => match n with | 0 => [(36, .int .i64)] | _ => [], fun _ => none⟩ [.int .u32, .int .i64, .int .i64, .int .i64, .int .i64] Tryz.func91 rfl (.cons h156 .nil)
def G91 : G Unit := g91 G156
theorem S91 : SN ads 91 G91 := s91 _ S156

def g157_1 := jn (fun d2 H2 => pickK t1 (DV.v (AV.b true)) d2 fun d3 => onV d3 fun v1 => isB v1 fun t2 => br t2 (Kb1 (DV.c (DV.v (AV.p AP.nil)) (DV.c (DV.v (AV.er (nat_lit 2))) DV.n)) H2) (alK H2 [(AV.i .i64 n1), (AV.i .i64 n1), (AV.i .i64 n2), (AV.s AS.nil)] fun b1 H3 => Kb1 (DV.c (DV.v (AV.p (AP.at b1 nn0))) (DV.c (DV.v AV.ni) DV.n)) H3)) fun Kb2 => br t1 (Kb2 DV.n H1) (onV d1 fun v1 => isI .i64 v1 fun n3 => frcB (ilt ii64 n3) fun t2 => Kb2 (DV.v (AV.b t2)) H1)
def g157_2 := onV d1 fun v1 => isB v1 fun t1 => jn (fun d2 H2 => jn (fun d3 H3 => pickK t1 (DV.v (AV.b true)) d3 fun d4 => onV d4 fun v2 => isB v2 fun t2 => jn (fun d5 H4 => g157_1 d5 n1 n2 t2 H4 Kb1) fun Kb2 => br t2 (Kb2 DV.n H3) (Kb2 (DV.v (AV.i .i64 n2)) H3)) fun Kb2 => br t1 (Kb2 DV.n H2) (onV d2 fun v2 => isI .i64 v2 fun n3 => frcB (ilt n3 ii1) fun t2 => Kb2 (DV.v (AV.b t2)) H2)) fun Kb2 => br t1 (Kb2 DV.n H1) (Kb2 (DV.v (AV.i .i64 n2)) H1)
def g157_3 := lc R1 fun d1 R2 => onV d1 fun v1 => isI .i64 v1 fun n1 => lc R2 fun d2 R3 => onV d2 fun v2 => isI .i64 v2 fun n2 => ln R3 <| frcB (ilt n1 ii0) fun t1 => jn (fun d3 H2 => jn (fun d4 H3 => pickK t1 (DV.v (AV.b true)) d4 fun d5 => g157_2 d5 n1 n2 H3 Kb1) fun Kb2 => br t1 (Kb2 DV.n H2) (onV d3 fun v3 => isI .i64 v3 fun n3 => frcB (ile ii4096 n3) fun t2 => Kb2 (DV.v (AV.b t2)) H2)) fun Kb2 => br t1 (Kb2 DV.n H1) (Kb2 (DV.v (AV.i .i64 n1)) H1)
/-- win.New -/
def g157 : G Unit := fun R1 H1 Kb1 => g157_3 R1 H1 Kb1
theorem s157 : SN ads 157 (g157) :=
  mk_snd [] ⟨fun _ => [], fun _ => none⟩ [.int .i64, .int .i64] Tryz.func157 rfl .nil
def G157 : G Unit := g157
theorem S157 : SN ads 157 G157 := s157

def g92_1 := onC d1 fun d2 d3 => onV d2 fun v1 => isP v1 fun p1 => onC d3 fun d4 d5 => onV d4 fun v2 => onN d5 <| ifA true true v2 AV.ni fun t1 => frcB (bnot t1) fun t2 => br t2 (Kb1 (DV.c (DV.v (AV.p AP.nil)) (DV.c (DV.v v2) DV.n)) H1) (alK H1 [(AV.p p1), (AV.i .i64 n1), (AV.i .i64 n2), (AV.i .i64 n3), (AV.i .i64 ii1), (AV.i .i64 ii0), (AV.s AS.nil), (AV.b false), (AV.i .i64 ii0)] fun b1 H2 => Kb1 (DV.c (DV.v (AV.p (AP.at b1 nn0))) (DV.c (DV.v AV.ni) DV.n)) H2)
def g92_2 := jn (fun d1 H2 => jn (fun d2 H3 => pickK t1 (DV.v (AV.b true)) d2 fun d3 => onV d3 fun v1 => isB v1 fun t2 => br t2 (Kb1 (DV.c (DV.v (AV.p AP.nil)) (DV.c (DV.v (AV.er (nat_lit 2))) DV.n)) H3) (c1 [(DV.v (AV.i .i64 ii0)), (DV.v (AV.i .i64 ii1))] H3 fun d4 H4 => g92_1 d4 n1 n2 n3 H4 Kb1)) fun Kb2 => br t1 (Kb2 DV.n H2) (onV d1 fun v1 => isI .i64 v1 fun n4 => frcB (ilt ii1099511627776 n4) fun t2 => Kb2 (DV.v (AV.b t2)) H2)) fun Kb2 => br t1 (Kb2 DV.n H1) (Kb2 (DV.v (AV.i .i64 n3)) H1)
def g92_3 := jn (fun d2 H2 => pickK t1 (DV.v (AV.b true)) d2 fun d3 => onV d3 fun v1 => isB v1 fun t2 => jn (fun d4 H3 => jn (fun d5 H4 => pickK t2 (DV.v (AV.b true)) d5 fun d6 => onV d6 fun v2 => isB v2 fun t3 => g92_2 n1 n2 n3 t3 H4 c1 Kb1) fun Kb2 => br t2 (Kb2 DV.n H3) (onV d4 fun v2 => isI .i64 v2 fun n4 => frcB (ilt n4 ii1) fun t3 => Kb2 (DV.v (AV.b t3)) H3)) fun Kb2 => br t2 (Kb2 DV.n H2) (Kb2 (DV.v (AV.i .i64 n3)) H2)) fun Kb2 => br t1 (Kb2 DV.n H1) (onV d1 fun v1 => isI .i64 v1 fun n4 => frcB (ilt ii15 n4) fun t2 => Kb2 (DV.v (AV.b t2)) H1)
def g92_4 := isB v1 fun t1 => jn (fun d1 H2 => jn (fun d2 H3 => pickK t1 (DV.v (AV.b true)) d2 fun d3 => onV d3 fun v2 => isB v2 fun t2 => jn (fun d4 H4 => g92_3 d4 n1 n2 n3 t2 H4 c1 Kb1) fun Kb2 => br t2 (Kb2 DV.n H3) (Kb2 (DV.v (AV.i .i64 n2)) H3)) fun Kb2 => br t1 (Kb2 DV.n H2) (onV d1 fun v2 => isI .i64 v2 fun n4 => frcB (ilt n4 ii0) fun t2 => Kb2 (DV.v (AV.b t2)) H2)) fun Kb2 => br t1 (Kb2 DV.n H1) (Kb2 (DV.v (AV.i .i64 n2)) H1)
def g92_5 := isI .i64 v1 fun n2 => lc R1 fun d1 R2 => onV d1 fun v2 => isI .i64 v2 fun n3 => ln R2 <| frcB (ilt n1 ii1) fun t1 => jn (fun d2 H2 => jn (fun d3 H3 => pickK t1 (DV.v (AV.b true)) d3 fun d4 => onV d4 fun v3 => g92_4 v3 n1 n2 n3 H3 c1 Kb1) fun Kb2 => br t1 (Kb2 DV.n H2) (onV d2 fun v3 => isI .i64 v3 fun n4 => frcB (ilt ii64 n4) fun t2 => Kb2 (DV.v (AV.b t2)) H2)) fun Kb2 => br t1 (Kb2 DV.n H1) (Kb2 (DV.v (AV.i .i64 n1)) H1)
/-- ba.New -/
def g92 : G Unit := fun R1 H1 Kb1 => lc R1 fun d1 R2 => onV d1 fun v1 => isI .i64 v1 fun n1 => lc R2 fun d2 R3 => onV d2 fun v2 => g92_5 v2 R3 n1 H1 c1 Kb1
theorem s92 (h157 : SN ads 157 c1) : SN ads 92 (g92 c1) :=
  mk_snd [(nn157, c1)] ⟨fun _ => [], fun _ => none⟩ [.int .i64, .int .i64, .int .i64] Tryz.func92 rfl (.cons h157 .nil)
def G92 : G Unit := g92 G157
theorem S92 : SN ads 92 G92 := s92 _ S157

/-- aql.fair -/
def g130 : G Unit := fun R1 H1 Kb1 => lc R1 fun d1 R2 => onV d1 fun v1 => isI .i64 v1 fun n1 => ln R2 <| frcB (ile ii0 n1) fun t1 => jn (fun d2 H2 => jn (fun d3 H3 => pickK t1 d3 (DV.v (AV.b false)) fun d4 => onV d4 fun v2 => isB v2 fun t2 => Kb1 (DV.v (AV.b t2)) H3) fun Kb2 => br t1 (onV d2 fun v2 => isI .i64 v2 fun n2 => frcB (ile n2 ii1099511627776) fun t2 => Kb2 (DV.v (AV.b t2)) H2) (Kb2 DV.n H2)) fun Kb2 => br t1 (Kb2 (DV.v (AV.i .i64 n1)) H1) (Kb2 DV.n H1)
theorem s130 : SN ads 130 (g130) :=
  mk_snd [] ⟨fun _ => [], fun _ => none⟩ [.int .i64] Tryz.func130 rfl .nil
def G130 : G Unit := g130
theorem S130 : SN ads 130 G130 := s130

def g93_1 := br t1 (Kb1 (DV.c (DV.v (AV.p AP.nil)) (DV.c (DV.v (AV.er (nat_lit 2))) DV.n)) H1) (alK H1 [(AV.i .i64 n1), (AV.i .i64 n2), (AV.i .i64 ii0), (AV.i .i64 ii0), (AV.i .i64 ii0), (AV.i .i64 ii0), (AV.i .i64 ii0), (AV.i .i64 ii0), (AV.i .i64 ii0), (AV.i .i64 ii0), (AV.i .i64 ii0), (AV.i .i64 ii0), (AV.i .i64 ii0), (AV.i .i64 ii0), (AV.i .i64 ii0), (AV.i .i64 ii0), (AV.i .i64 ii0), (AV.i .i64 ii0)] fun b1 H2 => Kb1 (DV.c (DV.v (AV.p (AP.at b1 nn0))) (DV.c (DV.v AV.ni) DV.n)) H2)
def g93_2 := jn (fun d1 H2 => jn (fun d2 H3 => jn (fun d3 H4 => pickK t1 (DV.v (AV.b true)) d3 fun d4 => onV d4 fun v1 => isB v1 fun t2 => g93_1 n1 n2 t2 H4 Kb1) fun Kb2 => br t1 (Kb2 DV.n H3) (onV d2 fun v1 => isB v1 fun t2 => frcB (bnot t2) fun t3 => Kb2 (DV.v (AV.b t3)) H3)) fun Kb2 => br t1 (Kb2 DV.n H2) (c1 [d1] H2 fun d2 H3 => onV d2 fun v1 => isB v1 fun t2 => Kb2 (DV.v (AV.b t2)) H3)) fun Kb2 => br t1 (Kb2 DV.n H1) (Kb2 (DV.v (AV.i .i64 n2)) H1)
/-- aql.New -/
def g93 : G Unit := fun R1 H1 Kb1 => lc R1 fun d1 R2 => onV d1 fun v1 => isI .i64 v1 fun n1 => lc R2 fun d2 R3 => onV d2 fun v2 => isI .i64 v2 fun n2 => ln R3 <| c1 [(DV.v (AV.i .i64 n1))] H1 fun d3 H2 => onV d3 fun v3 => isB v3 fun t1 => frcB (bnot t1) fun t2 => g93_2 n1 n2 t2 H2 c1 Kb1
theorem s93 (h130 : SN ads 130 c1) : SN ads 93 (g93 c1) :=
  mk_snd [(nn130, c1)] ⟨fun _ => [], fun _ => none⟩ [.int .i64, .int .i64] Tryz.func93 rfl (.cons h130 .nil)
def G93 : G Unit := g93 G130
theorem S93 : SN ads 93 G93 := s93 _ S130

/-- ap.New$1 -/
def g94 : G Unit := fun R1 H1 Kb1 => lc R1 fun d1 R2 => onV d1 fun v1 => isI .i64 v1 fun n1 => ln R2 <| frcB (ilt n1 ii0) fun t1 => jn (fun d2 H2 => jn (fun d3 H3 => pickK t1 (DV.v (AV.b true)) d3 fun d4 => onV d4 fun v2 => isB v2 fun t2 => Kb1 (DV.v (AV.b t2)) H3) fun Kb2 => br t1 (Kb2 DV.n H2) (onV d2 fun v2 => isI .i64 v2 fun n2 => frcB (ilt ii54840 n2) fun t2 => Kb2 (DV.v (AV.b t2)) H2)) fun Kb2 => br t1 (Kb2 DV.n H1) (Kb2 (DV.v (AV.i .i64 n1)) H1)
theorem s94 : SN ads 94 (g94) :=
  mk_snd [] ⟨fun _ => [], fun _ => none⟩ [.int .i64] Tryz.func94 rfl .nil
def G94 : G Unit := g94
theorem S94 : SN ads 94 G94 := s94

def g158_1 := frcB (ilt n1 (Int.ofNat m1)) fun t1 => br t1 (ixA s1 n1 (fun x => x) fun b1 m2 => rdK H1 b1 m2 fun v1 => isI .i64 v1 fun n2 => onV d1 fun v2 => isF v2 fun m3 L1 => lookD [((nat_lit 94) , c1)] m3 (appA [(DV.v (AV.i .i64 n2))] (mapP L1)) H1 fun d2 H2 => onV d2 fun v3 => isB v3 fun t2 => br t2 (Kb1 (DV.v (AV.i .i64 n1)) H2) (wrp .i64 (iadd n1 ii1) fun n3 => Kb2 (DV.v (AV.i .i64 n3)) H2)) (Kb1 (DV.v (AV.i .i64 im1)) H1)
/-- slices.IndexFunc[[]int64,int64] -/
def g158 : G Unit := fun R1 H1 Kb1 => lc R1 fun d1 R2 => onV d1 fun v1 => isS v1 fun s1 => lc R2 fun d2 R3 => ln R3 <| lenA s1 fun m1 => lpR (failF [(8 , .int .i64)]) (fun Kb2 => fun d3 H2 => onV d3 fun v2 => isI .i64 v2 fun n1 => g158_1 d2 n1 m1 s1 H2 c1 Kb1 Kb2) (nat_lit 100000) (DV.v (AV.i .i64 ii0)) H1
theorem s158 (h94 : SN ads 94 c1) : SN ads 158 (g158 c1) :=
  mk_snd [(nn94, c1)] ⟨fun n => match n with | 0 => [(8, .int .i64)] | _ => [], fun _ => none⟩ [.slice, .any] Tryz.func158 rfl (.cons h94 .nil)
def G158 : G Unit := g158 G94
theorem S158 : SN ads 158 G158 := s158 _ S94

/-- slices.ContainsFunc[[]int64,int64] -/
def g95 : G Unit := fun R1 H1 Kb1 => lc R1 fun d1 R2 => onV d1 fun v1 => isS v1 fun s1 => lc R2 fun d2 R3 => ln R3 <| c1 [(DV.v (AV.s s1)), d2] H1 fun d3 H2 => onV d3 fun v2 => isI .i64 v2 fun n1 => frcB (ile ii0 n1) fun t1 => Kb1 (DV.v (AV.b t1)) H2
theorem s95 (h158 : SN ads 158 c1) : SN ads 95 (g95 c1) :=
  mk_snd [(nn158, c1)] ⟨fun _ => [], fun _ => none⟩ [.slice, .any] Tryz.func95 rfl (.cons h158 .nil)
def G95 : G Unit := g95 G158
theorem S95 : SN ads 95 G95 := s95 _ S158

def g96_1 := jn (fun d1 H2 => jn (fun d2 H3 => jn (fun d3 H4 => pickK t1 d3 (DV.v (AV.b false)) fun d4 => onV d4 fun v1 => isB v1 fun t2 => Kb1 (DV.v (AV.b t2)) H4) fun Kb2 => br t1 (onL d1 fun l1 => onL d2 fun l2 => intsK .u8 l1 fun x1 => intsK .u8 l2 fun x2 => must (Nat.beq (leni x1) nn6) <| must (Nat.beq (leni x2) nn6) <| frcB (bnot (leqI x1 x2)) fun t2 => Kb2 (DV.v (AV.b t2)) H3) (Kb2 DV.n H3)) fun Kb2 => br t1 (Kb2 (DV.a z0) H2) (Kb2 DV.n H2)) fun Kb2 => br t1 (rdR H1 b1 nn0 nn6 fun l1 => Kb2 (DV.a l1) H1) (Kb2 DV.n H1)
/-- sta.Fair -/
def g96 : G Unit := fun R1 H1 Kb1 => lc R1 fun d1 R2 => ln R2 <| cellsD d1 fun l1 => alK H1 l1 fun b1 H2 => rdK H2 b1 nn0 fun v1 => isI .u8 v1 fun n1 => asI (bits .and .u8 n1 ii1) fun n2 => frcB (ieq n2 ii0) fun t1 => g96_1 t1 b1 H2 Kb1
theorem s96 : SN ads 96 (g96) :=
  mk_snd [] ⟨fun _ => [], fun _ => none⟩ [.any] Tryz.func96 rfl .nil
def G96 : G Unit := g96
theorem S96 : SN ads 96 G96 := s96

/-- sched.New -/
def g97 : G Unit := fun R1 H1 Kb1 => ln R1 <| alK H1 [(AV.s AS.nil)] fun b1 H2 => alK H2 [(AV.p AP.nil), (AV.p AP.nil), (AV.p AP.nil), (AV.p AP.nil), (AV.p AP.nil), (AV.p AP.nil), (AV.p AP.nil), (AV.p AP.nil), (AV.p AP.nil), (AV.p AP.nil), (AV.p AP.nil), (AV.p AP.nil), (AV.p AP.nil), (AV.p AP.nil), (AV.p AP.nil), (AV.p AP.nil), (AV.p (AP.at b1 nn0))] fun b2 H3 => Kb1 (DV.v (AV.p (AP.at b2 nn0))) H3
theorem s97 : SN ads 97 (g97) :=
  mk_snd [] ⟨fun _ => [], fun _ => none⟩ [] Tryz.func97 rfl .nil
def G97 : G Unit := g97
theorem S97 : SN ads 97 G97 := s97

def g41_1 := alK H1 (lapp l1 ((AV.i .i64 ii0) :: ((AV.b false) :: ((AV.i .u8 ii0) :: ((AV.i .u8 ii0) :: ((AV.i .u8 ii0) :: ((AV.i .u8 ii0) :: ((AV.i .u8 ii0) :: ((AV.i .u8 ii0) :: ((AV.i .i64 ii0) :: ((AV.b false) :: ((AV.i .u8 ii0) :: ((AV.i .u8 ii0) :: ((AV.i .u8 ii0) :: ((AV.i .u8 ii0) :: ((AV.i .u8 ii0) :: ((AV.i .u8 ii0) :: ((AV.i .i64 ii0) :: ((AV.b false) :: ((AV.i .u8 ii0) :: ((AV.i .u8 ii0) :: ((AV.i .u8 ii0) :: ((AV.i .u8 ii0) :: ((AV.i .u8 ii0) :: ((AV.i .u8 ii0) :: ((AV.i .i64 ii0) :: ((AV.b false) :: ((AV.i .u8 ii0) :: ((AV.i .u8 ii0) :: ((AV.i .u8 ii0) :: ((AV.i .u8 ii0) :: ((AV.i .u8 ii0) :: ((AV.i .u8 ii0) :: ((AV.i .i64 ii0) :: ((AV.b false) :: ((AV.i .u8 ii0) :: ((AV.i .u8 ii0) :: ((AV.i .u8 ii0) :: ((AV.i .u8 ii0) :: ((AV.i .u8 ii0) :: ((AV.i .u8 ii0) :: ((AV.i .i64 ii0) :: ((AV.b false) :: ((AV.i .u8 ii0) :: ((AV.i .u8 ii0) :: ((AV.i .u8 ii0) :: ((AV.i .u8 ii0) :: ((AV.i .u8 ii0) :: ((AV.i .u8 ii0) :: ((AV.i .i64 ii0) :: ((AV.b false) :: ((AV.i .u8 ii0) :: ((AV.i .u8 ii0) :: ((AV.i .u8 ii0) :: ((AV.i .u8 ii0) :: ((AV.i .u8 ii0) :: ((AV.i .u8 ii0) :: ((AV.i .i64 ii0) :: ((AV.b false) :: ((AV.i .u8 ii0) :: ((AV.i .u8 ii0) :: ((AV.i .u8 ii0) :: ((AV.i .u8 ii0) :: ((AV.i .u8 ii0) :: ((AV.i .u8 ii0) :: ((AV.i .i64 ii0) :: ((AV.b false) :: ((AV.i .u8 ii0) :: ((AV.i .u8 ii0) :: ((AV.i .u8 ii0) :: ((AV.i .u8 ii0) :: ((AV.i .u8 ii0) :: ((AV.i .u8 ii0) :: ((AV.i .i64 ii0) :: ((AV.b false) :: ((AV.i .u8 ii0) :: ((AV.i .u8 ii0) :: ((AV.i .u8 ii0) :: ((AV.i .u8 ii0) :: ((AV.i .u8 ii0) :: ((AV.i .u8 ii0) :: ((AV.i .i64 ii0) :: ((AV.b false) :: ((AV.i .u8 ii0) :: ((AV.i .u8 ii0) :: ((AV.i .u8 ii0) :: ((AV.i .u8 ii0) :: ((AV.i .u8 ii0) :: ((AV.i .u8 ii0) :: ((AV.i .i64 ii0) :: ((AV.b false) :: ((AV.i .u8 ii0) :: ((AV.i .u8 ii0) :: ((AV.i .u8 ii0) :: ((AV.i .u8 ii0) :: ((AV.i .u8 ii0) :: ((AV.i .u8 ii0) :: ((AV.i .i64 ii0) :: ((AV.b false) :: ((AV.i .u8 ii0) :: ((AV.i .u8 ii0) :: ((AV.i .u8 ii0) :: ((AV.i .u8 ii0) :: ((AV.i .u8 ii0) :: ((AV.i .u8 ii0) :: ((AV.i .i64 ii0) :: ((AV.b false) :: ((AV.i .u8 ii0) :: ((AV.i .u8 ii0) :: ((AV.i .u8 ii0) :: ((AV.i .u8 ii0) :: ((AV.i .u8 ii0) :: ((AV.i .u8 ii0) :: ((AV.i .i64 ii0) :: ((AV.b false) :: ((AV.i .u8 ii0) :: ((AV.i .u8 ii0) :: ((AV.i .u8 ii0) :: ((AV.i .u8 ii0) :: ((AV.i .u8 ii0) :: ((AV.i .u8 ii0) :: ((AV.i .i64 ii0) :: ((AV.b false) :: ((AV.i .u8 ii0) :: ((AV.i .u8 ii0) :: ((AV.i .u8 ii0) :: ((AV.i .u8 ii0) :: ((AV.i .u8 ii0) :: ((AV.i .u8 ii0) :: ((AV.i .i64 ii0) :: ((AV.b false) :: ((AV.b false) :: ((AV.b false) :: ((AV.b false) :: ((AV.b false) :: ((AV.b false) :: ((AV.b false) :: ((AV.b false) :: ((AV.i .i64 ii0) :: ((AV.i .i64 ii0) :: ((AV.b false) :: ((AV.b false) :: ((AV.b false) :: ((AV.b false) :: ((AV.b false) :: ((AV.b false) :: ((AV.b false) :: ((AV.b false) :: ((AV.i .i64 ii0) :: ((AV.i .i64 ii0) :: ((AV.b false) :: ((AV.b false) :: ((AV.b false) :: ((AV.b false) :: ((AV.b false) :: ((AV.b false) :: ((AV.b false) :: ((AV.b false) :: ((AV.i .i64 ii0) :: ((AV.i .i64 ii0) :: ((AV.b false) :: ((AV.b false) :: ((AV.b false) :: ((AV.b false) :: ((AV.b false) :: ((AV.b false) :: ((AV.b false) :: ((AV.b false) :: ((AV.i .i64 ii0) :: ((AV.i .i64 ii0) :: ((AV.b false) :: ((AV.b false) :: ((AV.b false) :: ((AV.b false) :: ((AV.b false) :: ((AV.b false) :: ((AV.b false) :: ((AV.b false) :: ((AV.i .i64 ii0) :: ((AV.i .i64 ii0) :: ((AV.b false) :: ((AV.b false) :: ((AV.b false) :: ((AV.b false) :: ((AV.b false) :: ((AV.b false) :: ((AV.b false) :: ((AV.b false) :: ((AV.i .i64 ii0) :: ((AV.i .i64 ii0) :: ((AV.b false) :: ((AV.b false) :: ((AV.b false) :: ((AV.b false) :: ((AV.b false) :: ((AV.b false) :: ((AV.b false) :: ((AV.b false) :: ((AV.i .i64 ii0) :: ((AV.i .i64 ii0) :: ((AV.b false) :: ((AV.b false) :: ((AV.b false) :: ((AV.b false) :: ((AV.b false) :: ((AV.b false) :: ((AV.b false) :: ((AV.b false) :: ((AV.i .i64 ii0) :: ((AV.i .i64 ii0) :: ((AV.b false) :: ((AV.b false) :: ((AV.b false) :: ((AV.b false) :: ((AV.b false) :: ((AV.b false) :: ((AV.b false) :: ((AV.b false) :: ((AV.i .i64 ii0) :: ((AV.i .i64 ii0) :: ((AV.b false) :: ((AV.b false) :: ((AV.b false) :: ((AV.b false) :: ((AV.b false) :: ((AV.b false) :: ((AV.b false) :: ((AV.b false) :: ((AV.i .i64 ii0) :: ((AV.i .i64 ii0) :: ((AV.b false) :: ((AV.b false) :: ((AV.b false) :: ((AV.b false) :: ((AV.b false) :: ((AV.b false) :: ((AV.b false) :: ((AV.b false) :: ((AV.i .i64 ii0) :: ((AV.i .i64 ii0) :: ((AV.b false) :: ((AV.b false) :: ((AV.b false) :: ((AV.b false) :: ((AV.b false) :: ((AV.b false) :: ((AV.b false) :: ((AV.b false) :: ((AV.i .i64 ii0) :: ((AV.i .i64 ii0) :: ((AV.b false) :: ((AV.b false) :: ((AV.b false) :: ((AV.b false) :: ((AV.b false) :: ((AV.b false) :: ((AV.b false) :: ((AV.b false) :: ((AV.i .i64 ii0) :: ((AV.i .i64 ii0) :: ((AV.b false) :: ((AV.b false) :: ((AV.b false) :: ((AV.b false) :: ((AV.b false) :: ((AV.b false) :: ((AV.b false) :: ((AV.b false) :: ((AV.i .i64 ii0) :: ((AV.i .i64 ii0) :: ((AV.b false) :: ((AV.b false) :: ((AV.b false) :: ((AV.b false) :: ((AV.b false) :: ((AV.b false) :: ((AV.b false) :: ((AV.b false) :: ((AV.i .i64 ii0) :: ((AV.i .i64 ii0) :: ((AV.b false) :: ((AV.b false) :: ((AV.b false) :: ((AV.b false) :: ((AV.b false) :: ((AV.b false) :: ((AV.b false) :: ((AV.b false) :: ((AV.i .i64 ii0) :: ((AV.i .i64 ii0) :: ((AV.s AS.nil) :: ((AV.p p1) :: ((AV.p p2) :: ((AV.p AP.nil) :: ((AV.p AP.nil) :: ((AV.p AP.nil) :: ((AV.p AP.nil) :: ((AV.b false) :: ((AV.i .i64 ii0) :: ((AV.i .i64 ii0) :: ((AV.b false) :: ((AV.i .i64 ii0) :: ((AV.i .i64 ii0) :: ((AV.b false) :: ((AV.i .i64 ii0) :: ((AV.i .i64 ii0) :: ((AV.b false) :: ((AV.i .i64 ii0) :: ((AV.i .i64 ii0) :: ((AV.p AP.nil) :: ((AV.p AP.nil) :: ((AV.p AP.nil) :: ((AV.p AP.nil) :: ((AV.p AP.nil) :: ((AV.p AP.nil) :: ((AV.p AP.nil) :: ((AV.p AP.nil) :: ((AV.p AP.nil) :: ((AV.p AP.nil) :: ((AV.p AP.nil) :: ((AV.p AP.nil) :: ((AV.p AP.nil) :: ((AV.p AP.nil) :: ((AV.p AP.nil) :: ((AV.p AP.nil) :: ((AV.i .i64 ii0) :: ((AV.s AS.nil) :: []))))))))))))))))))))))))))))))))))))))))))))))))))))))))))))))))))))))))))))))))))))))))))))))))))))))))))))))))))))))))))))))))))))))))))))))))))))))))))))))))))))))))))))))))))))))))))))))))))))))))))))))))))))))))))))))))))))))))))))))))))))))))))))))))))))))))))))))))))))))))))))))))))))))))))))))))))))))))))))))))))))))) fun b1 H2 => lpR (failF [(99 , .int .i64)]) (fun Kb2 => fun d1 H3 => onV d1 fun v1 => isI .i64 v1 fun n1 => frcB (ilt n1 ii4) fun t1 => br t1 (c1 [] H3 fun d2 H4 => onV d2 fun v2 => isP v2 fun p3 => rng n1 nn4 <| wrK H4 b1 (Nat.add nn313 (itn n1)) (AV.p p3) fun H5 => wrp .i64 (iadd n1 ii1) fun n2 => Kb2 (DV.v (AV.i .i64 n2)) H5) (Kb1 (DV.c (DV.v (AV.p (AP.at b1 nn0))) (DV.c (DV.v AV.ni) DV.n)) H3)) (nat_lit 100000) (DV.v (AV.i .i64 ii0)) H2
def g41_2 := jn (fun d2 H2 => jn (fun d3 H3 => pickK t1 (DV.v (AV.b true)) d3 fun d4 => onV d4 fun v1 => isB v1 fun t2 => br t2 (Kb1 (DV.c (DV.v (AV.p AP.nil)) (DV.c (DV.v (AV.er (nat_lit 2))) DV.n)) H3) (rdR H3 b1 nn0 nn21 fun l1 => must (Nat.beq (llen l1) nn21) <| g41_1 l1 p1 p2 H3 c1 Kb1)) fun Kb2 => br t1 (Kb2 DV.n H2) (onV d2 fun v1 => isB v1 fun t2 => frcB (bnot t2) fun t3 => Kb2 (DV.v (AV.b t3)) H2)) fun Kb2 => br t1 (Kb2 DV.n H1) (c2 [d1] H1 fun d2 H2 => onV d2 fun v1 => isB v1 fun t2 => Kb2 (DV.v (AV.b t2)) H2)
def g41_3 := jn (fun d3 H2 => pickK t1 (DV.v (AV.b true)) d3 fun d4 => onV d4 fun v1 => isB v1 fun t2 => jn (fun d5 H3 => jn (fun d6 H4 => g41_2 d6 t2 p1 p2 b1 H4 c1 c2 Kb1) fun Kb2 => br t2 (Kb2 DV.n H3) (onV d5 fun v2 => isP v2 fun p3 => onA p3 fun b2 m1 => rdR H3 b2 m1 nn6 fun l1 => Kb2 (DV.a l1) H3)) fun Kb2 => br t2 (Kb2 DV.n H2) (Kb2 (DV.v (AV.p (AP.at b1 nn0))) H2)) fun Kb2 => br t1 (Kb2 DV.n H1) (c3 [d1, d2] H1 fun d3 H2 => onV d3 fun v1 => isB v1 fun t2 => Kb2 (DV.v (AV.b t2)) H2)
def g41_4 := pickK t1 (DV.v (AV.b true)) d1 fun d2 => onV d2 fun v1 => isB v1 fun t2 => jn (fun d3 H2 => jn (fun d4 H3 => jn (fun d5 H4 => g41_3 d4 d5 t2 p1 p2 b1 H4 c1 c2 c3 Kb1) fun Kb2 => br t2 (Kb2 DV.n H3) (Kb2 (DV.v (AV.fn (nat_lit 94) [])) H3)) fun Kb2 => br t2 (Kb2 DV.n H2) (onV d3 fun v2 => isP v2 fun p3 => onA p3 fun b2 m1 => Kb2 (DV.v (AV.s (AS.sl b2 m1 nn4 nn4))) H2)) fun Kb2 => br t2 (Kb2 DV.n H1) (Kb2 (DV.v (AV.p (AP.at b1 nn15))) H1)
def g41_5 := jn (fun d1 H2 => jn (fun d2 H3 => jn (fun d3 H4 => g41_4 d3 t1 p1 p2 b1 H4 c1 c2 c3 Kb1) fun Kb2 => br t1 (Kb2 DV.n H3) (onV d2 fun v1 => isI .i64 v1 fun n1 => frcB (ilt ii65535 n1) fun t2 => Kb2 (DV.v (AV.b t2)) H3)) fun Kb2 => br t1 (Kb2 DV.n H2) (onV d1 fun v1 => isP v1 fun p3 => onA p3 fun b2 m1 => rdK H2 b2 m1 fun v2 => isI .i64 v2 fun n1 => Kb2 (DV.v (AV.i .i64 n1)) H2)) fun Kb2 => br t1 (Kb2 DV.n H1) (Kb2 (DV.v (AV.p (AP.at b1 nn14))) H1)
def g41_6 := jn (fun d2 H2 => jn (fun d3 H3 => pickK t1 (DV.v (AV.b true)) d3 fun d4 => onV d4 fun v1 => isB v1 fun t2 => g41_5 t2 p1 p2 b1 H3 c1 c2 c3 Kb1) fun Kb2 => br t1 (Kb2 DV.n H2) (onV d2 fun v1 => isI .i64 v1 fun n1 => frcB (ilt n1 ii1) fun t2 => Kb2 (DV.v (AV.b t2)) H2)) fun Kb2 => br t1 (Kb2 DV.n H1) (onV d1 fun v1 => isP v1 fun p3 => onA p3 fun b2 m1 => rdK H1 b2 m1 fun v2 => isI .i64 v2 fun n1 => Kb2 (DV.v (AV.i .i64 n1)) H1)
def g41_7 := jn (fun d2 H2 => jn (fun d3 H3 => pickK t1 (DV.v (AV.b true)) d3 fun d4 => onV d4 fun v1 => isB v1 fun t2 => jn (fun d5 H4 => g41_6 d5 t2 p1 p2 b1 H4 c1 c2 c3 Kb1) fun Kb2 => br t2 (Kb2 DV.n H3) (Kb2 (DV.v (AV.p (AP.at b1 nn14))) H3)) fun Kb2 => br t1 (Kb2 DV.n H2) (onV d2 fun v1 => isI .i64 v1 fun n1 => frcB (ilt ii1073741824 n1) fun t2 => Kb2 (DV.v (AV.b t2)) H2)) fun Kb2 => br t1 (Kb2 DV.n H1) (onV d1 fun v1 => isP v1 fun p3 => onA p3 fun b2 m1 => rdK H1 b2 m1 fun v2 => isI .i64 v2 fun n1 => Kb2 (DV.v (AV.i .i64 n1)) H1)
def g41_8 := jn (fun d2 H2 => jn (fun d3 H3 => pickK t1 (DV.v (AV.b true)) d3 fun d4 => onV d4 fun v1 => isB v1 fun t2 => jn (fun d5 H4 => g41_7 d5 t2 p1 p2 b1 H4 c1 c2 c3 Kb1) fun Kb2 => br t2 (Kb2 DV.n H3) (Kb2 (DV.v (AV.p (AP.at b1 nn10))) H3)) fun Kb2 => br t1 (Kb2 DV.n H2) (onV d2 fun v1 => isI .i64 v1 fun n1 => frcB (ilt n1 ii0) fun t2 => Kb2 (DV.v (AV.b t2)) H2)) fun Kb2 => br t1 (Kb2 DV.n H1) (onV d1 fun v1 => isP v1 fun p3 => onA p3 fun b2 m1 => rdK H1 b2 m1 fun v2 => isI .i64 v2 fun n1 => Kb2 (DV.v (AV.i .i64 n1)) H1)
def g41_9 := jn (fun d2 H2 => jn (fun d3 H3 => pickK t1 (DV.v (AV.b true)) d3 fun d4 => onV d4 fun v1 => isB v1 fun t2 => jn (fun d5 H4 => g41_8 d5 t2 p1 p2 b1 H4 c1 c2 c3 Kb1) fun Kb2 => br t2 (Kb2 DV.n H3) (Kb2 (DV.v (AV.p (AP.at b1 nn10))) H3)) fun Kb2 => br t1 (Kb2 DV.n H2) (onV d2 fun v1 => isI .i64 v1 fun n1 => frcB (ilt ii1073741824 n1) fun t2 => Kb2 (DV.v (AV.b t2)) H2)) fun Kb2 => br t1 (Kb2 DV.n H1) (onV d1 fun v1 => isP v1 fun p3 => onA p3 fun b2 m1 => rdK H1 b2 m1 fun v2 => isI .i64 v2 fun n1 => Kb2 (DV.v (AV.i .i64 n1)) H1)
def g41_10 := onC d1 fun d2 d3 => onV d2 fun v1 => isP v1 fun p2 => onC d3 fun d4 d5 => onV d4 fun v2 => onN d5 <| ifA true true v2 AV.ni fun t1 => frcB (bnot t1) fun t2 => br t2 (Kb1 (DV.c (DV.v (AV.p AP.nil)) (DV.c (DV.v v2) DV.n)) H1) (rdK H1 b1 nn9 fun v3 => isI .i64 v3 fun n1 => frcB (ilt n1 ii0) fun t3 => jn (fun d6 H2 => g41_9 d6 t3 p1 p2 b1 H2 c1 c2 c3 Kb1) fun Kb2 => br t3 (Kb2 DV.n H1) (Kb2 (DV.v (AV.p (AP.at b1 nn9))) H1))
def g41_11 := onC d1 fun d2 d3 => onV d2 fun v1 => isP v1 fun p2 => onC d3 fun d4 d5 => onV d4 fun v2 => onN d5 <| ifA true true v2 AV.ni fun t1 => frcB (bnot t1) fun t2 => br t2 (Kb1 (DV.c (DV.v (AV.p AP.nil)) (DV.c (DV.v v2) DV.n)) H1) (rdK H1 b1 nn19 fun v3 => isI .i64 v3 fun n1 => rdK H1 b1 nn20 fun v4 => isI .i64 v4 fun n2 => c1 [(DV.v (AV.i .i64 n1)), (DV.v (AV.i .i64 n2))] H1 fun d6 H2 => g41_10 d6 p1 b1 H2 c2 c3 c4 Kb1)
def g41_12 := onV d1 fun v1 => onN d2 <| ifA true true v1 AV.ni fun t1 => frcB (bnot t1) fun t2 => br t2 (Kb1 (DV.c (DV.v (AV.p AP.nil)) (DV.c (DV.v v1) DV.n)) H1) (rdK H1 b1 nn11 fun v2 => isI .i64 v2 fun n1 => rdK H1 b1 nn12 fun v3 => isI .i64 v3 fun n2 => rdK H1 b1 nn13 fun v4 => isI .i64 v4 fun n3 => c1 [(DV.v (AV.i .i64 n1)), (DV.v (AV.i .i64 n2)), (DV.v (AV.i .i64 n3))] H1 fun d3 H2 => g41_11 d3 p1 b1 H2 c2 c3 c4 c5 Kb1)
def g41_13 := isI .i64 v1 fun n2 => rdK H1 b1 nn10 fun v2 => isI .i64 v2 fun n3 => rdK H1 b1 nn7 fun v3 => isI .i64 v3 fun n4 => rdK H1 b1 nn8 fun v4 => isI .i64 v4 fun n5 => c1 [(DV.v (AV.i .u32 n1)), (DV.v (AV.i .i64 n2)), (DV.v (AV.i .i64 n3)), (DV.v (AV.i .i64 n4)), (DV.v (AV.i .i64 n5))] H1 fun d1 H2 => onC d1 fun d2 d3 => onV d2 fun v5 => isP v5 fun p1 => onC d3 fun d4 d5 => g41_12 d4 d5 p1 b1 H2 c2 c3 c4 c5 c6 Kb1
/-- ap.New -/
def g41 : G Unit := fun R1 H1 Kb1 => lc R1 fun d1 R2 => ln R2 <| cellsD d1 fun l1 => alK H1 l1 fun b1 H2 => rdK H2 b1 nn6 fun v1 => isI .u32 v1 fun n1 => rdK H2 b1 nn9 fun v2 => g41_13 v2 n1 b1 H2 c1 c2 c3 c6 c5 c4 Kb1
theorem s41 (h91 : SN ads 91 c1) (h92 : SN ads 92 c2) (h93 : SN ads 93 c3) (h95 : SN ads 95 c4) (h96 : SN ads 96 c5) (h97 : SN ads 97 c6) : SN ads 41 (g41 c1 c2 c3 c4 c5 c6) :=
  mk_snd [(nn91, c1), (nn92, c2), (nn93, c3), (nn95, c4), (nn96, c5), (nn97, c6)] ⟨fun n => match n with | 0 => [(99, .int .i64)] | _ => [], fun _ => none⟩ [.any] Tryz.func41 rfl (.cons h91 (.cons h92 (.cons h93 (.cons h95 (.cons h96 (.cons h97 .nil))))))
def G41 : G Unit := g41 G91 G92 G93 G95 G96 G97
theorem S41 : SN ads 41 G41 := s41 _ _ _ _ _ _ S91 S92 S93 S95 S96 S97

def g59_1 := jn (fun d1 H2 => jn (fun d2 H3 => pickK t1 (DV.v (AV.b true)) d2 fun d3 => onV d3 fun v1 => isB v1 fun t2 => br t2 (Kb1 (DV.v (AV.p AP.nil)) H3) (wrp .i64 (isub n1 ii1) fun n2 => onA p1 fun b1 m1 => rng n2 nn16 <| rdK H3 b1 (Nat.add (Nat.add m1 nn329) (itn n2)) fun v2 => isP v2 fun p2 => Kb1 (DV.v (AV.p p2)) H3)) fun Kb2 => br t1 (Kb2 DV.n H2) (onV d1 fun v1 => isI .i64 v1 fun n2 => frcB (ilt ii16 n2) fun t2 => Kb2 (DV.v (AV.b t2)) H2)) fun Kb2 => br t1 (Kb2 DV.n H1) (Kb2 (DV.v (AV.i .i64 n1)) H1)
/-- (*ap.AP).of -/
def g59 : G Unit := fun R1 H1 Kb1 => lc R1 fun d1 R2 => onV d1 fun v1 => isP v1 fun p1 => lc R2 fun d2 R3 => onV d2 fun v2 => isI .i64 v2 fun n1 => ln R3 <| frcB (ilt n1 ii1) fun t1 => g59_1 n1 t1 p1 H1 Kb1
theorem s59 : SN ads 59 (g59) :=
  mk_snd [] ⟨fun _ => [], fun _ => none⟩ [.ptr, .int .i64] Tryz.func59 rfl .nil
def G59 : G Unit := g59
theorem S59 : SN ads 59 G59 := s59

/-- slices.Clone[[]byte,byte] -/
def g248 : G Unit := fun R1 H1 Kb1 => lc R1 fun d1 R2 => onV d1 fun v1 => isS v1 fun s1 => ln R2 <| frcB (isNilS s1) fun t1 => br t1 (Kb1 (DV.v (AV.s AS.nil)) H1) (alK H1 [] fun b1 H2 => appD nn1 nn1 (AS.sl b1 nn0 nn0 nn0) s1 H2 fun s2 H3 => Kb1 (DV.v (AV.s s2)) H3)
theorem s248 : SN ads 248 (g248) :=
  mk_snd [] ⟨fun _ => [], fun _ => none⟩ [.slice] Tryz.func248 rfl .nil
def G248 : G Unit := g248
theorem S248 : SN ads 248 G248 := s248

def z4 : List AV := [(AV.i .i64 ii0), (AV.i .u32 ii0), (AV.i .i64 ii0), (AV.i .i64 ii0), (AV.s AS.nil), (AV.i .i64 ii0), (AV.i .i64 ii0), (AV.i .i64 ii0)]
/-- ba.own -/
def g154 : G Unit := fun R1 H1 Kb1 => lc R1 fun d1 R2 => ln R2 <| cellsD d1 fun l1 => alK H1 l1 fun b1 H2 => alF H2 z4 nn8 fun b2 H3 => rdK H3 b1 nn4 fun v1 => isS v1 fun s1 => c1 [(DV.v (AV.s s1))] H3 fun d2 H4 => onV d2 fun v2 => isS v2 fun s2 => wrK H4 b1 nn4 (AV.s s2) fun H5 => rdR H5 b1 nn0 nn8 fun l2 => must (Nat.beq (llen l2) nn8) <| wrL H5 b2 nn0 l2 fun H6 => rdR H6 b2 nn0 nn8 fun l3 => Kb1 (DV.a l3) H6
theorem s154 (h248 : SN ads 248 c1) : SN ads 154 (g154 c1) :=
  mk_snd [(nn248, c1)] ⟨fun _ => [], fun _ => none⟩ [.any] Tryz.func154 rfl (.cons h248 .nil)
def G154 : G Unit := g154 G248
theorem S154 : SN ads 154 G154 := s154 _ S248

/-- seq.mod -/
def g291 : G Unit := fun R1 H1 Kb1 => lc R1 fun d1 R2 => onV d1 fun v1 => isI .i64 v1 fun n1 => ln R2 <| must (bnot (ieq ii4096 ii0)) <| asI (irem n1 ii4096) fun n2 => wrp .i64 (iadd n2 ii4096) fun n3 => must (bnot (ieq ii4096 ii0)) <| asI (irem n3 ii4096) fun n4 => Kb1 (DV.v (AV.i .i64 n4)) H1
theorem s291 : SN ads 291 (g291) :=
  mk_snd [] ⟨fun _ => [], fun _ => none⟩ [.int .i64] Tryz.func291 rfl .nil
def G291 : G Unit := g291
theorem S291 : SN ads 291 G291 := s291

def g222_1 := lc R1 fun d1 R2 => onV d1 fun v1 => isI .i64 v1 fun n1 => lc R2 fun d2 R3 => onV d2 fun v2 => isI .i64 v2 fun n2 => ln R3 <| c1 [(DV.v (AV.i .i64 n2))] H1 fun d3 H2 => onV d3 fun v3 => isI .i64 v3 fun n3 => c1 [(DV.v (AV.i .i64 n1))] H2 fun d4 H3 => onV d4 fun v4 => isI .i64 v4 fun n4 => wrp .i64 (isub n3 n4) fun n5 => c1 [(DV.v (AV.i .i64 n5))] H3 fun d5 H4 => onV d5 fun v5 => isI .i64 v5 fun n6 => Kb1 (DV.v (AV.i .i64 n6)) H4
/-- seq.Dist -/
def g222 : G Unit := fun R1 H1 Kb1 => g222_1 R1 H1 c1 Kb1
theorem s222 (h291 : SN ads 291 c1) : SN ads 222 (g222 c1) :=
  mk_snd [(nn291, c1)] ⟨fun _ => [], fun _ => none⟩ [.int .i64, .int .i64] Tryz.func222 rfl (.cons h291 .nil)
def G222 : G Unit := g222 G291
theorem S222 : SN ads 222 G222 := s222 _ S291

def g221_1 := jn (fun d3 H2 => jn (fun d4 H3 => jn (fun d5 H4 => pickK t1 d5 (DV.v (AV.b false)) fun d6 => onV d6 fun v1 => isB v1 fun t2 => Kb1 (DV.v (AV.b t2)) H4) fun Kb2 => br t1 (onV d4 fun v1 => isI .i64 v1 fun n1 => frcB (ilt n1 ii64) fun t2 => Kb2 (DV.v (AV.b t2)) H3) (Kb2 DV.n H3)) fun Kb2 => br t1 (c1 [d1, d3] H2 fun d4 H3 => onV d4 fun v1 => isI .i64 v1 fun n1 => Kb2 (DV.v (AV.i .i64 n1)) H3) (Kb2 DV.n H2)) fun Kb2 => br t1 (onV d2 fun v1 => isP v1 fun p1 => onA p1 fun b1 m1 => rdK H1 b1 m1 fun v2 => isI .i64 v2 fun n1 => Kb2 (DV.v (AV.i .i64 n1)) H1) (Kb2 DV.n H1)
def g221_2 := jn (fun d2 H2 => jn (fun d3 H3 => jn (fun d4 H4 => g221_1 d2 d4 t1 H4 c1 Kb1) fun Kb2 => br t1 (onV d3 fun v1 => isP v1 fun p1 => onA p1 fun b2 m1 => Kb2 (DV.v (AV.p (AP.at b2 (Nat.add m1 nn5)))) H3) (Kb2 DV.n H3)) fun Kb2 => br t1 (Kb2 (DV.v (AV.p (AP.at b1 nn0))) H2) (Kb2 DV.n H2)) fun Kb2 => br t1 (onV d1 fun v1 => isP v1 fun p1 => onA p1 fun b2 m1 => rdK H1 b2 m1 fun v2 => isI .i64 v2 fun n1 => Kb2 (DV.v (AV.i .i64 n1)) H1) (Kb2 DV.n H1)
/-- (*ba.Session).Heard$1 -/
def g221 : G Unit := fun R1 H1 Kb1 => lc R1 fun d1 R2 => lc R2 fun d2 R3 => onV d2 fun v1 => isP v1 fun p1 => ln R3 <| cellsD d1 fun l1 => alK H1 l1 fun b1 H2 => rdK H2 b1 nn8 fun v2 => isB v2 fun t1 => jn (fun d3 H3 => g221_2 d3 t1 b1 H3 c1 Kb1) fun Kb2 => br t1 (onA p1 fun b2 m1 => Kb2 (DV.v (AV.p (AP.at b2 (Nat.add m1 nn13)))) H2) (Kb2 DV.n H2)
theorem s221 (h222 : SN ads 222 c1) : SN ads 221 (g221 c1) :=
  mk_snd [(nn222, c1)] ⟨fun _ => [], fun _ => none⟩ [.any, .ptr] Tryz.func221 rfl (.cons h222 .nil)
def G221 : G Unit := g221 G222
theorem S221 : SN ads 221 G221 := s221 _ S222

def g226_1 := rdK H1 b1 (Nat.add m1 nn13) fun v1 => isI .i64 v1 fun n2 => rdK H1 b2 nn5 fun v2 => isI .i64 v2 fun n3 => c1 [(DV.v (AV.i .i64 n2)), (DV.v (AV.i .i64 n3))] H1 fun d1 H2 => onV d1 fun v3 => isI .i64 v3 fun n4 => rdK H2 b3 (Nat.add m2 nn14) fun v4 => must (aveq (AV.i .u64 n1) v4) <| must (ile ii0 n4) <| must (ile n4 ii64) <| asI (idiv n1 (ip2 n4)) fun n5 => asI (bits .and .u64 n5 ii1) fun n6 => frcB (ilt ii0 n6) fun t1 => Kb1 (DV.v (AV.b t1)) H2
def g226_2 := onA p1 fun b2 m1 => rdK H1 b2 m1 fun v1 => rdR H1 b1 nn0 nn9 fun l1 => isF v1 fun m2 L1 => lookD [((nat_lit 221) , c1), ((nat_lit 222) , c2)] m2 (appA [(DV.a l1)] (mapP L1)) H1 fun d1 H2 => onV d1 fun v2 => isB v2 fun t1 => br t1 (onA p2 fun b3 m3 => rdK H2 b3 (Nat.add m3 nn14) fun v3 => isI .u64 v3 fun n1 => onA p2 fun b4 m4 => g226_1 n1 m4 m3 b4 b1 b3 H2 c2 Kb1) (Kb1 (DV.v (AV.b false)) H2)
/-- (*ba.Session).Heard$2 -/
def g226 : G Unit := fun R1 H1 Kb1 => lc R1 fun d1 R2 => lc R2 fun d2 R3 => onV d2 fun v1 => isP v1 fun p1 => lc R3 fun d3 R4 => onV d3 fun v2 => isP v2 fun p2 => ln R4 <| cellsD d1 fun l1 => alK H1 l1 fun b1 H2 => g226_2 p1 p2 b1 H2 c1 c2 Kb1
theorem s226 (h221 : SN ads 221 c1) (h222 : SN ads 222 c2) : SN ads 226 (g226 c1 c2) :=
  mk_snd [(nn221, c1), (nn222, c2)] ⟨fun _ => [], fun _ => none⟩ [.any, .ptr, .ptr] Tryz.func226 rfl (.cons h221 (.cons h222 .nil))
def G226 : G Unit := g226 G221 G222
theorem S226 : SN ads 226 G226 := s226 _ _ S221 S222

def g232_1 := isI .i64 v1 fun n1 => onA p1 fun b2 m1 => rdK H1 b2 m1 fun v2 => isP v2 fun p3 => onA p3 fun b3 m2 => rdK H1 b3 (Nat.add m2 nn2) fun v3 => isI .i64 v3 fun n2 => frcB (ilt n2 n1) fun t1 => br t1 (Kb1 (DV.v (AV.i .i64 ii3)) H1) (rdK H1 b1 nn7 fun v4 => isI .i64 v4 fun n3 => onA p2 fun b4 m3 => rdK H1 b4 m3 fun v5 => isI .i64 v5 fun n4 => frcB (ilt n3 n4) fun t2 => br t2 (Kb1 (DV.v (AV.i .i64 ii4)) H1) (Ka1 H1))
/-- (*ba.Session).Sweep$1 -/
def g232 : G Unit := fun R1 H1 Kb1 => lc R1 fun d1 R2 => lc R2 fun d2 R3 => onV d2 fun v1 => isP v1 fun p1 => lc R3 fun d3 R4 => onV d3 fun v2 => isP v2 fun p2 => ln R4 <| cellsD d1 fun l1 => alK H1 l1 fun b1 H2 => jF [] (fun H3 => Kb1 (DV.v (AV.i .i64 ii0)) H3) fun Ka1 => rdK H2 b1 nn8 fun v3 => isB v3 fun t1 => br t1 (Ka1 H2) (rdK H2 b1 nn6 fun v4 => g232_1 v4 p1 p2 b1 H2 Ka1 Kb1)
theorem s232 : SN ads 232 (g232) :=
  mk_snd [] ⟨fun _ => [], fun n => match n with | 6 => some [] | _ => none⟩ [.any, .ptr, .ptr] Tryz.func232 rfl .nil
def G232 : G Unit := g232
theorem S232 : SN ads 232 G232 := s232

/-- (*ba.Session).Sweep$2 -/
def g233 : G Unit := fun R1 H1 Kb1 => lc R1 fun d1 R2 => lc R2 fun d2 R3 => onV d2 fun v1 => isP v1 fun p1 => ln R3 <| cellsD d1 fun l1 => alK H1 l1 fun b1 H2 => onA p1 fun b2 m1 => rdK H2 b2 m1 fun v2 => rdR H2 b1 nn0 nn9 fun l2 => isF v2 fun m2 L1 => lookD [((nat_lit 232) , c1)] m2 (appA [(DV.a l2)] (mapP L1)) H2 fun d3 H3 => onV d3 fun v3 => isI .i64 v3 fun n1 => frcB (bnot (ieq n1 ii0)) fun t1 => Kb1 (DV.v (AV.b t1)) H3
theorem s233 (h232 : SN ads 232 c1) : SN ads 233 (g233 c1) :=
  mk_snd [(nn232, c1)] ⟨fun _ => [], fun _ => none⟩ [.any, .ptr] Tryz.func233 rfl (.cons h232 .nil)
def G233 : G Unit := g233 G232
theorem S233 : SN ads 233 G233 := s233 _ S232

/-- (*ba.Session).Out$1 -/
def g236 : G Unit := fun R1 H1 Kb1 => lc R1 fun d1 R2 => ln R2 <| cellsD d1 fun l1 => alK H1 l1 fun b1 H2 => Kb1 (DV.v (AV.b true)) H2
theorem s236 : SN ads 236 (g236) :=
  mk_snd [] ⟨fun _ => [], fun _ => none⟩ [.any] Tryz.func236 rfl .nil
def G236 : G Unit := g236
theorem S236 : SN ads 236 G236 := s236

/-- (*ba.Session).Due$1 -/
def g259 : G Unit := fun R1 H1 Kb1 => lc R1 fun d1 R2 => ln R2 <| cellsD d1 fun l1 => alK H1 l1 fun b1 H2 => rdK H2 b1 nn8 fun v1 => isB v1 fun t1 => frcB (bnot t1) fun t2 => Kb1 (DV.v (AV.b t2)) H2
theorem s259 : SN ads 259 (g259) :=
  mk_snd [] ⟨fun _ => [], fun _ => none⟩ [.any] Tryz.func259 rfl .nil
def G259 : G Unit := g259
theorem S259 : SN ads 259 G259 := s259

def z5 : List AV := [(AV.i .i64 ii0), (AV.i .u32 ii0), (AV.i .i64 ii0), (AV.i .i64 ii0), (AV.s AS.nil), (AV.i .i64 ii0), (AV.i .i64 ii0), (AV.i .i64 ii0), (AV.b false)]
def g235_1 := lookD [((nat_lit 154) , c1), ((nat_lit 226) , c2), ((nat_lit 233) , c3), ((nat_lit 236) , c4), ((nat_lit 259) , c5)] m1 (appA [(DV.a l1)] (mapP L1)) H1 fun d1 H2 => onV d1 fun v1 => isB v1 fun t1 => br t1 (rdR H2 b1 nn0 nn8 fun l2 => c1 [(DV.a l2)] H2 fun d2 H3 => onL d2 fun l3 => must (Nat.beq (llen l3) nn8) <| alK H3 (lapp l3 []) fun b2 H4 => appD nn8 nn80 s1 (AS.sl b2 nn0 nn1 nn1) H4 fun s2 H5 => Kb1 (DV.v (AV.s s2)) H5) (Kb1 (DV.v (AV.s s1)) H2)
def g235_2 := jF [(5 , .slice)] (fun d2 H2 => onV d2 fun v1 => isS v1 fun s3 => wrp .i64 (iadd n1 ii1) fun n2 => Kc1 (DV.v (AV.s s3)) (DV.v (AV.i .i64 n2)) H2) fun Kb1 => ixA s1 n1 (fun x => Nat.mul x nn9) fun b1 m1 => rdR H1 b1 m1 nn9 fun l1 => alF H1 z5 nn9 fun b2 H2 => must (Nat.beq (llen l1) nn9) <| wrL H2 b2 nn0 l1 fun H3 => rdR H3 b2 nn0 nn9 fun l2 => onV d1 fun v1 => isF v1 fun m2 L1 => g235_1 l2 L1 m2 b2 s2 H3 c1 c2 c3 c4 c5 Kb1
def g235_3 := ln R1 <| onA p1 fun b1 m1 => rdK H1 b1 (Nat.add m1 nn6) fun v1 => isS v1 fun s1 => lenA s1 fun m2 => lpR (failF [(5 , .slice), (13 , .int .i64)]) (fun Kc1 => fun d2 d3 H2 => onV d2 fun v2 => isS v2 fun s2 => onV d3 fun v3 => isI .i64 v3 fun n1 => frcB (ilt n1 (Int.ofNat m2)) fun t1 => br t1 (g235_2 d1 n1 s1 s2 H2 c1 c2 c3 c4 c5 Kc1) (Kb1 (DV.v (AV.s s2)) H2)) (nat_lit 100000) (DV.v (AV.s AS.nil)) (DV.v (AV.i .i64 ii0)) H1
/-- (*ba.Session).list -/
def g235 : G Unit := fun R1 H1 Kb1 => lc R1 fun d1 R2 => onV d1 fun v1 => isP v1 fun p1 => lc R2 fun d2 R3 => g235_3 d2 R3 p1 H1 c1 c2 c3 c4 c5 Kb1
theorem s235 (h154 : SN ads 154 c1) (h226 : SN ads 226 c2) (h233 : SN ads 233 c3) (h236 : SN ads 236 c4) (h259 : SN ads 259 c5) : SN ads 235 (g235 c1 c2 c3 c4 c5) :=
  mk_snd [(nn154, c1), (nn226, c2), (nn233, c3), (nn236, c4), (nn259, c5)] ⟨fun n => match n with | 0 => [(5, .slice), (13, .int .i64)] | _ => [], fun n => match n with | 7 => some [(5, .slice)] | _ => none⟩ [.ptr, .any] Tryz.func235 rfl (.cons h154 (.cons h226 (.cons h233 (.cons h236 (.cons h259 .nil)))))
def G235 : G Unit := g235 G154 G226 G233 G236 G259
theorem S235 : SN ads 235 G235 := s235 _ _ _ _ _ S154 S226 S233 S236 S259

/-- (*ba.Session).flies$1 -/
def g292 : G Unit := fun R1 H1 Kb1 => lc R1 fun d1 R2 => ln R2 <| cellsD d1 fun l1 => alK H1 l1 fun b1 H2 => rdK H2 b1 nn8 fun v1 => isB v1 fun t1 => Kb1 (DV.v (AV.b t1)) H2
theorem s292 : SN ads 292 (g292) :=
  mk_snd [] ⟨fun _ => [], fun _ => none⟩ [.any] Tryz.func292 rfl .nil
def G292 : G Unit := g292
theorem S292 : SN ads 292 G292 := s292

def g309_1 := jn (fun d2 H2 => jn (fun d3 H3 => jn (fun d4 H4 => pickK t1 d4 (DV.v (AV.b false)) fun d5 => onV d5 fun v1 => isB v1 fun t2 => Kb1 (DV.v (AV.b t2)) H4) fun Kb2 => br t1 (onV d2 fun v1 => onV d3 fun v2 => isI .i64 v1 fun n1 => isI .i64 v2 fun n2 => frcB (ieq n1 n2) fun t2 => Kb2 (DV.v (AV.b t2)) H3) (Kb2 DV.n H3)) fun Kb2 => br t1 (onA p1 fun b1 m1 => rdK H2 b1 m1 fun v1 => isI .i64 v1 fun n1 => Kb2 (DV.v (AV.i .i64 n1)) H2) (Kb2 DV.n H2)) fun Kb2 => br t1 (onV d1 fun v1 => isP v1 fun p2 => onA p2 fun b1 m1 => rdK H1 b1 m1 fun v2 => isI .i64 v2 fun n1 => Kb2 (DV.v (AV.i .i64 n1)) H1) (Kb2 DV.n H1)
def g309_2 := lc R1 fun d2 R2 => onV d2 fun v1 => isP v1 fun p1 => ln R2 <| cellsD d1 fun l1 => alK H1 l1 fun b1 H2 => rdK H2 b1 nn8 fun v2 => isB v2 fun t1 => frcB (bnot t1) fun t2 => jn (fun d3 H3 => jn (fun d4 H4 => g309_1 d4 t2 p1 H4 Kb1) fun Kb2 => br t2 (onV d3 fun v3 => isP v3 fun p2 => onA p2 fun b2 m1 => Kb2 (DV.v (AV.p (AP.at b2 (Nat.add m1 nn5)))) H3) (Kb2 DV.n H3)) fun Kb2 => br t2 (Kb2 (DV.v (AV.p (AP.at b1 nn0))) H2) (Kb2 DV.n H2)
/-- (*ba.Session).Went$1 -/
def g309 : G Unit := fun R1 H1 Kb1 => lc R1 fun d1 R2 => g309_2 d1 R2 H1 Kb1
theorem s309 : SN ads 309 (g309) :=
  mk_snd [] ⟨fun _ => [], fun _ => none⟩ [.any, .ptr] Tryz.func309 rfl .nil
def G309 : G Unit := g309
theorem S309 : SN ads 309 G309 := s309

def g293_1 := br t1 (ixA s1 n1 (fun x => Nat.mul x nn9) fun b1 m1 => rdR H1 b1 m1 nn9 fun l1 => onV d1 fun v1 => isF v1 fun m2 L1 => lookD [((nat_lit 221) , c1), ((nat_lit 226) , c2), ((nat_lit 233) , c3), ((nat_lit 292) , c4), ((nat_lit 309) , c5)] m2 (appA [(DV.a l1)] (mapP L1)) H1 fun d2 H2 => onV d2 fun v2 => isB v2 fun t2 => br t2 (Kb1 (DV.v (AV.i .i64 n1)) H2) (wrp .i64 (iadd n1 ii1) fun n2 => Kb2 (DV.v (AV.i .i64 n2)) H2)) (Kb1 (DV.v (AV.i .i64 im1)) H1)
/-- slices.IndexFunc[[]ba.frame,ba.frame] -/
def g293 : G Unit := fun R1 H1 Kb1 => lc R1 fun d1 R2 => onV d1 fun v1 => isS v1 fun s1 => lc R2 fun d2 R3 => ln R3 <| lenA s1 fun m1 => lpR (failF [(8 , .int .i64)]) (fun Kb2 => fun d3 H2 => onV d3 fun v2 => isI .i64 v2 fun n1 => frcB (ilt n1 (Int.ofNat m1)) fun t1 => g293_1 d2 n1 t1 s1 H2 c1 c2 c3 c4 c5 Kb1 Kb2) (nat_lit 100000) (DV.v (AV.i .i64 ii0)) H1
theorem s293 (h221 : SN ads 221 c1) (h226 : SN ads 226 c2) (h233 : SN ads 233 c3) (h292 : SN ads 292 c4) (h309 : SN ads 309 c5) : SN ads 293 (g293 c1 c2 c3 c4 c5) :=
  mk_snd [(nn221, c1), (nn226, c2), (nn233, c3), (nn292, c4), (nn309, c5)] ⟨fun n => match n with | 0 => [(8, .int .i64)] | _ => [], fun _ => none⟩ [.slice, .any] Tryz.func293 rfl (.cons h221 (.cons h226 (.cons h233 (.cons h292 (.cons h309 .nil)))))
def G293 : G Unit := g293 G221 G226 G233 G292 G309
theorem S293 : SN ads 293 G293 := s293 _ _ _ _ _ S221 S226 S233 S292 S309

def g294_1 := isF v1 fun m1 L1 => lookD [((nat_lit 226) , c1), ((nat_lit 233) , c2), ((nat_lit 293) , c3)] m1 (appA [(DV.a l1)] (mapP L1)) H1 fun d1 H2 => onV d1 fun v2 => isB v2 fun t1 => frcB (bnot t1) fun t2 => br t2 (rdR H2 b1 nn0 nn9 fun l2 => ixA s1 n1 (fun x => Nat.mul x nn9) fun b2 m2 => must (Nat.beq (llen l2) nn9) <| wrL H2 b2 m2 l2 fun H3 => wrp .i64 (iadd n1 ii1) fun n2 => Kb1 (DV.v (AV.i .i64 n2)) H3) (Kb1 (DV.v (AV.i .i64 n1)) H2)
def g294_2 := jF [(5 , .int .i64)] (fun d2 H2 => onV d2 fun v1 => isI .i64 v1 fun n3 => wrp .i64 (iadd n1 ii1) fun n4 => Kc1 (DV.v (AV.i .i64 n3)) (DV.v (AV.i .i64 n4)) H2) fun Kb1 => ixA s1 n1 (fun x => Nat.mul x nn9) fun b1 m1 => rdR H1 b1 m1 nn9 fun l1 => alF H1 z5 nn9 fun b2 H2 => must (Nat.beq (llen l1) nn9) <| wrL H2 b2 nn0 l1 fun H3 => rdR H3 b2 nn0 nn9 fun l2 => onV d1 fun v1 => g294_1 v1 l2 n2 b2 s1 H3 c1 c2 c3 Kb1
def g294_3 := lpR (failF [(5 , .int .i64), (6 , .int .i64)]) (fun Kc1 => fun d2 d3 H2 => onV d2 fun v1 => isI .i64 v1 fun n3 => onV d3 fun v2 => isI .i64 v2 fun n4 => lenA s1 fun m1 => frcB (ilt n4 (Int.ofNat m1)) fun t1 => br t1 (g294_2 d1 n4 n3 s1 H2 c1 c2 c3 Kc1) (natK n3 fun m2 => lenA s1 fun m3 => slA s1 m2 m3 (fun x => Nat.mul x nn9) fun s2 => clrD z5 s2 H2 fun H3 => natK n3 fun m4 => slA s1 nn0 m4 (fun x => Nat.mul x nn9) fun s3 => Kb1 (DV.v (AV.s s3)) H3)) (nat_lit 100000) (DV.v (AV.i .i64 n1)) (DV.v (AV.i .i64 n2)) H1
/-- slices.DeleteFunc[[]ba.frame,ba.frame] -/
def g294 : G Unit := fun R1 H1 Kb1 => lc R1 fun d1 R2 => onV d1 fun v1 => isS v1 fun s1 => lc R2 fun d2 R3 => ln R3 <| c3 [(DV.v (AV.s s1)), d2] H1 fun d3 H2 => onV d3 fun v2 => isI .i64 v2 fun n1 => frcB (ieq n1 im1) fun t1 => br t1 (Kb1 (DV.v (AV.s s1)) H2) (wrp .i64 (iadd n1 ii1) fun n2 => g294_3 d2 n1 n2 s1 H2 c1 c2 c3 Kb1)
theorem s294 (h226 : SN ads 226 c1) (h233 : SN ads 233 c2) (h293 : SN ads 293 c3) : SN ads 294 (g294 c1 c2 c3) :=
  mk_snd [(nn226, c1), (nn233, c2), (nn293, c3)] ⟨fun n => match n with | 0 => [(5, .int .i64), (6, .int .i64)] | _ => [], fun n => match n with | 6 => some [(5, .int .i64)] | _ => none⟩ [.slice, .any] Tryz.func294 rfl (.cons h226 (.cons h233 (.cons h293 .nil)))
def G294 : G Unit := g294 G226 G233 G293
theorem S294 : SN ads 294 G294 := s294 _ _ _ S226 S233 S293

/-- slices.Clone[[]ba.frame,ba.frame] -/
def g295 : G Unit := fun R1 H1 Kb1 => lc R1 fun d1 R2 => onV d1 fun v1 => isS v1 fun s1 => ln R2 <| frcB (isNilS s1) fun t1 => br t1 (Kb1 (DV.v (AV.s AS.nil)) H1) (alK H1 [] fun b1 H2 => appD nn9 nn88 (AS.sl b1 nn0 nn0 nn0) s1 H2 fun s2 H3 => Kb1 (DV.v (AV.s s2)) H3)
theorem s295 : SN ads 295 (g295) :=
  mk_snd [] ⟨fun _ => [], fun _ => none⟩ [.slice] Tryz.func295 rfl .nil
def G295 : G Unit := g295
theorem S295 : SN ads 295 G295 := s295

/-- slices.Clone[[]int,int] -/
def g247 : G Unit := fun R1 H1 Kb1 => lc R1 fun d1 R2 => onV d1 fun v1 => isS v1 fun s1 => ln R2 <| frcB (isNilS s1) fun t1 => br t1 (Kb1 (DV.v (AV.s AS.nil)) H1) (alK H1 [] fun b1 H2 => appD nn1 nn8 (AS.sl b1 nn0 nn0 nn0) s1 H2 fun s2 H3 => Kb1 (DV.v (AV.s s2)) H3)
theorem s247 : SN ads 247 (g247) :=
  mk_snd [] ⟨fun _ => [], fun _ => none⟩ [.slice] Tryz.func247 rfl .nil
def G247 : G Unit := g247
theorem S247 : SN ads 247 G247 := s247

def g269_1 := lenA s1 fun m1 => lpR (failF [(8 , .int .i64)]) (fun Kb2 => fun d1 H2 => onV d1 fun v1 => isI .i64 v1 fun n2 => frcB (ilt n2 (Int.ofNat m1)) fun t1 => br t1 (ixA s1 n2 (fun x => x) fun b1 m2 => rdK H2 b1 m2 fun v2 => isI .i64 v2 fun n3 => frcB (ieq n1 n3) fun t2 => br t2 (Kb1 (DV.v (AV.i .i64 n2)) H2) (wrp .i64 (iadd n2 ii1) fun n4 => Kb2 (DV.v (AV.i .i64 n4)) H2)) (Kb1 (DV.v (AV.i .i64 im1)) H2)) (nat_lit 100000) (DV.v (AV.i .i64 ii0)) H1
/-- slices.Index[[]int,int] -/
def g269 : G Unit := fun R1 H1 Kb1 => lc R1 fun d1 R2 => onV d1 fun v1 => isS v1 fun s1 => lc R2 fun d2 R3 => onV d2 fun v2 => isI .i64 v2 fun n1 => ln R3 <| g269_1 n1 s1 H1 Kb1
theorem s269 : SN ads 269 (g269) :=
  mk_snd [] ⟨fun n => match n with | 0 => [(8, .int .i64)] | _ => [], fun _ => none⟩ [.slice, .int .i64] Tryz.func269 rfl .nil
def G269 : G Unit := g269
theorem S269 : SN ads 269 G269 := s269

/-- slices.Delete[[]int,int] -/
def g319 : G Unit := fun R1 H1 Kb1 => lc R1 fun d1 R2 => onV d1 fun v1 => isS v1 fun s1 => lc R2 fun d2 R3 => onV d2 fun v2 => isI .i64 v2 fun n1 => lc R3 fun d3 R4 => onV d3 fun v3 => isI .i64 v3 fun n2 => ln R4 <| lenA s1 fun m1 => none
theorem s319 : SN ads 319 (g319) :=
  mk_snd [] ⟨fun _ => [], fun _ => none⟩ [.slice, .int .i64, .int .i64] Tryz.func319 rfl .nil
def G319 : G Unit := g319
theorem S319 : SN ads 319 G319 := s319

def g296_1 := wrK H1 b1 m1 (AV.i .i64 n1) fun H2 => jF [] (fun H3 => Kb1 (DV.v AV.ni) H3) fun Ka1 => onA p1 fun b2 m2 => rdK H2 b2 (Nat.add m2 nn3) fun v1 => isS v1 fun s1 => lenA s1 fun m3 => frcB (ilt ii0 (Int.ofNat m3)) fun t1 => br t1 (onA p1 fun b3 m4 => rdK H2 b3 (Nat.add m4 nn3) fun v2 => isS v2 fun s2 => ixA s2 ii0 (fun x => x) fun b4 m5 => rdK H2 b4 m5 fun v3 => isI .i64 v3 fun n2 => onA p1 fun b5 m6 => wrK H2 b5 m6 (AV.i .i64 n2) fun H3 => Ka1 H3) (Ka1 H2)
def g296_2 := c1 [(DV.v (AV.s s1))] H1 fun d1 H2 => onV d1 fun v1 => isS v1 fun s2 => wrp .i64 (iadd n1 ii1) fun n2 => c2 [(DV.v (AV.s s2)), (DV.v (AV.i .i64 n1)), (DV.v (AV.i .i64 n2))] H2 fun d2 H3 => onV d2 fun v2 => isS v2 fun s3 => onA p1 fun b1 m1 => wrK H3 b1 (Nat.add m1 nn3) (AV.s s3) fun H4 => onA p1 fun b2 m2 => rdK H4 b2 (Nat.add m2 nn1) fun v3 => isI .i64 v3 fun n3 => onA p1 fun b3 m3 => g296_1 n3 m3 p1 b3 H4 Kb1
def g296_3 := lc R1 fun d1 R2 => onV d1 fun v1 => isI .i64 v1 fun n1 => ln R2 <| onA p1 fun b1 m1 => rdK H1 b1 (Nat.add m1 nn3) fun v2 => isS v2 fun s1 => c1 [(DV.v (AV.s s1)), (DV.v (AV.i .i64 n1))] H1 fun d2 H2 => onV d2 fun v3 => isI .i64 v3 fun n2 => frcB (ilt n2 ii0) fun t1 => br t1 (Kb1 (DV.v (AV.er (nat_lit 6))) H2) (onA p1 fun b2 m2 => rdK H2 b2 (Nat.add m2 nn3) fun v4 => isS v4 fun s2 => g296_2 n2 p1 s2 H2 c2 c3 Kb1)
/-- (*win.Win).Done -/
def g296 : G Unit := fun R1 H1 Kb1 => lc R1 fun d1 R2 => onV d1 fun v1 => isP v1 fun p1 => g296_3 R2 p1 H1 c2 c1 c3 Kb1
theorem s296 (h247 : SN ads 247 c1) (h269 : SN ads 269 c2) (h319 : SN ads 319 c3) : SN ads 296 (g296 c1 c2 c3) :=
  mk_snd [(nn247, c1), (nn269, c2), (nn319, c3)] ⟨fun _ => [], fun n => match n with | 8 => some [] | _ => none⟩ [.ptr, .int .i64] Tryz.func296 rfl (.cons h247 (.cons h269 (.cons h319 .nil)))
def G296 : G Unit := g296 G247 G269 G319
theorem S296 : SN ads 296 G296 := s296 _ _ _ S247 S269 S319

def g225_1 := ixA s1 n1 (fun x => Nat.mul x nn8) fun b1 m1 => rdR H1 b1 m1 nn8 fun l1 => alF H1 z4 nn8 fun b2 H2 => must (Nat.beq (llen l1) nn8) <| wrL H2 b2 nn0 l1 fun H3 => onA p1 fun b3 m2 => rdK H3 b3 m2 fun v1 => isP v1 fun p2 => rdK H3 b2 nn5 fun v2 => isI .i64 v2 fun n2 => c1 [(DV.v (AV.p p2)), (DV.v (AV.i .i64 n2))] H3 fun d1 H4 => onV d1 fun v3 => ifA false true v3 AV.ni fun t1 => frcB (bnot t1) fun t2 => br t2 (Ka1 H4) (Ka1 H4)
def g225_2 := onV d1 fun v1 => isS v1 fun s2 => onA p1 fun b1 m1 => wrK H1 b1 (Nat.add m1 nn6) (AV.s s2) fun H2 => lenA s1 fun m2 => lpR (failF [(23 , .int .i64)]) (fun Kb2 => fun d2 H3 => onV d2 fun v2 => isI .i64 v2 fun n1 => frcB (ilt n1 (Int.ofNat m2)) fun t1 => br t1 (jF [] (fun H4 => wrp .i64 (iadd n1 ii1) fun n2 => Kb2 (DV.v (AV.i .i64 n2)) H4) fun Ka1 => g225_1 n1 p1 s1 H3 c1 Ka1) (Kb1 (DV.v (AV.s s1)) H3)) (nat_lit 100000) (DV.v (AV.i .i64 ii0)) H2
/-- (*ba.Session).take -/
def g225 : G Unit := fun R1 H1 Kb1 => lc R1 fun d1 R2 => onV d1 fun v1 => isP v1 fun p1 => lc R2 fun d2 R3 => ln R3 <| c1 [(DV.v (AV.p p1)), d2] H1 fun d3 H2 => onV d3 fun v2 => isS v2 fun s1 => onA p1 fun b1 m1 => rdK H2 b1 (Nat.add m1 nn6) fun v3 => isS v3 fun s2 => c3 [(DV.v (AV.s s2))] H2 fun d4 H3 => onV d4 fun v4 => isS v4 fun s3 => c2 [(DV.v (AV.s s3)), d2] H3 fun d5 H4 => g225_2 d5 p1 s1 H4 c4 Kb1
theorem s225 (h235 : SN ads 235 c1) (h294 : SN ads 294 c2) (h295 : SN ads 295 c3) (h296 : SN ads 296 c4) : SN ads 225 (g225 c1 c2 c3 c4) :=
  mk_snd [(nn235, c1), (nn294, c2), (nn295, c3), (nn296, c4)] ⟨fun n => match n with | 0 => [(23, .int .i64)] | _ => [], fun n => match n with | 7 => some [] | _ => none⟩ [.ptr, .any] Tryz.func225 rfl (.cons h235 (.cons h294 (.cons h295 (.cons h296 .nil))))
def G225 : G Unit := g225 G235 G294 G295 G296
theorem S225 : SN ads 225 G225 := s225 _ _ _ _ S235 S294 S295 S296

def g140_1 := wrL H1 b1 nn0 l1 fun H2 => rdK H2 b2 nn0 fun v1 => rdR H2 b1 nn0 nn9 fun l2 => isF v1 fun m1 L1 => lookD [((nat_lit 225) , c1), ((nat_lit 232) , c2)] m1 (appA [(DV.a l2)] (mapP L1)) H2 fun d1 H3 => onV d1 fun v2 => isI .i64 v2 fun n1 => frcB (bnot (ieq n1 ii0)) fun t1 => br t1 (alK H3 [(AV.i .i64 n1)] fun b3 H4 => appD nn1 nn8 s1 (AS.sl b3 nn0 nn1 nn1) H4 fun s2 H5 => Kb1 (DV.v (AV.s s2)) H5) (Kb1 (DV.v (AV.s s1)) H3)
def g140_2 := jn (fun d2 H2 => pickK t1 d2 (DV.v (AV.b false)) fun d3 => onV d3 fun v1 => isB v1 fun t2 => br t2 (rdK H2 b1 nn0 fun v2 => isP v2 fun p1 => rdK H2 b1 nn0 fun v3 => isP v3 fun p2 => onA p1 fun b2 m1 => wrK H2 b2 (Nat.add m1 nn7) (AV.b true) fun H3 => rdK H3 b1 nn0 fun v4 => must (aveq (AV.p p2) v4) <| onA p2 fun b3 m2 => wrK H3 b3 (Nat.add m2 nn8) (AV.i .i64 ii0) fun H4 => Ka1 H4) (Ka1 H2)) fun Kb1 => br t1 (onV d1 fun v1 => isB v1 fun t2 => frcB (bnot t2) fun t3 => Kb1 (DV.v (AV.b t3)) H1) (Kb1 DV.n H1)
def g140_3 := jn (fun d2 H2 => jn (fun d3 H3 => jn (fun d4 H4 => g140_2 d4 t1 b1 H4 Ka1) fun Kb1 => br t1 (onV d3 fun v1 => isP v1 fun p1 => onA p1 fun b2 m1 => rdK H3 b2 m1 fun v2 => isB v2 fun t2 => Kb1 (DV.v (AV.b t2)) H3) (Kb1 DV.n H3)) fun Kb1 => br t1 (onV d2 fun v1 => isP v1 fun p1 => onA p1 fun b2 m1 => Kb1 (DV.v (AV.p (AP.at b2 (Nat.add m1 nn7)))) H2) (Kb1 DV.n H2)) fun Kb1 => br t1 (onV d1 fun v1 => isP v1 fun p1 => onA p1 fun b2 m1 => Kb1 (DV.v (AV.p (AP.at b2 m1))) H1) (Kb1 DV.n H1)
def g140_4 := jn (fun d2 H2 => jn (fun d3 H3 => pickK t1 d3 (DV.v (AV.b false)) fun d4 => onV d4 fun v1 => isB v1 fun t2 => jn (fun d5 H4 => g140_3 d5 t2 b1 H4 Ka1) fun Kb1 => br t2 (rdK H3 b1 nn0 fun v2 => isP v2 fun p1 => Kb1 (DV.v (AV.p p1)) H3) (Kb1 DV.n H3)) fun Kb1 => br t1 (onV d2 fun v1 => isI .i64 v1 fun n1 => frcB (ieq n1 ii3) fun t2 => Kb1 (DV.v (AV.b t2)) H2) (Kb1 DV.n H2)) fun Kb1 => br t1 (onV d1 fun v1 => isP v1 fun p1 => onA p1 fun b2 m1 => rdK H1 b2 m1 fun v2 => isI .i64 v2 fun n1 => Kb1 (DV.v (AV.i .i64 n1)) H1) (Kb1 DV.n H1)
def g140_5 := jn (fun d1 H2 => jn (fun d2 H3 => jn (fun d3 H4 => g140_4 d3 t1 b1 H4 Ka1) fun Kb1 => br t1 (onV d2 fun v1 => isP v1 fun p1 => onA p1 fun b2 m1 => Kb1 (DV.v (AV.p (AP.at b2 (Nat.add m1 nn4)))) H3) (Kb1 DV.n H3)) fun Kb1 => br t1 (onV d1 fun v1 => isP v1 fun p1 => onA p1 fun b2 m1 => Kb1 (DV.v (AV.p (AP.at b2 m1))) H2) (Kb1 DV.n H2)) fun Kb1 => br t1 (rdK H1 b1 nn0 fun v1 => isP v1 fun p1 => Kb1 (DV.v (AV.p p1)) H1) (Kb1 DV.n H1)
def g140_6 := br t1 (jF [(7 , .slice)] (fun d1 H2 => onV d1 fun v1 => isS v1 fun s3 => wrp .i64 (iadd n1 ii1) fun n2 => Kc1 (DV.v (AV.s s3)) (DV.v (AV.i .i64 n2)) H2) fun Kb2 => ixA s1 n1 (fun x => Nat.mul x nn9) fun b3 m1 => rdR H1 b3 m1 nn9 fun l1 => alF H1 z5 nn9 fun b4 H2 => must (Nat.beq (llen l1) nn9) <| g140_1 l1 b4 b1 s2 H2 c1 c2 Kb2) (rdK H1 b2 nn0 fun v1 => isP v1 fun p1 => c1 [(DV.v (AV.p p1)), (DV.v (AV.fn (nat_lit 233) [(AP.at b1 nn0)]))] H1 fun d1 H2 => onV d1 fun v2 => isS v2 fun s3 => jF [] (fun H3 => Kb1 (DV.c (DV.v (AV.s s3)) (DV.c (DV.v (AV.s s2)) DV.n)) H3) fun Ka1 => lenA s3 fun m1 => frcB (ilt ii0 (Int.ofNat m1)) fun t2 => g140_5 t2 b2 H2 Ka1)
def g140_7 := wrK H1 b1 nn0 (AV.fn (nat_lit 232) [(AP.at b2 nn0), (AP.at b3 nn0)]) fun H2 => rdK H2 b2 nn0 fun v1 => isP v1 fun p1 => onA p1 fun b4 m1 => rdK H2 b4 (Nat.add m1 nn6) fun v2 => isS v2 fun s1 => lenA s1 fun m2 => lpR (failF [(7 , .slice), (18 , .int .i64)]) (fun Kc1 => fun d1 d2 H3 => onV d1 fun v3 => isS v3 fun s2 => onV d2 fun v4 => isI .i64 v4 fun n1 => frcB (ilt n1 (Int.ofNat m2)) fun t1 => g140_6 n1 t1 b1 b2 s1 s2 H3 c1 c2 Kb1 Kc1) (nat_lit 100000) (DV.v (AV.s AS.nil)) (DV.v (AV.i .i64 ii0)) H2
/-- (*ba.Session).Sweep -/
def g140 : G Unit := fun R1 H1 Kb1 => lc R1 fun d1 R2 => onV d1 fun v1 => isP v1 fun p1 => lc R2 fun d2 R3 => onV d2 fun v2 => isI .i64 v2 fun n1 => ln R3 <| alK H1 [(AV.p p1)] fun b1 H2 => alK H2 [(AV.i .i64 n1)] fun b2 H3 => alF H3 [AV.nf] nn1 fun b3 H4 => g140_7 b3 b1 b2 H4 c1 c2 Kb1
theorem s140 (h225 : SN ads 225 c1) (h232 : SN ads 232 c2) : SN ads 140 (g140 c1 c2) :=
  mk_snd [(nn225, c1), (nn232, c2)] ⟨fun n => match n with | 0 => [(7, .slice), (18, .int .i64)] | _ => [], fun n => match n with | 9 => some [(7, .slice)] | 13 => some [] | _ => none⟩ [.ptr, .int .i64] Tryz.func140 rfl (.cons h225 (.cons h232 .nil))
def G140 : G Unit := g140 G225 G232
theorem S140 : SN ads 140 G140 := s140 _ _ S225 S232

def g86_1 := jn (fun d3 H2 => pickK t1 (DV.v (AV.b true)) d3 fun d4 => onV d4 fun v1 => isB v1 fun t2 => br t2 (Kb1 (DV.c (DV.v (AV.p AP.nil)) (DV.c (DV.v (AV.er (nat_lit 6))) DV.n)) H2) (onA p1 fun b1 m1 => rdK H2 b1 m1 fun v2 => isS v2 fun s1 => wrp .i64 (isub n1 ii1) fun n2 => ixA s1 n2 (fun x => Nat.mul x nn2) fun b2 m2 => Kb1 (DV.c (DV.v (AV.p (AP.at b2 m2))) (DV.c (DV.v AV.ni) DV.n)) H2)) fun Kb2 => br t1 (Kb2 DV.n H1) (onV d1 fun v1 => onV d2 fun v2 => isI .i64 v1 fun n2 => isI .i64 v2 fun n3 => frcB (ilt n3 n2) fun t2 => Kb2 (DV.v (AV.b t2)) H1)
def g86_2 := jn (fun d3 H2 => jn (fun d4 H3 => jn (fun d5 H4 => g86_1 d1 d5 n1 t1 p1 H4 Kb1) fun Kb2 => br t1 (Kb2 DV.n H3) (onV d4 fun v1 => isS v1 fun s1 => lenA s1 fun m1 => Kb2 (DV.v (AV.i .i64 (Int.ofNat m1))) H3)) fun Kb2 => br t1 (Kb2 DV.n H2) (onV d3 fun v1 => isP v1 fun p2 => onA p2 fun b1 m1 => rdK H2 b1 m1 fun v2 => isS v2 fun s1 => Kb2 (DV.v (AV.s s1)) H2)) fun Kb2 => br t1 (Kb2 DV.n H1) (onV d2 fun v1 => isP v1 fun p2 => onA p2 fun b1 m1 => Kb2 (DV.v (AV.p (AP.at b1 m1))) H1)
def g86_3 := lc R1 fun d1 R2 => onV d1 fun v1 => isI .i64 v1 fun n1 => ln R2 <| frcB (ilt n1 ii1) fun t1 => jn (fun d2 H2 => jn (fun d3 H3 => jn (fun d4 H4 => g86_2 d2 d4 n1 t1 p1 H4 Kb1) fun Kb2 => br t1 (Kb2 DV.n H3) (onV d3 fun v2 => isP v2 fun p2 => onA p2 fun b1 m1 => Kb2 (DV.v (AV.p (AP.at b1 m1))) H3)) fun Kb2 => br t1 (Kb2 DV.n H2) (Kb2 (DV.v (AV.p p1)) H2)) fun Kb2 => br t1 (Kb2 DV.n H1) (Kb2 (DV.v (AV.i .i64 n1)) H1)
/-- (*count.Book).of -/
def g86 : G Unit := fun R1 H1 Kb1 => lc R1 fun d1 R2 => onV d1 fun v1 => isP v1 fun p1 => g86_3 R2 p1 H1 Kb1
theorem s86 : SN ads 86 (g86) :=
  mk_snd [] ⟨fun _ => [], fun _ => none⟩ [.ptr, .int .i64] Tryz.func86 rfl .nil
def G86 : G Unit := g86
theorem S86 : SN ads 86 G86 := s86

def g228_1 := jn (fun d2 H2 => jn (fun d3 H3 => jn (fun d4 H4 => pickK t1 (DV.v (AV.b true)) d4 fun d5 => onV d5 fun v1 => isB v1 fun t2 => Kb1 (DV.v (AV.b t2)) H4) fun Kb2 => br t1 (Kb2 DV.n H3) (onV d3 fun v1 => isI .i64 v1 fun n1 => frcB (ieq n1 ii4) fun t2 => Kb2 (DV.v (AV.b t2)) H3)) fun Kb2 => br t1 (Kb2 DV.n H2) (onV d2 fun v1 => isP v1 fun p1 => onA p1 fun b1 m1 => rdK H2 b1 m1 fun v2 => isI .i64 v2 fun n1 => Kb2 (DV.v (AV.i .i64 n1)) H2)) fun Kb2 => br t1 (Kb2 DV.n H1) (onV d1 fun v1 => isP v1 fun p1 => onA p1 fun b1 m1 => Kb2 (DV.v (AV.p (AP.at b1 m1))) H1)
/-- count.over -/
def g228 : G Unit := fun R1 H1 Kb1 => lc R1 fun d1 R2 => onV d1 fun v1 => isP v1 fun p1 => ln R2 <| onA p1 fun b1 m1 => rdK H1 b1 m1 fun v2 => isI .i64 v2 fun n1 => frcB (ieq n1 ii3) fun t1 => jn (fun d2 H2 => jn (fun d3 H3 => g228_1 d3 t1 H3 Kb1) fun Kb2 => br t1 (Kb2 DV.n H2) (onV d2 fun v3 => isP v3 fun p2 => onA p2 fun b2 m2 => Kb2 (DV.v (AV.p (AP.at b2 m2))) H2)) fun Kb2 => br t1 (Kb2 DV.n H1) (Kb2 (DV.v (AV.p p1)) H1)
theorem s228 : SN ads 228 (g228) :=
  mk_snd [] ⟨fun _ => [], fun _ => none⟩ [.ptr] Tryz.func228 rfl .nil
def G228 : G Unit := g228
theorem S228 : SN ads 228 G228 := s228

def g234_1 := jn (fun d2 H2 => pickK t1 (DV.v (AV.b true)) d2 fun d3 => onV d3 fun v1 => isB v1 fun t2 => br t2 (Kb1 (DV.v (AV.er (nat_lit 2))) H2) (c1 [(DV.v (AV.p p1))] H2 fun d4 H3 => onV d4 fun v2 => isB v2 fun t3 => br t3 (Kb1 (DV.v (AV.er (nat_lit 9))) H3) (onA p1 fun b1 m1 => wrL H3 b1 m1 [(AV.i .i64 ii4), (AV.i .i64 n1)] fun H4 => Kb1 (DV.v AV.ni) H4))) fun Kb2 => br t1 (Kb2 DV.n H1) (onV d1 fun v1 => isI .i64 v1 fun n2 => frcB (ilt ii5 n2) fun t2 => Kb2 (DV.v (AV.b t2)) H1)
def g234_2 := isI .i64 v1 fun n2 => ln R1 <| c1 [(DV.v (AV.p p1)), (DV.v (AV.i .i64 n1))] H1 fun d1 H2 => onC d1 fun d2 d3 => onV d2 fun v2 => isP v2 fun p2 => onC d3 fun d4 d5 => onV d4 fun v3 => onN d5 <| ifA true true v3 AV.ni fun t1 => frcB (bnot t1) fun t2 => br t2 (Kb1 (DV.v v3) H2) (frcB (ilt n2 ii1) fun t3 => jn (fun d6 H3 => g234_1 d6 n2 t3 p2 H3 c2 Kb1) fun Kb2 => br t3 (Kb2 DV.n H2) (Kb2 (DV.v (AV.i .i64 n2)) H2))
/-- (*count.Book).Drop -/
def g234 : G Unit := fun R1 H1 Kb1 => lc R1 fun d1 R2 => onV d1 fun v1 => isP v1 fun p1 => lc R2 fun d2 R3 => onV d2 fun v2 => isI .i64 v2 fun n1 => lc R3 fun d3 R4 => onV d3 fun v3 => g234_2 v3 R4 n1 p1 H1 c1 c2 Kb1
theorem s234 (h86 : SN ads 86 c1) (h228 : SN ads 228 c2) : SN ads 234 (g234 c1 c2) :=
  mk_snd [(nn86, c1), (nn228, c2)] ⟨fun _ => [], fun _ => none⟩ [.ptr, .int .i64, .int .i64] Tryz.func234 rfl (.cons h86 (.cons h228 .nil))
def G234 : G Unit := g234 G86 G228
theorem S234 : SN ads 234 G234 := s234 _ _ S86 S228

def z6 : List AV := [(AV.i .i64 ii0), (AV.i .u32 ii0), (AV.i .i64 ii0), (AV.i .i64 ii0), (AV.s AS.nil)]
def g141_1 := br t1 (ixA s1 n1 (fun x => Nat.mul x nn5) fun b1 m1 => rdR H1 b1 m1 nn5 fun l1 => alF H1 z6 nn5 fun b2 H2 => must (Nat.beq (llen l1) nn5) <| wrL H2 b2 nn0 l1 fun H3 => onA p1 fun b3 m2 => rdK H3 b2 nn0 fun v1 => isI .i64 v1 fun n3 => c1 [(DV.v (AV.p (AP.at b3 (Nat.add m2 nn310)))), (DV.v (AV.i .i64 n3)), (DV.v (AV.i .i64 n2))] H3 fun d1 H4 => onV d1 fun v2 => wrp .i64 (iadd n1 ii1) fun n4 => Kb1 (DV.v (AV.i .i64 n4)) H4) (Kb2 DV.n H1)
/-- (*ap.AP).drop -/
def g141 : G Unit := fun R1 H1 Kb1 => lc R1 fun d1 R2 => onV d1 fun v1 => isP v1 fun p1 => lc R2 fun d2 R3 => onV d2 fun v2 => isI .i64 v2 fun n1 => lc R3 fun d3 R4 => onV d3 fun v3 => isS v3 fun s1 => ln R4 <| lenA s1 fun m1 => lpR (failF [(10 , .int .i64)]) (fun Kb2 => fun d4 H2 => onV d4 fun v4 => isI .i64 v4 fun n2 => frcB (ilt n2 (Int.ofNat m1)) fun t1 => g141_1 n2 n1 t1 p1 s1 H2 c1 Kb2 Kb1) (nat_lit 100000) (DV.v (AV.i .i64 ii0)) H1
theorem s141 (h234 : SN ads 234 c1) : SN ads 141 (g141 c1) :=
  mk_snd [(nn234, c1)] ⟨fun n => match n with | 0 => [(10, .int .i64)] | _ => [], fun _ => none⟩ [.ptr, .int .i64, .slice] Tryz.func141 rfl (.cons h234 .nil)
def G141 : G Unit := g141 G234
theorem S141 : SN ads 141 G141 := s141 _ S234

/-- (*ba.Session).Out -/
def g142 : G Unit := fun R1 H1 Kb1 => lc R1 fun d1 R2 => onV d1 fun v1 => isP v1 fun p1 => ln R2 <| c1 [(DV.v (AV.p p1)), (DV.v (AV.fn (nat_lit 236) []))] H1 fun d2 H2 => onV d2 fun v2 => isS v2 fun s1 => Kb1 (DV.v (AV.s s1)) H2
theorem s142 (h235 : SN ads 235 c1) : SN ads 142 (g142 c1) :=
  mk_snd [(nn235, c1)] ⟨fun _ => [], fun _ => none⟩ [.ptr] Tryz.func142 rfl (.cons h235 .nil)
def G142 : G Unit := g142 G235
theorem S142 : SN ads 142 G142 := s142 _ S235

def g229_1 := jn (fun d2 H2 => pickK t1 (DV.v (AV.b true)) d2 fun d3 => onV d3 fun v1 => isB v1 fun t2 => br t2 (Kb1 (DV.v (AV.er (nat_lit 2))) H2) (onA p1 fun b1 m1 => rdK H2 b1 (Nat.add m1 nn3) fun v2 => isS v2 fun s1 => lenA s1 fun m2 => frcB (ilt ii0 (Int.ofNat m2)) fun t3 => br t3 (Kb1 (DV.v (AV.er (nat_lit 9))) H2) (onA p1 fun b2 m3 => wrK H2 b2 (Nat.add m3 nn2) (AV.i .i64 n1) fun H3 => Kb1 (DV.v AV.ni) H3))) fun Kb2 => br t1 (Kb2 DV.n H1) (onV d1 fun v1 => isI .i64 v1 fun n2 => frcB (ilt ii64 n2) fun t2 => Kb2 (DV.v (AV.b t2)) H1)
/-- (*win.Win).Resize -/
def g229 : G Unit := fun R1 H1 Kb1 => lc R1 fun d1 R2 => onV d1 fun v1 => isP v1 fun p1 => lc R2 fun d2 R3 => onV d2 fun v2 => isI .i64 v2 fun n1 => ln R3 <| frcB (ilt n1 ii1) fun t1 => jn (fun d3 H2 => g229_1 d3 n1 t1 p1 H2 Kb1) fun Kb2 => br t1 (Kb2 DV.n H1) (Kb2 (DV.v (AV.i .i64 n1)) H1)
theorem s229 : SN ads 229 (g229) :=
  mk_snd [] ⟨fun _ => [], fun _ => none⟩ [.ptr, .int .i64] Tryz.func229 rfl .nil
def G229 : G Unit := g229
theorem S229 : SN ads 229 G229 := s229

def g143_1 := rdK H1 b1 m1 fun v1 => isP v1 fun p2 => c1 [(DV.v (AV.p p2)), (DV.v (AV.i .i64 ii1))] H1 fun d1 H2 => onV d1 fun v2 => ifA true true v2 AV.ni fun t1 => frcB (bnot t1) fun t2 => br t2 (Kb1 (DV.v v2) H2) (onA p1 fun b2 m2 => wrK H2 b2 (Nat.add m2 nn4) (AV.i .i64 ii1) fun H3 => onA p1 fun b3 m3 => wrK H3 b3 (Nat.add m3 nn7) (AV.b false) fun H4 => onA p1 fun b4 m4 => wrK H4 b4 (Nat.add m4 nn8) (AV.i .i64 ii0) fun H5 => Kb1 (DV.v AV.ni) H5)
def g143_2 := jn (fun d2 H2 => jn (fun d3 H3 => pickK t1 (DV.v (AV.b true)) d3 fun d4 => onV d4 fun v1 => isB v1 fun t2 => br t2 (Kb1 (DV.v (AV.er (nat_lit 9))) H3) (onA p1 fun b1 m1 => g143_1 m1 p1 b1 H3 c1 Kb1)) fun Kb2 => br t1 (Kb2 DV.n H2) (onV d2 fun v1 => isI .i64 v1 fun n1 => frcB (ilt ii0 n1) fun t2 => Kb2 (DV.v (AV.b t2)) H2)) fun Kb2 => br t1 (Kb2 DV.n H1) (onV d1 fun v1 => isS v1 fun s1 => lenA s1 fun m1 => Kb2 (DV.v (AV.i .i64 (Int.ofNat m1))) H1)
def g143_3 := jn (fun d2 H2 => jn (fun d3 H3 => jn (fun d4 H4 => g143_2 d4 t1 p1 H4 c1 Kb1) fun Kb2 => br t1 (Kb2 DV.n H3) (onV d3 fun v1 => isP v1 fun p2 => onA p2 fun b1 m1 => rdK H3 b1 m1 fun v2 => isS v2 fun s1 => Kb2 (DV.v (AV.s s1)) H3)) fun Kb2 => br t1 (Kb2 DV.n H2) (onV d2 fun v1 => isP v1 fun p2 => onA p2 fun b1 m1 => Kb2 (DV.v (AV.p (AP.at b1 (Nat.add m1 nn6)))) H2)) fun Kb2 => br t1 (Kb2 DV.n H1) (onV d1 fun v1 => isP v1 fun p2 => onA p2 fun b1 m1 => Kb2 (DV.v (AV.p (AP.at b1 m1))) H1)
/-- (*ba.Session).End -/
def g143 : G Unit := fun R1 H1 Kb1 => lc R1 fun d1 R2 => onV d1 fun v1 => isP v1 fun p1 => ln R2 <| onA p1 fun b1 m1 => rdK H1 b1 (Nat.add m1 nn4) fun v2 => isI .i64 v2 fun n1 => frcB (ieq n1 ii1) fun t1 => jn (fun d2 H2 => g143_3 d2 t1 p1 H2 c1 Kb1) fun Kb2 => br t1 (Kb2 DV.n H1) (Kb2 (DV.v (AV.p p1)) H1)
theorem s143 (h229 : SN ads 229 c1) : SN ads 143 (g143 c1) :=
  mk_snd [(nn229, c1)] ⟨fun _ => [], fun _ => none⟩ [.ptr] Tryz.func143 rfl (.cons h229 .nil)
def G143 : G Unit := g143 G229
theorem S143 : SN ads 143 G143 := s143 _ S229

def g68_1 := alF H1 z4 nn8 fun b1 H2 => must (Nat.beq (llen l1) nn8) <| wrL H2 b1 nn0 l1 fun H3 => ixA s1 n1 (fun x => x) fun b2 m1 => rdK H3 b2 m1 fun v1 => isI .i64 v1 fun n2 => rdR H3 b1 nn0 nn5 fun l2 => must (Nat.beq (llen l2) nn5) <| alK H3 (lapp l2 []) fun b3 H4 => c1 [(DV.v (AV.p p1)), (DV.v (AV.i .i64 n2)), (DV.v (AV.s (AS.sl b3 nn0 nn1 nn1)))] H4 fun d1 H5 => wrp .i64 (iadd n1 ii1) fun n3 => Kb1 (DV.v (AV.i .i64 n3)) H5
def g68_2 := jn (fun d2 H2 => pickK t1 d2 (DV.v (AV.b false)) fun d3 => onV d3 fun v1 => isB v1 fun t2 => br t2 (onA p1 fun b1 m1 => wrK H2 b1 (Nat.add m1 nn3) (AV.b false) fun H3 => onA p1 fun b2 m2 => rdK H3 b2 m2 fun v2 => isP v2 fun p2 => c1 [(DV.v (AV.p p2))] H3 fun d4 H4 => onV d4 fun v3 => ifA true true v3 AV.ni fun t3 => frcB (bnot t3) fun t4 => br t4 (Kb1 DV.n H4) (Kb1 DV.n H4)) (Kb1 DV.n H2)) fun Kb2 => br t1 (onV d1 fun v1 => isI .i64 v1 fun n1 => frcB (ieq n1 ii0) fun t2 => Kb2 (DV.v (AV.b t2)) H1) (Kb2 DV.n H1)
def g68_3 := jn (fun d2 H2 => jn (fun d3 H3 => jn (fun d4 H4 => g68_2 d4 t1 p1 H4 c1 Kb1) fun Kb2 => br t1 (onV d3 fun v1 => isS v1 fun s1 => lenA s1 fun m1 => Kb2 (DV.v (AV.i .i64 (Int.ofNat m1))) H3) (Kb2 DV.n H3)) fun Kb2 => br t1 (c2 [d2] H2 fun d3 H3 => onV d3 fun v1 => isS v1 fun s1 => Kb2 (DV.v (AV.s s1)) H3) (Kb2 DV.n H2)) fun Kb2 => br t1 (onV d1 fun v1 => isP v1 fun p2 => onA p2 fun b1 m1 => rdK H1 b1 m1 fun v2 => isP v2 fun p3 => Kb2 (DV.v (AV.p p3)) H1) (Kb2 DV.n H1)
def g68_4 := rdK H1 b1 (Nat.add m1 nn3) fun v1 => isB v1 fun t1 => jn (fun d1 H2 => jn (fun d2 H3 => jn (fun d3 H4 => g68_3 d3 t1 p1 H4 c1 c2 Kb1) fun Kb2 => br t1 (onV d2 fun v2 => isP v2 fun p2 => onA p2 fun b2 m2 => Kb2 (DV.v (AV.p (AP.at b2 m2))) H3) (Kb2 DV.n H3)) fun Kb2 => br t1 (onV d1 fun v2 => isP v2 fun p2 => onA p2 fun b2 m2 => Kb2 (DV.v (AV.p (AP.at b2 m2))) H2) (Kb2 DV.n H2)) fun Kb2 => br t1 (Kb2 (DV.v (AV.p p1)) H1) (Kb2 DV.n H1)
def g68_5 := onC d1 fun d2 d3 => onV d2 fun v1 => isS v1 fun s2 => onN d3 <| lenA s1 fun m1 => lpR (failF [(22 , .int .i64)]) (fun Kb2 => fun d4 H2 => onV d4 fun v2 => isI .i64 v2 fun n1 => frcB (ilt n1 (Int.ofNat m1)) fun t1 => br t1 (ixA s1 n1 (fun x => Nat.mul x nn8) fun b1 m2 => rdR H2 b1 m2 nn8 fun l1 => g68_1 l1 n1 p1 s2 H2 c1 Kb2) (onA p2 fun b1 m2 => g68_4 m2 p2 b1 H2 c2 c3 Kb1)) (nat_lit 100000) (DV.v (AV.i .i64 ii0)) H1
def g68_6 := lc R1 fun d1 R2 => onV d1 fun v1 => isP v1 fun p1 => lc R2 fun d2 R3 => onV d2 fun v2 => isP v2 fun p2 => ln R3 <| onA p2 fun b1 m1 => rdK H1 b1 m1 fun v3 => isP v3 fun p3 => onA p1 fun b2 m2 => rdK H1 b2 (Nat.add m2 nn21) fun v4 => isI .i64 v4 fun n1 => c1 [(DV.v (AV.p p3)), (DV.v (AV.i .i64 n1))] H1 fun d3 H2 => onC d3 fun d4 d5 => onV d4 fun v5 => isS v5 fun s1 => g68_5 d5 p1 p2 s1 H2 c2 c3 c4 Kb1
/-- (*ap.AP).sweep -/
def g68 : G Unit := fun R1 H1 Kb1 => g68_6 R1 H1 c1 c2 c4 c3 Kb1
theorem s68 (h140 : SN ads 140 c1) (h141 : SN ads 141 c2) (h142 : SN ads 142 c3) (h143 : SN ads 143 c4) : SN ads 68 (g68 c1 c2 c3 c4) :=
  mk_snd [(nn140, c1), (nn141, c2), (nn142, c3), (nn143, c4)] ⟨fun n => match n with | 0 => [(22, .int .i64)] | _ => [], fun _ => none⟩ [.ptr, .ptr] Tryz.func68 rfl (.cons h140 (.cons h141 (.cons h142 (.cons h143 .nil))))
def G68 : G Unit := g68 G140 G141 G142 G143
theorem S68 : SN ads 68 G68 := s68 _ _ _ _ S140 S141 S142 S143

def z7 : List AV := [(AV.b false), (AV.i .u8 ii0), (AV.i .u8 ii0), (AV.i .u8 ii0), (AV.i .u8 ii0), (AV.i .u8 ii0), (AV.i .u8 ii0), (AV.i .i64 ii0)]
def g98_1 := rng n1 nn16 <| alF H1 z7 nn8 fun b1 H2 => must (Nat.beq (llen (ltake (nat_lit 8) (ldrop (Nat.mul (itn n1) nn8) l1))) nn8) <| wrL H2 b1 nn0 (ltake (nat_lit 8) (ldrop (Nat.mul (itn n1) nn8) l1)) fun H3 => rdK H3 b1 nn0 fun v1 => isB v1 fun t1 => br t1 (wrp .i64 (iadd n1 ii1) fun n2 => alK H3 [(AV.i .i64 n2)] fun b2 H4 => appD nn1 nn8 s1 (AS.sl b2 nn0 nn1 nn1) H4 fun s2 H5 => Kb1 (DV.v (AV.s s2)) H5) (Kb1 (DV.v (AV.s s1)) H3)
def g98_2 := lpR (failF [(3 , .slice), (10 , .int .i64)]) (fun Kc1 => fun d1 d2 H2 => onV d1 fun v1 => isS v1 fun s1 => onV d2 fun v2 => isI .i64 v2 fun n1 => frcB (ilt n1 ii16) fun t1 => br t1 (jF [(3 , .slice)] (fun d3 H3 => onV d3 fun v3 => isS v3 fun s2 => wrp .i64 (iadd n1 ii1) fun n2 => Kc1 (DV.v (AV.s s2)) (DV.v (AV.i .i64 n2)) H3) fun Kb2 => g98_1 l1 n1 s1 H2 Kb2) (Kb1 (DV.v (AV.s s1)) H2)) (nat_lit 100000) (DV.v (AV.s AS.nil)) (DV.v (AV.i .i64 ii0)) H1
/-- (*sta.Table).All -/
def g98 : G Unit := fun R1 H1 Kb1 => lc R1 fun d1 R2 => onV d1 fun v1 => isP v1 fun p1 => ln R2 <| onA p1 fun b1 m1 => rdR H1 b1 m1 nn128 fun l1 => g98_2 l1 H1 Kb1
theorem s98 : SN ads 98 (g98) :=
  mk_snd [] ⟨fun n => match n with | 0 => [(3, .slice), (10, .int .i64)] | _ => [], fun n => match n with | 7 => some [(3, .slice)] | _ => none⟩ [.ptr] Tryz.func98 rfl .nil
def G98 : G Unit := g98
theorem S98 : SN ads 98 G98 := s98

/-- edca.fair -/
def g138 : G Unit := fun R1 H1 Kb1 => lc R1 fun d1 R2 => onV d1 fun v1 => isI .i64 v1 fun n1 => ln R2 <| frcB (ile ii0 n1) fun t1 => jn (fun d2 H2 => jn (fun d3 H3 => pickK t1 d3 (DV.v (AV.b false)) fun d4 => onV d4 fun v2 => isB v2 fun t2 => Kb1 (DV.v (AV.b t2)) H3) fun Kb2 => br t1 (onV d2 fun v2 => isI .i64 v2 fun n2 => frcB (ilt n2 ii4) fun t2 => Kb2 (DV.v (AV.b t2)) H2) (Kb2 DV.n H2)) fun Kb2 => br t1 (Kb2 (DV.v (AV.i .i64 n1)) H1) (Kb2 DV.n H1)
theorem s138 : SN ads 138 (g138) :=
  mk_snd [] ⟨fun _ => [], fun _ => none⟩ [.int .i64] Tryz.func138 rfl .nil
def G138 : G Unit := g138
theorem S138 : SN ads 138 G138 := s138

def z8 : List AV := [(AV.i .i64 ii15), (AV.i .i64 ii15), (AV.i .i64 ii7), (AV.i .i64 ii3)]
/-- edca.first -/
def g231 : G Unit := fun R1 H1 Kb1 => lc R1 fun d1 R2 => onV d1 fun v1 => isI .i64 v1 fun n1 => ln R2 <| alK H1 z8 fun b1 H2 => ixA (AS.sl b1 nn0 nn4 nn4) n1 (fun x => x) fun b2 m1 => rdK H2 b2 m1 fun v2 => isI .i64 v2 fun n2 => Kb1 (DV.v (AV.i .i64 n2)) H2
theorem s231 : SN ads 231 (g231) :=
  mk_snd [] ⟨fun _ => [], fun _ => none⟩ [.int .i64] Tryz.func231 rfl .nil
def G231 : G Unit := g231
theorem S231 : SN ads 231 G231 := s231

def g159_1 := frcB (bnot t1) fun t2 => br t2 (Kb1 (DV.v (AV.i .i64 ii0)) H1) (onA p1 fun b1 m1 => rng n1 nn4 <| rdK H1 b1 (Nat.add (Nat.add m1 (Nat.mul (itn n1) nn3)) nn2) fun v1 => isI .i64 v1 fun n2 => c1 [(DV.v (AV.i .i64 n1))] H1 fun d1 H2 => onV d1 fun v2 => isI .i64 v2 fun n3 => rdK H2 b1 (Nat.add (Nat.add m1 (Nat.mul (itn n1) nn3)) nn2) fun v3 => must (aveq (AV.i .i64 n2) v3) <| wrp .i64 (iadd n3 n2) fun n4 => Kb1 (DV.v (AV.i .i64 n4)) H2)
/-- (*edca.Edca).Window -/
def g159 : G Unit := fun R1 H1 Kb1 => lc R1 fun d1 R2 => onV d1 fun v1 => isP v1 fun p1 => lc R2 fun d2 R3 => onV d2 fun v2 => isI .i64 v2 fun n1 => ln R3 <| c1 [(DV.v (AV.i .i64 n1))] H1 fun d3 H2 => onV d3 fun v3 => isB v3 fun t1 => g159_1 n1 t1 p1 H2 c2 Kb1
theorem s159 (h138 : SN ads 138 c1) (h231 : SN ads 231 c2) : SN ads 159 (g159 c1 c2) :=
  mk_snd [(nn138, c1), (nn231, c2)] ⟨fun _ => [], fun _ => none⟩ [.ptr, .int .i64] Tryz.func159 rfl (.cons h138 (.cons h231 .nil))
def G159 : G Unit := g159 G138 G231
theorem S159 : SN ads 159 G159 := s159 _ _ S138 S231

def z9 : List AV := [(AV.i .i64 ii1023), (AV.i .i64 ii63), (AV.i .i64 ii15), (AV.i .i64 ii7)]
/-- edca.most -/
def g230 : G Unit := fun R1 H1 Kb1 => lc R1 fun d1 R2 => onV d1 fun v1 => isI .i64 v1 fun n1 => ln R2 <| alK H1 z9 fun b1 H2 => ixA (AS.sl b1 nn0 nn4 nn4) n1 (fun x => x) fun b2 m1 => rdK H2 b2 m1 fun v2 => isI .i64 v2 fun n2 => Kb1 (DV.v (AV.i .i64 n2)) H2
theorem s230 : SN ads 230 (g230) :=
  mk_snd [] ⟨fun _ => [], fun _ => none⟩ [.int .i64] Tryz.func230 rfl .nil
def G230 : G Unit := g230
theorem S230 : SN ads 230 G230 := s230

def g139_1 := onV d1 fun v1 => isI .i64 v1 fun n2 => wrp .i64 (imul ii2 n2) fun n3 => wrp .i64 (iadd n3 ii1) fun n4 => c1 [(DV.v (AV.i .i64 n1))] H1 fun d2 H2 => onV d2 fun v2 => isI .i64 v2 fun n5 => asI (imin n4 n5) fun n6 => c2 [(DV.v (AV.i .i64 n1))] H2 fun d3 H3 => onV d3 fun v3 => isI .i64 v3 fun n7 => wrp .i64 (isub n6 n7) fun n8 => rng n1 nn4 <| wrK H3 b1 (Nat.add (Nat.add m1 (Nat.mul (itn n1) nn3)) nn2) (AV.i .i64 n8) fun H4 => Kb1 DV.n H4
/-- (*edca.Edca).grow -/
def g139 : G Unit := fun R1 H1 Kb1 => lc R1 fun d1 R2 => onV d1 fun v1 => isP v1 fun p1 => lc R2 fun d2 R3 => onV d2 fun v2 => isI .i64 v2 fun n1 => ln R3 <| onA p1 fun b1 m1 => c1 [(DV.v (AV.p p1)), (DV.v (AV.i .i64 n1))] H1 fun d3 H2 => g139_1 d3 n1 m1 b1 H2 c2 c3 Kb1
theorem s139 (h159 : SN ads 159 c1) (h230 : SN ads 230 c2) (h231 : SN ads 231 c3) : SN ads 139 (g139 c1 c2 c3) :=
  mk_snd [(nn159, c1), (nn230, c2), (nn231, c3)] ⟨fun _ => [], fun _ => none⟩ [.ptr, .int .i64] Tryz.func139 rfl (.cons h159 (.cons h230 (.cons h231 .nil)))
def G139 : G Unit := g139 G159 G230 G231
theorem S139 : SN ads 139 G139 := s139 _ _ _ S159 S230 S231

def z10 : List AV := [(AV.i .i64 ii7), (AV.i .i64 ii3), (AV.i .i64 ii2), (AV.i .i64 ii2)]
/-- edca.wait -/
def g160 : G Unit := fun R1 H1 Kb1 => lc R1 fun d1 R2 => onV d1 fun v1 => isI .i64 v1 fun n1 => ln R2 <| alK H1 z10 fun b1 H2 => ixA (AS.sl b1 nn0 nn4 nn4) n1 (fun x => x) fun b2 m1 => rdK H2 b2 m1 fun v2 => isI .i64 v2 fun n2 => Kb1 (DV.v (AV.i .i64 n2)) H2
theorem s160 : SN ads 160 (g160) :=
  mk_snd [] ⟨fun _ => [], fun _ => none⟩ [.int .i64] Tryz.func160 rfl .nil
def G160 : G Unit := g160
theorem S160 : SN ads 160 G160 := s160

def g99_1 := jn (fun d2 H2 => jn (fun d3 H3 => pickK t1 (DV.v (AV.b true)) d3 fun d4 => onV d4 fun v1 => isB v1 fun t2 => br t2 (Kc1 (DV.v (AV.i .i64 n1)) (DV.v (AV.i .i64 n2)) H3) (Kc1 (DV.v (AV.i .i64 n3)) (DV.v (AV.i .i64 n4)) H3)) fun Kb1 => br t1 (Kb1 DV.n H2) (onV d1 fun v1 => onV d2 fun v2 => isI .i64 v1 fun n5 => isI .i64 v2 fun n6 => frcB (ile n5 n6) fun t2 => Kb1 (DV.v (AV.b t2)) H2)) fun Kb1 => br t1 (Kb1 DV.n H1) (Kb1 (DV.v (AV.i .i64 n4)) H1)
def g99_2 := rdK H1 b1 (Nat.add (Nat.add m1 (Nat.mul (itn n1) nn3)) nn1) fun v1 => isI .i64 v1 fun n4 => c1 [(DV.v (AV.i .i64 n1))] H1 fun d1 H2 => onV d1 fun v2 => isI .i64 v2 fun n5 => rdK H2 b1 (Nat.add (Nat.add m1 (Nat.mul (itn n1) nn3)) nn1) fun v3 => must (aveq (AV.i .i64 n4) v3) <| wrp .i64 (iadd n5 n4) fun n6 => frcB (ilt n2 ii0) fun t1 => jn (fun d2 H3 => g99_1 d2 n1 n6 n2 n3 t1 H3 Kc1) fun Kb1 => br t1 (Kb1 DV.n H2) (Kb1 (DV.v (AV.i .i64 n6)) H2)
def g99_3 := rdK H1 b1 (Nat.add nn0 (itn n1)) fun v1 => must (aveq (AV.i .u32 n2) v1) <| wrp .i64 (iadd n3 ii1) fun n4 => wrp .u32 n4 fun n5 => must (bnot (ieq n5 ii0)) <| asI (irem n2 n5) fun n6 => wrp .i64 n6 fun n7 => wrK H1 b2 (Nat.add m1 (Nat.mul (itn n1) nn3)) (AV.b true) fun H2 => rdK H2 b1 (Nat.add nn0 (itn n1)) fun v2 => must (aveq (AV.i .u32 n2) v2) <| wrK H2 b2 (Nat.add (Nat.add m1 (Nat.mul (itn n1) nn3)) nn1) (AV.i .i64 n7) fun H3 => Ka1 H3
def g99_4 := jF [] (fun H2 => onA p1 fun b2 m1 => rng n1 nn4 <| g99_2 n1 n2 n3 m1 b2 H2 c1 Kc1) fun Ka1 => onA p1 fun b2 m1 => rng n1 nn4 <| rdK H1 b2 (Nat.add m1 (Nat.mul (itn n1) nn3)) fun v1 => isB v1 fun t1 => frcB (bnot t1) fun t2 => br t2 (rng n1 nn4 <| rdK H1 b1 (Nat.add nn0 (itn n1)) fun v2 => isI .u32 v2 fun n4 => c2 [(DV.v (AV.p p1)), (DV.v (AV.i .i64 n1))] H1 fun d1 H2 => onV d1 fun v3 => isI .i64 v3 fun n5 => g99_3 n1 n4 n5 m1 b1 b2 H2 Ka1) (Ka1 H1)
def g99_5 := jF [(9 , .int .i64), (10 , .int .i64)] (fun d1 d2 H2 => onV d1 fun v1 => isI .i64 v1 fun n4 => onV d2 fun v2 => isI .i64 v2 fun n5 => wrp .i64 (iadd n1 ii1) fun n6 => Kd1 (DV.v (AV.i .i64 n4)) (DV.v (AV.i .i64 n5)) (DV.v (AV.i .i64 n6)) H2) fun Kc1 => rng n1 nn4 <| rdK H1 b1 (Nat.add nn0 (itn n1)) fun v1 => isB v1 fun t1 => frcB (bnot t1) fun t2 => br t2 (Kc1 (DV.v (AV.i .i64 n2)) (DV.v (AV.i .i64 n3)) H1) (g99_4 n1 n2 n3 p1 b2 H1 c1 c2 Kc1)
def g99_6 := rdK H1 b1 (Nat.add (Nat.add m1 (Nat.mul (itn n1) nn3)) nn1) fun v1 => isI .i64 v1 fun n3 => c1 [(DV.v (AV.i .i64 n1))] H1 fun d1 H2 => onV d1 fun v2 => isI .i64 v2 fun n4 => rdK H2 b1 (Nat.add (Nat.add m1 (Nat.mul (itn n1) nn3)) nn1) fun v3 => must (aveq (AV.i .i64 n3) v3) <| wrp .i64 (isub n2 n4) fun n5 => asI (imax n5 ii0) fun n6 => wrp .i64 (isub n3 n6) fun n7 => asI (imax n7 ii0) fun n8 => wrK H2 b1 (Nat.add (Nat.add m1 (Nat.mul (itn n1) nn3)) nn1) (AV.i .i64 n8) fun H3 => Ka1 H3
def g99_7 := must (aveq (AV.i .i64 n1) v1) <| wrp .i64 (iadd n2 n1) fun n6 => frcB (ilt n3 n6) fun t1 => br t1 (g99_6 n4 n3 m1 b1 H1 c1 Ka1) (jF [] (fun H2 => wrK H2 b1 (Nat.add m1 (Nat.mul (itn n4) nn3)) (AV.b false) fun H3 => wrK H3 b1 (Nat.add (Nat.add m1 (Nat.mul (itn n4) nn3)) nn1) (AV.i .i64 ii0) fun H4 => Ka1 H4) fun Ka2 => frcB (bnot (ieq n4 n5)) fun t2 => br t2 (c2 [(DV.v (AV.p p1)), (DV.v (AV.i .i64 n4))] H1 fun d1 H2 => Ka2 H2) (Ka2 H1))
def g99_8 := rng n1 nn4 <| rng n1 nn4 <| rdK H1 b1 (Nat.add nn0 (itn n1)) fun v1 => isB v1 fun t1 => frcB (bnot t1) fun t2 => br t2 (Ka1 H1) (rdK H1 b2 (Nat.add (Nat.add m1 (Nat.mul (itn n1) nn3)) nn1) fun v2 => isI .i64 v2 fun n4 => c1 [(DV.v (AV.i .i64 n1))] H1 fun d1 H2 => onV d1 fun v3 => isI .i64 v3 fun n5 => rdK H2 b2 (Nat.add (Nat.add m1 (Nat.mul (itn n1) nn3)) nn1) fun v4 => g99_7 v4 n4 n5 n2 n1 n3 m1 p1 b2 H2 c1 c2 Ka1)
def g99_9 := br t1 (Kb1 (DV.c (DV.v (AV.i .i64 ii0)) (DV.c (DV.v (AV.i .i64 ii0)) (DV.c (DV.v (AV.b false)) DV.n))) H1) (lpR (failF [(71 , .int .i64)]) (fun Kb2 => fun d1 H2 => onV d1 fun v1 => isI .i64 v1 fun n3 => frcB (ilt n3 ii4) fun t2 => br t2 (jF [] (fun H3 => wrp .i64 (iadd n3 ii1) fun n4 => Kb2 (DV.v (AV.i .i64 n4)) H3) fun Ka1 => onA p1 fun b2 m1 => g99_8 n3 n1 n2 m1 p1 b1 b2 H2 c1 c2 Ka1) (Kb1 (DV.c (DV.v (AV.i .i64 n2)) (DV.c (DV.v (AV.i .i64 n1)) (DV.c (DV.v (AV.b true)) DV.n))) H2)) (nat_lit 100000) (DV.v (AV.i .i64 ii0)) H1)
def g99_10 := lpR (failF [(9 , .int .i64), (10 , .int .i64), (16 , .int .i64)]) (fun Kd1 => fun d1 d2 d3 H2 => onV d1 fun v1 => isI .i64 v1 fun n1 => onV d2 fun v2 => isI .i64 v2 fun n2 => onV d3 fun v3 => isI .i64 v3 fun n3 => frcB (ilt n3 ii4) fun t1 => br t1 (g99_5 n3 n1 n2 p1 b1 b2 H2 c1 c2 Kd1) (frcB (ilt n1 ii0) fun t2 => g99_9 n2 n1 t2 p1 b1 H2 c1 c3 Kb1)) (nat_lit 100000) (DV.v (AV.i .i64 im1)) (DV.v (AV.i .i64 ii0)) (DV.v (AV.i .i64 ii0)) H1
/-- (*edca.Edca).Contend -/
def g99 : G Unit := fun R1 H1 Kb1 => lc R1 fun d1 R2 => onV d1 fun v1 => isP v1 fun p1 => lc R2 fun d2 R3 => lc R3 fun d3 R4 => ln R4 <| cellsD d2 fun l1 => alK H1 l1 fun b1 H2 => cellsD d3 fun l2 => alK H2 l2 fun b2 H3 => g99_10 p1 b1 b2 H3 c3 c2 c1 Kb1
theorem s99 (h139 : SN ads 139 c1) (h159 : SN ads 159 c2) (h160 : SN ads 160 c3) : SN ads 99 (g99 c1 c2 c3) :=
  mk_snd [(nn139, c1), (nn159, c2), (nn160, c3)] ⟨fun n => match n with | 0 => [(9, .int .i64), (10, .int .i64), (16, .int .i64)] | 2 => [(71, .int .i64)] | _ => [], fun n => match n with | 9 => some [] | 12 => some [(9, .int .i64), (10, .int .i64)] | 21 => some [] | 25 => some [] | _ => none⟩ [.ptr, .any, .any] Tryz.func99 rfl (.cons h139 (.cons h159 (.cons h160 .nil)))
def G99 : G Unit := g99 G139 G159 G160
theorem S99 : SN ads 99 G99 := s99 _ _ _ S139 S159 S160

/-- aql.there -/
def g129 : G Unit := fun R1 H1 Kb1 => lc R1 fun d1 R2 => onV d1 fun v1 => isI .i64 v1 fun n1 => ln R2 <| frcB (ile ii1 n1) fun t1 => jn (fun d2 H2 => jn (fun d3 H3 => pickK t1 d3 (DV.v (AV.b false)) fun d4 => onV d4 fun v2 => isB v2 fun t2 => Kb1 (DV.v (AV.b t2)) H3) fun Kb2 => br t1 (onV d2 fun v2 => isI .i64 v2 fun n2 => frcB (ile n2 ii16) fun t2 => Kb2 (DV.v (AV.b t2)) H2) (Kb2 DV.n H2)) fun Kb2 => br t1 (Kb2 (DV.v (AV.i .i64 n1)) H1) (Kb2 DV.n H1)
theorem s129 : SN ads 129 (g129) :=
  mk_snd [] ⟨fun _ => [], fun _ => none⟩ [.int .i64] Tryz.func129 rfl .nil
def G129 : G Unit := g129
theorem S129 : SN ads 129 G129 := s129

def g131_1 := lc R1 fun d1 R2 => onV d1 fun v1 => isP v1 fun p1 => lc R2 fun d2 R3 => onV d2 fun v2 => isI .i64 v2 fun n1 => ln R3 <| c1 [(DV.v (AV.i .i64 n1))] H1 fun d3 H2 => onV d3 fun v3 => isB v3 fun t1 => frcB (bnot t1) fun t2 => br t2 (Kb1 (DV.v (AV.i .i64 ii0)) H2) (wrp .i64 (isub n1 ii1) fun n2 => onA p1 fun b1 m1 => rng n2 nn16 <| rdK H2 b1 (Nat.add (Nat.add m1 nn2) (itn n2)) fun v4 => isI .i64 v4 fun n3 => Kb1 (DV.v (AV.i .i64 n3)) H2)
/-- (*aql.Limit).Of -/
def g131 : G Unit := fun R1 H1 Kb1 => g131_1 R1 H1 c1 Kb1
theorem s131 (h129 : SN ads 129 c1) : SN ads 131 (g131 c1) :=
  mk_snd [(nn129, c1)] ⟨fun _ => [], fun _ => none⟩ [.ptr, .int .i64] Tryz.func131 rfl (.cons h129 .nil)
def G131 : G Unit := g131 G129
theorem S131 : SN ads 131 G131 := s131 _ S129

def g166_1 := lpR (failF [(3 , .int .i64), (10 , .int .i64)]) (fun Kc1 => fun d1 d2 H2 => onV d1 fun v1 => isI .i64 v1 fun n1 => onV d2 fun v2 => isI .i64 v2 fun n2 => frcB (ilt n2 ii16) fun t1 => br t1 (rng n2 nn16 <| lgetK (itn n2) l1 fun v3 => isI .i64 v3 fun n3 => wrp .i64 (iadd n1 n3) fun n4 => wrp .i64 (iadd n2 ii1) fun n5 => Kc1 (DV.v (AV.i .i64 n4)) (DV.v (AV.i .i64 n5)) H2) (Kb1 (DV.v (AV.i .i64 n1)) H2)) (nat_lit 100000) (DV.v (AV.i .i64 ii0)) (DV.v (AV.i .i64 ii0)) H1
/-- (*aql.Limit).All -/
def g166 : G Unit := fun R1 H1 Kb1 => lc R1 fun d1 R2 => onV d1 fun v1 => isP v1 fun p1 => ln R2 <| onA p1 fun b1 m1 => rdR H1 b1 (Nat.add m1 nn2) nn16 fun l1 => g166_1 l1 H1 Kb1
theorem s166 : SN ads 166 (g166) :=
  mk_snd [] ⟨fun n => match n with | 0 => [(3, .int .i64), (10, .int .i64)] | _ => [], fun _ => none⟩ [.ptr] Tryz.func166 rfl .nil
def G166 : G Unit := g166
theorem S166 : SN ads 166 G166 := s166

def g102_1 := must (aveq (AV.i .i64 n1) v1) <| frcB (ilt n2 n1) fun t1 => br t1 (onA p1 fun b2 m2 => rdK H1 b2 (Nat.add m2 nn1) fun v2 => isI .i64 v2 fun n3 => c1 [(DV.v (AV.p p1))] H1 fun d1 H2 => onV d1 fun v3 => isI .i64 v3 fun n4 => rdK H2 b2 (Nat.add m2 nn1) fun v4 => must (aveq (AV.i .i64 n3) v4) <| rdK H2 b1 m1 fun v5 => must (aveq (AV.i .i64 n1) v5) <| frcB (ilt n4 n3) fun t2 => Kb1 (DV.v (AV.b t2)) H2) (Kb1 (DV.v (AV.b false)) H1)
def g102_2 := br t1 (Kb1 (DV.v (AV.b false)) H1) (c1 [(DV.v (AV.p p1)), (DV.v (AV.i .i64 n1))] H1 fun d1 H2 => onV d1 fun v1 => isI .i64 v1 fun n2 => frcB (ieq n2 ii0) fun t2 => br t2 (Kb1 (DV.v (AV.b true)) H2) (onA p1 fun b1 m1 => rdK H2 b1 m1 fun v2 => isI .i64 v2 fun n3 => c1 [(DV.v (AV.p p1)), (DV.v (AV.i .i64 n1))] H2 fun d2 H3 => onV d2 fun v3 => isI .i64 v3 fun n4 => rdK H3 b1 m1 fun v4 => g102_1 v4 n3 n4 m1 p1 b1 H3 c2 Kb1))
/-- (*aql.Limit).May -/
def g102 : G Unit := fun R1 H1 Kb1 => lc R1 fun d1 R2 => onV d1 fun v1 => isP v1 fun p1 => lc R2 fun d2 R3 => onV d2 fun v2 => isI .i64 v2 fun n1 => ln R3 <| c1 [(DV.v (AV.i .i64 n1))] H1 fun d3 H2 => onV d3 fun v3 => isB v3 fun t1 => frcB (bnot t1) fun t2 => g102_2 n1 t2 p1 H2 c2 c3 Kb1
theorem s102 (h129 : SN ads 129 c1) (h131 : SN ads 131 c2) (h166 : SN ads 166 c3) : SN ads 102 (g102 c1 c2 c3) :=
  mk_snd [(nn129, c1), (nn131, c2), (nn166, c3)] ⟨fun _ => [], fun _ => none⟩ [.ptr, .int .i64] Tryz.func102 rfl (.cons h129 (.cons h131 (.cons h166 .nil)))
def G102 : G Unit := g102 G129 G131 G166
theorem S102 : SN ads 102 G102 := s102 _ _ _ S129 S131 S166

def z11 : List AV := [(AV.i .i64 ii1), (AV.i .i64 ii0), (AV.i .i64 ii0), (AV.i .i64 ii1), (AV.i .i64 ii2), (AV.i .i64 ii2), (AV.i .i64 ii3), (AV.i .i64 ii3)]
/-- ap.category -/
def g167 : G Unit := fun R1 H1 Kb1 => lc R1 fun d1 R2 => onV d1 fun v1 => isI .i64 v1 fun n1 => ln R2 <| alK H1 z11 fun b1 H2 => ixA (AS.sl b1 nn0 nn8 nn8) n1 (fun x => x) fun b2 m1 => rdK H2 b2 m1 fun v2 => isI .i64 v2 fun n2 => Kb1 (DV.v (AV.i .i64 n2)) H2
theorem s167 : SN ads 167 (g167) :=
  mk_snd [] ⟨fun _ => [], fun _ => none⟩ [.int .i64] Tryz.func167 rfl .nil
def G167 : G Unit := g167
theorem S167 : SN ads 167 G167 := s167

/-- (*ba.Session).State -/
def g37 : G Unit := fun R1 H1 Kb1 => lc R1 fun d1 R2 => onV d1 fun v1 => isP v1 fun p1 => ln R2 <| onA p1 fun b1 m1 => rdK H1 b1 (Nat.add m1 nn4) fun v2 => isI .i64 v2 fun n1 => Kb1 (DV.v (AV.i .i64 n1)) H1
theorem s37 : SN ads 37 (g37) :=
  mk_snd [] ⟨fun _ => [], fun _ => none⟩ [.ptr] Tryz.func37 rfl .nil
def G37 : G Unit := g37
theorem S37 : SN ads 37 G37 := s37

/-- (*win.Win).Start -/
def g256 : G Unit := fun R1 H1 Kb1 => lc R1 fun d1 R2 => onV d1 fun v1 => isP v1 fun p1 => ln R2 <| onA p1 fun b1 m1 => rdK H1 b1 m1 fun v2 => isI .i64 v2 fun n1 => Kb1 (DV.v (AV.i .i64 n1)) H1
theorem s256 : SN ads 256 (g256) :=
  mk_snd [] ⟨fun _ => [], fun _ => none⟩ [.ptr] Tryz.func256 rfl .nil
def G256 : G Unit := g256
theorem S256 : SN ads 256 G256 := s256

def g173_1 := lc R1 fun d1 R2 => onV d1 fun v1 => isP v1 fun p1 => ln R2 <| onA p1 fun b1 m1 => rdK H1 b1 (Nat.add m1 nn7) fun v2 => isB v2 fun t1 => frcB (bnot t1) fun t2 => br t2 (Kb1 (DV.c (DV.v (AV.i .i64 ii0)) (DV.c (DV.v (AV.b false)) DV.n)) H1) (onA p1 fun b2 m2 => rdK H1 b2 m2 fun v3 => isP v3 fun p2 => c1 [(DV.v (AV.p p2))] H1 fun d2 H2 => onV d2 fun v4 => isI .i64 v4 fun n1 => Kb1 (DV.c (DV.v (AV.i .i64 n1)) (DV.c (DV.v (AV.b true)) DV.n)) H2)
/-- (*ba.Session).Bar -/
def g173 : G Unit := fun R1 H1 Kb1 => g173_1 R1 H1 c1 Kb1
theorem s173 (h256 : SN ads 256 c1) : SN ads 173 (g173 c1) :=
  mk_snd [(nn256, c1)] ⟨fun _ => [], fun _ => none⟩ [.ptr] Tryz.func173 rfl (.cons h256 .nil)
def G173 : G Unit := g173 G256
theorem S173 : SN ads 173 G173 := s173 _ S256

/-- (*ba.Session).Due -/
def g175 : G Unit := fun R1 H1 Kb1 => lc R1 fun d1 R2 => onV d1 fun v1 => isP v1 fun p1 => ln R2 <| c1 [(DV.v (AV.p p1)), (DV.v (AV.fn (nat_lit 259) []))] H1 fun d2 H2 => onV d2 fun v2 => isS v2 fun s1 => Kb1 (DV.v (AV.s s1)) H2
theorem s175 (h235 : SN ads 235 c1) : SN ads 175 (g175 c1) :=
  mk_snd [(nn235, c1)] ⟨fun _ => [], fun _ => none⟩ [.ptr] Tryz.func175 rfl (.cons h235 .nil)
def G175 : G Unit := g175 G235
theorem S175 : SN ads 175 G175 := s175 _ S235

/-- (*fq.Queue).Len -/
def g90 : G Unit := fun R1 H1 Kb1 => lc R1 fun d1 R2 => onV d1 fun v1 => isP v1 fun p1 => ln R2 <| onA p1 fun b1 m1 => rdK H1 b1 (Nat.add m1 nn133) fun v2 => isI .i64 v2 fun n1 => Kb1 (DV.v (AV.i .i64 n1)) H1
theorem s90 : SN ads 90 (g90) :=
  mk_snd [] ⟨fun _ => [], fun _ => none⟩ [.ptr] Tryz.func90 rfl .nil
def G90 : G Unit := g90
theorem S90 : SN ads 90 G90 := s90

def g270_1 := jn (fun d2 H2 => pickK t1 d2 (DV.v (AV.b false)) fun d3 => onV d3 fun v1 => isB v1 fun t2 => jn (fun d4 H3 => jn (fun d5 H4 => pickK t2 d5 (DV.v (AV.b false)) fun d6 => onV d6 fun v2 => isB v2 fun t3 => Kb1 (DV.v (AV.b t3)) H4) fun Kb2 => br t2 (onV d4 fun v2 => isI .i64 v2 fun n2 => frcB (ilt n2 ii8) fun t3 => Kb2 (DV.v (AV.b t3)) H3) (Kb2 DV.n H3)) fun Kb2 => br t2 (Kb2 (DV.v (AV.i .i64 n1)) H2) (Kb2 DV.n H2)) fun Kb2 => br t1 (onV d1 fun v1 => isI .i64 v1 fun n2 => frcB (ile ii0 n2) fun t2 => Kb2 (DV.v (AV.b t2)) H1) (Kb2 DV.n H1)
def g270_2 := ln R1 <| frcB (ile ii1 n1) fun t1 => jn (fun d1 H2 => jn (fun d2 H3 => pickK t1 d2 (DV.v (AV.b false)) fun d3 => onV d3 fun v1 => isB v1 fun t2 => jn (fun d4 H4 => g270_1 d4 n2 t2 H4 Kb1) fun Kb2 => br t2 (Kb2 (DV.v (AV.i .i64 n2)) H3) (Kb2 DV.n H3)) fun Kb2 => br t1 (onV d1 fun v1 => isI .i64 v1 fun n3 => frcB (ile n3 ii16) fun t2 => Kb2 (DV.v (AV.b t2)) H2) (Kb2 DV.n H2)) fun Kb2 => br t1 (Kb2 (DV.v (AV.i .i64 n1)) H1) (Kb2 DV.n H1)
/-- pool.there -/
def g270 : G Unit := fun R1 H1 Kb1 => lc R1 fun d1 R2 => onV d1 fun v1 => isI .i64 v1 fun n1 => lc R2 fun d2 R3 => onV d2 fun v2 => isI .i64 v2 fun n2 => g270_2 R3 n1 n2 H1 Kb1
theorem s270 : SN ads 270 (g270) :=
  mk_snd [] ⟨fun _ => [], fun _ => none⟩ [.int .i64, .int .i64] Tryz.func270 rfl .nil
def G270 : G Unit := g270
theorem S270 : SN ads 270 G270 := s270

def g253_1 := jn (fun d2 H2 => jn (fun d3 H3 => jn (fun d4 H4 => pickK t1 d4 (DV.v (AV.b false)) fun d5 => onV d5 fun v1 => isB v1 fun t2 => Kb1 (DV.v (AV.b t2)) H4) fun Kb2 => br t1 (onV d3 fun v1 => isI .i64 v1 fun n1 => frcB (ilt ii0 n1) fun t2 => Kb2 (DV.v (AV.b t2)) H3) (Kb2 DV.n H3)) fun Kb2 => br t1 (c1 [d2] H2 fun d3 H3 => onV d3 fun v1 => isI .i64 v1 fun n1 => Kb2 (DV.v (AV.i .i64 n1)) H3) (Kb2 DV.n H2)) fun Kb2 => br t1 (onV d1 fun v1 => isP v1 fun p1 => onA p1 fun b1 m1 => rdK H1 b1 m1 fun v2 => isP v2 fun p2 => Kb2 (DV.v (AV.p p2)) H1) (Kb2 DV.n H1)
def g253_2 := jn (fun d4 H2 => jn (fun d5 H3 => g253_1 d5 t1 H3 c1 Kb1) fun Kb2 => br t1 (onV d1 fun v1 => isJ v1 fun n1 => onV d4 fun v2 => isP v2 fun p1 => onA p1 fun b1 m1 => rng n1 nn8 <| Kb2 (DV.v (AV.p (AP.at b1 (Nat.add m1 (itn n1))))) H2) (Kb2 DV.n H2)) fun Kb2 => br t1 (onV d2 fun v1 => isJ v1 fun n1 => onV d3 fun v2 => isP v2 fun p1 => onA p1 fun b1 m1 => rng n1 nn16 <| Kb2 (DV.v (AV.p (AP.at b1 (Nat.add m1 (Nat.mul (itn n1) nn8))))) H1) (Kb2 DV.n H1)
def g253_3 := jn (fun d3 H2 => jn (fun d4 H3 => jn (fun d5 H4 => jn (fun d6 H5 => g253_2 d4 d3 d6 t1 H5 c1 Kb1) fun Kb2 => br t1 (onV d5 fun v1 => isP v1 fun p1 => onA p1 fun b1 m1 => Kb2 (DV.v (AV.p (AP.at b1 (Nat.add m1 nn5)))) H4) (Kb2 DV.n H4)) fun Kb2 => br t1 (onV d1 fun v1 => isP v1 fun p1 => onA p1 fun b1 m1 => Kb2 (DV.v (AV.p (AP.at b1 m1))) H3) (Kb2 DV.n H3)) fun Kb2 => br t1 (Kb2 (DV.v (AV.i .i64 n1)) H2) (Kb2 DV.n H2)) fun Kb2 => br t1 (onV d2 fun v1 => isI .i64 v1 fun n2 => wrp .i64 (isub n2 ii1) fun n3 => Kb2 (DV.v (AV.i .i64 n3)) H1) (Kb2 DV.n H1)
def g253_4 := isP v1 fun p1 => lc R1 fun d1 R2 => onV d1 fun v2 => isI .i64 v2 fun n1 => lc R2 fun d2 R3 => onV d2 fun v3 => isI .i64 v3 fun n2 => ln R3 <| c1 [(DV.v (AV.i .i64 n1)), (DV.v (AV.i .i64 n2))] H1 fun d3 H2 => onV d3 fun v4 => isB v4 fun t1 => jn (fun d4 H3 => jn (fun d5 H4 => g253_3 d4 d5 n2 t1 H4 c2 Kb1) fun Kb2 => br t1 (Kb2 (DV.v (AV.i .i64 n1)) H3) (Kb2 DV.n H3)) fun Kb2 => br t1 (Kb2 (DV.v (AV.p p1)) H2) (Kb2 DV.n H2)
/-- (*pool.Pool).Has -/
def g253 : G Unit := fun R1 H1 Kb1 => lc R1 fun d1 R2 => onV d1 fun v1 => g253_4 v1 R2 H1 c2 c1 Kb1
theorem s253 (h90 : SN ads 90 c1) (h270 : SN ads 270 c2) : SN ads 253 (g253 c1 c2) :=
  mk_snd [(nn90, c1), (nn270, c2)] ⟨fun _ => [], fun _ => none⟩ [.ptr, .int .i64, .int .i64] Tryz.func253 rfl (.cons h90 (.cons h270 .nil))
def G253 : G Unit := g253 G90 G270
theorem S253 : SN ads 253 G253 := s253 _ _ S90 S270

def g300_1 := isI .i64 v1 fun n1 => onA p1 fun b2 m2 => rdK H1 b2 m2 fun v2 => isI .i64 v2 fun n2 => onA p1 fun b3 m3 => rdK H1 b3 (Nat.add m3 nn1) fun v3 => isI .i64 v3 fun n3 => c1 [(DV.v (AV.i .i64 n2)), (DV.v (AV.i .i64 n3))] H1 fun d1 H2 => onV d1 fun v4 => isI .i64 v4 fun n4 => rdK H2 b1 (Nat.add m1 nn2) fun v5 => must (aveq (AV.i .i64 n1) v5) <| wrp .i64 (isub n1 n4) fun n5 => asI (imax n5 ii0) fun n6 => Kb1 (DV.v (AV.i .i64 n6)) H2
/-- (*win.Win).Room -/
def g300 : G Unit := fun R1 H1 Kb1 => lc R1 fun d1 R2 => onV d1 fun v1 => isP v1 fun p1 => ln R2 <| onA p1 fun b1 m1 => rdK H1 b1 (Nat.add m1 nn2) fun v2 => g300_1 v2 m1 p1 b1 H1 c1 Kb1
theorem s300 (h222 : SN ads 222 c1) : SN ads 300 (g300 c1) :=
  mk_snd [(nn222, c1)] ⟨fun _ => [], fun _ => none⟩ [.ptr] Tryz.func300 rfl (.cons h222 .nil)
def G300 : G Unit := g300 G222
theorem S300 : SN ads 300 G300 := s300 _ S222

/-- (*ba.Session).Room -/
def g254 : G Unit := fun R1 H1 Kb1 => lc R1 fun d1 R2 => onV d1 fun v1 => isP v1 fun p1 => ln R2 <| onA p1 fun b1 m1 => rdK H1 b1 m1 fun v2 => isP v2 fun p2 => c1 [(DV.v (AV.p p2))] H1 fun d2 H2 => onV d2 fun v3 => isI .i64 v3 fun n1 => Kb1 (DV.v (AV.i .i64 n1)) H2
theorem s254 (h300 : SN ads 300 c1) : SN ads 254 (g254 c1) :=
  mk_snd [(nn300, c1)] ⟨fun _ => [], fun _ => none⟩ [.ptr] Tryz.func254 rfl (.cons h300 .nil)
def G254 : G Unit := g254 G300
theorem S254 : SN ads 254 G254 := s254 _ S300

def g168_1 := jn (fun d3 H2 => jn (fun d4 H3 => jn (fun d5 H4 => pickK t1 d5 (DV.v (AV.b false)) fun d6 => onV d6 fun v1 => isB v1 fun t2 => Kb1 (DV.v (AV.b t2)) H4) fun Kb2 => br t1 (onV d1 fun v1 => isB v1 fun t2 => pickK t2 (DV.v (AV.b true)) d4 fun d5 => onV d5 fun v2 => isB v2 fun t3 => Kb2 (DV.v (AV.b t3)) H3) (Kb2 DV.n H3)) fun Kb2 => grd d1 false (onV d3 fun v1 => isI .i64 v1 fun n1 => frcB (ieq n1 ii1) fun t2 => Kb2 (DV.v (AV.b t2)) H2) (Kb2 DV.n H2)) fun Kb2 => grd d1 false (c1 [d2] H1 fun d3 H2 => onV d3 fun v1 => isI .i64 v1 fun n1 => Kb2 (DV.v (AV.i .i64 n1)) H2) (Kb2 DV.n H1)
def g168_2 := jn (fun d3 H2 => jn (fun d4 H3 => jn (fun d5 H4 => g168_1 d1 d5 t1 H4 c1 Kb1) fun Kb2 => grd d1 false (onV d4 fun v1 => isP v1 fun p1 => onA p1 fun b1 m1 => rdK H3 b1 m1 fun v2 => isP v2 fun p2 => Kb2 (DV.v (AV.p p2)) H3) (Kb2 DV.n H3)) fun Kb2 => grd d1 false (onV d3 fun v1 => isP v1 fun p1 => onA p1 fun b1 m1 => Kb2 (DV.v (AV.p (AP.at b1 m1))) H2) (Kb2 DV.n H2)) fun Kb2 => grd d1 false (onV d2 fun v1 => isP v1 fun p1 => onA p1 fun b1 m1 => Kb2 (DV.v (AV.p (AP.at b1 m1))) H1) (Kb2 DV.n H1)
def g168_3 := jn (fun d2 H2 => jn (fun d3 H3 => jn (fun d4 H4 => jn (fun d5 H5 => g168_2 d4 d5 t1 H5 c1 Kb1) fun Kb2 => grd d4 false (Kb2 (DV.v (AV.p (AP.at b1 (Nat.add (Nat.add m1 nn6) (Nat.mul (itn n1) nn5))))) H4) (Kb2 DV.n H4)) fun Kb2 => br t1 (Kb2 d3 H3) (Kb2 DV.n H3)) fun Kb2 => br t1 (onV d2 fun v1 => isI .i64 v1 fun n2 => frcB (ilt ii0 n2) fun t2 => Kb2 (DV.v (AV.b t2)) H2) (Kb2 DV.n H2)) fun Kb2 => br t1 (c2 [d1] H1 fun d2 H2 => onV d2 fun v1 => isI .i64 v1 fun n2 => Kb2 (DV.v (AV.i .i64 n2)) H2) (Kb2 DV.n H1)
def g168_4 := jn (fun d2 H2 => jn (fun d3 H3 => jn (fun d4 H4 => g168_3 d4 n1 m1 t1 b1 H4 c1 c2 Kb1) fun Kb2 => br t1 (onV d3 fun v1 => isP v1 fun p1 => onA p1 fun b2 m2 => rdK H3 b2 m2 fun v2 => isP v2 fun p2 => Kb2 (DV.v (AV.p p2)) H3) (Kb2 DV.n H3)) fun Kb2 => br t1 (onV d2 fun v1 => isP v1 fun p1 => onA p1 fun b2 m2 => Kb2 (DV.v (AV.p (AP.at b2 m2))) H2) (Kb2 DV.n H2)) fun Kb2 => br t1 (onV d1 fun v1 => isP v1 fun p1 => onA p1 fun b2 m2 => Kb2 (DV.v (AV.p (AP.at b2 m2))) H1) (Kb2 DV.n H1)
def g168_5 := onV d1 fun v1 => isB v1 fun t1 => br t1 (Kb1 (DV.v (AV.b true)) H1) (onA p1 fun b2 m2 => rdK H1 b2 (Nat.add m2 nn311) fun v2 => isP v2 fun p2 => c1 [(DV.v (AV.p p2)), (DV.v (AV.i .i64 n1)), (DV.v (AV.i .i64 n2))] H1 fun d2 H2 => onV d2 fun v3 => isB v3 fun t2 => jn (fun d3 H3 => g168_4 d3 n2 m1 t2 b1 H3 c2 c3 Kb1) fun Kb2 => br t2 (Kb2 (DV.v (AV.p (AP.at b1 (Nat.add (Nat.add m1 nn6) (Nat.mul (itn n2) nn5))))) H2) (Kb2 DV.n H2))
def g168_6 := jn (fun d2 H2 => jn (fun d3 H3 => jn (fun d4 H4 => pickK t1 (DV.v (AV.b true)) d4 fun d5 => g168_5 d5 n1 n2 m1 p1 b1 H4 c1 c2 c3 Kb1) fun Kb2 => br t1 (Kb2 DV.n H3) (onV d3 fun v1 => isI .i64 v1 fun n3 => frcB (ilt ii0 n3) fun t2 => Kb2 (DV.v (AV.b t2)) H3)) fun Kb2 => br t1 (Kb2 DV.n H2) (onV d2 fun v1 => isS v1 fun s1 => lenA s1 fun m2 => Kb2 (DV.v (AV.i .i64 (Int.ofNat m2))) H2)) fun Kb2 => br t1 (Kb2 DV.n H1) (c4 [d1] H1 fun d2 H2 => onV d2 fun v1 => isS v1 fun s1 => Kb2 (DV.v (AV.s s1)) H2)
def g168_7 := jn (fun d2 H2 => jn (fun d3 H3 => jn (fun d4 H4 => g168_6 d4 n1 n2 m1 t1 p1 b1 H4 c1 c2 c3 c4 Kb1) fun Kb2 => br t1 (Kb2 DV.n H3) (onV d3 fun v1 => isP v1 fun p2 => onA p2 fun b2 m2 => rdK H3 b2 m2 fun v2 => isP v2 fun p3 => Kb2 (DV.v (AV.p p3)) H3)) fun Kb2 => br t1 (Kb2 DV.n H2) (onV d2 fun v1 => isP v1 fun p2 => onA p2 fun b2 m2 => Kb2 (DV.v (AV.p (AP.at b2 m2))) H2)) fun Kb2 => br t1 (Kb2 DV.n H1) (onV d1 fun v1 => isP v1 fun p2 => onA p2 fun b2 m2 => Kb2 (DV.v (AV.p (AP.at b2 m2))) H1)
def g168_8 := rdK H1 b1 (Nat.add (Nat.add m1 nn6) (Nat.mul (itn n1) nn5)) fun v1 => isP v1 fun p2 => c1 [(DV.v (AV.p p2))] H1 fun d1 H2 => onC d1 fun d2 d3 => onV d2 fun v2 => isI .i64 v2 fun n3 => onC d3 fun d4 d5 => onV d4 fun v3 => isB v3 fun t1 => onN d5 <| jn (fun d6 H3 => g168_7 d6 n2 n1 m1 t1 p1 b1 H3 c2 c3 c4 c5 Kb1) fun Kb2 => br t1 (Kb2 DV.n H2) (Kb2 (DV.v (AV.p (AP.at b1 (Nat.add (Nat.add m1 nn6) (Nat.mul (itn n1) nn5))))) H2)
def g168_9 := onV d1 fun v1 => isI .i64 v1 fun n1 => lc R1 fun d2 R2 => onV d2 fun v2 => isI .i64 v2 fun n2 => ln R2 <| c1 [(DV.v (AV.p p1)), (DV.v (AV.i .i64 n1))] H1 fun d3 H2 => onV d3 fun v3 => isP v3 fun p2 => onA p2 fun b1 m1 => rng n2 nn8 <| rdK H2 b1 (Nat.add (Nat.add (Nat.add m1 nn6) (Nat.mul (itn n2) nn5)) nn4) fun v4 => isB v4 fun t1 => br t1 (Kb1 (DV.v (AV.b false)) H2) (g168_8 n2 n1 m1 p1 b1 H2 c2 c3 c4 c5 c6 Kb1)
/-- (*ap.AP).ready -/
def g168 : G Unit := fun R1 H1 Kb1 => lc R1 fun d1 R2 => onV d1 fun v1 => isP v1 fun p1 => lc R2 fun d2 R3 => g168_9 d2 R3 p1 H1 c2 c3 c5 c1 c6 c4 Kb1
theorem s168 (h37 : SN ads 37 c1) (h59 : SN ads 59 c2) (h173 : SN ads 173 c3) (h175 : SN ads 175 c4) (h253 : SN ads 253 c5) (h254 : SN ads 254 c6) : SN ads 168 (g168 c1 c2 c3 c4 c5 c6) :=
  mk_snd [(nn37, c1), (nn59, c2), (nn173, c3), (nn175, c4), (nn253, c5), (nn254, c6)] ⟨fun _ => [], fun _ => none⟩ [.ptr, .int .i64, .int .i64] Tryz.func168 rfl (.cons h37 (.cons h59 (.cons h173 (.cons h175 (.cons h253 (.cons h254 .nil))))))
def G168 : G Unit := g168 G37 G59 G173 G175 G253 G254
theorem S168 : SN ads 168 G168 := s168 _ _ _ _ _ _ S37 S59 S173 S175 S253 S254

def g103_1 := jn (fun d3 H2 => jn (fun d4 H3 => pickK t1 d4 (DV.v (AV.b false)) fun d5 => onV d5 fun v1 => isB v1 fun t2 => br t2 (alK H3 [(AV.i .i64 n1)] fun b1 H4 => appD nn1 nn8 s1 (AS.sl b1 nn0 nn1 nn1) H4 fun s2 H5 => Kb1 (DV.v (AV.s s2)) H5) (Kb1 (DV.v (AV.s s1)) H3)) fun Kb2 => br t1 (c1 [d1, d2, d3] H2 fun d4 H3 => onV d4 fun v1 => isB v1 fun t2 => Kb2 (DV.v (AV.b t2)) H3) (Kb2 DV.n H2)) fun Kb2 => br t1 (Kb2 (DV.v (AV.i .i64 n1)) H1) (Kb2 DV.n H1)
def g103_2 := jF [(7 , .slice)] (fun d1 H2 => onV d1 fun v1 => isS v1 fun s2 => wrp .i64 (iadd n1 ii1) fun n4 => Kc1 (DV.v (AV.s s2)) (DV.v (AV.i .i64 n4)) H2) fun Kb1 => c1 [(DV.v (AV.i .i64 n1))] H1 fun d1 H2 => onV d1 fun v1 => isI .i64 v1 fun n4 => frcB (ieq n4 n2) fun t1 => jn (fun d2 H3 => jn (fun d3 H4 => g103_1 d2 d3 n1 t1 s1 H4 c2 Kb1) fun Kb2 => br t1 (Kb2 (DV.v (AV.i .i64 n3)) H3) (Kb2 DV.n H3)) fun Kb2 => br t1 (Kb2 (DV.v (AV.p p1)) H2) (Kb2 DV.n H2)
def g103_3 := lc R1 fun d1 R2 => onV d1 fun v1 => isI .i64 v1 fun n1 => lc R2 fun d2 R3 => onV d2 fun v2 => isI .i64 v2 fun n2 => ln R3 <| lpR (failF [(7 , .slice), (9 , .int .i64)]) (fun Kc1 => fun d3 d4 H2 => onV d3 fun v3 => isS v3 fun s1 => onV d4 fun v4 => isI .i64 v4 fun n3 => frcB (ilt n3 ii8) fun t1 => br t1 (g103_2 n3 n2 n1 p1 s1 H2 c1 c2 Kc1) (Kb1 (DV.v (AV.s s1)) H2)) (nat_lit 100000) (DV.v (AV.s AS.nil)) (DV.v (AV.i .i64 ii0)) H1
/-- (*ap.AP).readies -/
def g103 : G Unit := fun R1 H1 Kb1 => lc R1 fun d1 R2 => onV d1 fun v1 => isP v1 fun p1 => g103_3 R2 p1 H1 c1 c2 Kb1
theorem s103 (h167 : SN ads 167 c1) (h168 : SN ads 168 c2) : SN ads 103 (g103 c1 c2) :=
  mk_snd [(nn167, c1), (nn168, c2)] ⟨fun n => match n with | 0 => [(7, .slice), (9, .int .i64)] | _ => [], fun n => match n with | 7 => some [(7, .slice)] | _ => none⟩ [.ptr, .int .i64, .int .i64] Tryz.func103 rfl (.cons h167 (.cons h168 .nil))
def G103 : G Unit := g103 G167 G168
theorem S103 : SN ads 103 G103 := s103 _ _ S167 S168

def g190_1 := jn (fun d2 H2 => jn (fun d3 H3 => pickK t1 (DV.v (AV.b true)) d3 fun d4 => onV d4 fun v1 => isB v1 fun t2 => br t2 (Kb1 (DV.v (AV.p AP.nil)) H3) (wrp .i64 (isub n1 ii1) fun n2 => onA p1 fun b1 m1 => rng n2 nn16 <| Kb1 (DV.v (AV.p (AP.at b1 (Nat.add m1 (Nat.mul (itn n2) nn10))))) H3)) fun Kb2 => br t1 (Kb2 DV.n H2) (onV d2 fun v1 => isB v1 fun t2 => frcB (bnot t2) fun t3 => Kb2 (DV.v (AV.b t3)) H2)) fun Kb2 => br t1 (Kb2 DV.n H1) (onV d1 fun v1 => isP v1 fun p2 => onA p2 fun b1 m1 => rdK H1 b1 m1 fun v2 => isB v2 fun t2 => Kb2 (DV.v (AV.b t2)) H1)
def g190_2 := jn (fun d3 H2 => jn (fun d4 H3 => jn (fun d5 H4 => g190_1 d5 n1 t1 p1 H4 Kb1) fun Kb2 => br t1 (Kb2 DV.n H3) (onV d4 fun v1 => isP v1 fun p2 => onA p2 fun b1 m1 => Kb2 (DV.v (AV.p (AP.at b1 m1))) H3)) fun Kb2 => br t1 (Kb2 DV.n H2) (onV d1 fun v1 => isJ v1 fun n2 => onV d3 fun v2 => isP v2 fun p2 => onA p2 fun b1 m1 => rng n2 nn16 <| Kb2 (DV.v (AV.p (AP.at b1 (Nat.add m1 (Nat.mul (itn n2) nn10))))) H2)) fun Kb2 => br t1 (Kb2 DV.n H1) (onV d2 fun v1 => isP v1 fun p2 => onA p2 fun b1 m1 => Kb2 (DV.v (AV.p (AP.at b1 m1))) H1)
def g190_3 := jn (fun d1 H2 => jn (fun d2 H3 => jn (fun d3 H4 => jn (fun d4 H5 => g190_2 d3 d4 n1 t1 p1 H5 Kb1) fun Kb2 => br t1 (Kb2 DV.n H4) (onV d1 fun v1 => isP v1 fun p2 => onA p2 fun b1 m1 => Kb2 (DV.v (AV.p (AP.at b1 m1))) H4)) fun Kb2 => br t1 (Kb2 DV.n H3) (onV d2 fun v1 => isI .i64 v1 fun n2 => wrp .i64 (isub n2 ii1) fun n3 => Kb2 (DV.v (AV.i .i64 n3)) H3)) fun Kb2 => br t1 (Kb2 DV.n H2) (Kb2 (DV.v (AV.i .i64 n1)) H2)) fun Kb2 => br t1 (Kb2 DV.n H1) (Kb2 (DV.v (AV.p p1)) H1)
def g190_4 := isP v1 fun p1 => lc R1 fun d1 R2 => onV d1 fun v2 => isI .i64 v2 fun n1 => ln R2 <| frcB (ilt n1 ii1) fun t1 => jn (fun d2 H2 => jn (fun d3 H3 => pickK t1 (DV.v (AV.b true)) d3 fun d4 => onV d4 fun v3 => isB v3 fun t2 => g190_3 n1 t2 p1 H3 Kb1) fun Kb2 => br t1 (Kb2 DV.n H2) (onV d2 fun v3 => isI .i64 v3 fun n2 => frcB (ilt ii16 n2) fun t2 => Kb2 (DV.v (AV.b t2)) H2)) fun Kb2 => br t1 (Kb2 DV.n H1) (Kb2 (DV.v (AV.i .i64 n1)) H1)
/-- (*ps.Power).of -/
def g190 : G Unit := fun R1 H1 Kb1 => lc R1 fun d1 R2 => onV d1 fun v1 => g190_4 v1 R2 H1 Kb1
theorem s190 : SN ads 190 (g190) :=
  mk_snd [] ⟨fun _ => [], fun _ => none⟩ [.ptr, .int .i64] Tryz.func190 rfl .nil
def G190 : G Unit := g190
theorem S190 : SN ads 190 G190 := s190

/-- ps.fair -/
def g217 : G Unit := fun R1 H1 Kb1 => lc R1 fun d1 R2 => onV d1 fun v1 => isI .i64 v1 fun n1 => ln R2 <| frcB (ile ii0 n1) fun t1 => jn (fun d2 H2 => jn (fun d3 H3 => pickK t1 d3 (DV.v (AV.b false)) fun d4 => onV d4 fun v2 => isB v2 fun t2 => Kb1 (DV.v (AV.b t2)) H3) fun Kb2 => br t1 (onV d2 fun v2 => isI .i64 v2 fun n2 => frcB (ilt n2 ii4) fun t2 => Kb2 (DV.v (AV.b t2)) H2) (Kb2 DV.n H2)) fun Kb2 => br t1 (Kb2 (DV.v (AV.i .i64 n1)) H1) (Kb2 DV.n H1)
theorem s217 : SN ads 217 (g217) :=
  mk_snd [] ⟨fun _ => [], fun _ => none⟩ [.int .i64] Tryz.func217 rfl .nil
def G217 : G Unit := g217
theorem S217 : SN ads 217 G217 := s217

def g161_1 := jn (fun d4 H2 => jn (fun d5 H3 => pickK t1 d5 (DV.v (AV.b false)) fun d6 => onV d6 fun v1 => isB v1 fun t2 => Kb1 (DV.v (AV.b t2)) H3) fun Kb2 => br t1 (onV d1 fun v1 => isB v1 fun t2 => pickK t2 (DV.v (AV.b true)) d4 fun d5 => onV d5 fun v2 => isB v2 fun t3 => Kb2 (DV.v (AV.b t3)) H2) (Kb2 DV.n H2)) fun Kb2 => grd d1 false (onV d2 fun v1 => isB v1 fun t2 => pickK t2 d3 (DV.v (AV.b false)) fun d4 => onV d4 fun v2 => isB v2 fun t3 => Kb2 (DV.v (AV.b t3)) H1) (Kb2 DV.n H1)
def g161_2 := jn (fun d5 H2 => jn (fun d6 H3 => jn (fun d7 H4 => g161_1 d1 d2 d7 t1 H4 Kb1) fun Kb2 => grd d2 true (onV d6 fun v1 => isP v1 fun p1 => onA p1 fun b1 m1 => rdK H3 b1 m1 fun v2 => isB v2 fun t2 => Kb2 (DV.v (AV.b t2)) H3) (Kb2 DV.n H3)) fun Kb2 => grd d2 true (onV d3 fun v1 => isJ v1 fun n1 => onV d5 fun v2 => isP v2 fun p1 => onA p1 fun b1 m1 => rng n1 nn4 <| Kb2 (DV.v (AV.p (AP.at b1 (Nat.add m1 (itn n1))))) H2) (Kb2 DV.n H2)) fun Kb2 => grd d2 true (onV d4 fun v1 => isP v1 fun p1 => onA p1 fun b1 m1 => Kb2 (DV.v (AV.p (AP.at b1 (Nat.add m1 nn4)))) H1) (Kb2 DV.n H1)
def g161_3 := jn (fun d3 H2 => jn (fun d4 H3 => jn (fun d5 H4 => jn (fun d6 H5 => jn (fun d7 H6 => g161_2 d1 d4 d6 d7 t1 H6 Kb1) fun Kb2 => grd d4 true (onV d5 fun v1 => isP v1 fun p2 => onA p2 fun b1 m1 => Kb2 (DV.v (AV.p (AP.at b1 m1))) H5) (Kb2 DV.n H5)) fun Kb2 => grd d4 true (Kb2 (DV.v (AV.i .i64 n1)) H4) (Kb2 DV.n H4)) fun Kb2 => grd d4 true (Kb2 (DV.v (AV.p p1)) H3) (Kb2 DV.n H3)) fun Kb2 => grd d1 false (Kb2 d3 H2) (Kb2 DV.n H2)) fun Kb2 => grd d1 false (onV d2 fun v1 => isP v1 fun p2 => onA p2 fun b1 m1 => rdK H1 b1 m1 fun v2 => isB v2 fun t2 => Kb2 (DV.v (AV.b t2)) H1) (Kb2 DV.n H1)
def g161_4 := jn (fun d2 H2 => jn (fun d3 H3 => jn (fun d4 H4 => jn (fun d5 H5 => g161_3 d2 d5 n1 t1 p1 H5 Kb1) fun Kb2 => grd d2 false (onV d4 fun v1 => isP v1 fun p2 => onA p2 fun b1 m1 => Kb2 (DV.v (AV.p (AP.at b1 (Nat.add m1 nn3)))) H4) (Kb2 DV.n H4)) fun Kb2 => grd d2 false (onV d3 fun v1 => isP v1 fun p2 => onA p2 fun b1 m1 => Kb2 (DV.v (AV.p (AP.at b1 m1))) H3) (Kb2 DV.n H3)) fun Kb2 => grd d2 false (Kb2 (DV.v (AV.p p1)) H2) (Kb2 DV.n H2)) fun Kb2 => br t1 (Kb2 d1 H1) (Kb2 DV.n H1)
def g161_5 := jn (fun d3 H2 => jn (fun d4 H3 => jn (fun d5 H4 => g161_4 d5 n1 t1 p1 H4 Kb1) fun Kb2 => br t1 (onV d1 fun v1 => isB v1 fun t2 => pickK t2 (DV.v (AV.b true)) d4 fun d5 => onV d5 fun v2 => isB v2 fun t3 => Kb2 (DV.v (AV.b t3)) H3) (Kb2 DV.n H3)) fun Kb2 => grd d1 false (onV d3 fun v1 => isP v1 fun p2 => onA p2 fun b1 m1 => rdK H2 b1 m1 fun v2 => isB v2 fun t2 => Kb2 (DV.v (AV.b t2)) H2) (Kb2 DV.n H2)) fun Kb2 => grd d1 false (onV d2 fun v1 => isP v1 fun p2 => onA p2 fun b1 m1 => Kb2 (DV.v (AV.p (AP.at b1 (Nat.add m1 nn2)))) H1) (Kb2 DV.n H1)
def g161_6 := jn (fun d2 H2 => jn (fun d3 H3 => jn (fun d4 H4 => jn (fun d5 H5 => g161_5 d3 d5 n1 t1 p1 H5 Kb1) fun Kb2 => grd d3 false (onV d4 fun v1 => isP v1 fun p2 => onA p2 fun b1 m1 => Kb2 (DV.v (AV.p (AP.at b1 m1))) H4) (Kb2 DV.n H4)) fun Kb2 => grd d3 false (Kb2 (DV.v (AV.p p1)) H3) (Kb2 DV.n H3)) fun Kb2 => br t1 (Kb2 d2 H2) (Kb2 DV.n H2)) fun Kb2 => br t1 (onV d1 fun v1 => isB v1 fun t2 => frcB (bnot t2) fun t3 => Kb2 (DV.v (AV.b t3)) H1) (Kb2 DV.n H1)
def g161_7 := jn (fun d2 H2 => jn (fun d3 H3 => jn (fun d4 H4 => g161_6 d4 n1 t1 p1 H4 Kb1) fun Kb2 => br t1 (onV d3 fun v1 => isP v1 fun p2 => onA p2 fun b1 m1 => rdK H3 b1 m1 fun v2 => isB v2 fun t2 => Kb2 (DV.v (AV.b t2)) H3) (Kb2 DV.n H3)) fun Kb2 => br t1 (onV d2 fun v1 => isP v1 fun p2 => onA p2 fun b1 m1 => Kb2 (DV.v (AV.p (AP.at b1 (Nat.add m1 nn1)))) H2) (Kb2 DV.n H2)) fun Kb2 => br t1 (onV d1 fun v1 => isP v1 fun p2 => onA p2 fun b1 m1 => Kb2 (DV.v (AV.p (AP.at b1 m1))) H1) (Kb2 DV.n H1)
def g161_8 := isP v1 fun p1 => frcB (bnot (isNilA p1)) fun t1 => jn (fun d1 H2 => jn (fun d2 H3 => pickK t1 d2 (DV.v (AV.b false)) fun d3 => onV d3 fun v2 => isB v2 fun t2 => jn (fun d4 H4 => g161_7 d4 n1 t2 p1 H4 Kb1) fun Kb2 => br t2 (Kb2 (DV.v (AV.p p1)) H3) (Kb2 DV.n H3)) fun Kb2 => br t1 (c1 [d1] H2 fun d2 H3 => onV d2 fun v2 => isB v2 fun t2 => Kb2 (DV.v (AV.b t2)) H3) (Kb2 DV.n H2)) fun Kb2 => br t1 (Kb2 (DV.v (AV.i .i64 n1)) H1) (Kb2 DV.n H1)
/-- (*ps.Power).May -/
def g161 : G Unit := fun R1 H1 Kb1 => lc R1 fun d1 R2 => onV d1 fun v1 => isP v1 fun p1 => lc R2 fun d2 R3 => onV d2 fun v2 => isI .i64 v2 fun n1 => lc R3 fun d3 R4 => onV d3 fun v3 => isI .i64 v3 fun n2 => ln R4 <| c1 [(DV.v (AV.p p1)), (DV.v (AV.i .i64 n1))] H1 fun d4 H2 => onV d4 fun v4 => g161_8 v4 n2 H2 c2 Kb1
theorem s161 (h190 : SN ads 190 c1) (h217 : SN ads 217 c2) : SN ads 161 (g161 c1 c2) :=
  mk_snd [(nn190, c1), (nn217, c2)] ⟨fun _ => [], fun _ => none⟩ [.ptr, .int .i64, .int .i64] Tryz.func161 rfl (.cons h190 (.cons h217 .nil))
def G161 : G Unit := g161 G190 G217
theorem S161 : SN ads 161 G161 := s161 _ _ S190 S217

/-- (*sched.turns).Len -/
def g164 : G Unit := fun R1 H1 Kb1 => lc R1 fun d1 R2 => onV d1 fun v1 => isP v1 fun p1 => ln R2 <| onA p1 fun b1 m1 => rdK H1 b1 m1 fun v2 => isS v2 fun s1 => lenA s1 fun m2 => Kb1 (DV.v (AV.i .i64 (Int.ofNat m2))) H1
theorem s164 : SN ads 164 (g164) :=
  mk_snd [] ⟨fun _ => [], fun _ => none⟩ [.ptr] Tryz.func164 rfl .nil
def G164 : G Unit := g164
theorem S164 : SN ads 164 G164 := s164

def g367_1 := br t1 (Kb1 (DV.v (AV.b true)) H1) (onA p1 fun b1 m1 => rdK H1 b1 (Nat.add m1 nn2) fun v1 => isI .i64 v1 fun n1 => onA p2 fun b2 m2 => rdK H1 b2 (Nat.add m2 nn2) fun v2 => isI .i64 v2 fun n2 => frcB (ieq n1 n2) fun t2 => br t2 (onA p1 fun b3 m3 => rdK H1 b3 m3 fun v3 => isI .i64 v3 fun n3 => onA p2 fun b4 m4 => rdK H1 b4 m4 fun v4 => isI .i64 v4 fun n4 => frcB (ilt n3 n4) fun t3 => Kb1 (DV.v (AV.b t3)) H1) (Kb1 (DV.v (AV.b false)) H1))
def g367_2 := ixA s1 n1 (fun x => x) fun b1 m1 => rdK H1 b1 m1 fun v1 => isP v1 fun p2 => onA p1 fun b2 m2 => rdK H1 b2 m2 fun v2 => isS v2 fun s2 => ixA s2 n2 (fun x => x) fun b3 m3 => rdK H1 b3 m3 fun v3 => isP v3 fun p3 => onA p2 fun b4 m4 => rdK H1 b4 (Nat.add m4 nn2) fun v4 => isI .i64 v4 fun n3 => onA p3 fun b5 m5 => rdK H1 b5 (Nat.add m5 nn2) fun v5 => isI .i64 v5 fun n4 => frcB (ilt n3 n4) fun t1 => g367_1 t1 p2 p3 H1 Kb1
/-- (*sched.turns).Less -/
def g367 : G Unit := fun R1 H1 Kb1 => lc R1 fun d1 R2 => onV d1 fun v1 => isP v1 fun p1 => lc R2 fun d2 R3 => onV d2 fun v2 => isI .i64 v2 fun n1 => lc R3 fun d3 R4 => onV d3 fun v3 => isI .i64 v3 fun n2 => ln R4 <| onA p1 fun b1 m1 => rdK H1 b1 m1 fun v4 => isS v4 fun s1 => g367_2 n1 n2 p1 s1 H1 Kb1
theorem s367 : SN ads 367 (g367) :=
  mk_snd [] ⟨fun _ => [], fun _ => none⟩ [.ptr, .int .i64, .int .i64] Tryz.func367 rfl .nil
def G367 : G Unit := g367
theorem S367 : SN ads 367 G367 := s367

def g370_1 := rdK H1 b1 m1 fun v1 => isS v1 fun s1 => ixA s1 n1 (fun x => x) fun b2 m2 => rdK H1 b2 m2 fun v2 => isP v2 fun p2 => onA p1 fun b3 m3 => rdK H1 b3 m3 fun v3 => isS v3 fun s2 => ixA s2 n2 (fun x => x) fun b4 m4 => rdK H1 b4 m4 fun v4 => isP v4 fun p3 => onA p2 fun b5 m5 => wrK H1 b5 (Nat.add m5 nn4) (AV.i .i64 n1) fun H2 => onA p3 fun b6 m6 => wrK H2 b6 (Nat.add m6 nn4) (AV.i .i64 n2) fun H3 => Kb1 DV.n H3
def g370_2 := ixA s1 n1 (fun x => x) fun b1 m1 => rdK H1 b1 m1 fun v1 => isP v1 fun p2 => onA p1 fun b2 m2 => rdK H1 b2 m2 fun v2 => isS v2 fun s4 => ixA s4 n2 (fun x => x) fun b3 m3 => rdK H1 b3 m3 fun v3 => isP v3 fun p3 => ixA s2 n2 (fun x => x) fun b4 m4 => wrK H1 b4 m4 (AV.p p2) fun H2 => ixA s3 n1 (fun x => x) fun b5 m5 => wrK H2 b5 m5 (AV.p p3) fun H3 => onA p1 fun b6 m6 => g370_1 n2 n1 m6 p1 b6 H3 Kb1
/-- (*sched.turns).Swap -/
def g370 : G Unit := fun R1 H1 Kb1 => lc R1 fun d1 R2 => onV d1 fun v1 => isP v1 fun p1 => lc R2 fun d2 R3 => onV d2 fun v2 => isI .i64 v2 fun n1 => lc R3 fun d3 R4 => onV d3 fun v3 => isI .i64 v3 fun n2 => ln R4 <| onA p1 fun b1 m1 => rdK H1 b1 m1 fun v4 => isS v4 fun s1 => onA p1 fun b2 m2 => rdK H1 b2 m2 fun v5 => isS v5 fun s2 => onA p1 fun b3 m3 => rdK H1 b3 m3 fun v6 => isS v6 fun s3 => g370_2 n2 n1 p1 s3 s1 s2 H1 Kb1
theorem s370 : SN ads 370 (g370) :=
  mk_snd [] ⟨fun _ => [], fun _ => none⟩ [.ptr, .int .i64, .int .i64] Tryz.func370 rfl .nil
def G370 : G Unit := g370
theorem S370 : SN ads 370 G370 := s370

def g251_1 := jn (fun d5 H2 => jn (fun d6 H3 => pickK t1 (DV.v (AV.b true)) d6 fun d7 => onV d7 fun v1 => isB v1 fun t2 => br t2 (Kb1 DV.n H3) (onV d1 fun v2 => isM v2 fun m1 v3 => br (Nat.beq (nat_lit 289) m1) (c1 [(DV.v v3), (DV.v (AV.i .i64 n1)), (DV.v (AV.i .i64 n2))] H3 fun d8 H4 => Kb2 (DV.v (AV.i .i64 n1)) H4) (none))) fun Kb3 => br t1 (Kb3 DV.n H2) (onV d5 fun v1 => isB v1 fun t2 => frcB (bnot t2) fun t3 => Kb3 (DV.v (AV.b t3)) H2)) fun Kb3 => br t1 (Kb3 DV.n H1) (onV d2 fun v1 => isM v1 fun m1 v2 => br (Nat.beq (nat_lit 289) m1) (c2 [(DV.v v2), d3, d4] H1 fun d5 H2 => onV d5 fun v3 => isB v3 fun t2 => Kb3 (DV.v (AV.b t2)) H2) (none))
def g251_2 := isI .i64 v1 fun n1 => wrp .i64 (isub n1 ii1) fun n2 => must (bnot (ieq ii2 ii0)) <| wrp .i64 (iquo n2 ii2) fun n3 => frcB (ieq n3 n1) fun t1 => jn (fun d2 H2 => jn (fun d3 H3 => jn (fun d4 H4 => g251_1 d1 d2 d3 d4 n3 n1 t1 H4 c1 c2 Kb1 Kb2) fun Kb3 => br t1 (Kb3 DV.n H3) (Kb3 (DV.v (AV.i .i64 n3)) H3)) fun Kb3 => br t1 (Kb3 DV.n H2) (Kb3 (DV.v (AV.i .i64 n1)) H2)) fun Kb3 => br t1 (Kb3 DV.n H1) (Kb3 d1 H1)
/-- container/heap.up -/
def g251 : G Unit := fun R1 H1 Kb1 => lc R1 fun d1 R2 => lc R2 fun d2 R3 => onV d2 fun v1 => isI .i64 v1 fun n1 => ln R3 <| lpR (failF [(1 , .int .i64)]) (fun Kb2 => fun d3 H2 => onV d3 fun v2 => g251_2 v2 d1 H2 c2 c1 Kb1 Kb2) (nat_lit 100000) (DV.v (AV.i .i64 n1)) H1
theorem s251 (h367 : SN ads 367 c1) (h370 : SN ads 370 c2) : SN ads 251 (g251 c1 c2) :=
  mk_snd [(nn367, c1), (nn370, c2)] ⟨fun n => match n with | 0 => [(1, .int .i64)] | _ => [], fun _ => none⟩ [.any, .int .i64] Tryz.func251 rfl (.cons h367 (.cons h370 .nil))
def G251 : G Unit := g251 G367 G370
theorem S251 : SN ads 251 G251 := s251 _ _ S367 S370

def g369_1 := frcB (bnot t1) fun t2 => br t2 (Kb1 DV.n H1) (onA p1 fun b1 m1 => rdK H1 b1 m1 fun v1 => isS v1 fun s1 => lenA s1 fun m2 => onA p2 fun b2 m3 => wrK H1 b2 (Nat.add m3 nn4) (AV.i .i64 (Int.ofNat m2)) fun H2 => onA p1 fun b3 m4 => rdK H2 b3 m4 fun v2 => isS v2 fun s2 => alK H2 [(AV.p p2)] fun b4 H3 => appD nn1 nn8 s2 (AS.sl b4 nn0 nn1 nn1) H3 fun s3 H4 => onA p1 fun b5 m5 => wrK H4 b5 m5 (AV.s s3) fun H5 => Kb1 DV.n H5)
/-- (*sched.turns).Push -/
def g369 : G Unit := fun R1 H1 Kb1 => lc R1 fun d1 R2 => onV d1 fun v1 => isP v1 fun p1 => lc R2 fun d2 R3 => ln R3 <| onV d2 fun v2 => asT (nat_lit 293) (AV.p AP.nil) v2 fun v3 t1 => isP v3 fun p2 => g369_1 t1 p1 p2 H1 Kb1
theorem s369 : SN ads 369 (g369) :=
  mk_snd [] ⟨fun _ => [], fun _ => none⟩ [.ptr, .any] Tryz.func369 rfl .nil
def G369 : G Unit := g369
theorem S369 : SN ads 369 G369 := s369

/-- container/heap.Push -/
def g163 : G Unit := fun R1 H1 Kb1 => lc R1 fun d1 R2 => lc R2 fun d2 R3 => ln R3 <| onV d1 fun v1 => isM v1 fun m1 v2 => br (Nat.beq (nat_lit 289) m1) (c3 [(DV.v v2), d2] H1 fun d3 H2 => onV d1 fun v3 => isM v3 fun m2 v4 => br (Nat.beq (nat_lit 289) m2) (c1 [(DV.v v4)] H2 fun d4 H3 => onV d4 fun v5 => isI .i64 v5 fun n1 => wrp .i64 (isub n1 ii1) fun n2 => c2 [d1, (DV.v (AV.i .i64 n2))] H3 fun d5 H4 => Kb1 DV.n H4) (none)) (none)
theorem s163 (h164 : SN ads 164 c1) (h251 : SN ads 251 c2) (h369 : SN ads 369 c3) : SN ads 163 (g163 c1 c2 c3) :=
  mk_snd [(nn164, c1), (nn251, c2), (nn369, c3)] ⟨fun _ => [], fun _ => none⟩ [.any, .any] Tryz.func163 rfl (.cons h164 (.cons h251 (.cons h369 .nil)))
def G163 : G Unit := g163 G164 G251 G369
theorem S163 : SN ads 163 G163 := s163 _ _ _ S164 S251 S369

def g252_1 := isI .i64 v1 fun n2 => onV d1 fun v2 => isM v2 fun m1 v3 => br (Nat.beq (nat_lit 289) m1) (c1 [(DV.v v3), (DV.v (AV.i .i64 n2)), (DV.v (AV.i .i64 n1))] H1 fun d2 H2 => onV d2 fun v4 => isB v4 fun t1 => frcB (bnot t1) fun t2 => br t2 (Kb1 (DV.v (AV.i .i64 n1)) H2) (onV d1 fun v5 => isM v5 fun m2 v6 => br (Nat.beq (nat_lit 289) m2) (c2 [(DV.v v6), (DV.v (AV.i .i64 n1)), (DV.v (AV.i .i64 n2))] H2 fun d3 H3 => Kb2 (DV.v (AV.i .i64 n2)) H3) (none))) (none)
def g252_2 := jn (fun d3 H2 => jn (fun d4 H3 => pickK t1 d4 (DV.v (AV.b false)) fun d5 => onV d5 fun v1 => isB v1 fun t2 => br t2 (Kb1 (DV.v (AV.i .i64 n1)) H3) (Kb1 (DV.v (AV.i .i64 n2)) H3)) fun Kb2 => br t1 (onV d1 fun v1 => isM v1 fun m1 v2 => br (Nat.beq (nat_lit 289) m1) (c1 [(DV.v v2), d2, d3] H2 fun d4 H3 => onV d4 fun v3 => isB v3 fun t2 => Kb2 (DV.v (AV.b t2)) H3) (none)) (Kb2 DV.n H2)) fun Kb2 => br t1 (Kb2 (DV.v (AV.i .i64 n2)) H1) (Kb2 DV.n H1)
def g252_3 := onV d1 fun v1 => isB v1 fun t1 => br t1 (Kb1 (DV.v (AV.i .i64 n1)) H1) (jF [(9 , .int .i64)] (fun d3 H2 => onV d3 fun v2 => g252_1 v2 d2 n1 H2 c1 c2 Kb1 Kb2) fun Kb3 => wrp .i64 (iadd n2 ii1) fun n4 => frcB (ilt n4 n3) fun t2 => jn (fun d3 H2 => jn (fun d4 H3 => g252_2 d3 d4 n4 n2 t2 H3 c1 Kb3) fun Kb4 => br t2 (Kb4 (DV.v (AV.i .i64 n4)) H2) (Kb4 DV.n H2)) fun Kb4 => br t2 (Kb4 d2 H1) (Kb4 DV.n H1))
def g252_4 := onV d1 fun v1 => isI .i64 v1 fun n2 => wrp .i64 (imul ii2 n2) fun n3 => wrp .i64 (iadd n3 ii1) fun n4 => frcB (ile n1 n4) fun t1 => jn (fun d3 H2 => jn (fun d4 H3 => pickK t1 (DV.v (AV.b true)) d4 fun d5 => g252_3 d5 d2 n2 n4 n1 H3 c1 c2 Kb1 Kb2) fun Kb3 => br t1 (Kb3 DV.n H2) (onV d3 fun v2 => isI .i64 v2 fun n5 => frcB (ilt n5 ii0) fun t2 => Kb3 (DV.v (AV.b t2)) H2)) fun Kb3 => br t1 (Kb3 DV.n H1) (Kb3 (DV.v (AV.i .i64 n4)) H1)
/-- container/heap.down -/
def g252 : G Unit := fun R1 H1 Kb1 => lc R1 fun d1 R2 => lc R2 fun d2 R3 => onV d2 fun v1 => isI .i64 v1 fun n1 => lc R3 fun d3 R4 => onV d3 fun v2 => isI .i64 v2 fun n2 => ln R4 <| jF [(7 , .int .i64)] (fun d4 H2 => onV d4 fun v3 => isI .i64 v3 fun n3 => frcB (ilt n1 n3) fun t1 => Kb1 (DV.v (AV.b t1)) H2) fun Kb2 => lpR (failF [(7 , .int .i64)]) (fun Kb3 => fun d4 H2 => g252_4 d4 d1 n2 H2 c1 c2 Kb2 Kb3) (nat_lit 100000) (DV.v (AV.i .i64 n1)) H1
theorem s252 (h367 : SN ads 367 c1) (h370 : SN ads 370 c2) : SN ads 252 (g252 c1 c2) :=
  mk_snd [(nn367, c1), (nn370, c2)] ⟨fun n => match n with | 0 => [(7, .int .i64)] | _ => [], fun n => match n with | 8 => some [(9, .int .i64)] | 11 => some [(7, .int .i64)] | _ => none⟩ [.any, .int .i64, .int .i64] Tryz.func252 rfl (.cons h367 (.cons h370 .nil))
def G252 : G Unit := g252 G367 G370
theorem S252 : SN ads 252 G252 := s252 _ _ S367 S370

def g368_1 := wrp .i64 (isub (Int.ofNat m1) ii1) fun n1 => ixA s1 n1 (fun x => x) fun b1 m2 => rdK H1 b1 m2 fun v1 => isP v1 fun p2 => onA p1 fun b2 m3 => rdK H1 b2 m3 fun v2 => isS v2 fun s2 => onA p1 fun b3 m4 => rdK H1 b3 m4 fun v3 => isS v3 fun s3 => lenA s3 fun m5 => wrp .i64 (isub (Int.ofNat m5) ii1) fun n2 => natK n2 fun m6 => slA s2 nn0 m6 (fun x => x) fun s4 => onA p1 fun b4 m7 => wrK H1 b4 m7 (AV.s s4) fun H2 => Kb1 (DV.v (AV.ifc (nat_lit 293) (AV.p p2))) H2
/-- (*sched.turns).Pop -/
def g368 : G Unit := fun R1 H1 Kb1 => lc R1 fun d1 R2 => onV d1 fun v1 => isP v1 fun p1 => ln R2 <| onA p1 fun b1 m1 => rdK H1 b1 m1 fun v2 => isS v2 fun s1 => onA p1 fun b2 m2 => rdK H1 b2 m2 fun v3 => isS v3 fun s2 => lenA s2 fun m3 => g368_1 m3 p1 s1 H1 Kb1
theorem s368 : SN ads 368 (g368) :=
  mk_snd [] ⟨fun _ => [], fun _ => none⟩ [.ptr] Tryz.func368 rfl .nil
def G368 : G Unit := g368
theorem S368 : SN ads 368 G368 := s368

def g165_1 := jF [] (fun H2 => onV d1 fun v1 => isM v1 fun m1 v2 => br (Nat.beq (nat_lit 289) m1) (c1 [(DV.v v2)] H2 fun d2 H3 => onV d2 fun v3 => Kb1 (DV.v v3) H3) (none)) fun Ka1 => frcB (bnot (ieq n1 n2)) fun t1 => br t1 (onV d1 fun v1 => isM v1 fun m1 v2 => br (Nat.beq (nat_lit 289) m1) (c2 [(DV.v v2), (DV.v (AV.i .i64 n2)), (DV.v (AV.i .i64 n1))] H1 fun d2 H2 => c3 [d1, (DV.v (AV.i .i64 n2)), (DV.v (AV.i .i64 n1))] H2 fun d3 H3 => onV d3 fun v3 => isB v3 fun t2 => frcB (bnot t2) fun t3 => br t3 (c4 [d1, (DV.v (AV.i .i64 n2))] H3 fun d4 H4 => Ka1 H4) (Ka1 H3)) (none)) (Ka1 H1)
/-- container/heap.Remove -/
def g165 : G Unit := fun R1 H1 Kb1 => lc R1 fun d1 R2 => lc R2 fun d2 R3 => onV d2 fun v1 => isI .i64 v1 fun n1 => ln R3 <| onV d1 fun v2 => isM v2 fun m1 v3 => br (Nat.beq (nat_lit 289) m1) (c1 [(DV.v v3)] H1 fun d3 H2 => onV d3 fun v4 => isI .i64 v4 fun n2 => wrp .i64 (isub n2 ii1) fun n3 => g165_1 d1 n3 n1 H2 c4 c5 c3 c2 Kb1) (none)
theorem s165 (h164 : SN ads 164 c1) (h251 : SN ads 251 c2) (h252 : SN ads 252 c3) (h368 : SN ads 368 c4) (h370 : SN ads 370 c5) : SN ads 165 (g165 c1 c2 c3 c4 c5) :=
  mk_snd [(nn164, c1), (nn251, c2), (nn252, c3), (nn368, c4), (nn370, c5)] ⟨fun _ => [], fun n => match n with | 6 => some [] | _ => none⟩ [.any, .int .i64] Tryz.func165 rfl (.cons h164 (.cons h251 (.cons h252 (.cons h368 (.cons h370 .nil)))))
def G165 : G Unit := g165 G164 G251 G252 G368 G370
theorem S165 : SN ads 165 G165 := s165 _ _ _ _ _ S164 S251 S252 S368 S370

/-- sched.there -/
def g187 : G Unit := fun R1 H1 Kb1 => lc R1 fun d1 R2 => onV d1 fun v1 => isI .i64 v1 fun n1 => ln R2 <| frcB (ile ii1 n1) fun t1 => jn (fun d2 H2 => jn (fun d3 H3 => pickK t1 d3 (DV.v (AV.b false)) fun d4 => onV d4 fun v2 => isB v2 fun t2 => Kb1 (DV.v (AV.b t2)) H3) fun Kb2 => br t1 (onV d2 fun v2 => isI .i64 v2 fun n2 => frcB (ile n2 ii16) fun t2 => Kb2 (DV.v (AV.b t2)) H2) (Kb2 DV.n H2)) fun Kb2 => br t1 (Kb2 (DV.v (AV.i .i64 n1)) H1) (Kb2 DV.n H1)
theorem s187 : SN ads 187 (g187) :=
  mk_snd [] ⟨fun _ => [], fun _ => none⟩ [.int .i64] Tryz.func187 rfl .nil
def G187 : G Unit := g187
theorem S187 : SN ads 187 G187 := s187

/-- (*sched.Sched).of -/
def g189 : G Unit := fun R1 H1 Kb1 => lc R1 fun d1 R2 => onV d1 fun v1 => isP v1 fun p1 => lc R2 fun d2 R3 => onV d2 fun v2 => isI .i64 v2 fun n1 => ln R3 <| c1 [(DV.v (AV.i .i64 n1))] H1 fun d3 H2 => onV d3 fun v3 => isB v3 fun t1 => frcB (bnot t1) fun t2 => br t2 (Kb1 (DV.v (AV.p AP.nil)) H2) (wrp .i64 (isub n1 ii1) fun n2 => onA p1 fun b1 m1 => rng n2 nn16 <| rdK H2 b1 (Nat.add m1 (itn n2)) fun v4 => isP v4 fun p2 => Kb1 (DV.v (AV.p p2)) H2)
theorem s189 (h187 : SN ads 187 c1) : SN ads 189 (g189 c1) :=
  mk_snd [(nn187, c1)] ⟨fun _ => [], fun _ => none⟩ [.ptr, .int .i64] Tryz.func189 rfl (.cons h187 .nil)
def G189 : G Unit := g189 G187
theorem S189 : SN ads 189 G189 := s189 _ S187

def g162_1 := isI .i64 v1 fun n1 => onA p1 fun b1 m1 => rdK H1 b1 (Nat.add m1 nn16) fun v2 => isP v2 fun p3 => onA p3 fun b2 m2 => rdK H1 b2 m2 fun v3 => isS v3 fun s1 => ixA s1 ii0 (fun x => x) fun b3 m3 => rdK H1 b3 m3 fun v4 => isP v4 fun p4 => onA p4 fun b4 m4 => rdK H1 b4 (Nat.add m4 nn2) fun v5 => isI .i64 v5 fun n2 => asI (imax n1 n2) fun n3 => onA p2 fun b5 m5 => wrK H1 b5 (Nat.add m5 nn2) (AV.i .i64 n3) fun H2 => Ka1 H2
def g162_2 := jF [] (fun H2 => onA p1 fun b1 m1 => wrK H2 b1 (Nat.add m1 nn3) (AV.b true) fun H3 => onA p2 fun b2 m2 => rdK H3 b2 (Nat.add m2 nn16) fun v1 => isP v1 fun p3 => c1 [(DV.v (AV.ifc (nat_lit 289) (AV.p p3))), (DV.v (AV.ifc (nat_lit 293) (AV.p p1)))] H3 fun d1 H4 => Ka1 H4) fun Ka2 => onA p2 fun b1 m1 => rdK H1 b1 (Nat.add m1 nn16) fun v1 => isP v1 fun p3 => c2 [(DV.v (AV.p p3))] H1 fun d1 H2 => onV d1 fun v2 => isI .i64 v2 fun n1 => frcB (ilt ii0 n1) fun t1 => br t1 (onA p1 fun b2 m2 => rdK H2 b2 (Nat.add m2 nn2) fun v3 => g162_1 v3 p2 p1 H2 Ka2) (Ka2 H2)
def g162_3 := isB v1 fun t1 => br t1 (onA p1 fun b1 m1 => wrK H1 b1 (Nat.add m1 nn3) (AV.b false) fun H2 => onA p2 fun b2 m2 => rdK H2 b2 (Nat.add m2 nn16) fun v2 => isP v2 fun p3 => onA p1 fun b3 m3 => rdK H2 b3 (Nat.add m3 nn4) fun v3 => isI .i64 v3 fun n1 => c1 [(DV.v (AV.ifc (nat_lit 289) (AV.p p3))), (DV.v (AV.i .i64 n1))] H2 fun d1 H3 => onV d1 fun v4 => rdK H3 b2 (Nat.add m2 nn16) fun v5 => must (aveq (AV.p p3) v5) <| Ka1 H3) (Ka1 H1)
def g162_4 := jn (fun d2 H2 => jn (fun d3 H3 => jn (fun d4 H4 => pickK t1 d4 (DV.v (AV.b false)) fun d5 => onV d5 fun v1 => g162_3 v1 p1 p2 H4 c1 Ka1) fun Kb1 => br t1 (onV d3 fun v1 => isP v1 fun p3 => onA p3 fun b1 m1 => rdK H3 b1 m1 fun v2 => isB v2 fun t2 => Kb1 (DV.v (AV.b t2)) H3) (Kb1 DV.n H3)) fun Kb1 => br t1 (onV d2 fun v1 => isP v1 fun p3 => onA p3 fun b1 m1 => Kb1 (DV.v (AV.p (AP.at b1 (Nat.add m1 nn3)))) H2) (Kb1 DV.n H2)) fun Kb1 => br t1 (onV d1 fun v1 => isP v1 fun p3 => onA p3 fun b1 m1 => Kb1 (DV.v (AV.p (AP.at b1 m1))) H1) (Kb1 DV.n H1)
def g162_5 := jn (fun d2 H2 => jn (fun d3 H3 => pickK t1 d3 (DV.v (AV.b false)) fun d4 => onV d4 fun v1 => isB v1 fun t2 => br t2 (g162_2 p1 p2 H3 c1 c2 Ka1) (frcB (bnot t1) fun t3 => jn (fun d5 H4 => g162_4 d5 t3 p1 p2 H4 c3 Ka1) fun Kb1 => br t3 (Kb1 (DV.v (AV.p p1)) H3) (Kb1 DV.n H3))) fun Kb1 => br t1 (onV d2 fun v1 => isB v1 fun t2 => frcB (bnot t2) fun t3 => Kb1 (DV.v (AV.b t3)) H2) (Kb1 DV.n H2)) fun Kb1 => br t1 (onV d1 fun v1 => isP v1 fun p3 => onA p3 fun b1 m1 => rdK H1 b1 m1 fun v2 => isB v2 fun t2 => Kb1 (DV.v (AV.b t2)) H1) (Kb1 DV.n H1)
def g162_6 := br t1 (Kb1 (DV.v (AV.er (nat_lit 6))) H1) (jn (fun d1 H2 => jn (fun d2 H3 => jn (fun d3 H4 => g162_5 d3 t2 p1 p2 H4 c1 c2 c3 Ka1) fun Kb2 => br t2 (onV d2 fun v1 => isP v1 fun p3 => onA p3 fun b1 m1 => Kb2 (DV.v (AV.p (AP.at b1 (Nat.add m1 nn3)))) H3) (Kb2 DV.n H3)) fun Kb2 => br t2 (onV d1 fun v1 => isP v1 fun p3 => onA p3 fun b1 m1 => Kb2 (DV.v (AV.p (AP.at b1 m1))) H2) (Kb2 DV.n H2)) fun Kb2 => br t2 (Kb2 (DV.v (AV.p p1)) H1) (Kb2 DV.n H1))
/-- (*sched.Sched).Active -/
def g162 : G Unit := fun R1 H1 Kb1 => lc R1 fun d1 R2 => onV d1 fun v1 => isP v1 fun p1 => lc R2 fun d2 R3 => onV d2 fun v2 => isI .i64 v2 fun n1 => lc R3 fun d3 R4 => onV d3 fun v3 => isB v3 fun t1 => ln R4 <| c4 [(DV.v (AV.p p1)), (DV.v (AV.i .i64 n1))] H1 fun d4 H2 => onV d4 fun v4 => isP v4 fun p2 => jF [] (fun H3 => Kb1 (DV.v AV.ni) H3) fun Ka1 => frcB (isNilA p2) fun t2 => g162_6 t2 t1 p2 p1 H2 c1 c2 c3 Ka1 Kb1
theorem s162 (h163 : SN ads 163 c1) (h164 : SN ads 164 c2) (h165 : SN ads 165 c3) (h189 : SN ads 189 c4) : SN ads 162 (g162 c1 c2 c3 c4) :=
  mk_snd [(nn163, c1), (nn164, c2), (nn165, c3), (nn189, c4)] ⟨fun _ => [], fun n => match n with | 7 => some [] | 12 => some [] | _ => none⟩ [.ptr, .int .i64, .bool] Tryz.func162 rfl (.cons h163 (.cons h164 (.cons h165 (.cons h189 .nil))))
def G162 : G Unit := g162 G163 G164 G165 G189
theorem S162 : SN ads 162 G162 := s162 _ _ _ _ S163 S164 S165 S189

def z12 : List AV := [(AV.b false), (AV.b false), (AV.b false), (AV.b false)]
def g100_1 := jn (fun d2 H2 => jn (fun d3 H3 => jn (fun d4 H4 => pickK t1 (DV.v (AV.b true)) d4 fun d5 => onV d5 fun v1 => isB v1 fun t2 => rng n1 nn4 <| wrK H4 b1 (Nat.add nn0 (itn n1)) (AV.b t2) fun H5 => Kb1 (DV.v (AV.s s1)) H5) fun Kb2 => br t1 (Kb2 DV.n H3) (c1 [d2, d3] H3 fun d4 H4 => onV d4 fun v1 => isB v1 fun t2 => Kb2 (DV.v (AV.b t2)) H4)) fun Kb2 => br t1 (Kb2 DV.n H2) (Kb2 (DV.v (AV.i .i64 n2)) H2)) fun Kb2 => br t1 (Kb2 DV.n H1) (onV d1 fun v1 => isP v1 fun p1 => onA p1 fun b2 m1 => rdK H1 b2 m1 fun v2 => isP v2 fun p2 => Kb2 (DV.v (AV.p p2)) H1)
def g100_2 := isB v1 fun t1 => jn (fun d1 H2 => jn (fun d2 H3 => jn (fun d3 H4 => g100_1 d3 n1 n2 t1 b1 s1 H4 c1 Kb1) fun Kb2 => br t1 (Kb2 DV.n H3) (onV d2 fun v2 => isP v2 fun p2 => onA p2 fun b2 m1 => Kb2 (DV.v (AV.p (AP.at b2 (Nat.add m1 nn312)))) H3)) fun Kb2 => br t1 (Kb2 DV.n H2) (onV d1 fun v2 => isP v2 fun p2 => onA p2 fun b2 m1 => Kb2 (DV.v (AV.p (AP.at b2 m1))) H2)) fun Kb2 => br t1 (Kb2 DV.n H1) (Kb2 (DV.v (AV.p p1)) H1)
def g100_3 := jn (fun d2 H2 => pickK t1 d2 (DV.v (AV.b false)) fun d3 => onV d3 fun v1 => isB v1 fun t2 => br t2 (alK H2 [(AV.i .i64 n1)] fun b2 H3 => appD nn1 nn8 s1 (AS.sl b2 nn0 nn1 nn1) H3 fun s2 H4 => rng n2 nn4 <| rdK H4 b1 (Nat.add nn0 (itn n2)) fun v2 => g100_2 v2 n2 n1 p1 b1 s2 H4 c1 Kb1) (c2 [(DV.v (AV.p p2)), (DV.v (AV.i .i64 n1)), (DV.v (AV.b false))] H2 fun d4 H3 => onV d4 fun v2 => Kb1 (DV.v (AV.s s1)) H3)) fun Kb2 => br t1 (onV d1 fun v1 => isI .i64 v1 fun n3 => frcB (ilt ii0 n3) fun t2 => Kb2 (DV.v (AV.b t2)) H1) (Kb2 DV.n H1)
def g100_4 := jn (fun d3 H2 => jn (fun d4 H3 => jn (fun d5 H4 => g100_3 d5 n1 n2 t1 p1 p2 b1 s1 H4 c1 c2 Kb1) fun Kb2 => br t1 (onV d4 fun v1 => isS v1 fun s2 => lenA s2 fun m1 => Kb2 (DV.v (AV.i .i64 (Int.ofNat m1))) H3) (Kb2 DV.n H3)) fun Kb2 => br t1 (c3 [d1, d2, d3] H2 fun d4 H3 => onV d4 fun v1 => isS v1 fun s2 => Kb2 (DV.v (AV.s s2)) H3) (Kb2 DV.n H2)) fun Kb2 => br t1 (Kb2 (DV.v (AV.i .i64 n2)) H1) (Kb2 DV.n H1)
def g100_5 := rdK H1 b1 m1 fun v1 => isI .i64 v1 fun n2 => onA p1 fun b3 m2 => c1 [(DV.v (AV.p (AP.at b3 (Nat.add m2 nn150)))), (DV.v (AV.i .i64 n2)), (DV.v (AV.i .i64 n1))] H1 fun d1 H2 => onV d1 fun v2 => isB v2 fun t1 => jn (fun d2 H3 => jn (fun d3 H4 => g100_4 d2 d3 n2 n1 t1 p1 p2 b2 s1 H4 c2 c3 c4 Kb1) fun Kb2 => br t1 (Kb2 (DV.v (AV.i .i64 n2)) H3) (Kb2 DV.n H3)) fun Kb2 => br t1 (Kb2 (DV.v (AV.p p1)) H2) (Kb2 DV.n H2)
def g100_6 := lpR (failF [(65 , .int .i64)]) (fun Kb2 => fun d1 H2 => onV d1 fun v1 => isI .i64 v1 fun n2 => frcB (ilt n2 (Int.ofNat m1)) fun t1 => br t1 (ixA s1 n2 (fun x => x) fun b1 m2 => rdK H2 b1 m2 fun v2 => isI .i64 v2 fun n3 => c1 [(DV.v (AV.p p1)), (DV.v (AV.i .i64 n3)), (DV.v (AV.b true))] H2 fun d2 H3 => onV d2 fun v3 => wrp .i64 (iadd n2 ii1) fun n4 => Kb2 (DV.v (AV.i .i64 n4)) H3) (wrp .i64 (iadd n1 ii1) fun n3 => Kb1 (DV.v (AV.i .i64 n3)) H2)) (nat_lit 100000) (DV.v (AV.i .i64 ii0)) H1
def g100_7 := onV d1 fun v1 => isS v1 fun s2 => onV d2 fun v2 => isI .i64 v2 fun n2 => frcB (ilt n2 (Int.ofNat m1)) fun t1 => br t1 (jF [(6 , .slice)] (fun d3 H2 => onV d3 fun v3 => isS v3 fun s3 => wrp .i64 (iadd n2 ii1) fun n3 => Kc1 (DV.v (AV.s s3)) (DV.v (AV.i .i64 n3)) H2) fun Kb2 => ixA s1 n2 (fun x => x) fun b2 m2 => g100_5 n1 m2 p1 p2 b2 b1 s2 H1 c1 c2 c3 c4 Kb2) (lenA s2 fun m2 => g100_6 n1 m2 p2 s2 H1 c3 Kb1)
def g100_8 := br t1 (rng n1 nn4 <| lgetK (itn n1) l1 fun v1 => isP v1 fun p2 => onA p1 fun b3 m1 => c1 [(DV.v (AV.p (AP.at b3 (Nat.add m1 nn22))))] H1 fun d1 H2 => onV d1 fun v2 => isS v2 fun s1 => lenA s1 fun m2 => lpR (failF [(6 , .slice), (24 , .int .i64)]) (fun Kc1 => fun d2 d3 H3 => g100_7 d2 d3 n1 m2 p1 p2 b1 s1 H3 c2 c3 c4 c5 Kb1 Kc1) (nat_lit 100000) (DV.v (AV.s AS.nil)) (DV.v (AV.i .i64 ii0)) H2) (rdR H1 b1 nn0 nn4 fun l2 => must (Nat.beq (llen l2) nn4) <| wrL H1 b2 nn0 l2 fun H2 => rdR H2 b2 nn0 nn4 fun l3 => Kb2 (DV.a l3) H2)
/-- (*ap.AP).actives -/
def g100 : G Unit := fun R1 H1 Kb1 => lc R1 fun d1 R2 => onV d1 fun v1 => isP v1 fun p1 => ln R2 <| alF H1 z12 nn4 fun b1 H2 => alF H2 z12 nn4 fun b2 H3 => onA p1 fun b3 m1 => rdR H3 b3 (Nat.add m1 nn313) nn4 fun l1 => lpR (failF [(15 , .int .i64)]) (fun Kb2 => fun d2 H4 => onV d2 fun v2 => isI .i64 v2 fun n1 => frcB (ilt n1 ii4) fun t1 => g100_8 l1 n1 t1 p1 b2 b1 H4 c1 c4 c2 c5 c3 Kb2 Kb1) (nat_lit 100000) (DV.v (AV.i .i64 ii0)) H3
theorem s100 (h98 : SN ads 98 c1) (h102 : SN ads 102 c2) (h103 : SN ads 103 c3) (h161 : SN ads 161 c4) (h162 : SN ads 162 c5) : SN ads 100 (g100 c1 c2 c3 c4 c5) :=
  mk_snd [(nn98, c1), (nn102, c2), (nn103, c3), (nn161, c4), (nn162, c5)] ⟨fun n => match n with | 0 => [(15, .int .i64)] | 2 => [(6, .slice), (24, .int .i64)] | 4 => [(65, .int .i64)] | _ => [], fun n => match n with | 13 => some [(6, .slice)] | _ => none⟩ [.ptr] Tryz.func100 rfl (.cons h98 (.cons h102 (.cons h103 (.cons h161 (.cons h162 .nil)))))
def G100 : G Unit := g100 G98 G102 G103 G161 G162
theorem S100 : SN ads 100 G100 := s100 _ _ _ _ _ S98 S102 S103 S161 S162

def z13 : List AV := [(AV.i .i64 ii0), (AV.i .i64 ii0), (AV.i .i64 ii0), (AV.b false), (AV.i .i64 ii0)]
def g101_1 := rdK H1 b1 nn0 fun v1 => isS v1 fun s2 => ixA s2 ii0 (fun x => x) fun b2 m1 => rdK H1 b2 m1 fun v2 => isP v2 fun p1 => onA p1 fun b3 m2 => rdK H1 b3 m2 fun v3 => isI .i64 v3 fun n1 => alK H1 [(AV.i .i64 n1)] fun b4 H2 => appD nn1 nn8 s1 (AS.sl b4 nn0 nn1 nn1) H2 fun s3 H3 => c1 [(DV.v (AV.ifc (nat_lit 289) (AV.p (AP.at b1 nn0)))), (DV.v (AV.i .i64 ii0))] H3 fun d1 H4 => onV d1 fun v4 => Kb1 (DV.v (AV.s s3)) H4
def g101_2 := br t1 (ixA s1 n1 (fun x => x) fun b2 m1 => rdK H1 b2 m1 fun v1 => isP v1 fun p1 => onA p1 fun b3 m2 => rdR H1 b3 m2 nn5 fun l1 => alF H1 z13 nn5 fun b4 H2 => must (Nat.beq (llen l1) nn5) <| wrL H2 b4 nn0 l1 fun H3 => c1 [(DV.v (AV.ifc (nat_lit 289) (AV.p (AP.at b1 nn0)))), (DV.v (AV.ifc (nat_lit 293) (AV.p (AP.at b4 nn0))))] H3 fun d1 H4 => wrp .i64 (iadd n1 ii1) fun n2 => Kb1 (DV.v (AV.i .i64 n2)) H4) (lpR (failF [(7 , .slice)]) (fun Kb3 => fun d1 H2 => onV d1 fun v1 => isS v1 fun s2 => c2 [(DV.v (AV.p (AP.at b1 nn0)))] H2 fun d2 H3 => onV d2 fun v2 => isI .i64 v2 fun n2 => frcB (ilt ii0 n2) fun t2 => br t2 (g101_1 b1 s2 H3 c3 Kb3) (Kb2 (DV.v (AV.s s2)) H3)) (nat_lit 100000) (DV.v (AV.s AS.nil)) H1)
def g101_3 := isP v1 fun p1 => ln R1 <| alK H1 [(AV.s AS.nil)] fun b1 H2 => onA p1 fun b2 m1 => rdK H2 b2 (Nat.add m1 nn16) fun v2 => isP v2 fun p2 => onA p2 fun b3 m2 => rdK H2 b3 m2 fun v3 => isS v3 fun s1 => lenA s1 fun m3 => lpR (failF [(18 , .int .i64)]) (fun Kb2 => fun d1 H3 => onV d1 fun v4 => isI .i64 v4 fun n1 => frcB (ilt n1 (Int.ofNat m3)) fun t1 => g101_2 n1 t1 b1 s1 H3 c1 c2 c3 Kb2 Kb1) (nat_lit 100000) (DV.v (AV.i .i64 ii0)) H2
/-- (*sched.Sched).Order -/
def g101 : G Unit := fun R1 H1 Kb1 => lc R1 fun d1 R2 => onV d1 fun v1 => g101_3 v1 R2 H1 c1 c2 c3 Kb1
theorem s101 (h163 : SN ads 163 c1) (h164 : SN ads 164 c2) (h165 : SN ads 165 c3) : SN ads 101 (g101 c1 c2 c3) :=
  mk_snd [(nn163, c1), (nn164, c2), (nn165, c3)] ⟨fun n => match n with | 0 => [(18, .int .i64)] | 2 => [(7, .slice)] | _ => [], fun _ => none⟩ [.ptr] Tryz.func101 rfl (.cons h163 (.cons h164 (.cons h165 .nil)))
def G101 : G Unit := g101 G163 G164 G165
theorem S101 : SN ads 101 G101 := s101 _ _ _ S163 S164 S165

def g255_1 := jn (fun d2 H2 => jn (fun d3 H3 => pickK t1 (DV.v (AV.b true)) d3 fun d4 => onV d4 fun v1 => isB v1 fun t2 => br t2 (Kb1 (DV.v (AV.p AP.nil)) H3) (wrp .i64 (isub n1 ii1) fun n2 => onA p1 fun b1 m1 => rng n2 nn16 <| Kb1 (DV.v (AV.p (AP.at b1 (Nat.add m1 (Nat.mul (itn n2) nn8))))) H3)) fun Kb2 => br t1 (Kb2 DV.n H2) (onV d2 fun v1 => isB v1 fun t2 => frcB (bnot t2) fun t3 => Kb2 (DV.v (AV.b t3)) H2)) fun Kb2 => br t1 (Kb2 DV.n H1) (onV d1 fun v1 => isP v1 fun p2 => onA p2 fun b1 m1 => rdK H1 b1 m1 fun v2 => isB v2 fun t2 => Kb2 (DV.v (AV.b t2)) H1)
def g255_2 := jn (fun d3 H2 => jn (fun d4 H3 => jn (fun d5 H4 => g255_1 d5 n1 t1 p1 H4 Kb1) fun Kb2 => br t1 (Kb2 DV.n H3) (onV d4 fun v1 => isP v1 fun p2 => onA p2 fun b1 m1 => Kb2 (DV.v (AV.p (AP.at b1 m1))) H3)) fun Kb2 => br t1 (Kb2 DV.n H2) (onV d1 fun v1 => isJ v1 fun n2 => onV d3 fun v2 => isP v2 fun p2 => onA p2 fun b1 m1 => rng n2 nn16 <| Kb2 (DV.v (AV.p (AP.at b1 (Nat.add m1 (Nat.mul (itn n2) nn8))))) H2)) fun Kb2 => br t1 (Kb2 DV.n H1) (onV d2 fun v1 => isP v1 fun p2 => onA p2 fun b1 m1 => Kb2 (DV.v (AV.p (AP.at b1 m1))) H1)
def g255_3 := jn (fun d1 H2 => jn (fun d2 H3 => jn (fun d3 H4 => jn (fun d4 H5 => g255_2 d3 d4 n1 t1 p1 H5 Kb1) fun Kb2 => br t1 (Kb2 DV.n H4) (onV d1 fun v1 => isP v1 fun p2 => onA p2 fun b1 m1 => Kb2 (DV.v (AV.p (AP.at b1 m1))) H4)) fun Kb2 => br t1 (Kb2 DV.n H3) (onV d2 fun v1 => isI .i64 v1 fun n2 => wrp .i64 (isub n2 ii1) fun n3 => Kb2 (DV.v (AV.i .i64 n3)) H3)) fun Kb2 => br t1 (Kb2 DV.n H2) (Kb2 (DV.v (AV.i .i64 n1)) H2)) fun Kb2 => br t1 (Kb2 DV.n H1) (Kb2 (DV.v (AV.p p1)) H1)
def g255_4 := isP v1 fun p1 => lc R1 fun d1 R2 => onV d1 fun v2 => isI .i64 v2 fun n1 => ln R2 <| frcB (ilt n1 ii1) fun t1 => jn (fun d2 H2 => jn (fun d3 H3 => pickK t1 (DV.v (AV.b true)) d3 fun d4 => onV d4 fun v3 => isB v3 fun t2 => g255_3 n1 t2 p1 H3 Kb1) fun Kb2 => br t1 (Kb2 DV.n H2) (onV d2 fun v3 => isI .i64 v3 fun n2 => frcB (ilt ii16 n2) fun t2 => Kb2 (DV.v (AV.b t2)) H2)) fun Kb2 => br t1 (Kb2 DV.n H1) (Kb2 (DV.v (AV.i .i64 n1)) H1)
/-- (*sta.Table).of -/
def g255 : G Unit := fun R1 H1 Kb1 => lc R1 fun d1 R2 => onV d1 fun v1 => g255_4 v1 R2 H1 Kb1
theorem s255 : SN ads 255 (g255) :=
  mk_snd [] ⟨fun _ => [], fun _ => none⟩ [.ptr, .int .i64] Tryz.func255 rfl .nil
def G255 : G Unit := g255
theorem S255 : SN ads 255 G255 := s255

def g169_1 := c1 [(DV.v (AV.p p1)), (DV.v (AV.i .i64 n1))] H1 fun d1 H2 => onV d1 fun v1 => isP v1 fun p2 => frcB (isNilA p2) fun t1 => br t1 (wrL H2 b1 nn0 z0 fun H3 => rdR H3 b1 nn0 nn6 fun l1 => Kb1 (DV.c (DV.a l1) (DV.c (DV.v (AV.b false)) DV.n)) H3) (onA p2 fun b2 m1 => rdR H2 b2 (Nat.add m1 nn1) nn6 fun l1 => must (Nat.beq (llen l1) nn6) <| wrL H2 b1 nn0 l1 fun H3 => rdR H3 b1 nn0 nn6 fun l2 => Kb1 (DV.c (DV.a l2) (DV.c (DV.v (AV.b true)) DV.n)) H3)
/-- (*sta.Table).Addr -/
def g169 : G Unit := fun R1 H1 Kb1 => lc R1 fun d1 R2 => onV d1 fun v1 => isP v1 fun p1 => lc R2 fun d2 R3 => onV d2 fun v2 => isI .i64 v2 fun n1 => ln R3 <| alF H1 z0 nn6 fun b1 H2 => g169_1 n1 p1 b1 H2 c1 Kb1
theorem s169 (h255 : SN ads 255 c1) : SN ads 169 (g169 c1) :=
  mk_snd [(nn255, c1)] ⟨fun _ => [], fun _ => none⟩ [.ptr, .int .i64] Tryz.func169 rfl (.cons h255 .nil)
def G169 : G Unit := g169 G255
theorem S169 : SN ads 169 G169 := s169 _ S255

def z14 : List AV := [(AV.i .i64 ii0), (AV.i .i64 ii0), (AV.i .i64 ii0), (AV.i .i64 ii0), (AV.i .i64 ii0)]
def z15 : List AV := [(AV.i .i64 ii1), (AV.i .i64 ii4), (AV.i .i64 ii1), (AV.i .i64 ii20), (AV.i .i64 ii0)]
/-- ap.slow -/
def g170 : G Unit := fun R1 H1 Kb1 => ln R1 <| alF H1 z14 nn5 fun b1 H2 => wrL H2 b1 nn0 z15 fun H3 => rdR H3 b1 nn0 nn5 fun l1 => Kb1 (DV.a l1) H3
theorem s170 : SN ads 170 (g170) :=
  mk_snd [] ⟨fun _ => [], fun _ => none⟩ [] Tryz.func170 rfl .nil
def G170 : G Unit := g170
theorem S170 : SN ads 170 G170 := s170

/-- (*ba.Session).Start -/
def g171 : G Unit := fun R1 H1 Kb1 => lc R1 fun d1 R2 => onV d1 fun v1 => isP v1 fun p1 => ln R2 <| onA p1 fun b1 m1 => rdK H1 b1 m1 fun v2 => isP v2 fun p2 => c1 [(DV.v (AV.p p2))] H1 fun d2 H2 => onV d2 fun v3 => isI .i64 v3 fun n1 => Kb1 (DV.v (AV.i .i64 n1)) H2
theorem s171 (h256 : SN ads 256 c1) : SN ads 171 (g171 c1) :=
  mk_snd [(nn256, c1)] ⟨fun _ => [], fun _ => none⟩ [.ptr] Tryz.func171 rfl (.cons h256 .nil)
def G171 : G Unit := g171 G256
theorem S171 : SN ads 171 G171 := s171 _ S256

/-- (*win.Win).Size -/
def g257 : G Unit := fun R1 H1 Kb1 => lc R1 fun d1 R2 => onV d1 fun v1 => isP v1 fun p1 => ln R2 <| onA p1 fun b1 m1 => rdK H1 b1 (Nat.add m1 nn2) fun v2 => isI .i64 v2 fun n1 => Kb1 (DV.v (AV.i .i64 n1)) H1
theorem s257 : SN ads 257 (g257) :=
  mk_snd [] ⟨fun _ => [], fun _ => none⟩ [.ptr] Tryz.func257 rfl .nil
def G257 : G Unit := g257
theorem S257 : SN ads 257 G257 := s257

/-- (*ba.Session).Size -/
def g172 : G Unit := fun R1 H1 Kb1 => lc R1 fun d1 R2 => onV d1 fun v1 => isP v1 fun p1 => ln R2 <| onA p1 fun b1 m1 => rdK H1 b1 m1 fun v2 => isP v2 fun p2 => c1 [(DV.v (AV.p p2))] H1 fun d2 H2 => onV d2 fun v3 => isI .i64 v3 fun n1 => Kb1 (DV.v (AV.i .i64 n1)) H2
theorem s172 (h257 : SN ads 257 c1) : SN ads 172 (g172 c1) :=
  mk_snd [(nn257, c1)] ⟨fun _ => [], fun _ => none⟩ [.ptr] Tryz.func172 rfl (.cons h257 .nil)
def G172 : G Unit := g172 G257
theorem S172 : SN ads 172 G172 := s172 _ S257

/-- ctl.two -/
def g301 : G Unit := fun R1 H1 Kb1 => lc R1 fun d1 R2 => onV d1 fun v1 => isI .i64 v1 fun n1 => ln R2 <| wrp .u8 n1 fun n2 => asI (idiv n1 (ip2 ii8)) fun n3 => wrp .u8 n3 fun n4 => alK H1 [(AV.i .u8 n2), (AV.i .u8 n4)] fun b1 H2 => Kb1 (DV.v (AV.s (AS.sl b1 nn0 nn2 nn2))) H2
theorem s301 : SN ads 301 (g301) :=
  mk_snd [] ⟨fun _ => [], fun _ => none⟩ [.int .i64] Tryz.func301 rfl .nil
def G301 : G Unit := g301
theorem S301 : SN ads 301 G301 := s301

def g258_1 := appD nn1 nn1 s1 (AS.sl b1 nn0 nn6 nn6) H1 fun s2 H2 => wrp .i64 (imul n1 ii4096) fun n3 => wrp .i64 (iadd ii4 n3) fun n4 => c1 [(DV.v (AV.i .i64 n4))] H2 fun d1 H3 => onV d1 fun v1 => isS v1 fun s3 => appD nn1 nn1 s2 s3 H3 fun s4 H4 => wrp .i64 (imul n2 ii16) fun n5 => c1 [(DV.v (AV.i .i64 n5))] H4 fun d2 H5 => onV d2 fun v2 => isS v2 fun s5 => appD nn1 nn1 s4 s5 H5 fun s6 H6 => Kb1 (DV.c (DV.v (AV.s s6)) (DV.c (DV.v AV.ni) DV.n)) H6
def g258_2 := jn (fun d2 H2 => pickK t1 (DV.v (AV.b true)) d2 fun d3 => onV d3 fun v1 => isB v1 fun t2 => br t2 (Kb1 (DV.c (DV.v (AV.s AS.nil)) (DV.c (DV.v (AV.er (nat_lit 2))) DV.n)) H2) (alK H2 [(AV.i .u8 n1), (AV.i .u8 ii0), (AV.i .u8 ii0), (AV.i .u8 ii0)] fun b3 H3 => appD nn1 nn1 (AS.sl b3 nn0 nn4 nn4) (AS.sl b1 nn0 nn6 nn6) H3 fun s1 H4 => g258_1 n2 n3 b2 s1 H4 c1 Kb1)) fun Kb2 => br t1 (Kb2 DV.n H1) (onV d1 fun v1 => isI .i64 v1 fun n4 => frcB (ile ii4096 n4) fun t2 => Kb2 (DV.v (AV.b t2)) H1)
def g258_3 := isB v1 fun t1 => jn (fun d1 H2 => jn (fun d2 H3 => pickK t1 (DV.v (AV.b true)) d2 fun d3 => onV d3 fun v2 => isB v2 fun t2 => jn (fun d4 H4 => g258_2 d4 n1 n2 n3 t2 b1 b2 H4 c1 Kb1) fun Kb2 => br t2 (Kb2 DV.n H3) (Kb2 (DV.v (AV.i .i64 n3)) H3)) fun Kb2 => br t1 (Kb2 DV.n H2) (onV d1 fun v2 => isI .i64 v2 fun n4 => frcB (ilt n4 ii0) fun t2 => Kb2 (DV.v (AV.b t2)) H2)) fun Kb2 => br t1 (Kb2 DV.n H1) (Kb2 (DV.v (AV.i .i64 n3)) H1)
def g258_4 := cellsD d1 fun l1 => alK H1 l1 fun b1 H2 => cellsD d2 fun l2 => alK H2 l2 fun b2 H3 => frcB (ilt n1 ii0) fun t1 => jn (fun d3 H4 => jn (fun d4 H5 => pickK t1 (DV.v (AV.b true)) d4 fun d5 => onV d5 fun v1 => g258_3 v1 n2 n1 n3 b1 b2 H5 c1 Kb1) fun Kb2 => br t1 (Kb2 DV.n H4) (onV d3 fun v1 => isI .i64 v1 fun n4 => frcB (ile ii8 n4) fun t2 => Kb2 (DV.v (AV.b t2)) H4)) fun Kb2 => br t1 (Kb2 DV.n H3) (Kb2 (DV.v (AV.i .i64 n1)) H3)
/-- ctl.asks -/
def g258 : G Unit := fun R1 H1 Kb1 => lc R1 fun d1 R2 => onV d1 fun v1 => isI .u8 v1 fun n1 => lc R2 fun d2 R3 => lc R3 fun d3 R4 => lc R4 fun d4 R5 => onV d4 fun v2 => isI .i64 v2 fun n2 => lc R5 fun d5 R6 => onV d5 fun v3 => isI .i64 v3 fun n3 => ln R6 <| g258_4 d2 d3 n2 n1 n3 H1 c1 Kb1
theorem s258 (h301 : SN ads 301 c1) : SN ads 258 (g258 c1) :=
  mk_snd [(nn301, c1)] ⟨fun _ => [], fun _ => none⟩ [.int .u8, .any, .any, .int .i64, .int .i64] Tryz.func258 rfl (.cons h301 .nil)
def G258 : G Unit := g258 G301
theorem S258 : SN ads 258 G258 := s258 _ S301

def g174_1 := alK H1 l1 fun b1 H2 => rdR H2 b1 nn0 nn6 fun l2 => rdR H2 b1 nn6 nn6 fun l3 => rdK H2 b1 nn12 fun v1 => isI .i64 v1 fun n1 => rdK H2 b1 nn13 fun v2 => isI .i64 v2 fun n2 => c1 [(DV.v (AV.i .u8 ii132)), (DV.a l2), (DV.a l3), (DV.v (AV.i .i64 n1)), (DV.v (AV.i .i64 n2))] H2 fun d1 H3 => onC d1 fun d2 d3 => onV d2 fun v3 => isS v3 fun s1 => onC d3 fun d4 d5 => onV d4 fun v4 => onN d5 <| Kb1 (DV.c (DV.v (AV.s s1)) (DV.c (DV.v v4) DV.n)) H3
/-- ctl.BarBytes -/
def g174 : G Unit := fun R1 H1 Kb1 => lc R1 fun d1 R2 => ln R2 <| cellsD d1 fun l1 => g174_1 l1 H1 c1 Kb1
theorem s174 (h258 : SN ads 258 c1) : SN ads 174 (g174 c1) :=
  mk_snd [(nn258, c1)] ⟨fun _ => [], fun _ => none⟩ [.any] Tryz.func174 rfl (.cons h258 .nil)
def G174 : G Unit := g174 G258
theorem S174 : SN ads 174 G174 := s174 _ S258

/-- (*win.Win).Ahead -/
def g260 : G Unit := fun R1 H1 Kb1 => lc R1 fun d1 R2 => onV d1 fun v1 => isP v1 fun p1 => ln R2 <| onA p1 fun b1 m1 => rdK H1 b1 (Nat.add m1 nn1) fun v2 => isI .i64 v2 fun n1 => Kb1 (DV.v (AV.i .i64 n1)) H1
theorem s260 : SN ads 260 (g260) :=
  mk_snd [] ⟨fun _ => [], fun _ => none⟩ [.ptr] Tryz.func260 rfl .nil
def G260 : G Unit := g260
theorem S260 : SN ads 260 G260 := s260

def g176_1 := br t1 (Kb1 (DV.c (DV.v (AV.i .i64 ii0)) (DV.c (DV.v (AV.er (nat_lit 9))) DV.n)) H1) (onA p1 fun b1 m1 => wrK H1 b1 (Nat.add m1 nn4) (AV.i .i64 ii2) fun H2 => onA p1 fun b2 m2 => wrK H2 b2 (Nat.add m2 nn5) (AV.i .i64 n1) fun H3 => onA p1 fun b3 m3 => rdK H3 b3 m3 fun v1 => isP v1 fun p2 => c1 [(DV.v (AV.p p2))] H3 fun d1 H4 => onV d1 fun v2 => isI .i64 v2 fun n2 => Kb1 (DV.c (DV.v (AV.i .i64 n2)) (DV.c (DV.v AV.ni) DV.n)) H4)
def g176_2 := jn (fun d2 H2 => jn (fun d3 H3 => jn (fun d4 H4 => pickK t1 (DV.v (AV.b true)) d4 fun d5 => onV d5 fun v1 => isB v1 fun t2 => g176_1 n1 t2 p1 H4 c1 Kb1) fun Kb2 => br t1 (Kb2 DV.n H3) (onV d3 fun v1 => isI .i64 v1 fun n2 => frcB (ilt ii0 n2) fun t2 => Kb2 (DV.v (AV.b t2)) H3)) fun Kb2 => br t1 (Kb2 DV.n H2) (onV d2 fun v1 => isS v1 fun s1 => lenA s1 fun m1 => Kb2 (DV.v (AV.i .i64 (Int.ofNat m1))) H2)) fun Kb2 => br t1 (Kb2 DV.n H1) (onV d1 fun v1 => isP v1 fun p2 => onA p2 fun b1 m1 => rdK H1 b1 m1 fun v2 => isS v2 fun s1 => Kb2 (DV.v (AV.s s1)) H1)
def g176_3 := frcB (bnot (ieq n1 ii1)) fun t1 => jn (fun d1 H2 => jn (fun d2 H3 => jn (fun d3 H4 => g176_2 d3 n2 t1 p1 H4 c1 Kb1) fun Kb2 => br t1 (Kb2 DV.n H3) (onV d2 fun v1 => isP v1 fun p2 => onA p2 fun b1 m1 => Kb2 (DV.v (AV.p (AP.at b1 (Nat.add m1 nn6)))) H3)) fun Kb2 => br t1 (Kb2 DV.n H2) (onV d1 fun v1 => isP v1 fun p2 => onA p2 fun b1 m1 => Kb2 (DV.v (AV.p (AP.at b1 m1))) H2)) fun Kb2 => br t1 (Kb2 DV.n H1) (Kb2 (DV.v (AV.p p1)) H1)
def g176_4 := jn (fun d1 H2 => jn (fun d2 H3 => pickK t1 (DV.v (AV.b true)) d2 fun d3 => onV d3 fun v1 => isB v1 fun t2 => br t2 (Kb1 (DV.c (DV.v (AV.i .i64 ii0)) (DV.c (DV.v (AV.er (nat_lit 2))) DV.n)) H3) (onA p1 fun b1 m1 => rdK H3 b1 (Nat.add m1 nn4) fun v2 => isI .i64 v2 fun n2 => g176_3 n2 n1 p1 H3 c1 Kb1)) fun Kb2 => br t1 (Kb2 DV.n H2) (onV d1 fun v1 => isI .i64 v1 fun n2 => frcB (ile ii256 n2) fun t2 => Kb2 (DV.v (AV.b t2)) H2)) fun Kb2 => br t1 (Kb2 DV.n H1) (Kb2 (DV.v (AV.i .i64 n1)) H1)
/-- (*ba.Session).Ask -/
def g176 : G Unit := fun R1 H1 Kb1 => lc R1 fun d1 R2 => onV d1 fun v1 => isP v1 fun p1 => lc R2 fun d2 R3 => onV d2 fun v2 => isI .i64 v2 fun n1 => ln R3 <| frcB (ilt n1 ii0) fun t1 => g176_4 n1 t1 p1 H1 c1 Kb1
theorem s176 (h260 : SN ads 260 c1) : SN ads 176 (g176 c1) :=
  mk_snd [(nn260, c1)] ⟨fun _ => [], fun _ => none⟩ [.ptr, .int .i64] Tryz.func176 rfl (.cons h260 .nil)
def G176 : G Unit := g176 G260
theorem S176 : SN ads 176 G176 := s176 _ S260

def g261_1 := jn (fun d1 H2 => jn (fun d2 H3 => jn (fun d3 H4 => pickK t1 d3 (DV.v (AV.b false)) fun d4 => onV d4 fun v1 => isB v1 fun t2 => Kb1 (DV.v (AV.b t2)) H4) fun Kb2 => br t1 (onV d1 fun v1 => onV d2 fun v2 => isI .i64 v1 fun n3 => isI .i64 v2 fun n4 => frcB (ile n3 n4) fun t2 => Kb2 (DV.v (AV.b t2)) H3) (Kb2 DV.n H3)) fun Kb2 => br t1 (Kb2 (DV.v (AV.i .i64 n1)) H2) (Kb2 DV.n H2)) fun Kb2 => br t1 (Kb2 (DV.v (AV.i .i64 n2)) H1) (Kb2 DV.n H1)
/-- act.top -/
def g261 : G Unit := fun R1 H1 Kb1 => lc R1 fun d1 R2 => onV d1 fun v1 => isI .i64 v1 fun n1 => lc R2 fun d2 R3 => onV d2 fun v2 => isI .i64 v2 fun n2 => ln R3 <| frcB (ile ii0 n1) fun t1 => g261_1 n2 n1 t1 H1 Kb1
theorem s261 : SN ads 261 (g261) :=
  mk_snd [] ⟨fun _ => [], fun _ => none⟩ [.int .i64, .int .i64] Tryz.func261 rfl .nil
def G261 : G Unit := g261
theorem S261 : SN ads 261 G261 := s261

def z16 : List AV := [(AV.i .u8 ii208), (AV.i .u8 ii0), (AV.i .u8 ii0), (AV.i .u8 ii0)]
def g262_1 := br t1 (ixA (AS.sl b1 nn0 nn3 nn3) n1 (fun x => Nat.mul x nn6) fun b2 m1 => rdR H1 b2 m1 nn6 fun l1 => alF H1 z0 nn6 fun b3 H2 => must (Nat.beq (llen l1) nn6) <| wrL H2 b3 nn0 l1 fun H3 => appD nn1 nn1 s1 (AS.sl b3 nn0 nn6 nn6) H3 fun s2 H4 => wrp .i64 (iadd n1 ii1) fun n3 => Kc1 (DV.v (AV.s s2)) (DV.v (AV.i .i64 n3)) H4) (alK H1 [(AV.i .u8 ii0), (AV.i .u8 ii0), (AV.i .u8 ii3), (AV.i .u8 n2)] fun b2 H2 => appD nn1 nn1 s1 (AS.sl b2 nn0 nn4 nn4) H2 fun s2 H3 => Kb1 (DV.v (AV.s s2)) H3)
def g262_2 := must (Nat.beq (llen l1) nn6) <| must (Nat.beq (llen l2) nn6) <| alK H1 (lapp l3 (lapp l1 (lapp l2 []))) fun b2 H2 => lenA (AS.sl b2 nn0 nn3 nn3) fun m1 => lpR (failF [(9 , .slice), (18 , .int .i64)]) (fun Kc1 => fun d1 d2 H3 => onV d1 fun v1 => isS v1 fun s1 => onV d2 fun v2 => isI .i64 v2 fun n2 => frcB (ilt n2 (Int.ofNat m1)) fun t1 => g262_1 n2 n1 t1 b2 s1 H3 Kb1 Kc1) (nat_lit 100000) (DV.v (AV.s (AS.sl b1 nn0 nn4 nn4))) (DV.v (AV.i .i64 ii0)) H2
def g262_3 := lc R1 fun d2 R2 => lc R2 fun d3 R3 => lc R3 fun d4 R4 => onV d4 fun v1 => isI .u8 v1 fun n1 => ln R4 <| cellsD d1 fun l1 => alK H1 l1 fun b1 H2 => cellsD d2 fun l2 => alK H2 l2 fun b2 H3 => cellsD d3 fun l3 => alK H3 l3 fun b3 H4 => alK H4 z16 fun b4 H5 => rdR H5 b1 nn0 nn6 fun l4 => rdR H5 b2 nn0 nn6 fun l5 => rdR H5 b3 nn0 nn6 fun l6 => must (Nat.beq (llen l4) nn6) <| g262_2 l5 l6 l4 n1 b4 H5 Kb1
/-- act.front -/
def g262 : G Unit := fun R1 H1 Kb1 => lc R1 fun d1 R2 => g262_3 d1 R2 H1 Kb1
theorem s262 : SN ads 262 (g262) :=
  mk_snd [] ⟨fun n => match n with | 0 => [(9, .slice), (18, .int .i64)] | _ => [], fun _ => none⟩ [.any, .any, .any, .int .u8] Tryz.func262 rfl .nil
def G262 : G Unit := g262
theorem S262 : SN ads 262 G262 := s262

/-- act.two -/
def g263 : G Unit := fun R1 H1 Kb1 => lc R1 fun d1 R2 => onV d1 fun v1 => isI .i64 v1 fun n1 => ln R2 <| wrp .u8 n1 fun n2 => asI (idiv n1 (ip2 ii8)) fun n3 => wrp .u8 n3 fun n4 => alK H1 [(AV.i .u8 n2), (AV.i .u8 n4)] fun b1 H2 => Kb1 (DV.v (AV.s (AS.sl b1 nn0 nn2 nn2))) H2
theorem s263 : SN ads 263 (g263) :=
  mk_snd [] ⟨fun _ => [], fun _ => none⟩ [.int .i64] Tryz.func263 rfl .nil
def G263 : G Unit := g263
theorem S263 : SN ads 263 G263 := s263

def g177_1 := jF [(5 , .slice)] (fun d1 H2 => onV d1 fun v1 => isS v1 fun s2 => Kb1 (DV.c (DV.v (AV.s s2)) (DV.c (DV.v AV.ni) DV.n)) H2) fun Kb2 => rdK H1 b1 nn18 fun v1 => isB v1 fun t1 => frcB (bnot t1) fun t2 => br t2 (rdK H1 b1 nn23 fun v2 => isI .i64 v2 fun n1 => wrp .i64 (imul n1 ii16) fun n2 => c1 [(DV.v (AV.i .i64 n2))] H1 fun d1 H2 => onV d1 fun v3 => isS v3 fun s2 => appD nn1 nn1 s1 s2 H2 fun s3 H3 => Kb2 (DV.v (AV.s s3)) H3) (Kb2 (DV.v (AV.s s1)) H1)
def g177_2 := rdK H1 b1 nn21 fun v1 => isI .i64 v1 fun n2 => wrp .i64 (imul n2 ii64) fun n3 => wrp .i64 (iadd n1 n3) fun n4 => c1 [(DV.v (AV.i .i64 n4))] H1 fun d1 H2 => onV d1 fun v2 => isS v2 fun s2 => appD nn1 nn1 s1 s2 H2 fun s3 H3 => rdK H3 b1 nn22 fun v3 => isI .i64 v3 fun n5 => c1 [(DV.v (AV.i .i64 n5))] H3 fun d2 H4 => onV d2 fun v4 => isS v4 fun s4 => appD nn1 nn1 s3 s4 H4 fun s5 H5 => g177_1 b1 s5 H5 c1 Kb1
def g177_3 := jF [(5 , .slice)] (fun d1 H2 => onV d1 fun v1 => isS v1 fun s2 => rdK H2 b1 nn20 fun v2 => isI .i64 v2 fun n1 => wrp .i64 (imul n1 ii4) fun n2 => wrp .i64 (iadd ii2 n2) fun n3 => g177_2 n3 b1 s2 H2 c1 Kb1) fun Kb2 => rdK H1 b1 nn18 fun v1 => isB v1 fun t1 => br t1 (rdK H1 b1 nn24 fun v2 => isI .i64 v2 fun n1 => c1 [(DV.v (AV.i .i64 n1))] H1 fun d1 H2 => onV d1 fun v3 => isS v3 fun s2 => appD nn1 nn1 s1 s2 H2 fun s3 H3 => Kb2 (DV.v (AV.s s3)) H3) (Kb2 (DV.v (AV.s s1)) H1)
def g177_4 := rdK H1 b1 nn19 fun v1 => isI .i64 v1 fun n2 => wrp .u8 n2 fun n3 => c1 [(DV.a l1), (DV.a l2), (DV.a l3), (DV.v (AV.i .u8 n1))] H1 fun d1 H2 => onV d1 fun v2 => isS v2 fun s1 => rdK H2 b1 nn19 fun v3 => must (aveq (AV.i .i64 n2) v3) <| alK H2 [(AV.i .u8 n3)] fun b2 H3 => appD nn1 nn1 s1 (AS.sl b2 nn0 nn1 nn1) H3 fun s2 H4 => rdK H4 b1 nn19 fun v4 => must (aveq (AV.i .i64 n2) v4) <| g177_3 b1 s2 H4 c2 Kb1
def g177_5 := isB v1 fun t1 => br t1 (Kb1 (DV.c (DV.v (AV.s AS.nil)) (DV.c (DV.v (AV.er (nat_lit 2))) DV.n)) H1) (jF [(4 , .int .u8)] (fun d1 H2 => onV d1 fun v2 => isI .u8 v2 fun n1 => rdR H2 b1 nn0 nn6 fun l1 => rdR H2 b1 nn6 nn6 fun l2 => rdR H2 b1 nn12 nn6 fun l3 => g177_4 l1 l2 l3 n1 b1 H2 c1 c2 Kb1) fun Kb2 => rdK H1 b1 nn18 fun v2 => isB v2 fun t2 => br t2 (Kb2 (DV.v (AV.i .u8 ii1)) H1) (Kb2 (DV.v (AV.i .u8 ii0)) H1))
def g177_6 := jn (fun d3 H2 => jn (fun d4 H3 => jn (fun d5 H4 => pickK t1 (DV.v (AV.b true)) d5 fun d6 => onV d6 fun v1 => g177_5 v1 b1 H4 c1 c2 Kb1) fun Kb2 => br t1 (Kb2 DV.n H3) (onV d1 fun v1 => isB v1 fun t2 => pickK t2 d4 (DV.v (AV.b false)) fun d5 => onV d5 fun v2 => isB v2 fun t3 => Kb2 (DV.v (AV.b t3)) H3)) fun Kb2 => grd d1 true (onV d3 fun v1 => isI .i64 v1 fun n1 => frcB (bnot (ieq n1 ii0)) fun t2 => Kb2 (DV.v (AV.b t2)) H2) (Kb2 DV.n H2)) fun Kb2 => grd d1 true (onV d2 fun v1 => isP v1 fun p1 => onA p1 fun b2 m1 => rdK H1 b2 m1 fun v2 => isI .i64 v2 fun n1 => Kb2 (DV.v (AV.i .i64 n1)) H1) (Kb2 DV.n H1)
def g177_7 := jn (fun d1 H2 => jn (fun d2 H3 => jn (fun d3 H4 => jn (fun d4 H5 => g177_6 d3 d4 t1 b1 H5 c1 c2 Kb1) fun Kb2 => grd d3 true (Kb2 (DV.v (AV.p (AP.at b1 nn23))) H4) (Kb2 DV.n H4)) fun Kb2 => br t1 (Kb2 DV.n H3) (Kb2 d2 H3)) fun Kb2 => br t1 (Kb2 DV.n H2) (onV d1 fun v1 => isP v1 fun p1 => onA p1 fun b2 m1 => rdK H2 b2 m1 fun v2 => isB v2 fun t2 => Kb2 (DV.v (AV.b t2)) H2)) fun Kb2 => br t1 (Kb2 DV.n H1) (Kb2 (DV.v (AV.p (AP.at b1 nn18))) H1)
def g177_8 := jn (fun d3 H2 => jn (fun d4 H3 => pickK t1 (DV.v (AV.b true)) d4 fun d5 => onV d5 fun v1 => isB v1 fun t2 => g177_7 t2 b1 H3 c1 c2 Kb1) fun Kb2 => br t1 (Kb2 DV.n H2) (onV d1 fun v1 => isB v1 fun t2 => pickK t2 d3 (DV.v (AV.b false)) fun d4 => onV d4 fun v2 => isB v2 fun t3 => Kb2 (DV.v (AV.b t3)) H2)) fun Kb2 => grd d1 true (onV d2 fun v1 => isI .i64 v1 fun n1 => frcB (bnot (ieq n1 ii0)) fun t2 => Kb2 (DV.v (AV.b t2)) H1) (Kb2 DV.n H1)
def g177_9 := jn (fun d2 H2 => jn (fun d3 H3 => jn (fun d4 H4 => jn (fun d5 H5 => g177_8 d3 d5 t1 b1 H5 c1 c2 Kb1) fun Kb2 => grd d3 true (onV d4 fun v1 => isP v1 fun p1 => onA p1 fun b2 m1 => rdK H4 b2 m1 fun v2 => isI .i64 v2 fun n1 => Kb2 (DV.v (AV.i .i64 n1)) H4) (Kb2 DV.n H4)) fun Kb2 => grd d3 true (Kb2 (DV.v (AV.p (AP.at b1 nn24))) H3) (Kb2 DV.n H3)) fun Kb2 => br t1 (Kb2 DV.n H2) (Kb2 d2 H2)) fun Kb2 => br t1 (Kb2 DV.n H1) (onV d1 fun v1 => isB v1 fun t2 => frcB (bnot t2) fun t3 => Kb2 (DV.v (AV.b t3)) H1)
def g177_10 := jn (fun d2 H2 => pickK t1 (DV.v (AV.b true)) d2 fun d3 => onV d3 fun v1 => isB v1 fun t2 => jn (fun d4 H3 => jn (fun d5 H4 => g177_9 d5 t2 b1 H4 c1 c2 Kb1) fun Kb2 => br t2 (Kb2 DV.n H3) (onV d4 fun v2 => isP v2 fun p1 => onA p1 fun b2 m1 => rdK H3 b2 m1 fun v3 => isB v3 fun t3 => Kb2 (DV.v (AV.b t3)) H3)) fun Kb2 => br t2 (Kb2 DV.n H2) (Kb2 (DV.v (AV.p (AP.at b1 nn18))) H2)) fun Kb2 => br t1 (Kb2 DV.n H1) (onV d1 fun v1 => isB v1 fun t2 => frcB (bnot t2) fun t3 => Kb2 (DV.v (AV.b t3)) H1)
def g177_11 := jn (fun d1 H2 => jn (fun d2 H3 => jn (fun d3 H4 => g177_10 d3 t1 b1 H4 c1 c2 Kb1) fun Kb2 => br t1 (Kb2 DV.n H3) (c3 [d2, (DV.v (AV.i .i64 ii4095))] H3 fun d3 H4 => onV d3 fun v1 => isB v1 fun t2 => Kb2 (DV.v (AV.b t2)) H4)) fun Kb2 => br t1 (Kb2 DV.n H2) (onV d1 fun v1 => isP v1 fun p1 => onA p1 fun b2 m1 => rdK H2 b2 m1 fun v2 => isI .i64 v2 fun n1 => Kb2 (DV.v (AV.i .i64 n1)) H2)) fun Kb2 => br t1 (Kb2 DV.n H1) (Kb2 (DV.v (AV.p (AP.at b1 nn23))) H1)
def g177_12 := jn (fun d2 H2 => jn (fun d3 H3 => jn (fun d4 H4 => pickK t1 (DV.v (AV.b true)) d4 fun d5 => onV d5 fun v1 => isB v1 fun t2 => g177_11 t2 b1 H4 c1 c2 c3 Kb1) fun Kb2 => br t1 (Kb2 DV.n H3) (onV d3 fun v1 => isB v1 fun t2 => frcB (bnot t2) fun t3 => Kb2 (DV.v (AV.b t3)) H3)) fun Kb2 => br t1 (Kb2 DV.n H2) (c3 [d2, (DV.v (AV.i .i64 ii65535))] H2 fun d3 H3 => onV d3 fun v1 => isB v1 fun t2 => Kb2 (DV.v (AV.b t2)) H3)) fun Kb2 => br t1 (Kb2 DV.n H1) (onV d1 fun v1 => isP v1 fun p1 => onA p1 fun b2 m1 => rdK H1 b2 m1 fun v2 => isI .i64 v2 fun n1 => Kb2 (DV.v (AV.i .i64 n1)) H1)
def g177_13 := jn (fun d2 H2 => jn (fun d3 H3 => pickK t1 (DV.v (AV.b true)) d3 fun d4 => onV d4 fun v1 => isB v1 fun t2 => jn (fun d5 H4 => g177_12 d5 t2 b1 H4 c1 c2 c3 Kb1) fun Kb2 => br t2 (Kb2 DV.n H3) (Kb2 (DV.v (AV.p (AP.at b1 nn24))) H3)) fun Kb2 => br t1 (Kb2 DV.n H2) (onV d2 fun v1 => isB v1 fun t2 => frcB (bnot t2) fun t3 => Kb2 (DV.v (AV.b t3)) H2)) fun Kb2 => br t1 (Kb2 DV.n H1) (c3 [d1, (DV.v (AV.i .i64 ii65535))] H1 fun d2 H2 => onV d2 fun v1 => isB v1 fun t2 => Kb2 (DV.v (AV.b t2)) H2)
def g177_14 := jn (fun d2 H2 => pickK t1 (DV.v (AV.b true)) d2 fun d3 => onV d3 fun v1 => isB v1 fun t2 => jn (fun d4 H3 => jn (fun d5 H4 => g177_13 d5 t2 b1 H4 c1 c2 c3 Kb1) fun Kb2 => br t2 (Kb2 DV.n H3) (onV d4 fun v2 => isP v2 fun p1 => onA p1 fun b2 m1 => rdK H3 b2 m1 fun v3 => isI .i64 v3 fun n1 => Kb2 (DV.v (AV.i .i64 n1)) H3)) fun Kb2 => br t2 (Kb2 DV.n H2) (Kb2 (DV.v (AV.p (AP.at b1 nn22))) H2)) fun Kb2 => br t1 (Kb2 DV.n H1) (onV d1 fun v1 => isB v1 fun t2 => frcB (bnot t2) fun t3 => Kb2 (DV.v (AV.b t3)) H1)
def g177_15 := jn (fun d1 H2 => jn (fun d2 H3 => jn (fun d3 H4 => g177_14 d3 t1 b1 H4 c1 c2 c3 Kb1) fun Kb2 => br t1 (Kb2 DV.n H3) (c3 [d2, (DV.v (AV.i .i64 ii1023))] H3 fun d3 H4 => onV d3 fun v1 => isB v1 fun t2 => Kb2 (DV.v (AV.b t2)) H4)) fun Kb2 => br t1 (Kb2 DV.n H2) (onV d1 fun v1 => isP v1 fun p1 => onA p1 fun b2 m1 => rdK H2 b2 m1 fun v2 => isI .i64 v2 fun n1 => Kb2 (DV.v (AV.i .i64 n1)) H2)) fun Kb2 => br t1 (Kb2 DV.n H1) (Kb2 (DV.v (AV.p (AP.at b1 nn21))) H1)
def g177_16 := jn (fun d2 H2 => jn (fun d3 H3 => jn (fun d4 H4 => pickK t1 (DV.v (AV.b true)) d4 fun d5 => onV d5 fun v1 => isB v1 fun t2 => g177_15 t2 b1 H4 c1 c2 c3 Kb1) fun Kb2 => br t1 (Kb2 DV.n H3) (onV d3 fun v1 => isB v1 fun t2 => frcB (bnot t2) fun t3 => Kb2 (DV.v (AV.b t3)) H3)) fun Kb2 => br t1 (Kb2 DV.n H2) (c3 [d2, (DV.v (AV.i .i64 ii7))] H2 fun d3 H3 => onV d3 fun v1 => isB v1 fun t2 => Kb2 (DV.v (AV.b t2)) H3)) fun Kb2 => br t1 (Kb2 DV.n H1) (onV d1 fun v1 => isP v1 fun p1 => onA p1 fun b2 m1 => rdK H1 b2 m1 fun v2 => isI .i64 v2 fun n1 => Kb2 (DV.v (AV.i .i64 n1)) H1)
/-- act.AddBytes -/
def g177 : G Unit := fun R1 H1 Kb1 => lc R1 fun d1 R2 => ln R2 <| cellsD d1 fun l1 => alK H1 l1 fun b1 H2 => rdK H2 b1 nn19 fun v1 => isI .i64 v1 fun n1 => c1 [(DV.v (AV.i .i64 n1)), (DV.v (AV.i .i64 ii255))] H2 fun d2 H3 => onV d2 fun v2 => isB v2 fun t1 => frcB (bnot t1) fun t2 => jn (fun d3 H4 => g177_16 d3 t2 b1 H4 c2 c3 c1 Kb1) fun Kb2 => br t2 (Kb2 DV.n H3) (Kb2 (DV.v (AV.p (AP.at b1 nn20))) H3)
theorem s177 (h261 : SN ads 261 c1) (h262 : SN ads 262 c2) (h263 : SN ads 263 c3) : SN ads 177 (g177 c1 c2 c3) :=
  mk_snd [(nn261, c1), (nn262, c2), (nn263, c3)] ⟨fun _ => [], fun n => match n with | 6 => some [(4, .int .u8)] | 9 => some [(5, .slice)] | 13 => some [(5, .slice)] | _ => none⟩ [.any] Tryz.func177 rfl (.cons h261 (.cons h262 (.cons h263 .nil)))
def G177 : G Unit := g177 G261 G262 G263
theorem S177 : SN ads 177 G177 := s177 _ _ _ S261 S262 S263

def g180_1 := jn (fun d2 H2 => pickK t1 (DV.v (AV.b true)) d2 fun d3 => onV d3 fun v1 => isB v1 fun t2 => br t2 (onA p1 fun b1 m1 => wrK H2 b1 (Nat.add m1 nn3) (AV.b false) fun H3 => onA p1 fun b2 m2 => wrK H3 b2 (Nat.add m2 nn9) (AV.i .i64 ii0) fun H4 => Kb1 (DV.c (DV.v (AV.b true)) (DV.c (DV.v AV.ni) DV.n)) H4) (Kb1 (DV.c (DV.v (AV.b false)) (DV.c (DV.v AV.ni) DV.n)) H2)) fun Kb2 => br t1 (Kb2 DV.n H1) (onV d1 fun v1 => isB v1 fun t2 => frcB (bnot t2) fun t3 => Kb2 (DV.v (AV.b t3)) H1)
def g180_2 := rdK H1 b1 (Nat.add m1 nn8) fun v1 => isI .i64 v1 fun n1 => frcB (ilt ii0 n1) fun t1 => br t1 (onA p1 fun b2 m2 => rdK H1 b2 (Nat.add m2 nn9) fun v2 => isI .i64 v2 fun n2 => wrp .i64 (isub n2 ii1) fun n3 => onA p1 fun b3 m3 => wrK H1 b3 (Nat.add m3 nn9) (AV.i .i64 n3) fun H2 => onA p1 fun b4 m4 => rdK H2 b4 (Nat.add m4 nn9) fun v3 => isI .i64 v3 fun n4 => frcB (ieq n4 ii0) fun t2 => Kb1 (DV.v (AV.b t2)) H2) (Kb1 (DV.v (AV.b false)) H1)
def g180_3 := onA p1 fun b1 m1 => rdK H1 b1 (Nat.add m1 nn2) fun v1 => isB v1 fun t2 => br t2 (onA p1 fun b2 m2 => wrK H1 b2 (Nat.add m2 nn2) (AV.b false) fun H2 => Kb1 (DV.c (DV.v (AV.b false)) (DV.c (DV.v AV.ni) DV.n)) H2) (jF [(11 , .bool)] (fun d1 H2 => onV d1 fun v2 => isB v2 fun t3 => jn (fun d2 H3 => g180_1 d2 t3 p1 H3 Kb1) fun Kb2 => br t3 (Kb2 DV.n H2) (Kb2 (DV.v (AV.b t1)) H2)) fun Kb2 => onA p1 fun b2 m2 => g180_2 m2 p1 b2 H1 Kb2)
def g180_4 := br t1 (Kb1 (DV.c (DV.v (AV.b false)) (DV.c (DV.v (AV.er (nat_lit 2))) DV.n)) H1) (c1 [(DV.v (AV.p p1)), (DV.v (AV.i .i64 n1)), (DV.v (AV.i .i64 n2))] H1 fun d1 H2 => onV d1 fun v1 => isB v1 fun t3 => frcB (bnot t3) fun t4 => br t4 (Kb1 (DV.c (DV.v (AV.b false)) (DV.c (DV.v (AV.er (nat_lit 9))) DV.n)) H2) (onA p2 fun b1 m1 => rdK H2 b1 (Nat.add m1 nn1) fun v2 => isB v2 fun t5 => frcB (bnot t5) fun t6 => br t6 (Kb1 (DV.c (DV.v (AV.b false)) (DV.c (DV.v AV.ni) DV.n)) H2) (g180_3 t2 p2 H2 Kb1)))
def g180_5 := isI .i64 v1 fun n2 => lc R1 fun d1 R2 => onV d1 fun v2 => isB v2 fun t1 => ln R2 <| c1 [(DV.v (AV.p p1)), (DV.v (AV.i .i64 n1))] H1 fun d2 H2 => onV d2 fun v3 => isP v3 fun p2 => frcB (isNilA p2) fun t2 => br t2 (Kb1 (DV.c (DV.v (AV.b false)) (DV.c (DV.v (AV.er (nat_lit 6))) DV.n)) H2) (c2 [(DV.v (AV.i .i64 n2))] H2 fun d3 H3 => onV d3 fun v4 => isB v4 fun t3 => frcB (bnot t3) fun t4 => g180_4 n1 n2 t4 t1 p1 p2 H3 c3 Kb1)
/-- (*ps.Power).Sent -/
def g180 : G Unit := fun R1 H1 Kb1 => lc R1 fun d1 R2 => onV d1 fun v1 => isP v1 fun p1 => lc R2 fun d2 R3 => onV d2 fun v2 => isI .i64 v2 fun n1 => lc R3 fun d3 R4 => onV d3 fun v3 => g180_5 v3 R4 n1 p1 H1 c2 c3 c1 Kb1
theorem s180 (h161 : SN ads 161 c1) (h190 : SN ads 190 c2) (h217 : SN ads 217 c3) : SN ads 180 (g180 c1 c2 c3) :=
  mk_snd [(nn161, c1), (nn190, c2), (nn217, c3)] ⟨fun _ => [], fun n => match n with | 17 => some [(11, .bool)] | _ => none⟩ [.ptr, .int .i64, .int .i64, .bool] Tryz.func180 rfl (.cons h161 (.cons h190 (.cons h217 .nil)))
def G180 : G Unit := g180 G161 G190 G217
theorem S180 : SN ads 180 G180 := s180 _ _ _ S161 S190 S217

def g181_1 := jn (fun d2 H2 => jn (fun d3 H3 => jn (fun d4 H4 => pickK t1 (DV.v (AV.b true)) d4 fun d5 => onV d5 fun v1 => isB v1 fun t2 => br t2 (Kb1 (DV.v (AV.b true)) H4) (wrp .i64 (iadd n1 ii1) fun n3 => Kb2 (DV.v (AV.i .i64 n3)) H4)) fun Kb3 => br t1 (Kb3 DV.n H3) (c1 [d1, d2, d3] H3 fun d4 H4 => onV d4 fun v1 => isB v1 fun t2 => Kb3 (DV.v (AV.b t2)) H4)) fun Kb3 => br t1 (Kb3 DV.n H2) (Kb3 (DV.v (AV.i .i64 n1)) H2)) fun Kb3 => br t1 (Kb3 DV.n H1) (Kb3 (DV.v (AV.i .i64 n2)) H1)
def g181_2 := jn (fun d2 H2 => jn (fun d3 H3 => jn (fun d4 H4 => g181_1 d4 n1 n2 t1 H4 c1 Kb1 Kb2) fun Kb3 => br t1 (Kb3 DV.n H3) (onV d3 fun v1 => isP v1 fun p1 => onA p1 fun b1 m1 => rdK H3 b1 m1 fun v2 => isP v2 fun p2 => Kb3 (DV.v (AV.p p2)) H3)) fun Kb3 => br t1 (Kb3 DV.n H2) (onV d2 fun v1 => isP v1 fun p1 => onA p1 fun b1 m1 => Kb3 (DV.v (AV.p (AP.at b1 (Nat.add m1 nn311)))) H2)) fun Kb3 => br t1 (Kb3 DV.n H1) (onV d1 fun v1 => isP v1 fun p1 => onA p1 fun b1 m1 => Kb3 (DV.v (AV.p (AP.at b1 m1))) H1)
def g181_3 := c1 [(DV.v (AV.p p1))] H1 fun d1 H2 => onV d1 fun v1 => isS v1 fun s1 => lenA s1 fun m1 => jF [(11 , .int .i64)] (fun d2 H3 => onV d2 fun v2 => isI .i64 v2 fun n5 => frcB (ilt ii0 n5) fun t1 => jn (fun d3 H4 => g181_2 d3 n1 n2 t1 H4 c2 Kb1 Kb2) fun Kb3 => br t1 (Kb3 DV.n H3) (Kb3 (DV.v (AV.p p2)) H3)) fun Kb3 => frcB (ieq n1 n3) fun t1 => br t1 (wrp .i64 (isub (Int.ofNat m1) n4) fun n5 => Kb3 (DV.v (AV.i .i64 n5)) H2) (Kb3 (DV.v (AV.i .i64 (Int.ofNat m1))) H2)
def g181_4 := c1 [(DV.v (AV.p p1)), (DV.v (AV.i .i64 n1))] H1 fun d1 H2 => onV d1 fun v1 => isP v1 fun p2 => lpR (failF [(15 , .int .i64)]) (fun Kb2 => fun d2 H3 => onV d2 fun v2 => isI .i64 v2 fun n4 => frcB (ilt n4 ii8) fun t1 => br t1 (onA p2 fun b1 m1 => rng n4 nn8 <| rdK H3 b1 (Nat.add (Nat.add m1 nn6) (Nat.mul (itn n4) nn5)) fun v3 => isP v3 fun p3 => g181_3 n4 n1 n2 n3 p3 p1 H3 c2 c3 Kb1 Kb2) (Kb1 (DV.v (AV.b false)) H3)) (nat_lit 100000) (DV.v (AV.i .i64 ii0)) H2
/-- (*ap.AP).has -/
def g181 : G Unit := fun R1 H1 Kb1 => lc R1 fun d1 R2 => onV d1 fun v1 => isP v1 fun p1 => lc R2 fun d2 R3 => onV d2 fun v2 => isI .i64 v2 fun n1 => lc R3 fun d3 R4 => onV d3 fun v3 => isI .i64 v3 fun n2 => lc R4 fun d4 R5 => onV d4 fun v4 => isI .i64 v4 fun n3 => ln R5 <| g181_4 n1 n2 n3 p1 H1 c1 c2 c3 Kb1
theorem s181 (h59 : SN ads 59 c1) (h142 : SN ads 142 c2) (h253 : SN ads 253 c3) : SN ads 181 (g181 c1 c2 c3) :=
  mk_snd [(nn59, c1), (nn142, c2), (nn253, c3)] ⟨fun n => match n with | 0 => [(15, .int .i64)] | _ => [], fun n => match n with | 8 => some [(11, .int .i64)] | _ => none⟩ [.ptr, .int .i64, .int .i64, .int .i64] Tryz.func181 rfl (.cons h59 (.cons h142 (.cons h253 .nil)))
def G181 : G Unit := g181 G59 G142 G253
theorem S181 : SN ads 181 G181 := s181 _ _ _ S59 S142 S253

def g134_1 := jn (fun d3 H2 => jn (fun d4 H3 => pickK t1 (DV.v (AV.b true)) d4 fun d5 => onV d5 fun v1 => isB v1 fun t2 => br t2 (Kb1 (DV.v (AV.er (nat_lit 9))) H3) (onA p1 fun b1 m1 => wrK H3 b1 m1 (AV.i .i64 n1) fun H4 => Kb1 (DV.v AV.ni) H4)) fun Kb2 => br t1 (Kb2 DV.n H2) (onV d1 fun v1 => isB v1 fun t2 => pickK t2 d3 (DV.v (AV.b false)) fun d4 => onV d4 fun v2 => isB v2 fun t3 => Kb2 (DV.v (AV.b t3)) H2)) fun Kb2 => grd d1 true (onV d2 fun v1 => isI .i64 v1 fun n2 => frcB (ieq n2 ii1) fun t2 => Kb2 (DV.v (AV.b t2)) H1) (Kb2 DV.n H1)
def g134_2 := jn (fun d3 H2 => jn (fun d4 H3 => jn (fun d5 H4 => g134_1 d1 d5 n1 t1 p1 H4 Kb1) fun Kb2 => grd d1 true (onV d4 fun v1 => isP v1 fun p2 => onA p2 fun b1 m1 => rdK H3 b1 m1 fun v2 => isI .i64 v2 fun n2 => Kb2 (DV.v (AV.i .i64 n2)) H3) (Kb2 DV.n H3)) fun Kb2 => grd d1 true (onV d3 fun v1 => isP v1 fun p2 => onA p2 fun b1 m1 => Kb2 (DV.v (AV.p (AP.at b1 m1))) H2) (Kb2 DV.n H2)) fun Kb2 => grd d1 true (onV d2 fun v1 => isP v1 fun p2 => onA p2 fun b1 m1 => Kb2 (DV.v (AV.p (AP.at b1 m1))) H1) (Kb2 DV.n H1)
def g134_3 := onV d1 fun v1 => isB v1 fun t1 => jn (fun d2 H2 => jn (fun d3 H3 => jn (fun d4 H4 => jn (fun d5 H5 => g134_2 d4 d5 n1 t1 p1 H5 Kb1) fun Kb2 => grd d4 true (Kb2 (DV.v (AV.p p1)) H4) (Kb2 DV.n H4)) fun Kb2 => br t1 (Kb2 DV.n H3) (Kb2 d3 H3)) fun Kb2 => br t1 (Kb2 DV.n H2) (onV d2 fun v2 => isI .i64 v2 fun n2 => frcB (ieq n2 ii3) fun t2 => Kb2 (DV.v (AV.b t2)) H2)) fun Kb2 => br t1 (Kb2 DV.n H1) (Kb2 (DV.v (AV.i .i64 n1)) H1)
def g134_4 := onV d1 fun v1 => isB v1 fun t1 => br t1 (Kb1 (DV.v (AV.er (nat_lit 2))) H1) (c1 [(DV.v (AV.p p1))] H1 fun d2 H2 => onV d2 fun v2 => isB v2 fun t2 => jn (fun d3 H3 => jn (fun d4 H4 => pickK t2 (DV.v (AV.b true)) d4 fun d5 => g134_3 d5 n1 p1 H4 Kb1) fun Kb2 => br t2 (Kb2 DV.n H3) (onV d3 fun v3 => isI .i64 v3 fun n2 => frcB (ieq n2 ii1) fun t3 => Kb2 (DV.v (AV.b t3)) H3)) fun Kb2 => br t2 (Kb2 DV.n H2) (Kb2 (DV.v (AV.i .i64 n1)) H2))
def g134_5 := onV d1 fun v1 => onN d2 <| ifA true true v1 AV.ni fun t1 => frcB (bnot t1) fun t2 => br t2 (Kb1 (DV.v v1) H1) (frcB (ilt n1 ii1) fun t3 => jn (fun d3 H2 => jn (fun d4 H3 => pickK t3 (DV.v (AV.b true)) d4 fun d5 => g134_4 d5 n1 p1 H3 c1 Kb1) fun Kb2 => br t3 (Kb2 DV.n H2) (onV d3 fun v2 => isI .i64 v2 fun n2 => frcB (ilt ii3 n2) fun t4 => Kb2 (DV.v (AV.b t4)) H2)) fun Kb2 => br t3 (Kb2 DV.n H1) (Kb2 (DV.v (AV.i .i64 n1)) H1))
/-- (*count.Book).Move -/
def g134 : G Unit := fun R1 H1 Kb1 => lc R1 fun d1 R2 => onV d1 fun v1 => isP v1 fun p1 => lc R2 fun d2 R3 => onV d2 fun v2 => isI .i64 v2 fun n1 => lc R3 fun d3 R4 => onV d3 fun v3 => isI .i64 v3 fun n2 => ln R4 <| c1 [(DV.v (AV.p p1)), (DV.v (AV.i .i64 n1))] H1 fun d4 H2 => onC d4 fun d5 d6 => onV d5 fun v4 => isP v4 fun p2 => onC d6 fun d7 d8 => g134_5 d7 d8 n2 p2 H2 c2 Kb1
theorem s134 (h86 : SN ads 86 c1) (h228 : SN ads 228 c2) : SN ads 134 (g134 c1 c2) :=
  mk_snd [(nn86, c1), (nn228, c2)] ⟨fun _ => [], fun _ => none⟩ [.ptr, .int .i64, .int .i64] Tryz.func134 rfl (.cons h86 (.cons h228 .nil))
def G134 : G Unit := g134 G86 G228
theorem S134 : SN ads 134 G134 := s134 _ _ S86 S228

/-- slices.Clone[[]api.Packet,api.Packet] -/
def g333 : G Unit := fun R1 H1 Kb1 => lc R1 fun d1 R2 => onV d1 fun v1 => isS v1 fun s1 => ln R2 <| frcB (isNilS s1) fun t1 => br t1 (Kb1 (DV.v (AV.s AS.nil)) H1) (alK H1 [] fun b1 H2 => appD nn5 nn56 (AS.sl b1 nn0 nn0 nn0) s1 H2 fun s2 H3 => Kb1 (DV.v (AV.s s2)) H3)
theorem s333 : SN ads 333 (g333) :=
  mk_snd [] ⟨fun _ => [], fun _ => none⟩ [.slice] Tryz.func333 rfl .nil
def G333 : G Unit := g333
theorem S333 : SN ads 333 G333 := s333

def g328_1 := wrK H1 b1 (Nat.add m1 nn133) (AV.i .i64 n1) fun H2 => onA p1 fun b4 m2 => rdK H2 b4 (Nat.add m2 nn134) fun v1 => isI .i64 v1 fun n2 => rdK H2 b2 nn4 fun v2 => isS v2 fun s1 => lenA s1 fun m3 => wrp .i64 (isub n2 (Int.ofNat m3)) fun n3 => onA p1 fun b5 m4 => wrK H2 b5 (Nat.add m4 nn134) (AV.i .i64 n3) fun H3 => rdR H3 b2 nn0 nn5 fun l1 => must (Nat.beq (llen l1) nn5) <| wrL H3 b3 nn0 l1 fun H4 => rdR H4 b3 nn0 nn5 fun l2 => Kb1 (DV.a l2) H4
def g328_2 := rdK H1 b1 (Nat.add (Nat.add (Nat.add m1 nn3) (Nat.mul (itn n1) nn8)) nn1) fun v1 => isI .i64 v1 fun n2 => rdK H1 b2 nn4 fun v2 => isS v2 fun s1 => lenA s1 fun m2 => wrp .i64 (isub n2 (Int.ofNat m2)) fun n3 => wrK H1 b1 (Nat.add (Nat.add (Nat.add m1 nn3) (Nat.mul (itn n1) nn8)) nn1) (AV.i .i64 n3) fun H2 => onA p1 fun b4 m3 => rdK H2 b4 (Nat.add m3 nn133) fun v3 => isI .i64 v3 fun n4 => wrp .i64 (isub n4 ii1) fun n5 => onA p1 fun b5 m4 => g328_1 n5 m4 p1 b5 b2 b3 H2 Kb1
def g328_3 := alF H1 z6 nn5 fun b3 H2 => must (Nat.beq (llen l1) nn5) <| wrL H2 b3 nn0 l1 fun H3 => rdK H3 b1 (Nat.add (Nat.add m1 nn3) (Nat.mul (itn n1) nn8)) fun v1 => isS v1 fun s1 => lenA s1 fun m2 => slA s1 nn1 m2 (fun x => Nat.mul x nn5) fun s2 => c1 [(DV.v (AV.s s2))] H3 fun d1 H4 => onV d1 fun v2 => isS v2 fun s3 => wrK H4 b1 (Nat.add (Nat.add m1 nn3) (Nat.mul (itn n1) nn8)) (AV.s s3) fun H5 => g328_2 n1 m1 p1 b1 b3 b2 H5 Kb1
/-- (*fq.Queue).shift -/
def g328 : G Unit := fun R1 H1 Kb1 => lc R1 fun d1 R2 => onV d1 fun v1 => isP v1 fun p1 => lc R2 fun d2 R3 => onV d2 fun v2 => isI .i64 v2 fun n1 => ln R3 <| alF H1 z6 nn5 fun b1 H2 => onA p1 fun b2 m1 => rng n1 nn16 <| rdK H2 b2 (Nat.add (Nat.add m1 nn3) (Nat.mul (itn n1) nn8)) fun v3 => isS v3 fun s1 => ixA s1 ii0 (fun x => Nat.mul x nn5) fun b3 m2 => rdR H2 b3 m2 nn5 fun l1 => g328_3 l1 n1 m1 p1 b2 b1 H2 c1 Kb1
theorem s328 (h333 : SN ads 333 c1) : SN ads 328 (g328 c1) :=
  mk_snd [(nn333, c1)] ⟨fun _ => [], fun _ => none⟩ [.ptr, .int .i64] Tryz.func328 rfl (.cons h333 .nil)
def G328 : G Unit := g328 G333
theorem S328 : SN ads 328 G328 := s328 _ S333

def g338_1 := br t1 (onA p1 fun b1 m1 => rdK H1 b1 (Nat.add m1 nn5) fun v1 => isI .i64 v1 fun n1 => onA p1 fun b2 m2 => rdK H1 b2 (Nat.add m2 nn7) fun v2 => isI .i64 v2 fun n2 => wrp .i64 (iadd n1 n2) fun n3 => onA p1 fun b3 m3 => wrK H1 b3 m3 (AV.i .i64 n3) fun H2 => Kb1 (DV.c (DV.v (AV.b true)) (DV.c (DV.v (AV.b false)) DV.n)) H2) (onA p1 fun b1 m1 => rdK H1 b1 (Nat.add m1 nn5) fun v1 => isI .i64 v1 fun n1 => onA p1 fun b2 m2 => rdK H1 b2 m2 fun v2 => isI .i64 v2 fun n2 => frcB (ile n2 n1) fun t2 => Kb1 (DV.c (DV.v (AV.b true)) (DV.c (DV.v (AV.b t2)) DV.n)) H1)
def g338_2 := onA p1 fun b2 m1 => rdK H1 b2 (Nat.add m1 nn5) fun v1 => isI .i64 v1 fun n1 => rdK H1 b1 nn0 fun v2 => isI .i64 v2 fun n2 => wrp .i64 (isub n1 n2) fun n3 => onA p1 fun b3 m2 => rdK H1 b3 (Nat.add m2 nn6) fun v3 => isI .i64 v3 fun n4 => frcB (ilt n3 n4) fun t1 => br t1 (Kb1 (DV.v (AV.b true)) H1) (onA p1 fun b4 m3 => rdK H1 b4 (Nat.add m3 nn8) fun v4 => isI .i64 v4 fun n5 => frcB (ile n5 ii1514) fun t2 => Kb1 (DV.v (AV.b t2)) H1)
def g338_3 := onA p1 fun b2 m1 => wrK H1 b2 (Nat.add m1 nn8) (AV.i .i64 n1) fun H2 => jF [(39 , .bool)] (fun d1 H3 => onV d1 fun v1 => isB v1 fun t1 => br t1 (onA p1 fun b3 m2 => wrK H3 b3 m2 (AV.i .i64 ii0) fun H4 => Kb1 (DV.c (DV.v (AV.b true)) (DV.c (DV.v (AV.b false)) DV.n)) H4) (onA p1 fun b3 m2 => rdK H3 b3 m2 fun v2 => isI .i64 v2 fun n2 => frcB (ieq n2 ii0) fun t2 => g338_1 t2 p1 H3 Kb1)) fun Kb2 => g338_2 p1 b1 H2 Kb2
def g338_4 := isI .i64 v1 fun n1 => ixA s1 n1 (fun x => Nat.mul x nn2) fun b1 m1 => rdR H1 b1 m1 nn2 fun l1 => alF H1 [(AV.i .i64 ii0), (AV.i .i64 ii0)] nn2 fun b2 H2 => must (Nat.beq (llen l1) nn2) <| wrL H2 b2 nn0 l1 fun H3 => onA p1 fun b3 m2 => rdK H3 b3 (Nat.add m2 nn8) fun v2 => isI .i64 v2 fun n2 => rdK H3 b2 nn1 fun v3 => isI .i64 v3 fun n3 => asI (imax n3 ii0) fun n4 => wrp .i64 (isub n2 n4) fun n5 => g338_3 n5 p1 b2 H3 Kb1
def g338_5 := isI .i64 v1 fun n1 => onA p1 fun b1 m1 => rdK H1 b1 (Nat.add m1 nn9) fun v2 => isS v2 fun s1 => lenA s1 fun m2 => frcB (ile (Int.ofNat m2) n1) fun t1 => br t1 (onA p1 fun b2 m3 => wrK H1 b2 m3 (AV.i .i64 ii0) fun H2 => Kb1 (DV.c (DV.v (AV.b false)) (DV.c (DV.v (AV.b false)) DV.n)) H2) (onA p1 fun b2 m3 => rdK H1 b2 (Nat.add m3 nn9) fun v3 => isS v3 fun s2 => onA p1 fun b3 m4 => rdK H1 b3 (Nat.add m4 nn10) fun v4 => g338_4 v4 p1 s2 H1 Kb1)
/-- (*codel.state).look -/
def g338 : G Unit := fun R1 H1 Kb1 => lc R1 fun d1 R2 => onV d1 fun v1 => isP v1 fun p1 => ln R2 <| onA p1 fun b1 m1 => rdK H1 b1 (Nat.add m1 nn10) fun v2 => g338_5 v2 p1 H1 Kb1
theorem s338 : SN ads 338 (g338) :=
  mk_snd [] ⟨fun _ => [], fun n => match n with | 7 => some [(39, .bool)] | _ => none⟩ [.ptr] Tryz.func338 rfl .nil
def G338 : G Unit := g338
theorem S338 : SN ads 338 G338 := s338

def g346_1 := jF [(0 , .int .u64), (2 , .int .i64)] (fun d1 d2 H2 => onV d1 fun v1 => isI .u64 v1 fun n3 => onV d2 fun v2 => isI .i64 v2 fun n4 => wrp .u8 n3 fun n5 => rng n5 (ByteArray.size ⟨#[0, 1, 2, 2, 3, 3, 3, 3, 4, 4, 4, 4, 4, 4, 4, 4, 5, 5, 5, 5, 5, 5, 5, 5, 5, 5, 5, 5, 5, 5, 5, 5, 6, 6, 6, 6, 6, 6, 6, 6, 6, 6, 6, 6, 6, 6, 6, 6, 6, 6, 6, 6, 6, 6, 6, 6, 6, 6, 6, 6, 6, 6, 6, 6, 7, 7, 7, 7, 7, 7, 7, 7, 7, 7, 7, 7, 7, 7, 7, 7, 7, 7, 7, 7, 7, 7, 7, 7, 7, 7, 7, 7, 7, 7, 7, 7, 7, 7, 7, 7, 7, 7, 7, 7, 7, 7, 7, 7, 7, 7, 7, 7, 7, 7, 7, 7, 7, 7, 7, 7, 7, 7, 7, 7, 7, 7, 7, 7, 8, 8, 8, 8, 8, 8, 8, 8, 8, 8, 8, 8, 8, 8, 8, 8, 8, 8, 8, 8, 8, 8, 8, 8, 8, 8, 8, 8, 8, 8, 8, 8, 8, 8, 8, 8, 8, 8, 8, 8, 8, 8, 8, 8, 8, 8, 8, 8, 8, 8, 8, 8, 8, 8, 8, 8, 8, 8, 8, 8, 8, 8, 8, 8, 8, 8, 8, 8, 8, 8, 8, 8, 8, 8, 8, 8, 8, 8, 8, 8, 8, 8, 8, 8, 8, 8, 8, 8, 8, 8, 8, 8, 8, 8, 8, 8, 8, 8, 8, 8, 8, 8, 8, 8, 8, 8, 8, 8, 8, 8, 8, 8, 8, 8, 8, 8, 8, 8, 8, 8, 8, 8, 8, 8, 8, 8, 8, 8]⟩) <| asI (strAt ⟨#[0, 1, 2, 2, 3, 3, 3, 3, 4, 4, 4, 4, 4, 4, 4, 4, 5, 5, 5, 5, 5, 5, 5, 5, 5, 5, 5, 5, 5, 5, 5, 5, 6, 6, 6, 6, 6, 6, 6, 6, 6, 6, 6, 6, 6, 6, 6, 6, 6, 6, 6, 6, 6, 6, 6, 6, 6, 6, 6, 6, 6, 6, 6, 6, 7, 7, 7, 7, 7, 7, 7, 7, 7, 7, 7, 7, 7, 7, 7, 7, 7, 7, 7, 7, 7, 7, 7, 7, 7, 7, 7, 7, 7, 7, 7, 7, 7, 7, 7, 7, 7, 7, 7, 7, 7, 7, 7, 7, 7, 7, 7, 7, 7, 7, 7, 7, 7, 7, 7, 7, 7, 7, 7, 7, 7, 7, 7, 7, 8, 8, 8, 8, 8, 8, 8, 8, 8, 8, 8, 8, 8, 8, 8, 8, 8, 8, 8, 8, 8, 8, 8, 8, 8, 8, 8, 8, 8, 8, 8, 8, 8, 8, 8, 8, 8, 8, 8, 8, 8, 8, 8, 8, 8, 8, 8, 8, 8, 8, 8, 8, 8, 8, 8, 8, 8, 8, 8, 8, 8, 8, 8, 8, 8, 8, 8, 8, 8, 8, 8, 8, 8, 8, 8, 8, 8, 8, 8, 8, 8, 8, 8, 8, 8, 8, 8, 8, 8, 8, 8, 8, 8, 8, 8, 8, 8, 8, 8, 8, 8, 8, 8, 8, 8, 8, 8, 8, 8, 8, 8, 8, 8, 8, 8, 8, 8, 8, 8, 8, 8, 8, 8, 8, 8, 8, 8, 8]⟩ (itn n5)) fun n6 => wrp .i64 n6 fun n7 => wrp .i64 (iadd n4 n7) fun n8 => Kb1 (DV.v (AV.i .i64 n8)) H2) fun Kc1 => frcB (ile ii256 n1) fun t1 => br t1 (asI (idiv n1 (ip2 ii8)) fun n3 => wrp .i64 (iadd n2 ii8) fun n4 => Kc1 (DV.v (AV.i .u64 n3)) (DV.v (AV.i .i64 n4)) H1) (Kc1 (DV.v (AV.i .u64 n1)) (DV.v (AV.i .i64 n2)) H1)
def g346_2 := isI .u64 v1 fun n1 => onV d1 fun v2 => isI .i64 v2 fun n2 => jF [(0 , .int .u64), (2 , .int .i64)] (fun d2 d3 H2 => onV d2 fun v3 => isI .u64 v3 fun n3 => onV d3 fun v4 => isI .i64 v4 fun n4 => g346_1 n3 n4 H2 Kb1) fun Kc1 => frcB (ile ii65536 n1) fun t1 => br t1 (asI (idiv n1 (ip2 ii16)) fun n3 => wrp .i64 (iadd n2 ii16) fun n4 => Kc1 (DV.v (AV.i .u64 n3)) (DV.v (AV.i .i64 n4)) H1) (Kc1 (DV.v (AV.i .u64 n1)) (DV.v (AV.i .i64 n2)) H1)
/-- math/bits.Len64 -/
def g346 : G Unit := fun R1 H1 Kb1 => lc R1 fun d1 R2 => onV d1 fun v1 => isI .u64 v1 fun n1 => ln R2 <| jF [(0 , .int .u64), (2 , .int .i64)] (fun d2 d3 H2 => onV d2 fun v2 => g346_2 v2 d3 H2 Kb1) fun Kc1 => frcB (ile ii4294967296 n1) fun t1 => br t1 (asI (idiv n1 (ip2 ii32)) fun n2 => Kc1 (DV.v (AV.i .u64 n2)) (DV.v (AV.i .i64 ii32)) H1) (Kc1 (DV.v (AV.i .u64 n1)) (DV.v (AV.i .i64 ii0)) H1)
theorem s346 : SN ads 346 (g346) :=
  mk_snd [] ⟨fun _ => [], fun n => match n with | 4 => some [(0, .int .u64), (2, .int .i64)] | 7 => some [(0, .int .u64), (2, .int .i64)] | 10 => some [(0, .int .u64), (2, .int .i64)] | _ => none⟩ [.int .u64] Tryz.func346 rfl .nil
def G346 : G Unit := g346
theorem S346 : SN ads 346 G346 := s346

/-- math/bits.LeadingZeros64 -/
def g345 : G Unit := fun R1 H1 Kb1 => lc R1 fun d1 R2 => onV d1 fun v1 => isI .u64 v1 fun n1 => ln R2 <| c1 [(DV.v (AV.i .u64 n1))] H1 fun d2 H2 => onV d2 fun v2 => isI .i64 v2 fun n2 => wrp .i64 (isub ii64 n2) fun n3 => Kb1 (DV.v (AV.i .i64 n3)) H2
theorem s345 (h346 : SN ads 346 c1) : SN ads 345 (g345 c1) :=
  mk_snd [(nn346, c1)] ⟨fun _ => [], fun _ => none⟩ [.int .u64] Tryz.func345 rfl (.cons h346 .nil)
def G345 : G Unit := g345 G346
theorem S345 : SN ads 345 G345 := s345 _ S346

def g343_1 := jn (fun d3 H2 => pickK t1 (DV.v (AV.b true)) d3 fun d4 => onV d4 fun v1 => isB v1 fun t2 => br t2 (wrp .u64 (isub n1 ii1) fun n4 => wrp .u64 (iadd n2 n3) fun n5 => frcB (ile ii4294967296 n5) fun t3 => br t3 (Kb1 (DV.v (AV.i .u64 n4)) H2) (Kc1 (DV.v (AV.i .u64 n5)) (DV.v (AV.i .u64 n4)) H2)) (Kb1 (DV.v (AV.i .u64 n1)) H2)) fun Kb2 => br t1 (Kb2 DV.n H1) (onV d1 fun v1 => onV d2 fun v2 => isI .u64 v1 fun n4 => isI .u64 v2 fun n5 => frcB (ilt n5 n4) fun t2 => Kb2 (DV.v (AV.b t2)) H1)
def g343_2 := jn (fun d3 H2 => jn (fun d4 H3 => jn (fun d5 H4 => g343_1 d1 d5 n1 n2 n3 t1 H4 Kb1 Kc1) fun Kb2 => br t1 (Kb2 DV.n H3) (onV d3 fun v1 => onV d4 fun v2 => isI .u64 v1 fun n5 => isI .u64 v2 fun n6 => wrp .u64 (iadd n5 n6) fun n7 => Kb2 (DV.v (AV.i .u64 n7)) H3)) fun Kb2 => br t1 (Kb2 DV.n H2) (Kb2 (DV.v (AV.i .u64 n4)) H2)) fun Kb2 => br t1 (Kb2 DV.n H1) (onV d2 fun v1 => isI .u64 v1 fun n5 => wrp .u64 (imul ii4294967296 n5) fun n6 => Kb2 (DV.v (AV.i .u64 n6)) H1)
def g343_3 := jn (fun d1 H2 => jn (fun d2 H3 => jn (fun d3 H4 => jn (fun d4 H5 => g343_2 d3 d4 n1 n2 n3 n4 t1 H5 Kb1 Kc1) fun Kb2 => br t1 (Kb2 DV.n H4) (Kb2 (DV.v (AV.i .u64 n2)) H4)) fun Kb2 => br t1 (Kb2 DV.n H3) (onV d1 fun v1 => onV d2 fun v2 => isI .u64 v1 fun n6 => isI .u64 v2 fun n7 => wrp .u64 (imul n6 n7) fun n8 => Kb2 (DV.v (AV.i .u64 n8)) H3)) fun Kb2 => br t1 (Kb2 DV.n H2) (Kb2 (DV.v (AV.i .u64 n5)) H2)) fun Kb2 => br t1 (Kb2 DV.n H1) (Kb2 (DV.v (AV.i .u64 n1)) H1)
def g343_4 := jF [(18 , .int .u64)] (fun d1 H2 => onV d1 fun v1 => isI .u64 v1 fun n10 => wrp .u64 (imul n1 ii4294967296) fun n11 => wrp .u64 (iadd n11 n10) fun n12 => wrp .u64 (imul n2 ii4294967296) fun n13 => wrp .u64 (iadd n13 n3) fun n14 => wrp .u64 (imul n10 n4) fun n15 => wrp .u64 (isub n14 n15) fun n16 => must (ile ii0 n5) <| must (ile n5 ii64) <| asI (idiv n16 (ip2 n5)) fun n17 => Kb1 (DV.c (DV.v (AV.i .u64 n12)) (DV.c (DV.v (AV.i .u64 n17)) DV.n)) H2) fun Kb2 => lpR (failF [(16 , .int .u64), (18 , .int .u64)]) (fun Kc1 => fun d1 d2 H2 => onV d1 fun v1 => isI .u64 v1 fun n10 => onV d2 fun v2 => isI .u64 v2 fun n11 => frcB (ile ii4294967296 n11) fun t1 => g343_3 n11 n10 n6 n3 n7 t1 H2 Kb2 Kc1) (nat_lit 100000) (DV.v (AV.i .u64 n8)) (DV.v (AV.i .u64 n9)) H1
def g343_5 := jn (fun d3 H2 => pickK t1 (DV.v (AV.b true)) d3 fun d4 => onV d4 fun v1 => isB v1 fun t2 => br t2 (wrp .u64 (isub n1 ii1) fun n4 => wrp .u64 (iadd n2 n3) fun n5 => frcB (ile ii4294967296 n5) fun t3 => br t3 (Kb1 (DV.v (AV.i .u64 n4)) H2) (Kc1 (DV.v (AV.i .u64 n4)) (DV.v (AV.i .u64 n5)) H2)) (Kb1 (DV.v (AV.i .u64 n1)) H2)) fun Kb2 => br t1 (Kb2 DV.n H1) (onV d1 fun v1 => onV d2 fun v2 => isI .u64 v1 fun n4 => isI .u64 v2 fun n5 => frcB (ilt n5 n4) fun t2 => Kb2 (DV.v (AV.b t2)) H1)
def g343_6 := jn (fun d3 H2 => jn (fun d4 H3 => jn (fun d5 H4 => g343_5 d1 d5 n1 n2 n3 t1 H4 Kb1 Kc1) fun Kb2 => br t1 (Kb2 DV.n H3) (onV d3 fun v1 => onV d4 fun v2 => isI .u64 v1 fun n5 => isI .u64 v2 fun n6 => wrp .u64 (iadd n5 n6) fun n7 => Kb2 (DV.v (AV.i .u64 n7)) H3)) fun Kb2 => br t1 (Kb2 DV.n H2) (Kb2 (DV.v (AV.i .u64 n4)) H2)) fun Kb2 => br t1 (Kb2 DV.n H1) (onV d2 fun v1 => isI .u64 v1 fun n5 => wrp .u64 (imul ii4294967296 n5) fun n6 => Kb2 (DV.v (AV.i .u64 n6)) H1)
def g343_7 := jn (fun d1 H2 => jn (fun d2 H3 => jn (fun d3 H4 => jn (fun d4 H5 => g343_6 d3 d4 n1 n2 n3 n4 t1 H5 Kb1 Kc1) fun Kb2 => br t1 (Kb2 DV.n H4) (Kb2 (DV.v (AV.i .u64 n2)) H4)) fun Kb2 => br t1 (Kb2 DV.n H3) (onV d1 fun v1 => onV d2 fun v2 => isI .u64 v1 fun n6 => isI .u64 v2 fun n7 => wrp .u64 (imul n6 n7) fun n8 => Kb2 (DV.v (AV.i .u64 n8)) H3)) fun Kb2 => br t1 (Kb2 DV.n H2) (Kb2 (DV.v (AV.i .u64 n5)) H2)) fun Kb2 => br t1 (Kb2 DV.n H1) (Kb2 (DV.v (AV.i .u64 n1)) H1)
def g343_8 := jF [(15 , .int .u64)] (fun d1 H2 => onV d1 fun v1 => isI .u64 v1 fun n10 => wrp .u64 (imul n1 ii4294967296) fun n11 => wrp .u64 (iadd n11 n2) fun n12 => wrp .u64 (imul n10 n3) fun n13 => wrp .u64 (isub n12 n13) fun n14 => must (bnot (ieq n4 ii0)) <| wrp .u64 (iquo n14 n4) fun n15 => wrp .u64 (imul n15 n4) fun n16 => wrp .u64 (isub n14 n16) fun n17 => g343_4 n10 n14 n5 n3 n6 n4 n7 n17 n15 H2 Kb1) fun Kb2 => lpR (failF [(15 , .int .u64), (16 , .int .u64)]) (fun Kc1 => fun d1 d2 H2 => onV d1 fun v1 => isI .u64 v1 fun n10 => onV d2 fun v2 => isI .u64 v2 fun n11 => frcB (ile ii4294967296 n10) fun t1 => g343_7 n10 n11 n4 n2 n7 t1 H2 Kb2 Kc1) (nat_lit 100000) (DV.v (AV.i .u64 n8)) (DV.v (AV.i .u64 n9)) H1
def g343_9 := must (ile ii0 n1) <| must (ile n1 ii64) <| asI (idiv n2 (ip2 n1)) fun n8 => asI (bits .or .u64 n3 n8) fun n9 => must (ile ii0 n4) <| must (ile n4 ii64) <| wrp .u64 (imul n2 (ip2 n4)) fun n10 => asI (idiv n10 (ip2 ii32)) fun n11 => asI (bits .and .u64 n10 ii4294967295) fun n12 => must (bnot (ieq n5 ii0)) <| wrp .u64 (iquo n9 n5) fun n13 => wrp .u64 (imul n13 n5) fun n14 => wrp .u64 (isub n9 n14) fun n15 => g343_8 n9 n11 n6 n5 n12 n4 n7 n13 n15 H1 Kb1
def g343_10 := br t1 (must (bnot (ieq n1 ii0)) <| wrp .u64 (iquo n2 n1) fun n4 => must (bnot (ieq n1 ii0)) <| asI (irem n2 n1) fun n5 => Kb1 (DV.c (DV.v (AV.i .u64 n4)) (DV.c (DV.v (AV.i .u64 n5)) DV.n)) H1) (c1 [(DV.v (AV.i .u64 n1))] H1 fun d1 H2 => onV d1 fun v1 => isI .i64 v1 fun n4 => wrp .u64 n4 fun n5 => must (ile ii0 n5) <| must (ile n5 ii64) <| wrp .u64 (imul n1 (ip2 n5)) fun n6 => asI (idiv n6 (ip2 ii32)) fun n7 => asI (bits .and .u64 n6 ii4294967295) fun n8 => must (ile ii0 n5) <| must (ile n5 ii64) <| wrp .u64 (imul n3 (ip2 n5)) fun n9 => wrp .u64 (isub ii64 n5) fun n10 => g343_9 n10 n2 n9 n5 n7 n6 n8 H2 Kb1)
/-- math/bits.Div64 -/
def g343 : G Unit := fun R1 H1 Kb1 => lc R1 fun d1 R2 => onV d1 fun v1 => isI .u64 v1 fun n1 => lc R2 fun d2 R3 => onV d2 fun v2 => isI .u64 v2 fun n2 => lc R3 fun d3 R4 => onV d3 fun v3 => isI .u64 v3 fun n3 => ln R4 <| jF [] (fun H2 => jF [] (fun H3 => frcB (ieq n1 ii0) fun t1 => g343_10 n3 n2 n1 t1 H3 c1 Kb1) fun Ka1 => frcB (ile n3 n1) fun t1 => br t1 (none) (Ka1 H2)) fun Ka1 => frcB (ieq n3 ii0) fun t1 => br t1 (none) (Ka1 H1)
theorem s343 (h345 : SN ads 345 c1) : SN ads 343 (g343 c1) :=
  mk_snd [(nn345, c1)] ⟨fun n => match n with | 0 => [(15, .int .u64), (16, .int .u64)] | 2 => [(16, .int .u64), (18, .int .u64)] | _ => [], fun n => match n with | 3 => some [] | 5 => some [] | 21 => some [(15, .int .u64)] | 28 => some [(18, .int .u64)] | _ => none⟩ [.int .u64, .int .u64, .int .u64] Tryz.func343 rfl (.cons h345 .nil)
def G343 : G Unit := g343 G345
theorem S343 : SN ads 343 G343 := s343 _ S345

def g344_1 := frcB (ilt ii0 n1) fun t1 => br t1 (jF [(3 , .int .u64)] (fun d1 H2 => onV d1 fun v1 => isI .u64 v1 fun n4 => must (bnot (ieq ii2 ii0)) <| wrp .u64 (iquo n1 ii2) fun n5 => Kc1 (DV.v (AV.i .u64 n4)) (DV.v (AV.i .u64 n5)) H2) fun Kb2 => wrp .u64 (iadd n2 n1) fun n4 => wrp .u64 (imul n4 n4) fun n5 => frcB (ile n5 n3) fun t2 => br t2 (Kb2 (DV.v (AV.i .u64 n4)) H1) (Kb2 (DV.v (AV.i .u64 n2)) H1)) (Kb1 (DV.v (AV.i .u64 n2)) H1)
/-- inv.Root -/
def g344 : G Unit := fun R1 H1 Kb1 => lc R1 fun d1 R2 => onV d1 fun v1 => isI .u64 v1 fun n1 => ln R2 <| lpR (failF [(3 , .int .u64), (4 , .int .u64)]) (fun Kc1 => fun d2 d3 H2 => onV d2 fun v2 => isI .u64 v2 fun n2 => onV d3 fun v3 => isI .u64 v3 fun n3 => g344_1 n3 n2 n1 H2 Kb1 Kc1) (nat_lit 100000) (DV.v (AV.i .u64 ii0)) (DV.v (AV.i .u64 ii2147483648)) H1
theorem s344 : SN ads 344 (g344) :=
  mk_snd [] ⟨fun n => match n with | 0 => [(3, .int .u64), (4, .int .u64)] | _ => [], fun n => match n with | 4 => some [(3, .int .u64)] | _ => none⟩ [.int .u64] Tryz.func344 rfl .nil
def G344 : G Unit := g344
theorem S344 : SN ads 344 G344 := s344

def g342_1 := ln R1 <| frcB (ile n1 ii1) fun t1 => br t1 (Kb1 (DV.v (AV.i .u64 ii4294967296)) H1) (wrp .u64 n1 fun n2 => c1 [(DV.v (AV.i .u64 ii1)), (DV.v (AV.i .u64 ii0)), (DV.v (AV.i .u64 n2))] H1 fun d1 H2 => onC d1 fun d2 d3 => onV d2 fun v1 => isI .u64 v1 fun n3 => onC d3 fun d4 d5 => onV d4 fun v2 => isI .u64 v2 fun n4 => onN d5 <| c2 [(DV.v (AV.i .u64 n3))] H2 fun d6 H3 => onV d6 fun v3 => isI .u64 v3 fun n5 => Kb1 (DV.v (AV.i .u64 n5)) H3)
/-- inv.Inv -/
def g342 : G Unit := fun R1 H1 Kb1 => lc R1 fun d1 R2 => onV d1 fun v1 => isI .u32 v1 fun n1 => g342_1 R2 n1 H1 c1 c2 Kb1
theorem s342 (h343 : SN ads 343 c1) (h344 : SN ads 344 c2) : SN ads 342 (g342 c1 c2) :=
  mk_snd [(nn343, c1), (nn344, c2)] ⟨fun _ => [], fun _ => none⟩ [.int .u32] Tryz.func342 rfl (.cons h343 (.cons h344 .nil))
def G342 : G Unit := g342 G343 G344
theorem S342 : SN ads 342 G342 := s342 _ _ S343 S344

def g341_1 := lc R1 fun d1 R2 => onV d1 fun v1 => isI .u32 v1 fun n3 => ln R2 <| asI (imax n1 ii0) fun n4 => asI (imin n4 ii1125899906842624) fun n5 => asI (imax n2 ii0) fun n6 => asI (imin n6 ii1073741824) fun n7 => wrp .u64 n7 fun n8 => c1 [(DV.v (AV.i .u32 n3))] H1 fun d2 H2 => onV d2 fun v2 => isI .u64 v2 fun n9 => wrp .u64 (imul n8 n9) fun n10 => asI (idiv n10 (ip2 ii32)) fun n11 => wrp .i64 n11 fun n12 => wrp .i64 (iadd n5 n12) fun n13 => Kb1 (DV.v (AV.i .i64 n13)) H2
/-- inv.Next -/
def g341 : G Unit := fun R1 H1 Kb1 => lc R1 fun d1 R2 => onV d1 fun v1 => isI .i64 v1 fun n1 => lc R2 fun d2 R3 => onV d2 fun v2 => isI .i64 v2 fun n2 => g341_1 R3 n1 n2 H1 c1 Kb1
theorem s341 (h342 : SN ads 342 c1) : SN ads 341 (g341 c1) :=
  mk_snd [(nn342, c1)] ⟨fun _ => [], fun _ => none⟩ [.int .i64, .int .i64, .int .u32] Tryz.func341 rfl (.cons h342 .nil)
def G341 : G Unit := g341 G342
theorem S341 : SN ads 341 G341 := s341 _ S342

def g339_1 := rdK H1 b1 (Nat.add m1 nn1) fun v1 => isI .i64 v1 fun n1 => onA p1 fun b2 m2 => rdK H1 b2 (Nat.add m2 nn7) fun v2 => isI .i64 v2 fun n2 => onA p1 fun b3 m3 => rdK H1 b3 (Nat.add m3 nn2) fun v3 => isI .u32 v3 fun n3 => c1 [(DV.v (AV.i .i64 n1)), (DV.v (AV.i .i64 n2)), (DV.v (AV.i .u32 n3))] H1 fun d1 H2 => onV d1 fun v4 => isI .i64 v4 fun n4 => onA p1 fun b4 m4 => wrK H2 b4 (Nat.add m4 nn1) (AV.i .i64 n4) fun H3 => Kb1 (DV.v (AV.b t1)) H3
def g339_2 := jn (fun d1 H2 => jn (fun d2 H3 => pickK t1 (DV.v (AV.b true)) d2 fun d3 => onV d3 fun v1 => isB v1 fun t4 => br t4 (onA p1 fun b1 m1 => wrK H3 b1 (Nat.add m1 nn4) (AV.b false) fun H4 => Kb1 (DV.v (AV.b t2)) H4) (onA p1 fun b1 m1 => g339_1 m1 t2 p1 b1 H3 c1 Kb1)) fun Kb2 => br t1 (Kb2 DV.n H2) (onV d1 fun v1 => isB v1 fun t4 => frcB (bnot t4) fun t5 => Kb2 (DV.v (AV.b t5)) H2)) fun Kb2 => br t1 (Kb2 DV.n H1) (Kb2 (DV.v (AV.b t3)) H1)
def g339_3 := jF [] (fun H2 => c1 [(DV.v (AV.p p1))] H2 fun d1 H3 => onC d1 fun d2 d3 => onV d2 fun v1 => isB v1 fun t1 => onC d3 fun d4 d5 => onV d4 fun v2 => isB v2 fun t2 => onN d5 <| frcB (bnot t1) fun t3 => g339_2 t3 t1 t2 p1 H3 c2 Kb1) fun Ka1 => onA p1 fun b1 m1 => rdK H1 b1 (Nat.add m1 nn2) fun v1 => isI .u32 v1 fun n1 => frcB (ilt n1 ii4294967295) fun t1 => br t1 (onA p1 fun b2 m2 => rdK H1 b2 (Nat.add m2 nn2) fun v2 => isI .u32 v2 fun n2 => wrp .u32 (iadd n2 ii1) fun n3 => onA p1 fun b3 m3 => wrK H1 b3 (Nat.add m3 nn2) (AV.i .u32 n3) fun H2 => Ka1 H2) (Ka1 H1)
def g339_4 := jF [] (fun H2 => onA p1 fun b1 m1 => rdK H2 b1 (Nat.add m1 nn10) fun v1 => isI .i64 v1 fun n1 => wrp .i64 (iadd n1 ii1) fun n2 => onA p1 fun b2 m2 => wrK H2 b2 (Nat.add m2 nn10) (AV.i .i64 n2) fun H3 => g339_3 p1 H3 c1 c2 Kb1) fun Ka1 => onA p1 fun b1 m1 => rdK H1 b1 (Nat.add m1 nn5) fun v1 => isI .i64 v1 fun n1 => onA p1 fun b2 m2 => rdK H1 b2 (Nat.add m2 nn1) fun v2 => isI .i64 v2 fun n2 => frcB (ile n2 n1) fun t2 => br t2 (onA p1 fun b3 m3 => rdK H1 b3 (Nat.add m3 nn4) fun v3 => isB v3 fun t3 => br t3 (Ka1 H1) (Kb2 (DV.v (AV.b t1)) H1)) (Kb2 (DV.v (AV.b t1)) H1)
/-- (*codel.state).more -/
def g339 : G Unit := fun R1 H1 Kb1 => lc R1 fun d1 R2 => onV d1 fun v1 => isP v1 fun p1 => ln R2 <| jF [(3 , .bool)] (fun d2 H2 => onV d2 fun v2 => isB v2 fun t1 => Kb1 (DV.v (AV.b t1)) H2) fun Kb2 => lpR (failF [(3 , .bool)]) (fun Kb3 => fun d2 H2 => onV d2 fun v2 => isB v2 fun t1 => g339_4 t1 p1 H2 c1 c2 Kb3 Kb2) (nat_lit 100000) (DV.v (AV.b true)) H1
theorem s339 (h338 : SN ads 338 c1) (h341 : SN ads 341 c2) : SN ads 339 (g339 c1 c2) :=
  mk_snd [(nn338, c1), (nn341, c2)] ⟨fun n => match n with | 0 => [(3, .bool)] | _ => [], fun n => match n with | 3 => some [] | 6 => some [] | 11 => some [(3, .bool)] | _ => none⟩ [.ptr] Tryz.func339 rfl (.cons h338 (.cons h341 .nil))
def G339 : G Unit := g339 G338 G341
theorem S339 : SN ads 339 G339 := s339 _ _ S338 S341

def g340_1 := rdK H1 b1 (Nat.add m1 nn5) fun v1 => isI .i64 v1 fun n1 => onA p1 fun b2 m2 => rdK H1 b2 (Nat.add m2 nn7) fun v2 => isI .i64 v2 fun n2 => onA p1 fun b3 m3 => rdK H1 b3 (Nat.add m3 nn2) fun v3 => isI .u32 v3 fun n3 => c1 [(DV.v (AV.i .i64 n1)), (DV.v (AV.i .i64 n2)), (DV.v (AV.i .u32 n3))] H1 fun d1 H2 => onV d1 fun v4 => isI .i64 v4 fun n4 => onA p1 fun b4 m4 => wrK H2 b4 (Nat.add m4 nn1) (AV.i .i64 n4) fun H3 => Kb1 (DV.v (AV.b t1)) H3
def g340_2 := jF [(56 , .bool)] (fun d1 H2 => onV d1 fun v1 => isB v1 fun t1 => br t1 (onA p1 fun b1 m1 => wrK H2 b1 (Nat.add m1 nn2) (AV.i .u32 n1) fun H3 => Ka1 H3) (Ka1 H2)) fun Kb1 => frcB (ilt ii1 n1) fun t1 => br t1 (onA p1 fun b1 m1 => rdK H1 b1 (Nat.add m1 nn5) fun v1 => isI .i64 v1 fun n2 => onA p1 fun b2 m2 => rdK H1 b2 (Nat.add m2 nn1) fun v2 => isI .i64 v2 fun n3 => wrp .i64 (isub n2 n3) fun n4 => onA p1 fun b3 m3 => rdK H1 b3 (Nat.add m3 nn7) fun v3 => isI .i64 v3 fun n5 => wrp .i64 (imul ii16 n5) fun n6 => frcB (ilt n4 n6) fun t2 => Kb1 (DV.v (AV.b t2)) H1) (Kb1 (DV.v (AV.b false)) H1)
def g340_3 := rdK H1 b1 (Nat.add m1 nn3) fun v1 => isI .u32 v1 fun n2 => wrp .u32 (isub n1 n2) fun n3 => onA p1 fun b2 m2 => wrK H1 b2 (Nat.add m2 nn2) (AV.i .u32 ii1) fun H2 => jF [] (fun H3 => onA p1 fun b3 m3 => rdK H3 b3 (Nat.add m3 nn2) fun v2 => isI .u32 v2 fun n4 => onA p1 fun b4 m4 => wrK H3 b4 (Nat.add m4 nn3) (AV.i .u32 n4) fun H4 => onA p1 fun b5 m5 => g340_1 m5 t1 p1 b5 H4 c1 Kb1) fun Ka1 => g340_2 n3 p1 H2 Ka1
def g340_4 := wrK H1 b1 (Nat.add m1 nn10) (AV.i .i64 n1) fun H2 => c1 [(DV.v (AV.p p1))] H2 fun d1 H3 => onC d1 fun d2 d3 => onV d2 fun v1 => isB v1 fun t1 => onC d3 fun d4 d5 => onV d4 fun v2 => isB v2 fun t2 => onN d5 <| onA p1 fun b2 m2 => wrK H3 b2 (Nat.add m2 nn4) (AV.b true) fun H4 => onA p1 fun b3 m3 => rdK H4 b3 (Nat.add m3 nn2) fun v3 => isI .u32 v3 fun n2 => onA p1 fun b4 m4 => g340_3 n2 m4 t1 p1 b4 H4 c2 Kb1
/-- (*codel.state).begins -/
def g340 : G Unit := fun R1 H1 Kb1 => lc R1 fun d1 R2 => onV d1 fun v1 => isP v1 fun p1 => ln R2 <| onA p1 fun b1 m1 => rdK H1 b1 (Nat.add m1 nn10) fun v2 => isI .i64 v2 fun n1 => wrp .i64 (iadd n1 ii1) fun n2 => onA p1 fun b2 m2 => g340_4 n2 m2 p1 b2 H1 c1 c2 Kb1
theorem s340 (h338 : SN ads 338 c1) (h341 : SN ads 341 c2) : SN ads 340 (g340 c1 c2) :=
  mk_snd [(nn338, c1), (nn341, c2)] ⟨fun _ => [], fun n => match n with | 7 => some [(56, .bool)] | 8 => some [] | _ => none⟩ [.ptr] Tryz.func340 rfl (.cons h338 (.cons h341 .nil))
def G340 : G Unit := g340 G338 G341
theorem S340 : SN ads 340 G340 := s340 _ _ S338 S341

def g337_1 := br t1 (onA p1 fun b1 m1 => wrK H1 b1 (Nat.add m1 nn4) (AV.b false) fun H2 => Kb1 (DV.v (AV.b true)) H2) (onA p1 fun b1 m1 => rdK H1 b1 (Nat.add m1 nn4) fun v1 => isB v1 fun t3 => br t3 (c1 [(DV.v (AV.p p1))] H1 fun d1 H2 => onV d1 fun v2 => isB v2 fun t4 => Kb1 (DV.v (AV.b t4)) H2) (br t2 (c2 [(DV.v (AV.p p1))] H1 fun d1 H2 => onV d1 fun v2 => isB v2 fun t4 => Kb1 (DV.v (AV.b t4)) H2) (Kb1 (DV.v (AV.b true)) H1)))
def g337_2 := br t1 (onA p1 fun b1 m1 => wrK H1 b1 (Nat.add m1 nn4) (AV.b false) fun H2 => Kb1 (DV.v (AV.b false)) H2) (onA p1 fun b1 m1 => rdK H1 b1 (Nat.add m1 nn4) fun v1 => isB v1 fun t3 => jn (fun d1 H2 => jn (fun d2 H3 => pickK t3 d2 (DV.v (AV.b false)) fun d3 => onV d3 fun v2 => isB v2 fun t4 => g337_1 t4 t2 p1 H3 c1 c2 Kb1) fun Kb2 => br t3 (onV d1 fun v2 => isB v2 fun t4 => frcB (bnot t4) fun t5 => Kb2 (DV.v (AV.b t5)) H2) (Kb2 DV.n H2)) fun Kb2 => br t3 (Kb2 (DV.v (AV.b t2)) H1) (Kb2 DV.n H1))
/-- (*codel.state).run -/
def g337 : G Unit := fun R1 H1 Kb1 => lc R1 fun d1 R2 => onV d1 fun v1 => isP v1 fun p1 => ln R2 <| c1 [(DV.v (AV.p p1))] H1 fun d2 H2 => onC d2 fun d3 d4 => onV d3 fun v2 => isB v2 fun t1 => onC d4 fun d5 d6 => onV d5 fun v3 => isB v3 fun t2 => onN d6 <| frcB (bnot t1) fun t3 => g337_2 t3 t2 p1 H2 c2 c3 Kb1
theorem s337 (h338 : SN ads 338 c1) (h339 : SN ads 339 c2) (h340 : SN ads 340 c3) : SN ads 337 (g337 c1 c2 c3) :=
  mk_snd [(nn338, c1), (nn339, c2), (nn340, c3)] ⟨fun _ => [], fun _ => none⟩ [.ptr] Tryz.func337 rfl (.cons h338 (.cons h339 (.cons h340 .nil)))
def G337 : G Unit := g337 G338 G339 G340
theorem S337 : SN ads 337 G337 := s337 _ _ _ S338 S339 S340

def z17 : List AV := [(AV.i .i64 ii0), (AV.i .i64 ii0), (AV.i .u32 ii0), (AV.i .u32 ii0), (AV.b false)]
def g336_1 := alK H1 (lapp l1 ((AV.i .i64 n1) :: ((AV.i .i64 n2) :: ((AV.i .i64 n3) :: ((AV.i .i64 n4) :: ((AV.s s1) :: ((AV.i .i64 ii0) :: []))))))) fun b2 H2 => c1 [(DV.v (AV.p (AP.at b2 nn0)))] H2 fun d1 H3 => onV d1 fun v1 => isB v1 fun t1 => rdR H3 b2 nn0 nn5 fun l2 => rdK H3 b2 nn10 fun v2 => isI .i64 v2 fun n5 => must (Nat.beq (llen l2) nn5) <| wrL H3 b1 nn0 l2 fun H4 => rdK H4 b2 nn10 fun v3 => must (aveq (AV.i .i64 n5) v3) <| rdR H4 b1 nn0 nn5 fun l3 => Kb1 (DV.c (DV.a l3) (DV.c (DV.v (AV.i .i64 n5)) (DV.c (DV.v (AV.b t1)) DV.n))) H4
def g336_2 := isI .i64 v1 fun n3 => lc R1 fun d2 R2 => onV d2 fun v2 => isI .i64 v2 fun n4 => lc R2 fun d3 R3 => onV d3 fun v3 => isS v3 fun s1 => ln R3 <| cellsD d1 fun l1 => alK H1 l1 fun b1 H2 => alF H2 z17 nn5 fun b2 H3 => rdR H3 b1 nn0 nn5 fun l2 => asI (imax n1 ii0) fun n5 => asI (imin n5 ii1073741824) fun n6 => asI (imax n3 ii0) fun n7 => asI (imin n7 ii1073741824) fun n8 => must (Nat.beq (llen l2) nn5) <| g336_1 l2 n2 n6 n8 n4 b2 s1 H3 c1 Kb1
/-- (codel.Codel).Pull -/
def g336 : G Unit := fun R1 H1 Kb1 => lc R1 fun d1 R2 => lc R2 fun d2 R3 => onV d2 fun v1 => isI .i64 v1 fun n1 => lc R3 fun d3 R4 => onV d3 fun v2 => isI .i64 v2 fun n2 => lc R4 fun d4 R5 => onV d4 fun v3 => g336_2 v3 d1 R5 n2 n1 H1 c1 Kb1
theorem s336 (h337 : SN ads 337 c1) : SN ads 336 (g336 c1) :=
  mk_snd [(nn337, c1)] ⟨fun _ => [], fun _ => none⟩ [.any, .int .i64, .int .i64, .int .i64, .int .i64, .slice] Tryz.func336 rfl (.cons h337 .nil)
def G336 : G Unit := g336 G337
theorem S336 : SN ads 336 G336 := s336 _ S337
end
end Go.Proofs.YtmdcbepepiabmaaGreatDoor
