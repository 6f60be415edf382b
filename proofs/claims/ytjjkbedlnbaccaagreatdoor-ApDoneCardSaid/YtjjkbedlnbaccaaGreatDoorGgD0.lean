/- Functions of the program on the abstract machine: written by a program (ggen) off the elaborated code. -/
import Derived.Test.YtjjkbedlnbaccaaGreatDoorAb18
set_option linter.unusedVariables false
set_option linter.constructorNameAsVariable false
set_option maxRecDepth 100000
namespace Go.Proofs.YtjjkbedlnbaccaaGreatDoor
open Go.Vc Go.Ab
noncomputable section
variable (v1 : AV) (l1 l2 l3 : List AV) (L1 L2 : List AP) (d1 d2 d3 d4 : DV) (R1 : List DV) (n1 n2 n3 n4 n5 n6 n7 n8 : Int) (m1 m2 m3 m4 : Nat) (t1 t2 t3 t4 : Bool) (p1 p2 p3 p4 p5 : AP) (b1 b2 b3 b4 b5 : P4) (s1 s2 s3 s4 s5 : AS) (H1 : AH) (x1 x2 : List Int) (c1 c2 c3 c4 c5 c6 c7 c8 c9 c10 c11 c12 : G DV) (Ka1 : AH → Option DV) (Kb1 Kb2 : DV → AH → Option DV) (Kc1 : DV → DV → AH → Option DV) (Kd1 : DV → DV → DV → AH → Option DV)
variable {ads : List Addr}
def ii0 : Int := Int.ofNat (nat_lit 0)
def ii1 : Int := Int.ofNat (nat_lit 1)
def ii10 : Int := Int.ofNat (nat_lit 10)
def ii100 : Int := Int.ofNat (nat_lit 100)
def ii1000 : Int := Int.ofNat (nat_lit 1000)
def ii10000 : Int := Int.ofNat (nat_lit 10000)
def ii100000 : Int := Int.ofNat (nat_lit 100000)
def ii1000000 : Int := Int.ofNat (nat_lit 1000000)
def ii101 : Int := Int.ofNat (nat_lit 101)
def ii102 : Int := Int.ofNat (nat_lit 102)
def ii103 : Int := Int.ofNat (nat_lit 103)
def ii1048576 : Int := Int.ofNat (nat_lit 1048576)
def ii105 : Int := Int.ofNat (nat_lit 105)
def ii1073741824 : Int := Int.ofNat (nat_lit 1073741824)
def ii1099511627776 : Int := Int.ofNat (nat_lit 1099511627776)
def ii11 : Int := Int.ofNat (nat_lit 11)
def ii1152921504606846976 : Int := Int.ofNat (nat_lit 1152921504606846976)
def ii12 : Int := Int.ofNat (nat_lit 12)
def ii13 : Int := Int.ofNat (nat_lit 13)
def ii136 : Int := Int.ofNat (nat_lit 136)
def ii144 : Int := Int.ofNat (nat_lit 144)
def ii148 : Int := Int.ofNat (nat_lit 148)
def ii15 : Int := Int.ofNat (nat_lit 15)
def ii1500 : Int := Int.ofNat (nat_lit 1500)
def ii1514 : Int := Int.ofNat (nat_lit 1514)
def ii16 : Int := Int.ofNat (nat_lit 16)
def ii160 : Int := Int.ofNat (nat_lit 160)
def ii192 : Int := Int.ofNat (nat_lit 192)
def ii2 : Int := Int.ofNat (nat_lit 2)
def ii20 : Int := Int.ofNat (nat_lit 20)
def ii200 : Int := Int.ofNat (nat_lit 200)
def ii20000 : Int := Int.ofNat (nat_lit 20000)
def ii200000 : Int := Int.ofNat (nat_lit 200000)
def ii215 : Int := Int.ofNat (nat_lit 215)
def ii216 : Int := Int.ofNat (nat_lit 216)
def ii22 : Int := Int.ofNat (nat_lit 22)
def ii23 : Int := Int.ofNat (nat_lit 23)
def ii24 : Int := Int.ofNat (nat_lit 24)
def ii25 : Int := Int.ofNat (nat_lit 25)
def ii26 : Int := Int.ofNat (nat_lit 26)
def ii28 : Int := Int.ofNat (nat_lit 28)
def ii3 : Int := Int.ofNat (nat_lit 3)
def ii300 : Int := Int.ofNat (nat_lit 300)
def ii32 : Int := Int.ofNat (nat_lit 32)
def ii320 : Int := Int.ofNat (nat_lit 320)
def ii36 : Int := Int.ofNat (nat_lit 36)
def ii360 : Int := Int.ofNat (nat_lit 360)
def ii4 : Int := Int.ofNat (nat_lit 4)
def ii40 : Int := Int.ofNat (nat_lit 40)
def ii4095 : Int := Int.ofNat (nat_lit 4095)
def ii4096 : Int := Int.ofNat (nat_lit 4096)
def ii48 : Int := Int.ofNat (nat_lit 48)
def ii5 : Int := Int.ofNat (nat_lit 5)
def ii50 : Int := Int.ofNat (nat_lit 50)
def ii50000 : Int := Int.ofNat (nat_lit 50000)
def ii512 : Int := Int.ofNat (nat_lit 512)
def ii54840 : Int := Int.ofNat (nat_lit 54840)
def ii6 : Int := Int.ofNat (nat_lit 6)
def ii600 : Int := Int.ofNat (nat_lit 600)
def ii63 : Int := Int.ofNat (nat_lit 63)
def ii64 : Int := Int.ofNat (nat_lit 64)
def ii65535 : Int := Int.ofNat (nat_lit 65535)
def ii7 : Int := Int.ofNat (nat_lit 7)
def ii72 : Int := Int.ofNat (nat_lit 72)
def ii73244475 : Int := Int.ofNat (nat_lit 73244475)
def ii8 : Int := Int.ofNat (nat_lit 8)
def ii80 : Int := Int.ofNat (nat_lit 80)
def ii8000 : Int := Int.ofNat (nat_lit 8000)
def ii9 : Int := Int.ofNat (nat_lit 9)
def ii96 : Int := Int.ofNat (nat_lit 96)
def im1 : Int := Int.negSucc (nat_lit 0)
def nn0 : Nat := nat_lit 0
def nn1 : Nat := nat_lit 1
def nn10 : Nat := nat_lit 10
def nn100 : Nat := nat_lit 100
def nn101 : Nat := nat_lit 101
def nn102 : Nat := nat_lit 102
def nn103 : Nat := nat_lit 103
def nn104 : Nat := nat_lit 104
def nn105 : Nat := nat_lit 105
def nn106 : Nat := nat_lit 106
def nn107 : Nat := nat_lit 107
def nn11 : Nat := nat_lit 11
def nn110 : Nat := nat_lit 110
def nn112 : Nat := nat_lit 112
def nn114 : Nat := nat_lit 114
def nn115 : Nat := nat_lit 115
def nn116 : Nat := nat_lit 116
def nn118 : Nat := nat_lit 118
def nn119 : Nat := nat_lit 119
def nn12 : Nat := nat_lit 12
def nn120 : Nat := nat_lit 120
def nn121 : Nat := nat_lit 121
def nn122 : Nat := nat_lit 122
def nn123 : Nat := nat_lit 123
def nn124 : Nat := nat_lit 124
def nn125 : Nat := nat_lit 125
def nn127 : Nat := nat_lit 127
def nn128 : Nat := nat_lit 128
def nn129 : Nat := nat_lit 129
def nn13 : Nat := nat_lit 13
def nn131 : Nat := nat_lit 131
def nn132 : Nat := nat_lit 132
def nn133 : Nat := nat_lit 133
def nn134 : Nat := nat_lit 134
def nn135 : Nat := nat_lit 135
def nn136 : Nat := nat_lit 136
def nn137 : Nat := nat_lit 137
def nn138 : Nat := nat_lit 138
def nn139 : Nat := nat_lit 139
def nn14 : Nat := nat_lit 14
def nn140 : Nat := nat_lit 140
def nn141 : Nat := nat_lit 141
def nn143 : Nat := nat_lit 143
def nn144 : Nat := nat_lit 144
def nn145 : Nat := nat_lit 145
def nn146 : Nat := nat_lit 146
def nn147 : Nat := nat_lit 147
def nn148 : Nat := nat_lit 148
def nn149 : Nat := nat_lit 149
def nn15 : Nat := nat_lit 15
def nn150 : Nat := nat_lit 150
def nn151 : Nat := nat_lit 151
def nn154 : Nat := nat_lit 154
def nn156 : Nat := nat_lit 156
def nn157 : Nat := nat_lit 157
def nn158 : Nat := nat_lit 158
def nn159 : Nat := nat_lit 159
def nn16 : Nat := nat_lit 16
def nn160 : Nat := nat_lit 160
def nn161 : Nat := nat_lit 161
def nn162 : Nat := nat_lit 162
def nn163 : Nat := nat_lit 163
def nn164 : Nat := nat_lit 164
def nn165 : Nat := nat_lit 165
def nn166 : Nat := nat_lit 166
def nn167 : Nat := nat_lit 167
def nn168 : Nat := nat_lit 168
def nn17 : Nat := nat_lit 17
def nn176 : Nat := nat_lit 176
def nn177 : Nat := nat_lit 177
def nn179 : Nat := nat_lit 179
def nn18 : Nat := nat_lit 18
def nn180 : Nat := nat_lit 180
def nn181 : Nat := nat_lit 181
def nn182 : Nat := nat_lit 182
def nn186 : Nat := nat_lit 186
def nn187 : Nat := nat_lit 187
def nn188 : Nat := nat_lit 188
def nn189 : Nat := nat_lit 189
def nn19 : Nat := nat_lit 19
def nn2 : Nat := nat_lit 2
def nn20 : Nat := nat_lit 20
def nn203 : Nat := nat_lit 203
def nn204 : Nat := nat_lit 204
def nn205 : Nat := nat_lit 205
def nn206 : Nat := nat_lit 206
def nn207 : Nat := nat_lit 207
def nn208 : Nat := nat_lit 208
def nn209 : Nat := nat_lit 209
def nn21 : Nat := nat_lit 21
def nn210 : Nat := nat_lit 210
def nn211 : Nat := nat_lit 211
def nn212 : Nat := nat_lit 212
def nn213 : Nat := nat_lit 213
def nn216 : Nat := nat_lit 216
def nn22 : Nat := nat_lit 22
def nn220 : Nat := nat_lit 220
def nn221 : Nat := nat_lit 221
def nn223 : Nat := nat_lit 223
def nn23 : Nat := nat_lit 23
def nn231 : Nat := nat_lit 231
def nn232 : Nat := nat_lit 232
def nn233 : Nat := nat_lit 233
def nn234 : Nat := nat_lit 234
def nn235 : Nat := nat_lit 235
def nn236 : Nat := nat_lit 236
def nn237 : Nat := nat_lit 237
def nn238 : Nat := nat_lit 238
def nn239 : Nat := nat_lit 239
def nn24 : Nat := nat_lit 24
def nn240 : Nat := nat_lit 240
def nn241 : Nat := nat_lit 241
def nn242 : Nat := nat_lit 242
def nn248 : Nat := nat_lit 248
def nn249 : Nat := nat_lit 249
def nn25 : Nat := nat_lit 25
def nn250 : Nat := nat_lit 250
def nn251 : Nat := nat_lit 251
def nn252 : Nat := nat_lit 252
def nn253 : Nat := nat_lit 253
def nn254 : Nat := nat_lit 254
def nn255 : Nat := nat_lit 255
def nn259 : Nat := nat_lit 259
def nn26 : Nat := nat_lit 26
def nn260 : Nat := nat_lit 260
def nn261 : Nat := nat_lit 261
def nn267 : Nat := nat_lit 267
def nn268 : Nat := nat_lit 268
def nn27 : Nat := nat_lit 27
def nn271 : Nat := nat_lit 271
def nn277 : Nat := nat_lit 277
def nn280 : Nat := nat_lit 280
def nn281 : Nat := nat_lit 281
def nn285 : Nat := nat_lit 285
def nn287 : Nat := nat_lit 287
def nn288 : Nat := nat_lit 288
def nn289 : Nat := nat_lit 289
def nn29 : Nat := nat_lit 29
def nn290 : Nat := nat_lit 290
def nn291 : Nat := nat_lit 291
def nn292 : Nat := nat_lit 292
def nn293 : Nat := nat_lit 293
def nn294 : Nat := nat_lit 294
def nn295 : Nat := nat_lit 295
def nn296 : Nat := nat_lit 296
def nn297 : Nat := nat_lit 297
def nn3 : Nat := nat_lit 3
def nn30 : Nat := nat_lit 30
def nn305 : Nat := nat_lit 305
def nn306 : Nat := nat_lit 306
def nn307 : Nat := nat_lit 307
def nn308 : Nat := nat_lit 308
def nn31 : Nat := nat_lit 31
def nn310 : Nat := nat_lit 310
def nn311 : Nat := nat_lit 311
def nn312 : Nat := nat_lit 312
def nn313 : Nat := nat_lit 313
def nn314 : Nat := nat_lit 314
def nn315 : Nat := nat_lit 315
def nn316 : Nat := nat_lit 316
def nn317 : Nat := nat_lit 317
def nn318 : Nat := nat_lit 318
def nn32 : Nat := nat_lit 32
def nn329 : Nat := nat_lit 329
def nn331 : Nat := nat_lit 331
def nn332 : Nat := nat_lit 332
def nn336 : Nat := nat_lit 336
def nn337 : Nat := nat_lit 337
def nn342 : Nat := nat_lit 342
def nn344 : Nat := nat_lit 344
def nn345 : Nat := nat_lit 345
def nn346 : Nat := nat_lit 346
def nn349 : Nat := nat_lit 349
def nn350 : Nat := nat_lit 350
def nn352 : Nat := nat_lit 352
def nn36 : Nat := nat_lit 36
def nn363 : Nat := nat_lit 363
def nn369 : Nat := nat_lit 369
def nn371 : Nat := nat_lit 371
def nn372 : Nat := nat_lit 372
def nn38 : Nat := nat_lit 38
def nn39 : Nat := nat_lit 39
def nn4 : Nat := nat_lit 4
def nn40 : Nat := nat_lit 40
def nn403 : Nat := nat_lit 403
def nn404 : Nat := nat_lit 404
def nn405 : Nat := nat_lit 405
def nn406 : Nat := nat_lit 406
def nn41 : Nat := nat_lit 41
def nn42 : Nat := nat_lit 42
def nn43 : Nat := nat_lit 43
def nn46 : Nat := nat_lit 46
def nn47 : Nat := nat_lit 47
def nn48 : Nat := nat_lit 48
def nn49 : Nat := nat_lit 49
def nn5 : Nat := nat_lit 5
def nn50 : Nat := nat_lit 50
def nn51 : Nat := nat_lit 51
def nn52 : Nat := nat_lit 52
def nn53 : Nat := nat_lit 53
def nn54 : Nat := nat_lit 54
def nn55 : Nat := nat_lit 55
def nn56 : Nat := nat_lit 56
def nn57 : Nat := nat_lit 57
def nn58 : Nat := nat_lit 58
def nn59 : Nat := nat_lit 59
def nn6 : Nat := nat_lit 6
def nn60 : Nat := nat_lit 60
def nn61 : Nat := nat_lit 61
def nn62 : Nat := nat_lit 62
def nn63 : Nat := nat_lit 63
def nn64 : Nat := nat_lit 64
def nn65 : Nat := nat_lit 65
def nn66 : Nat := nat_lit 66
def nn67 : Nat := nat_lit 67
def nn68 : Nat := nat_lit 68
def nn69 : Nat := nat_lit 69
def nn7 : Nat := nat_lit 7
def nn70 : Nat := nat_lit 70
def nn71 : Nat := nat_lit 71
def nn72 : Nat := nat_lit 72
def nn73 : Nat := nat_lit 73
def nn74 : Nat := nat_lit 74
def nn75 : Nat := nat_lit 75
def nn76 : Nat := nat_lit 76
def nn77 : Nat := nat_lit 77
def nn78 : Nat := nat_lit 78
def nn8 : Nat := nat_lit 8
def nn80 : Nat := nat_lit 80
def nn82 : Nat := nat_lit 82
def nn83 : Nat := nat_lit 83
def nn84 : Nat := nat_lit 84
def nn85 : Nat := nat_lit 85
def nn88 : Nat := nat_lit 88
def nn9 : Nat := nat_lit 9
def nn91 : Nat := nat_lit 91
def nn92 : Nat := nat_lit 92
def nn96 : Nat := nat_lit 96
def nn98 : Nat := nat_lit 98
def yy0 : AV := (AV.i .u8 ii0)
def yy1 : AV := (AV.i .i64 ii0)
def yy10 : AV := (AV.i .i64 ii3)
def yy11 : AV := (AV.i .i64 ii2)
def yy12 : AV := (AV.i .u8 ii136)
def yy13 : AV := (AV.i .i64 ii20)
def yy14 : AV := (AV.i .i64 ii40)
def yy15 : AV := (AV.i .i64 ii80)
def yy16 : AV := (AV.i .i64 ii160)
def yy17 : AV := (AV.i .i64 ii24)
def yy18 : AV := (AV.i .i64 ii36)
def yy19 : AV := (AV.i .i64 ii144)
def yy2 : AV := (AV.i .u32 ii0)
def yy20 : AV := (AV.i .i64 ii48)
def yy21 : AV := (AV.i .i64 ii192)
def yy22 : AV := (AV.i .i64 ii72)
def yy23 : AV := (AV.i .i64 ii216)
def yy24 : AV := (AV.i .i64 ii96)
def yy25 : AV := (AV.i .i64 ii136)
def yy26 : AV := (AV.i .u64 ii0)
def yy27 : AV := (AV.i .u8 ii148)
def yy28 : AV := (AV.i .i64 ii10)
def yy29 : AV := (AV.i .i64 ii50)
def yy3 : AV := (AV.b false)
def yy30 : AV := (AV.i .i64 ii100)
def yy31 : AV := (AV.er (nat_lit 0))
def yy32 : AV := (AV.er (nat_lit 1))
def yy33 : AV := (AV.er (nat_lit 5))
def yy34 : AV := (AV.er (nat_lit 9))
def yy35 : AV := (AV.er (nat_lit 13))
def yy36 : AV := (AV.er (nat_lit 2))
def yy37 : AV := (AV.er (nat_lit 6))
def yy38 : AV := (AV.er (nat_lit 10))
def yy39 : AV := (AV.er (nat_lit 3))
def yy4 : AV := (AV.s AS.nil)
def yy40 : AV := (AV.er (nat_lit 7))
def yy41 : AV := (AV.er (nat_lit 11))
def yy42 : AV := (AV.er (nat_lit 4))
def yy43 : AV := (AV.er (nat_lit 8))
def yy44 : AV := (AV.er (nat_lit 12))
def yy45 : AV := (AV.i .u8 ii7)
def yy5 : AV := (AV.p AP.nil)
def yy6 : AV := (AV.i .i64 ii1)
def yy7 : AV := AV.nf
def yy8 : AV := (AV.i .i64 ii15)
def yy9 : AV := (AV.i .i64 ii7)
def z0 : T4 AV := (@T4.n AV yy0 (@T4.n AV yy0 (@T4.n AV yy0 te te te te) te te te) (@T4.n AV yy0 te te te te) (@T4.n AV yy0 te te te te) (@T4.n AV yy0 te te te te))
def z1 : List AV := [(AV.i .u8 ii2), (AV.i .u8 ii0), (AV.i .u8 ii0), (AV.i .u8 ii0), (AV.i .u8 ii1), (AV.i .u8 ii0)]
/-- muezzinair.BSS -/
def g26 : G DV := fun R1 H1 Kb1 => ln R1 <| alB H1 z0 nn6 nn0 fun b1 H2 => wrL H2 b1 nn0 z1 fun H3 => rdR H3 b1 nn0 nn6 fun l1 => Kb1 (DV.a l1) H3
def G26 : G DV := g26

def z2 : T4 AV := (@T4.n AV yy0 (@T4.n AV yy0 (@T4.n AV yy0 te te te te) (@T4.n AV yy1 te te te te) (@T4.n AV yy1 te te te te) (@T4.n AV yy1 te te te te)) (@T4.n AV yy0 (@T4.n AV yy2 te te te te) (@T4.n AV yy1 te te te te) (@T4.n AV yy1 te te te te) (@T4.n AV yy1 te te te te)) (@T4.n AV yy0 (@T4.n AV yy1 te te te te) (@T4.n AV yy1 te te te te) (@T4.n AV yy1 te te te te) (@T4.n AV yy1 te te te te)) (@T4.n AV yy0 (@T4.n AV yy1 te te te te) (@T4.n AV yy1 te te te te) (@T4.n AV yy1 te te te te) (@T4.n AV yy1 te te te te)))
def z3 : List AV := [(AV.i .i64 ii600), (AV.i .i64 ii600), (AV.i .i64 ii600), (AV.i .i64 ii600)]
def g7x1 := br t1 (wrK H1 b1 nn11 (AV.i .i64 ii4) fun H2 => wrK H2 b1 nn13 (AV.i .i64 ii20000) fun H3 => wrK H3 b1 nn9 (AV.i .i64 ii100) fun H4 => wrK H4 b1 nn10 (AV.i .i64 ii1000) fun H5 => wrK H5 b1 nn8 (AV.i .i64 ii100000) fun H6 => Ka1 H6) (frcB (ieq n1 ii4) fun t2 => br t2 (wrK H1 b1 nn11 (AV.i .i64 ii8) fun H2 => wrK H2 b1 nn12 (AV.i .i64 ii5) fun H3 => wrK H3 b1 nn14 (AV.i .i64 ii300) fun H4 => wrL H4 b1 nn15 z3 fun H5 => Ka1 H5) (Ka1 H1))
def g7x2 := asI (irem n1 ii5) fun n2 => frcB (ieq n2 ii1) fun t1 => br t1 (wrK H1 b1 nn11 (AV.i .i64 ii1) fun H2 => wrK H2 b1 nn12 (AV.i .i64 ii0) fun H3 => Ka1 H3) (frcB (ieq n2 ii2) fun t2 => br t2 (wrK H1 b1 nn11 (AV.i .i64 ii64) fun H2 => wrK H2 b1 nn7 (AV.i .i64 ii9) fun H3 => wrK H3 b1 nn19 (AV.i .i64 ii0) fun H4 => wrK H4 b1 nn20 (AV.i .i64 ii0) fun H5 => Ka1 H5) (frcB (ieq n2 ii3) fun t3 => g7x1 n2 t3 b1 H1 Ka1))
def g7x3 := wrL H1 b1 nn0 (lapp l1 ((AV.i .u32 n1) :: ((AV.i .i64 ii40) :: ((AV.i .i64 ii8000) :: ((AV.i .i64 ii50000) :: ((AV.i .i64 ii1000000) :: ((AV.i .i64 ii16) :: ((AV.i .i64 ii2) :: ((AV.i .i64 ii1073741824) :: ((AV.i .i64 ii20000) :: ((AV.i .i64 ii0) :: ((AV.i .i64 ii0) :: ((AV.i .i64 ii0) :: ((AV.i .i64 ii0) :: ((AV.i .i64 ii100000) :: ((AV.i .i64 ii200000) :: [])))))))))))))))) fun H2 => jF [] (fun H3 => rdR H3 b1 nn0 nn21 fun l2 => must (Nat.beq (llen l2) nn21) <| wrL H3 b2 nn0 l2 fun H4 => rdR H4 b2 nn0 nn21 fun l3 => Kb1 (DV.a l3) H4) fun Ka1 => must (bnot (ieq ii5 ii0)) <| g7x2 n2 b1 H2 Ka1
def g7x4 := alB H1 z2 nn21 nn0 fun b2 H2 => must (Nat.beq (llen (lapp l1 ((AV.i .u32 n1) :: ((AV.i .i64 ii40) :: ((AV.i .i64 ii8000) :: ((AV.i .i64 ii50000) :: ((AV.i .i64 ii1000000) :: ((AV.i .i64 ii16) :: ((AV.i .i64 ii2) :: ((AV.i .i64 ii1073741824) :: ((AV.i .i64 ii20000) :: ((AV.i .i64 ii0) :: ((AV.i .i64 ii0) :: ((AV.i .i64 ii0) :: ((AV.i .i64 ii0) :: ((AV.i .i64 ii100000) :: ((AV.i .i64 ii200000) :: []))))))))))))))))) nn21) <| g7x3 l1 n1 n2 b2 b1 H2 Kb1
/-- muezzinair.Config -/
def g7 : G DV := fun R1 H1 Kb1 => lc R1 fun d1 R2 => onV d1 fun v1 => isI .i64 v1 fun n1 => ln R2 <| alB H1 z2 nn21 nn0 fun b1 H2 => c1 [(DV.v (AV.i .i64 n1)), (DV.v (AV.i .i64 ii1048576))] H2 fun d2 H3 => onV d2 fun v2 => isI .i64 v2 fun n2 => c2 [] H3 fun d3 H4 => onL d3 fun l1 => wrp .u32 n2 fun n3 => must (Nat.beq (llen l1) nn6) <| g7x4 l1 n3 n2 b1 H4 Kb1
def G7 : G DV := g7 gNumber.G G26

def g234x1 := alB H1 (@T4.n AV (AV.i .u32 n1) (@T4.n AV (AV.i .i64 n2) (@T4.n AV yy1 (@T4.n AV yy1 (@T4.n AV yy1 te te te te) te te te) (@T4.n AV yy1 (@T4.n AV yy1 te te te te) te te te) (@T4.n AV yy1 (@T4.n AV yy1 te te te te) te te te) (@T4.n AV yy1 (@T4.n AV yy1 te te te te) te te te)) (@T4.n AV yy2 (@T4.n AV yy2 (@T4.n AV yy2 te te te te) te te te) (@T4.n AV yy2 (@T4.n AV yy2 te te te te) te te te) (@T4.n AV yy2 (@T4.n AV yy2 te te te te) te te te) (@T4.n AV yy2 te te te te)) (@T4.n AV yy1 (@T4.n AV yy1 (@T4.n AV yy1 te te te te) te te te) (@T4.n AV yy1 (@T4.n AV yy1 te te te te) te te te) (@T4.n AV yy1 (@T4.n AV yy1 te te te te) te te te) (@T4.n AV yy1 te te te te)) (@T4.n AV yy2 (@T4.n AV yy2 (@T4.n AV yy2 te te te te) te te te) (@T4.n AV yy2 (@T4.n AV yy2 te te te te) te te te) (@T4.n AV yy2 (@T4.n AV yy2 te te te te) te te te) (@T4.n AV yy2 te te te te))) (@T4.n AV (AV.i .i64 n3) (@T4.n AV yy1 (@T4.n AV yy1 (@T4.n AV yy1 te te te te) te te te) (@T4.n AV yy1 (@T4.n AV yy1 te te te te) te te te) (@T4.n AV yy1 (@T4.n AV yy1 te te te te) te te te) (@T4.n AV yy1 (@T4.n AV yy1 te te te te) te te te)) (@T4.n AV yy3 (@T4.n AV yy3 (@T4.n AV yy3 te te te te) te te te) (@T4.n AV yy3 (@T4.n AV yy3 te te te te) te te te) (@T4.n AV yy3 (@T4.n AV yy3 te te te te) te te te) (@T4.n AV yy3 te te te te)) (@T4.n AV yy1 (@T4.n AV yy1 (@T4.n AV yy1 te te te te) te te te) (@T4.n AV yy1 (@T4.n AV yy1 te te te te) te te te) (@T4.n AV yy1 (@T4.n AV yy1 te te te te) te te te) (@T4.n AV yy1 te te te te)) (@T4.n AV yy3 (@T4.n AV yy3 (@T4.n AV yy3 te te te te) te te te) (@T4.n AV yy3 (@T4.n AV yy3 te te te te) te te te) (@T4.n AV yy3 (@T4.n AV yy3 te te te te) te te te) (@T4.n AV yy3 te te te te))) (@T4.n AV yy4 (@T4.n AV yy1 (@T4.n AV yy1 (@T4.n AV yy1 te te te te) te te te) (@T4.n AV yy1 (@T4.n AV yy1 te te te te) te te te) (@T4.n AV yy1 (@T4.n AV yy1 te te te te) te te te) (@T4.n AV yy1 te te te te)) (@T4.n AV yy4 (@T4.n AV yy4 (@T4.n AV yy4 te te te te) te te te) (@T4.n AV yy4 (@T4.n AV yy4 te te te te) te te te) (@T4.n AV yy4 (@T4.n AV yy4 te te te te) te te te) (@T4.n AV yy4 te te te te)) (@T4.n AV yy1 (@T4.n AV yy1 (@T4.n AV yy1 te te te te) te te te) (@T4.n AV yy1 (@T4.n AV yy1 te te te te) te te te) (@T4.n AV yy1 (@T4.n AV yy1 te te te te) te te te) (@T4.n AV yy1 te te te te)) (@T4.n AV yy4 (@T4.n AV yy4 (@T4.n AV yy4 te te te te) te te te) (@T4.n AV yy4 (@T4.n AV yy4 te te te te) te te te) (@T4.n AV yy4 (@T4.n AV yy4 te te te te) te te te) (@T4.n AV yy4 te te te te))) (@T4.n AV yy1 (@T4.n AV yy2 (@T4.n AV yy2 (@T4.n AV yy2 te te te te) te te te) (@T4.n AV yy2 (@T4.n AV yy2 te te te te) te te te) (@T4.n AV yy2 (@T4.n AV yy2 te te te te) te te te) (@T4.n AV yy2 te te te te)) (@T4.n AV yy1 (@T4.n AV yy1 (@T4.n AV yy1 te te te te) te te te) (@T4.n AV yy1 (@T4.n AV yy1 te te te te) te te te) (@T4.n AV yy1 (@T4.n AV yy1 te te te te) te te te) (@T4.n AV yy1 te te te te)) (@T4.n AV yy2 (@T4.n AV yy2 (@T4.n AV yy2 te te te te) te te te) (@T4.n AV yy2 (@T4.n AV yy2 te te te te) te te te) (@T4.n AV yy2 (@T4.n AV yy2 te te te te) te te te) (@T4.n AV yy2 te te te te)) (@T4.n AV yy1 (@T4.n AV yy1 (@T4.n AV yy1 te te te te) te te te) (@T4.n AV yy1 (@T4.n AV yy1 te te te te) te te te) (@T4.n AV yy1 (@T4.n AV yy4 te te te te) te te te) (@T4.n AV yy1 te te te te)))) nn135 nn0 fun b1 H2 => Kb1 (DV.v (AV.p (AP.at b1 nn0))) H2
/-- fq.New -/
def g234 : G DV := fun R1 H1 Kb1 => lc R1 fun d1 R2 => onV d1 fun v1 => isI .u32 v1 fun n1 => lc R2 fun d2 R3 => onV d2 fun v2 => isI .i64 v2 fun n2 => lc R3 fun d3 R4 => onV d3 fun v3 => isI .i64 v3 fun n3 => ln R4 <| g234x1 n1 n2 n3 H1 Kb1
def G234 : G DV := g234

def g132x1 := isI .i64 v1 fun n4 => onA p1 fun b1 m1 => rdK H1 b1 (Nat.add m1 nn2) fun v2 => isI .i64 v2 fun n5 => onA p1 fun b2 m2 => rng n1 nn16 <| c1 [(DV.v (AV.i .u32 n2)), (DV.v (AV.i .i64 n4)), (DV.v (AV.i .i64 n5))] H1 fun d1 H2 => onV d1 fun v3 => isP v3 fun p2 => rng n3 nn8 <| wrK H2 b2 (Nat.add (Nat.add (Nat.add m2 nn5) (Nat.mul (itn n1) nn8)) (itn n3)) (AV.p p2) fun H3 => wrp .i64 (iadd n3 ii1) fun n6 => Kb1 (DV.v (AV.i .i64 n6)) H3
def g132x2 := isP v1 fun p1 => lc R1 fun d1 R2 => onV d1 fun v2 => isI .i64 v2 fun n1 => ln R2 <| lpR (failF [(5 , .int .i64)]) (fun Kb2 => fun d2 H2 => onV d2 fun v3 => isI .i64 v3 fun n2 => frcB (ilt n2 ii8) fun t1 => br t1 (onA p1 fun b1 m1 => rdK H2 b1 m1 fun v4 => isI .u32 v4 fun n3 => onA p1 fun b2 m2 => rdK H2 b2 (Nat.add m2 nn1) fun v5 => g132x1 v5 n1 n3 n2 p1 H2 c1 Kb2) (Kb1 DV.n H2)) (nat_lit 100000) (DV.v (AV.i .i64 ii0)) H1
/-- (*pool.Pool).renew -/
def g132 : G DV := fun R1 H1 Kb1 => lc R1 fun d1 R2 => onV d1 fun v1 => g132x2 v1 R2 H1 c1 Kb1
def G132 : G DV := g132 G234

def g60x1 := alB H1 (@T4.n AV (AV.i .u32 n1) (@T4.n AV (AV.i .i64 n2) (@T4.n AV yy5 (@T4.n AV yy5 (@T4.n AV yy5 te te te te) te te te) (@T4.n AV yy5 (@T4.n AV yy5 te te te te) te te te) (@T4.n AV yy5 (@T4.n AV yy5 te te te te) te te te) (@T4.n AV yy5 te te te te)) (@T4.n AV yy5 (@T4.n AV yy5 (@T4.n AV yy5 te te te te) te te te) (@T4.n AV yy5 (@T4.n AV yy5 te te te te) te te te) (@T4.n AV yy5 (@T4.n AV yy5 te te te te) te te te) (@T4.n AV yy5 te te te te)) (@T4.n AV yy5 (@T4.n AV yy5 (@T4.n AV yy5 te te te te) te te te) (@T4.n AV yy5 (@T4.n AV yy5 te te te te) te te te) (@T4.n AV yy5 (@T4.n AV yy5 te te te te) te te te) (@T4.n AV yy5 te te te te)) (@T4.n AV yy5 (@T4.n AV yy5 (@T4.n AV yy5 te te te te) te te te) (@T4.n AV yy5 (@T4.n AV yy5 te te te te) te te te) (@T4.n AV yy5 (@T4.n AV yy5 te te te te) te te te) (@T4.n AV yy5 te te te te))) (@T4.n AV (AV.i .i64 n3) (@T4.n AV yy5 (@T4.n AV yy5 (@T4.n AV yy5 te te te te) te te te) (@T4.n AV yy5 (@T4.n AV yy5 te te te te) te te te) (@T4.n AV yy5 (@T4.n AV yy5 te te te te) te te te) (@T4.n AV yy5 te te te te)) (@T4.n AV yy5 (@T4.n AV yy5 (@T4.n AV yy5 te te te te) te te te) (@T4.n AV yy5 (@T4.n AV yy5 te te te te) te te te) (@T4.n AV yy5 (@T4.n AV yy5 te te te te) te te te) (@T4.n AV yy5 te te te te)) (@T4.n AV yy5 (@T4.n AV yy5 (@T4.n AV yy5 te te te te) te te te) (@T4.n AV yy5 (@T4.n AV yy5 te te te te) te te te) (@T4.n AV yy5 (@T4.n AV yy5 te te te te) te te te) (@T4.n AV yy5 te te te te)) (@T4.n AV yy5 (@T4.n AV yy5 (@T4.n AV yy5 te te te te) te te te) (@T4.n AV yy5 (@T4.n AV yy5 te te te te) te te te) (@T4.n AV yy5 (@T4.n AV yy5 te te te te) te te te) (@T4.n AV yy5 te te te te))) (@T4.n AV (AV.i .i64 n4) (@T4.n AV yy5 (@T4.n AV yy5 (@T4.n AV yy5 te te te te) te te te) (@T4.n AV yy5 (@T4.n AV yy5 te te te te) te te te) (@T4.n AV yy5 (@T4.n AV yy5 te te te te) te te te) (@T4.n AV yy5 te te te te)) (@T4.n AV yy5 (@T4.n AV yy5 (@T4.n AV yy5 te te te te) te te te) (@T4.n AV yy5 (@T4.n AV yy5 te te te te) te te te) (@T4.n AV yy5 (@T4.n AV yy5 te te te te) te te te) (@T4.n AV yy5 te te te te)) (@T4.n AV yy5 (@T4.n AV yy5 (@T4.n AV yy5 te te te te) te te te) (@T4.n AV yy5 (@T4.n AV yy5 te te te te) te te te) (@T4.n AV yy5 (@T4.n AV yy5 te te te te) te te te) (@T4.n AV yy5 te te te te)) (@T4.n AV yy5 (@T4.n AV yy5 (@T4.n AV yy5 te te te te) te te te) (@T4.n AV yy5 (@T4.n AV yy5 te te te te) te te te) (@T4.n AV yy5 (@T4.n AV yy5 te te te te) te te te) (@T4.n AV yy5 te te te te))) (@T4.n AV (AV.i .i64 n5) (@T4.n AV yy5 (@T4.n AV yy5 (@T4.n AV yy5 te te te te) te te te) (@T4.n AV yy5 (@T4.n AV yy5 te te te te) te te te) (@T4.n AV yy5 (@T4.n AV yy5 te te te te) te te te) (@T4.n AV yy5 te te te te)) (@T4.n AV yy5 (@T4.n AV yy5 (@T4.n AV yy5 te te te te) te te te) (@T4.n AV yy5 (@T4.n AV yy5 te te te te) te te te) (@T4.n AV yy5 (@T4.n AV yy5 te te te te) te te te) (@T4.n AV yy5 te te te te)) (@T4.n AV yy5 (@T4.n AV yy5 (@T4.n AV yy5 te te te te) te te te) (@T4.n AV yy5 (@T4.n AV yy5 te te te te) te te te) (@T4.n AV yy5 (@T4.n AV yy5 te te te te) te te te) (@T4.n AV yy5 te te te te)) (@T4.n AV yy5 (@T4.n AV yy5 (@T4.n AV yy5 te te te te) te te te) (@T4.n AV yy5 (@T4.n AV yy5 te te te te) te te te) (@T4.n AV yy5 (@T4.n AV yy5 te te te te) te te te) (@T4.n AV yy5 te te te te)))) nn133 nn0 fun b1 H2 => lpR (failF [(36 , .int .i64)]) (fun Kb2 => fun d1 H3 => onV d1 fun v1 => isI .i64 v1 fun n6 => frcB (ilt n6 ii16) fun t1 => br t1 (c1 [(DV.v (AV.p (AP.at b1 nn0))), (DV.v (AV.i .i64 n6))] H3 fun d2 H4 => wrp .i64 (iadd n6 ii1) fun n7 => Kb2 (DV.v (AV.i .i64 n7)) H4) (Kb1 (DV.c (DV.v (AV.p (AP.at b1 nn0))) (DV.c (DV.v AV.ni) DV.n)) H3)) (nat_lit 100000) (DV.v (AV.i .i64 ii0)) H2
def g60x2 := onV d1 fun v1 => isB v1 fun t1 => jn (fun d2 H2 => jn (fun d3 H3 => pickK t1 (DV.v (AV.b true)) d3 fun d4 => onV d4 fun v2 => isB v2 fun t2 => br t2 (Kb1 (DV.c (DV.v (AV.p AP.nil)) (DV.c (DV.v (AV.er (nat_lit 2))) DV.n)) H3) (g60x1 n1 n2 n3 n4 n5 H3 c1 Kb1)) fun Kb2 => br t1 (Kb2 DV.n H2) (onV d2 fun v2 => isI .i64 v2 fun n6 => frcB (ilt ii1048576 n6) fun t2 => Kb2 (DV.v (AV.b t2)) H2)) fun Kb2 => br t1 (Kb2 DV.n H1) (Kb2 (DV.v (AV.i .i64 n5)) H1)
def g60x3 := jn (fun d2 H2 => pickK t1 (DV.v (AV.b true)) d2 fun d3 => onV d3 fun v1 => isB v1 fun t2 => jn (fun d4 H3 => jn (fun d5 H4 => pickK t2 (DV.v (AV.b true)) d5 fun d6 => g60x2 d6 n1 n2 n3 n4 n5 H4 c1 Kb1) fun Kb2 => br t2 (Kb2 DV.n H3) (onV d4 fun v2 => isI .i64 v2 fun n6 => frcB (ilt n6 ii1) fun t3 => Kb2 (DV.v (AV.b t3)) H3)) fun Kb2 => br t2 (Kb2 DV.n H2) (Kb2 (DV.v (AV.i .i64 n5)) H2)) fun Kb2 => br t1 (Kb2 DV.n H1) (onV d1 fun v1 => isI .i64 v1 fun n6 => frcB (ilt ii512 n6) fun t2 => Kb2 (DV.v (AV.b t2)) H1)
def g60x4 := isI .u32 v1 fun n1 => lc R1 fun d1 R2 => onV d1 fun v2 => isI .i64 v2 fun n2 => lc R2 fun d2 R3 => onV d2 fun v3 => isI .i64 v3 fun n3 => lc R3 fun d3 R4 => onV d3 fun v4 => isI .i64 v4 fun n4 => lc R4 fun d4 R5 => onV d4 fun v5 => isI .i64 v5 fun n5 => ln R5 <| frcB (ilt n4 ii1) fun t1 => jn (fun d5 H2 => g60x3 d5 n1 n2 n3 n4 n5 t1 H2 c1 Kb1) fun Kb2 => br t1 (Kb2 DV.n H1) (Kb2 (DV.v (AV.i .i64 n4)) H1)
/-- pool.New -/
def g60 : G DV := fun R1 H1 Kb1 => lc R1 fun d1 R2 => onV d1 fun v1 => g60x4 v1 R2 H1 c1 Kb1
def G60 : G DV := g60 G132

def g133x1 := jn (fun d2 H2 => pickK t1 (DV.v (AV.b true)) d2 fun d3 => onV d3 fun v1 => isB v1 fun t2 => br t2 (Kb1 (DV.c (DV.v (AV.p AP.nil)) (DV.c (DV.v (AV.er (nat_lit 2))) DV.n)) H2) (alB H2 (@T4.n AV (AV.i .i64 n1) (@T4.n AV (AV.i .i64 n1) te te te te) (@T4.n AV (AV.i .i64 n2) te te te te) (@T4.n AV yy4 te te te te) te) nn4 nn0 fun b1 H3 => Kb1 (DV.c (DV.v (AV.p (AP.at b1 nn0))) (DV.c (DV.v AV.ni) DV.n)) H3)) fun Kb2 => br t1 (Kb2 DV.n H1) (onV d1 fun v1 => isI .i64 v1 fun n3 => frcB (ilt ii64 n3) fun t2 => Kb2 (DV.v (AV.b t2)) H1)
def g133x2 := onV d1 fun v1 => isB v1 fun t1 => jn (fun d2 H2 => jn (fun d3 H3 => pickK t1 (DV.v (AV.b true)) d3 fun d4 => onV d4 fun v2 => isB v2 fun t2 => jn (fun d5 H4 => g133x1 d5 n1 n2 t2 H4 Kb1) fun Kb2 => br t2 (Kb2 DV.n H3) (Kb2 (DV.v (AV.i .i64 n2)) H3)) fun Kb2 => br t1 (Kb2 DV.n H2) (onV d2 fun v2 => isI .i64 v2 fun n3 => frcB (ilt n3 ii1) fun t2 => Kb2 (DV.v (AV.b t2)) H2)) fun Kb2 => br t1 (Kb2 DV.n H1) (Kb2 (DV.v (AV.i .i64 n2)) H1)
def g133x3 := lc R1 fun d1 R2 => onV d1 fun v1 => isI .i64 v1 fun n1 => lc R2 fun d2 R3 => onV d2 fun v2 => isI .i64 v2 fun n2 => ln R3 <| frcB (ilt n1 ii0) fun t1 => jn (fun d3 H2 => jn (fun d4 H3 => pickK t1 (DV.v (AV.b true)) d4 fun d5 => g133x2 d5 n1 n2 H3 Kb1) fun Kb2 => br t1 (Kb2 DV.n H2) (onV d3 fun v3 => isI .i64 v3 fun n3 => frcB (ile ii4096 n3) fun t2 => Kb2 (DV.v (AV.b t2)) H2)) fun Kb2 => br t1 (Kb2 DV.n H1) (Kb2 (DV.v (AV.i .i64 n1)) H1)
/-- win.New -/
def g133 : G DV := fun R1 H1 Kb1 => g133x3 R1 H1 Kb1
def G133 : G DV := g133

def g61x1 := br t1 (Kb1 (DV.c (DV.v (AV.p AP.nil)) (DV.c (DV.v v1) DV.n)) H1) (alB H1 (@T4.n AV (AV.p p1) (@T4.n AV (AV.i .i64 n1) (@T4.n AV yy1 te te te te) te te te) (@T4.n AV (AV.i .i64 n2) (@T4.n AV yy4 te te te te) te te te) (@T4.n AV (AV.i .i64 n3) (@T4.n AV yy3 te te te te) te te te) (@T4.n AV yy6 (@T4.n AV yy1 te te te te) te te te)) nn9 nn0 fun b1 H2 => Kb1 (DV.c (DV.v (AV.p (AP.at b1 nn0))) (DV.c (DV.v AV.ni) DV.n)) H2)
def g61x2 := jn (fun d2 H2 => pickK t1 (DV.v (AV.b true)) d2 fun d3 => onV d3 fun v1 => isB v1 fun t2 => br t2 (Kb1 (DV.c (DV.v (AV.p AP.nil)) (DV.c (DV.v (AV.er (nat_lit 2))) DV.n)) H2) (c1 [(DV.v (AV.i .i64 ii0)), (DV.v (AV.i .i64 ii1))] H2 fun d4 H3 => onC d4 fun d5 d6 => onV d5 fun v2 => isP v2 fun p1 => onC d6 fun d7 d8 => onV d7 fun v3 => onN d8 <| ifA true true v3 AV.ni fun t3 => frcB (bnot t3) fun t4 => g61x1 v3 n1 n2 n3 t4 p1 H3 Kb1)) fun Kb2 => br t1 (Kb2 DV.n H1) (onV d1 fun v1 => isI .i64 v1 fun n4 => frcB (ilt ii1099511627776 n4) fun t2 => Kb2 (DV.v (AV.b t2)) H1)
def g61x3 := isB v1 fun t1 => jn (fun d1 H2 => jn (fun d2 H3 => pickK t1 (DV.v (AV.b true)) d2 fun d3 => onV d3 fun v2 => isB v2 fun t2 => jn (fun d4 H4 => g61x2 d4 n1 n2 n3 t2 H4 c1 Kb1) fun Kb2 => br t2 (Kb2 DV.n H3) (Kb2 (DV.v (AV.i .i64 n3)) H3)) fun Kb2 => br t1 (Kb2 DV.n H2) (onV d1 fun v2 => isI .i64 v2 fun n4 => frcB (ilt n4 ii1) fun t2 => Kb2 (DV.v (AV.b t2)) H2)) fun Kb2 => br t1 (Kb2 DV.n H1) (Kb2 (DV.v (AV.i .i64 n3)) H1)
def g61x4 := jn (fun d2 H2 => pickK t1 (DV.v (AV.b true)) d2 fun d3 => onV d3 fun v1 => isB v1 fun t2 => jn (fun d4 H3 => jn (fun d5 H4 => pickK t2 (DV.v (AV.b true)) d5 fun d6 => onV d6 fun v2 => g61x3 v2 n1 n2 n3 H4 c1 Kb1) fun Kb2 => br t2 (Kb2 DV.n H3) (onV d4 fun v2 => isI .i64 v2 fun n4 => frcB (ilt ii15 n4) fun t3 => Kb2 (DV.v (AV.b t3)) H3)) fun Kb2 => br t2 (Kb2 DV.n H2) (Kb2 (DV.v (AV.i .i64 n2)) H2)) fun Kb2 => br t1 (Kb2 DV.n H1) (onV d1 fun v1 => isI .i64 v1 fun n4 => frcB (ilt n4 ii0) fun t2 => Kb2 (DV.v (AV.b t2)) H1)
def g61x5 := frcB (ilt n1 ii1) fun t1 => jn (fun d1 H2 => jn (fun d2 H3 => pickK t1 (DV.v (AV.b true)) d2 fun d3 => onV d3 fun v1 => isB v1 fun t2 => jn (fun d4 H4 => g61x4 d4 n1 n2 n3 t2 H4 c1 Kb1) fun Kb2 => br t2 (Kb2 DV.n H3) (Kb2 (DV.v (AV.i .i64 n2)) H3)) fun Kb2 => br t1 (Kb2 DV.n H2) (onV d1 fun v1 => isI .i64 v1 fun n4 => frcB (ilt ii64 n4) fun t2 => Kb2 (DV.v (AV.b t2)) H2)) fun Kb2 => br t1 (Kb2 DV.n H1) (Kb2 (DV.v (AV.i .i64 n1)) H1)
/-- ba.New -/
def g61 : G DV := fun R1 H1 Kb1 => lc R1 fun d1 R2 => onV d1 fun v1 => isI .i64 v1 fun n1 => lc R2 fun d2 R3 => onV d2 fun v2 => isI .i64 v2 fun n2 => lc R3 fun d3 R4 => onV d3 fun v3 => isI .i64 v3 fun n3 => ln R4 <| g61x5 n1 n2 n3 H1 c1 Kb1
def G61 : G DV := g61 G133

/-- aql.fair -/
def g103 : G DV := fun R1 H1 Kb1 => lc R1 fun d1 R2 => onV d1 fun v1 => isI .i64 v1 fun n1 => ln R2 <| frcB (ile ii0 n1) fun t1 => jn (fun d2 H2 => jn (fun d3 H3 => pickK t1 d3 (DV.v (AV.b false)) fun d4 => onV d4 fun v2 => isB v2 fun t2 => Kb1 (DV.v (AV.b t2)) H3) fun Kb2 => br t1 (onV d2 fun v2 => isI .i64 v2 fun n2 => frcB (ile n2 ii1099511627776) fun t2 => Kb2 (DV.v (AV.b t2)) H2) (Kb2 DV.n H2)) fun Kb2 => br t1 (Kb2 (DV.v (AV.i .i64 n1)) H1) (Kb2 DV.n H1)
def G103 : G DV := g103

def g62x1 := alB H1 (@T4.n AV (AV.i .i64 n1) (@T4.n AV (AV.i .i64 n2) (@T4.n AV yy1 te te te te) (@T4.n AV yy1 te te te te) (@T4.n AV yy1 te te te te) (@T4.n AV yy1 te te te te)) (@T4.n AV yy1 (@T4.n AV yy1 te te te te) (@T4.n AV yy1 te te te te) (@T4.n AV yy1 te te te te) te) (@T4.n AV yy1 (@T4.n AV yy1 te te te te) (@T4.n AV yy1 te te te te) (@T4.n AV yy1 te te te te) te) (@T4.n AV yy1 (@T4.n AV yy1 te te te te) (@T4.n AV yy1 te te te te) (@T4.n AV yy1 te te te te) te)) nn18 nn0 fun b1 H2 => Kb1 (DV.c (DV.v (AV.p (AP.at b1 nn0))) (DV.c (DV.v AV.ni) DV.n)) H2
def g62x2 := jn (fun d2 H2 => jn (fun d3 H3 => pickK t1 (DV.v (AV.b true)) d3 fun d4 => onV d4 fun v1 => isB v1 fun t2 => br t2 (Kb1 (DV.c (DV.v (AV.p AP.nil)) (DV.c (DV.v (AV.er (nat_lit 2))) DV.n)) H3) (g62x1 n1 n2 H3 Kb1)) fun Kb2 => br t1 (Kb2 DV.n H2) (onV d2 fun v1 => isB v1 fun t2 => frcB (bnot t2) fun t3 => Kb2 (DV.v (AV.b t3)) H2)) fun Kb2 => br t1 (Kb2 DV.n H1) (c1 [d1] H1 fun d2 H2 => onV d2 fun v1 => isB v1 fun t2 => Kb2 (DV.v (AV.b t2)) H2)
/-- aql.New -/
def g62 : G DV := fun R1 H1 Kb1 => lc R1 fun d1 R2 => onV d1 fun v1 => isI .i64 v1 fun n1 => lc R2 fun d2 R3 => onV d2 fun v2 => isI .i64 v2 fun n2 => ln R3 <| c1 [(DV.v (AV.i .i64 n1))] H1 fun d3 H2 => onV d3 fun v3 => isB v3 fun t1 => frcB (bnot t1) fun t2 => jn (fun d4 H3 => g62x2 d4 n1 n2 t2 H3 c1 Kb1) fun Kb2 => br t2 (Kb2 DV.n H2) (Kb2 (DV.v (AV.i .i64 n2)) H2)
def G62 : G DV := g62 G103

/-- ap.New$1 -/
def g63 : G DV := fun R1 H1 Kb1 => lc R1 fun d1 R2 => onV d1 fun v1 => isI .i64 v1 fun n1 => ln R2 <| frcB (ilt n1 ii0) fun t1 => jn (fun d2 H2 => jn (fun d3 H3 => pickK t1 (DV.v (AV.b true)) d3 fun d4 => onV d4 fun v2 => isB v2 fun t2 => Kb1 (DV.v (AV.b t2)) H3) fun Kb2 => br t1 (Kb2 DV.n H2) (onV d2 fun v2 => isI .i64 v2 fun n2 => frcB (ilt ii54840 n2) fun t2 => Kb2 (DV.v (AV.b t2)) H2)) fun Kb2 => br t1 (Kb2 DV.n H1) (Kb2 (DV.v (AV.i .i64 n1)) H1)
def G63 : G DV := g63

def g134x1 := frcB (ilt n1 (Int.ofNat m1)) fun t1 => br t1 (ixA s1 n1 (fun x => x) fun b1 m2 => rdK H1 b1 m2 fun v1 => isI .i64 v1 fun n2 => onV d1 fun v2 => fnK v2 fun m3 L1 L2 => lookD [((nat_lit 63) , c1)] m3 (appA (mapP L1) (appA [(DV.v (AV.i .i64 n2))] (mapP L2))) H1 fun d2 H2 => onV d2 fun v3 => isB v3 fun t2 => br t2 (Kb1 (DV.v (AV.i .i64 n1)) H2) (wrp .i64 (iadd n1 ii1) fun n3 => Kb2 (DV.v (AV.i .i64 n3)) H2)) (Kb1 (DV.v (AV.i .i64 im1)) H1)
/-- slices.IndexFunc[[]int64,int64] -/
def g134 : G DV := fun R1 H1 Kb1 => lc R1 fun d1 R2 => onV d1 fun v1 => isS v1 fun s1 => lc R2 fun d2 R3 => ln R3 <| lenA s1 fun m1 => lpR (failF [(8 , .int .i64)]) (fun Kb2 => fun d3 H2 => onV d3 fun v2 => isI .i64 v2 fun n1 => g134x1 d2 n1 m1 s1 H2 c1 Kb1 Kb2) (nat_lit 100000) (DV.v (AV.i .i64 ii0)) H1
def G134 : G DV := g134 G63

/-- slices.ContainsFunc[[]int64,int64] -/
def g64 : G DV := fun R1 H1 Kb1 => lc R1 fun d1 R2 => onV d1 fun v1 => isS v1 fun s1 => lc R2 fun d2 R3 => ln R3 <| c1 [(DV.v (AV.s s1)), d2] H1 fun d3 H2 => onV d3 fun v2 => isI .i64 v2 fun n1 => frcB (ile ii0 n1) fun t1 => Kb1 (DV.v (AV.b t1)) H2
def G64 : G DV := g64 G134

def z4 : List AV := [(AV.i .u8 ii0), (AV.i .u8 ii0), (AV.i .u8 ii0), (AV.i .u8 ii0), (AV.i .u8 ii0), (AV.i .u8 ii0)]
def g65x1 := jn (fun d1 H2 => jn (fun d2 H3 => jn (fun d3 H4 => pickK t1 d3 (DV.v (AV.b false)) fun d4 => onV d4 fun v1 => isB v1 fun t2 => Kb1 (DV.v (AV.b t2)) H4) fun Kb2 => br t1 (onL d1 fun l1 => onL d2 fun l2 => intsK .u8 l1 fun x1 => intsK .u8 l2 fun x2 => must (Nat.beq (leni x1) nn6) <| must (Nat.beq (leni x2) nn6) <| frcB (bnot (leqI x1 x2)) fun t2 => Kb2 (DV.v (AV.b t2)) H3) (Kb2 DV.n H3)) fun Kb2 => br t1 (Kb2 (DV.a z4) H2) (Kb2 DV.n H2)) fun Kb2 => br t1 (rdR H1 b1 nn0 nn6 fun l1 => Kb2 (DV.a l1) H1) (Kb2 DV.n H1)
/-- sta.Fair -/
def g65 : G DV := fun R1 H1 Kb1 => lc R1 fun d1 R2 => ln R2 <| cellsD d1 fun l1 => alK H1 l1 fun b1 H2 => rdK H2 b1 nn0 fun v1 => isI .u8 v1 fun n1 => asI (bits .and .u8 n1 ii1) fun n2 => frcB (ieq n2 ii0) fun t1 => g65x1 t1 b1 H2 Kb1
def G65 : G DV := g65

def g66x1 := alB H1 (@T4.n AV yy5 (@T4.n AV yy5 (@T4.n AV yy5 te te te te) (@T4.n AV yy5 te te te te) (@T4.n AV yy5 te te te te) te) (@T4.n AV yy5 (@T4.n AV yy5 te te te te) (@T4.n AV yy5 te te te te) (@T4.n AV yy5 te te te te) te) (@T4.n AV yy5 (@T4.n AV yy5 te te te te) (@T4.n AV yy5 te te te te) (@T4.n AV yy5 te te te te) te) (@T4.n AV yy5 (@T4.n AV yy5 te te te te) (@T4.n AV yy5 te te te te) (@T4.n AV (AV.p (AP.at b1 nn0)) te te te te) te)) nn17 nn0 fun b2 H2 => Kb1 (DV.v (AV.p (AP.at b2 nn0))) H2
/-- sched.New -/
def g66 : G DV := fun R1 H1 Kb1 => ln R1 <| alB H1 (@T4.n AV yy4 te te te te) nn1 nn0 fun b1 H2 => g66x1 b1 H2 Kb1
def G66 : G DV := g66

def g22x1 := alK H1 (lapp l1 ((AV.i .i64 ii0) :: ((AV.b false) :: ((AV.i .u8 ii0) :: ((AV.i .u8 ii0) :: ((AV.i .u8 ii0) :: ((AV.i .u8 ii0) :: ((AV.i .u8 ii0) :: ((AV.i .u8 ii0) :: ((AV.i .i64 ii0) :: ((AV.b false) :: ((AV.i .u8 ii0) :: ((AV.i .u8 ii0) :: ((AV.i .u8 ii0) :: ((AV.i .u8 ii0) :: ((AV.i .u8 ii0) :: ((AV.i .u8 ii0) :: ((AV.i .i64 ii0) :: ((AV.b false) :: ((AV.i .u8 ii0) :: ((AV.i .u8 ii0) :: ((AV.i .u8 ii0) :: ((AV.i .u8 ii0) :: ((AV.i .u8 ii0) :: ((AV.i .u8 ii0) :: ((AV.i .i64 ii0) :: ((AV.b false) :: ((AV.i .u8 ii0) :: ((AV.i .u8 ii0) :: ((AV.i .u8 ii0) :: ((AV.i .u8 ii0) :: ((AV.i .u8 ii0) :: ((AV.i .u8 ii0) :: ((AV.i .i64 ii0) :: ((AV.b false) :: ((AV.i .u8 ii0) :: ((AV.i .u8 ii0) :: ((AV.i .u8 ii0) :: ((AV.i .u8 ii0) :: ((AV.i .u8 ii0) :: ((AV.i .u8 ii0) :: ((AV.i .i64 ii0) :: ((AV.b false) :: ((AV.i .u8 ii0) :: ((AV.i .u8 ii0) :: ((AV.i .u8 ii0) :: ((AV.i .u8 ii0) :: ((AV.i .u8 ii0) :: ((AV.i .u8 ii0) :: ((AV.i .i64 ii0) :: ((AV.b false) :: ((AV.i .u8 ii0) :: ((AV.i .u8 ii0) :: ((AV.i .u8 ii0) :: ((AV.i .u8 ii0) :: ((AV.i .u8 ii0) :: ((AV.i .u8 ii0) :: ((AV.i .i64 ii0) :: ((AV.b false) :: ((AV.i .u8 ii0) :: ((AV.i .u8 ii0) :: ((AV.i .u8 ii0) :: ((AV.i .u8 ii0) :: ((AV.i .u8 ii0) :: ((AV.i .u8 ii0) :: ((AV.i .i64 ii0) :: ((AV.b false) :: ((AV.i .u8 ii0) :: ((AV.i .u8 ii0) :: ((AV.i .u8 ii0) :: ((AV.i .u8 ii0) :: ((AV.i .u8 ii0) :: ((AV.i .u8 ii0) :: ((AV.i .i64 ii0) :: ((AV.b false) :: ((AV.i .u8 ii0) :: ((AV.i .u8 ii0) :: ((AV.i .u8 ii0) :: ((AV.i .u8 ii0) :: ((AV.i .u8 ii0) :: ((AV.i .u8 ii0) :: ((AV.i .i64 ii0) :: ((AV.b false) :: ((AV.i .u8 ii0) :: ((AV.i .u8 ii0) :: ((AV.i .u8 ii0) :: ((AV.i .u8 ii0) :: ((AV.i .u8 ii0) :: ((AV.i .u8 ii0) :: ((AV.i .i64 ii0) :: ((AV.b false) :: ((AV.i .u8 ii0) :: ((AV.i .u8 ii0) :: ((AV.i .u8 ii0) :: ((AV.i .u8 ii0) :: ((AV.i .u8 ii0) :: ((AV.i .u8 ii0) :: ((AV.i .i64 ii0) :: ((AV.b false) :: ((AV.i .u8 ii0) :: ((AV.i .u8 ii0) :: ((AV.i .u8 ii0) :: ((AV.i .u8 ii0) :: ((AV.i .u8 ii0) :: ((AV.i .u8 ii0) :: ((AV.i .i64 ii0) :: ((AV.b false) :: ((AV.i .u8 ii0) :: ((AV.i .u8 ii0) :: ((AV.i .u8 ii0) :: ((AV.i .u8 ii0) :: ((AV.i .u8 ii0) :: ((AV.i .u8 ii0) :: ((AV.i .i64 ii0) :: ((AV.b false) :: ((AV.i .u8 ii0) :: ((AV.i .u8 ii0) :: ((AV.i .u8 ii0) :: ((AV.i .u8 ii0) :: ((AV.i .u8 ii0) :: ((AV.i .u8 ii0) :: ((AV.i .i64 ii0) :: ((AV.b false) :: ((AV.i .u8 ii0) :: ((AV.i .u8 ii0) :: ((AV.i .u8 ii0) :: ((AV.i .u8 ii0) :: ((AV.i .u8 ii0) :: ((AV.i .u8 ii0) :: ((AV.i .i64 ii0) :: ((AV.b false) :: ((AV.b false) :: ((AV.b false) :: ((AV.b false) :: ((AV.b false) :: ((AV.b false) :: ((AV.b false) :: ((AV.b false) :: ((AV.i .i64 ii0) :: ((AV.i .i64 ii0) :: ((AV.b false) :: ((AV.b false) :: ((AV.b false) :: ((AV.b false) :: ((AV.b false) :: ((AV.b false) :: ((AV.b false) :: ((AV.b false) :: ((AV.i .i64 ii0) :: ((AV.i .i64 ii0) :: ((AV.b false) :: ((AV.b false) :: ((AV.b false) :: ((AV.b false) :: ((AV.b false) :: ((AV.b false) :: ((AV.b false) :: ((AV.b false) :: ((AV.i .i64 ii0) :: ((AV.i .i64 ii0) :: ((AV.b false) :: ((AV.b false) :: ((AV.b false) :: ((AV.b false) :: ((AV.b false) :: ((AV.b false) :: ((AV.b false) :: ((AV.b false) :: ((AV.i .i64 ii0) :: ((AV.i .i64 ii0) :: ((AV.b false) :: ((AV.b false) :: ((AV.b false) :: ((AV.b false) :: ((AV.b false) :: ((AV.b false) :: ((AV.b false) :: ((AV.b false) :: ((AV.i .i64 ii0) :: ((AV.i .i64 ii0) :: ((AV.b false) :: ((AV.b false) :: ((AV.b false) :: ((AV.b false) :: ((AV.b false) :: ((AV.b false) :: ((AV.b false) :: ((AV.b false) :: ((AV.i .i64 ii0) :: ((AV.i .i64 ii0) :: ((AV.b false) :: ((AV.b false) :: ((AV.b false) :: ((AV.b false) :: ((AV.b false) :: ((AV.b false) :: ((AV.b false) :: ((AV.b false) :: ((AV.i .i64 ii0) :: ((AV.i .i64 ii0) :: ((AV.b false) :: ((AV.b false) :: ((AV.b false) :: ((AV.b false) :: ((AV.b false) :: ((AV.b false) :: ((AV.b false) :: ((AV.b false) :: ((AV.i .i64 ii0) :: ((AV.i .i64 ii0) :: ((AV.b false) :: ((AV.b false) :: ((AV.b false) :: ((AV.b false) :: ((AV.b false) :: ((AV.b false) :: ((AV.b false) :: ((AV.b false) :: ((AV.i .i64 ii0) :: ((AV.i .i64 ii0) :: ((AV.b false) :: ((AV.b false) :: ((AV.b false) :: ((AV.b false) :: ((AV.b false) :: ((AV.b false) :: ((AV.b false) :: ((AV.b false) :: ((AV.i .i64 ii0) :: ((AV.i .i64 ii0) :: ((AV.b false) :: ((AV.b false) :: ((AV.b false) :: ((AV.b false) :: ((AV.b false) :: ((AV.b false) :: ((AV.b false) :: ((AV.b false) :: ((AV.i .i64 ii0) :: ((AV.i .i64 ii0) :: ((AV.b false) :: ((AV.b false) :: ((AV.b false) :: ((AV.b false) :: ((AV.b false) :: ((AV.b false) :: ((AV.b false) :: ((AV.b false) :: ((AV.i .i64 ii0) :: ((AV.i .i64 ii0) :: ((AV.b false) :: ((AV.b false) :: ((AV.b false) :: ((AV.b false) :: ((AV.b false) :: ((AV.b false) :: ((AV.b false) :: ((AV.b false) :: ((AV.i .i64 ii0) :: ((AV.i .i64 ii0) :: ((AV.b false) :: ((AV.b false) :: ((AV.b false) :: ((AV.b false) :: ((AV.b false) :: ((AV.b false) :: ((AV.b false) :: ((AV.b false) :: ((AV.i .i64 ii0) :: ((AV.i .i64 ii0) :: ((AV.b false) :: ((AV.b false) :: ((AV.b false) :: ((AV.b false) :: ((AV.b false) :: ((AV.b false) :: ((AV.b false) :: ((AV.b false) :: ((AV.i .i64 ii0) :: ((AV.i .i64 ii0) :: ((AV.b false) :: ((AV.b false) :: ((AV.b false) :: ((AV.b false) :: ((AV.b false) :: ((AV.b false) :: ((AV.b false) :: ((AV.b false) :: ((AV.i .i64 ii0) :: ((AV.i .i64 ii0) :: ((AV.s AS.nil) :: ((AV.p p1) :: ((AV.p p2) :: ((AV.p AP.nil) :: ((AV.p AP.nil) :: ((AV.p AP.nil) :: ((AV.p AP.nil) :: ((AV.b false) :: ((AV.i .i64 ii0) :: ((AV.i .i64 ii0) :: ((AV.b false) :: ((AV.i .i64 ii0) :: ((AV.i .i64 ii0) :: ((AV.b false) :: ((AV.i .i64 ii0) :: ((AV.i .i64 ii0) :: ((AV.b false) :: ((AV.i .i64 ii0) :: ((AV.i .i64 ii0) :: ((AV.p AP.nil) :: ((AV.p AP.nil) :: ((AV.p AP.nil) :: ((AV.p AP.nil) :: ((AV.p AP.nil) :: ((AV.p AP.nil) :: ((AV.p AP.nil) :: ((AV.p AP.nil) :: ((AV.p AP.nil) :: ((AV.p AP.nil) :: ((AV.p AP.nil) :: ((AV.p AP.nil) :: ((AV.p AP.nil) :: ((AV.p AP.nil) :: ((AV.p AP.nil) :: ((AV.p AP.nil) :: ((AV.i .i64 ii0) :: ((AV.s AS.nil) :: []))))))))))))))))))))))))))))))))))))))))))))))))))))))))))))))))))))))))))))))))))))))))))))))))))))))))))))))))))))))))))))))))))))))))))))))))))))))))))))))))))))))))))))))))))))))))))))))))))))))))))))))))))))))))))))))))))))))))))))))))))))))))))))))))))))))))))))))))))))))))))))))))))))))))))))))))))))))))))))))))))))))) fun b1 H2 => lpR (failF [(99 , .int .i64)]) (fun Kb2 => fun d1 H3 => onV d1 fun v1 => isI .i64 v1 fun n1 => frcB (ilt n1 ii4) fun t1 => br t1 (c1 [] H3 fun d2 H4 => onV d2 fun v2 => isP v2 fun p3 => rng n1 nn4 <| wrK H4 b1 (Nat.add nn313 (itn n1)) (AV.p p3) fun H5 => wrp .i64 (iadd n1 ii1) fun n2 => Kb2 (DV.v (AV.i .i64 n2)) H5) (Kb1 (DV.c (DV.v (AV.p (AP.at b1 nn0))) (DV.c (DV.v AV.ni) DV.n)) H3)) (nat_lit 100000) (DV.v (AV.i .i64 ii0)) H2
def g22x2 := jn (fun d2 H2 => jn (fun d3 H3 => pickK t1 (DV.v (AV.b true)) d3 fun d4 => onV d4 fun v1 => isB v1 fun t2 => br t2 (Kb1 (DV.c (DV.v (AV.p AP.nil)) (DV.c (DV.v (AV.er (nat_lit 2))) DV.n)) H3) (rdR H3 b1 nn0 nn21 fun l1 => must (Nat.beq (llen l1) nn21) <| g22x1 l1 p1 p2 H3 c1 Kb1)) fun Kb2 => br t1 (Kb2 DV.n H2) (onV d2 fun v1 => isB v1 fun t2 => frcB (bnot t2) fun t3 => Kb2 (DV.v (AV.b t3)) H2)) fun Kb2 => br t1 (Kb2 DV.n H1) (c2 [d1] H1 fun d2 H2 => onV d2 fun v1 => isB v1 fun t2 => Kb2 (DV.v (AV.b t2)) H2)
def g22x3 := jn (fun d3 H2 => pickK t1 (DV.v (AV.b true)) d3 fun d4 => onV d4 fun v1 => isB v1 fun t2 => jn (fun d5 H3 => jn (fun d6 H4 => g22x2 d6 t2 p1 p2 b1 H4 c1 c2 Kb1) fun Kb2 => br t2 (Kb2 DV.n H3) (onV d5 fun v2 => isP v2 fun p3 => onA p3 fun b2 m1 => rdR H3 b2 m1 nn6 fun l1 => Kb2 (DV.a l1) H3)) fun Kb2 => br t2 (Kb2 DV.n H2) (Kb2 (DV.v (AV.p (AP.at b1 nn0))) H2)) fun Kb2 => br t1 (Kb2 DV.n H1) (c3 [d1, d2] H1 fun d3 H2 => onV d3 fun v1 => isB v1 fun t2 => Kb2 (DV.v (AV.b t2)) H2)
def g22x4 := pickK t1 (DV.v (AV.b true)) d1 fun d2 => onV d2 fun v1 => isB v1 fun t2 => jn (fun d3 H2 => jn (fun d4 H3 => jn (fun d5 H4 => g22x3 d4 d5 t2 p1 p2 b1 H4 c1 c2 c3 Kb1) fun Kb2 => br t2 (Kb2 DV.n H3) (Kb2 (DV.v (AV.fn (nat_lit 63) [])) H3)) fun Kb2 => br t2 (Kb2 DV.n H2) (onV d3 fun v2 => isP v2 fun p3 => onA p3 fun b2 m1 => Kb2 (DV.v (AV.s (AS.sl b2 m1 nn4 nn4))) H2)) fun Kb2 => br t2 (Kb2 DV.n H1) (Kb2 (DV.v (AV.p (AP.at b1 nn15))) H1)
def g22x5 := jn (fun d1 H2 => jn (fun d2 H3 => jn (fun d3 H4 => g22x4 d3 t1 p1 p2 b1 H4 c1 c2 c3 Kb1) fun Kb2 => br t1 (Kb2 DV.n H3) (onV d2 fun v1 => isI .i64 v1 fun n1 => frcB (ilt ii65535 n1) fun t2 => Kb2 (DV.v (AV.b t2)) H3)) fun Kb2 => br t1 (Kb2 DV.n H2) (onV d1 fun v1 => isP v1 fun p3 => onA p3 fun b2 m1 => rdK H2 b2 m1 fun v2 => isI .i64 v2 fun n1 => Kb2 (DV.v (AV.i .i64 n1)) H2)) fun Kb2 => br t1 (Kb2 DV.n H1) (Kb2 (DV.v (AV.p (AP.at b1 nn14))) H1)
def g22x6 := jn (fun d2 H2 => jn (fun d3 H3 => pickK t1 (DV.v (AV.b true)) d3 fun d4 => onV d4 fun v1 => isB v1 fun t2 => g22x5 t2 p1 p2 b1 H3 c1 c2 c3 Kb1) fun Kb2 => br t1 (Kb2 DV.n H2) (onV d2 fun v1 => isI .i64 v1 fun n1 => frcB (ilt n1 ii1) fun t2 => Kb2 (DV.v (AV.b t2)) H2)) fun Kb2 => br t1 (Kb2 DV.n H1) (onV d1 fun v1 => isP v1 fun p3 => onA p3 fun b2 m1 => rdK H1 b2 m1 fun v2 => isI .i64 v2 fun n1 => Kb2 (DV.v (AV.i .i64 n1)) H1)
def g22x7 := jn (fun d2 H2 => jn (fun d3 H3 => pickK t1 (DV.v (AV.b true)) d3 fun d4 => onV d4 fun v1 => isB v1 fun t2 => jn (fun d5 H4 => g22x6 d5 t2 p1 p2 b1 H4 c1 c2 c3 Kb1) fun Kb2 => br t2 (Kb2 DV.n H3) (Kb2 (DV.v (AV.p (AP.at b1 nn14))) H3)) fun Kb2 => br t1 (Kb2 DV.n H2) (onV d2 fun v1 => isI .i64 v1 fun n1 => frcB (ilt ii1073741824 n1) fun t2 => Kb2 (DV.v (AV.b t2)) H2)) fun Kb2 => br t1 (Kb2 DV.n H1) (onV d1 fun v1 => isP v1 fun p3 => onA p3 fun b2 m1 => rdK H1 b2 m1 fun v2 => isI .i64 v2 fun n1 => Kb2 (DV.v (AV.i .i64 n1)) H1)
def g22x8 := jn (fun d2 H2 => jn (fun d3 H3 => pickK t1 (DV.v (AV.b true)) d3 fun d4 => onV d4 fun v1 => isB v1 fun t2 => jn (fun d5 H4 => g22x7 d5 t2 p1 p2 b1 H4 c1 c2 c3 Kb1) fun Kb2 => br t2 (Kb2 DV.n H3) (Kb2 (DV.v (AV.p (AP.at b1 nn10))) H3)) fun Kb2 => br t1 (Kb2 DV.n H2) (onV d2 fun v1 => isI .i64 v1 fun n1 => frcB (ilt n1 ii0) fun t2 => Kb2 (DV.v (AV.b t2)) H2)) fun Kb2 => br t1 (Kb2 DV.n H1) (onV d1 fun v1 => isP v1 fun p3 => onA p3 fun b2 m1 => rdK H1 b2 m1 fun v2 => isI .i64 v2 fun n1 => Kb2 (DV.v (AV.i .i64 n1)) H1)
def g22x9 := jn (fun d2 H2 => jn (fun d3 H3 => pickK t1 (DV.v (AV.b true)) d3 fun d4 => onV d4 fun v1 => isB v1 fun t2 => jn (fun d5 H4 => g22x8 d5 t2 p1 p2 b1 H4 c1 c2 c3 Kb1) fun Kb2 => br t2 (Kb2 DV.n H3) (Kb2 (DV.v (AV.p (AP.at b1 nn10))) H3)) fun Kb2 => br t1 (Kb2 DV.n H2) (onV d2 fun v1 => isI .i64 v1 fun n1 => frcB (ilt ii1073741824 n1) fun t2 => Kb2 (DV.v (AV.b t2)) H2)) fun Kb2 => br t1 (Kb2 DV.n H1) (onV d1 fun v1 => isP v1 fun p3 => onA p3 fun b2 m1 => rdK H1 b2 m1 fun v2 => isI .i64 v2 fun n1 => Kb2 (DV.v (AV.i .i64 n1)) H1)
def g22x10 := onC d1 fun d2 d3 => onV d2 fun v1 => isP v1 fun p2 => onC d3 fun d4 d5 => onV d4 fun v2 => onN d5 <| ifA true true v2 AV.ni fun t1 => frcB (bnot t1) fun t2 => br t2 (Kb1 (DV.c (DV.v (AV.p AP.nil)) (DV.c (DV.v v2) DV.n)) H1) (rdK H1 b1 nn9 fun v3 => isI .i64 v3 fun n1 => frcB (ilt n1 ii0) fun t3 => jn (fun d6 H2 => g22x9 d6 t3 p1 p2 b1 H2 c1 c2 c3 Kb1) fun Kb2 => br t3 (Kb2 DV.n H1) (Kb2 (DV.v (AV.p (AP.at b1 nn9))) H1))
def g22x11 := onC d1 fun d2 d3 => onV d2 fun v1 => isP v1 fun p2 => onC d3 fun d4 d5 => onV d4 fun v2 => onN d5 <| ifA true true v2 AV.ni fun t1 => frcB (bnot t1) fun t2 => br t2 (Kb1 (DV.c (DV.v (AV.p AP.nil)) (DV.c (DV.v v2) DV.n)) H1) (rdK H1 b1 nn19 fun v3 => isI .i64 v3 fun n1 => rdK H1 b1 nn20 fun v4 => isI .i64 v4 fun n2 => c1 [(DV.v (AV.i .i64 n1)), (DV.v (AV.i .i64 n2))] H1 fun d6 H2 => g22x10 d6 p1 b1 H2 c2 c3 c4 Kb1)
def g22x12 := onV d1 fun v1 => onN d2 <| ifA true true v1 AV.ni fun t1 => frcB (bnot t1) fun t2 => br t2 (Kb1 (DV.c (DV.v (AV.p AP.nil)) (DV.c (DV.v v1) DV.n)) H1) (rdK H1 b1 nn11 fun v2 => isI .i64 v2 fun n1 => rdK H1 b1 nn12 fun v3 => isI .i64 v3 fun n2 => rdK H1 b1 nn13 fun v4 => isI .i64 v4 fun n3 => c1 [(DV.v (AV.i .i64 n1)), (DV.v (AV.i .i64 n2)), (DV.v (AV.i .i64 n3))] H1 fun d3 H2 => g22x11 d3 p1 b1 H2 c2 c3 c4 c5 Kb1)
def g22x13 := isI .i64 v1 fun n2 => rdK H1 b1 nn10 fun v2 => isI .i64 v2 fun n3 => rdK H1 b1 nn7 fun v3 => isI .i64 v3 fun n4 => rdK H1 b1 nn8 fun v4 => isI .i64 v4 fun n5 => c1 [(DV.v (AV.i .u32 n1)), (DV.v (AV.i .i64 n2)), (DV.v (AV.i .i64 n3)), (DV.v (AV.i .i64 n4)), (DV.v (AV.i .i64 n5))] H1 fun d1 H2 => onC d1 fun d2 d3 => onV d2 fun v5 => isP v5 fun p1 => onC d3 fun d4 d5 => g22x12 d4 d5 p1 b1 H2 c2 c3 c4 c5 c6 Kb1
/-- ap.New -/
def g22 : G DV := fun R1 H1 Kb1 => lc R1 fun d1 R2 => ln R2 <| cellsD d1 fun l1 => alK H1 l1 fun b1 H2 => rdK H2 b1 nn6 fun v1 => isI .u32 v1 fun n1 => rdK H2 b1 nn9 fun v2 => g22x13 v2 n1 b1 H2 c1 c2 c3 c6 c5 c4 Kb1
def G22 : G DV := g22 G60 G61 G62 G64 G65 G66

def g42x1 := jn (fun d1 H2 => jn (fun d2 H3 => pickK t1 (DV.v (AV.b true)) d2 fun d3 => onV d3 fun v1 => isB v1 fun t2 => br t2 (Kb1 (DV.v (AV.p AP.nil)) H3) (wrp .i64 (isub n1 ii1) fun n2 => onA p1 fun b1 m1 => rng n2 nn16 <| rdK H3 b1 (Nat.add (Nat.add m1 nn329) (itn n2)) fun v2 => isP v2 fun p2 => Kb1 (DV.v (AV.p p2)) H3)) fun Kb2 => br t1 (Kb2 DV.n H2) (onV d1 fun v1 => isI .i64 v1 fun n2 => frcB (ilt ii16 n2) fun t2 => Kb2 (DV.v (AV.b t2)) H2)) fun Kb2 => br t1 (Kb2 DV.n H1) (Kb2 (DV.v (AV.i .i64 n1)) H1)
/-- (*ap.AP).of -/
def g42 : G DV := fun R1 H1 Kb1 => lc R1 fun d1 R2 => onV d1 fun v1 => isP v1 fun p1 => lc R2 fun d2 R3 => onV d2 fun v2 => isI .i64 v2 fun n1 => ln R3 <| frcB (ilt n1 ii1) fun t1 => g42x1 n1 t1 p1 H1 Kb1
def G42 : G DV := g42

/-- seq.mod -/
def g289 : G DV := fun R1 H1 Kb1 => lc R1 fun d1 R2 => onV d1 fun v1 => isI .i64 v1 fun n1 => ln R2 <| must (bnot (ieq ii4096 ii0)) <| asI (irem n1 ii4096) fun n2 => wrp .i64 (iadd n2 ii4096) fun n3 => must (bnot (ieq ii4096 ii0)) <| asI (irem n3 ii4096) fun n4 => Kb1 (DV.v (AV.i .i64 n4)) H1
def G289 : G DV := g289

def g206x1 := lc R1 fun d1 R2 => onV d1 fun v1 => isI .i64 v1 fun n1 => lc R2 fun d2 R3 => onV d2 fun v2 => isI .i64 v2 fun n2 => ln R3 <| c1 [(DV.v (AV.i .i64 n2))] H1 fun d3 H2 => onV d3 fun v3 => isI .i64 v3 fun n3 => c1 [(DV.v (AV.i .i64 n1))] H2 fun d4 H3 => onV d4 fun v4 => isI .i64 v4 fun n4 => wrp .i64 (isub n3 n4) fun n5 => c1 [(DV.v (AV.i .i64 n5))] H3 fun d5 H4 => onV d5 fun v5 => isI .i64 v5 fun n6 => Kb1 (DV.v (AV.i .i64 n6)) H4
/-- seq.Dist -/
def g206 : G DV := fun R1 H1 Kb1 => g206x1 R1 H1 c1 Kb1
def G206 : G DV := g206 G289

def g205x1 := jn (fun d3 H2 => jn (fun d4 H3 => jn (fun d5 H4 => pickK t1 d5 (DV.v (AV.b false)) fun d6 => onV d6 fun v1 => isB v1 fun t2 => Kb1 (DV.v (AV.b t2)) H4) fun Kb2 => br t1 (onV d4 fun v1 => isI .i64 v1 fun n1 => frcB (ilt n1 ii64) fun t2 => Kb2 (DV.v (AV.b t2)) H3) (Kb2 DV.n H3)) fun Kb2 => br t1 (c1 [d1, d3] H2 fun d4 H3 => onV d4 fun v1 => isI .i64 v1 fun n1 => Kb2 (DV.v (AV.i .i64 n1)) H3) (Kb2 DV.n H2)) fun Kb2 => br t1 (onV d2 fun v1 => isP v1 fun p1 => onA p1 fun b1 m1 => rdK H1 b1 m1 fun v2 => isI .i64 v2 fun n1 => Kb2 (DV.v (AV.i .i64 n1)) H1) (Kb2 DV.n H1)
def g205x2 := jn (fun d2 H2 => jn (fun d3 H3 => jn (fun d4 H4 => g205x1 d2 d4 t1 H4 c1 Kb1) fun Kb2 => br t1 (onV d3 fun v1 => isP v1 fun p1 => onA p1 fun b2 m1 => Kb2 (DV.v (AV.p (AP.at b2 (Nat.add m1 nn5)))) H3) (Kb2 DV.n H3)) fun Kb2 => br t1 (Kb2 (DV.v (AV.p (AP.at b1 nn0))) H2) (Kb2 DV.n H2)) fun Kb2 => br t1 (onV d1 fun v1 => isP v1 fun p1 => onA p1 fun b2 m1 => rdK H1 b2 m1 fun v2 => isI .i64 v2 fun n1 => Kb2 (DV.v (AV.i .i64 n1)) H1) (Kb2 DV.n H1)
/-- (*ba.Session).Heard$1 -/
def g205 : G DV := fun R1 H1 Kb1 => lc R1 fun d1 R2 => lc R2 fun d2 R3 => onV d2 fun v1 => isP v1 fun p1 => ln R3 <| cellsD d1 fun l1 => alK H1 l1 fun b1 H2 => rdK H2 b1 nn8 fun v2 => isB v2 fun t1 => jn (fun d3 H3 => g205x2 d3 t1 b1 H3 c1 Kb1) fun Kb2 => br t1 (onA p1 fun b2 m1 => Kb2 (DV.v (AV.p (AP.at b2 (Nat.add m1 nn13)))) H2) (Kb2 DV.n H2)
def G205 : G DV := g205 G206

def g210x1 := rdK H1 b1 (Nat.add m1 nn13) fun v1 => isI .i64 v1 fun n2 => rdK H1 b2 nn5 fun v2 => isI .i64 v2 fun n3 => c1 [(DV.v (AV.i .i64 n2)), (DV.v (AV.i .i64 n3))] H1 fun d1 H2 => onV d1 fun v3 => isI .i64 v3 fun n4 => rdK H2 b3 (Nat.add m2 nn14) fun v4 => must (aveq (AV.i .u64 n1) v4) <| must (ile ii0 n4) <| must (ile n4 ii64) <| asI (idiv n1 (ip2 n4)) fun n5 => asI (bits .and .u64 n5 ii1) fun n6 => frcB (ilt ii0 n6) fun t1 => Kb1 (DV.v (AV.b t1)) H2
def g210x2 := rdK H1 b1 m1 fun v1 => rdR H1 b2 nn0 nn9 fun l1 => fnK v1 fun m2 L1 L2 => lookD [((nat_lit 205) , c1), ((nat_lit 206) , c2)] m2 (appA (mapP L1) (appA [(DV.a l1)] (mapP L2))) H1 fun d1 H2 => onV d1 fun v2 => isB v2 fun t1 => br t1 (onA p1 fun b3 m3 => rdK H2 b3 (Nat.add m3 nn14) fun v3 => isI .u64 v3 fun n1 => onA p1 fun b4 m4 => g210x1 n1 m4 m3 b4 b2 b3 H2 c2 Kb1) (Kb1 (DV.v (AV.b false)) H2)
/-- (*ba.Session).Heard$2 -/
def g210 : G DV := fun R1 H1 Kb1 => lc R1 fun d1 R2 => lc R2 fun d2 R3 => onV d2 fun v1 => isP v1 fun p1 => lc R3 fun d3 R4 => onV d3 fun v2 => isP v2 fun p2 => ln R4 <| cellsD d1 fun l1 => alK H1 l1 fun b1 H2 => onA p1 fun b2 m1 => g210x2 m1 p2 b2 b1 H2 c1 c2 Kb1
def G210 : G DV := g210 G205 G206

/-- (*ba.Session).Out$1 -/
def g221 : G DV := fun R1 H1 Kb1 => lc R1 fun d1 R2 => ln R2 <| cellsD d1 fun l1 => alK H1 l1 fun b1 H2 => Kb1 (DV.v (AV.b true)) H2
def G221 : G DV := g221

/-- slices.Clone[[]byte,byte] -/
def g122 : G DV := fun R1 H1 Kb1 => lc R1 fun d1 R2 => onV d1 fun v1 => isS v1 fun s1 => ln R2 <| frcB (isNilS s1) fun t1 => br t1 (Kb1 (DV.v (AV.s AS.nil)) H1) (alB H1 te nn0 nn0 fun b1 H2 => appD nn1 nn1 (AS.sl b1 nn0 nn0 nn0) s1 H2 fun s2 H3 => Kb1 (DV.v (AV.s s2)) H3)
def G122 : G DV := g122

def z5 : T4 AV := (@T4.n AV yy1 (@T4.n AV yy2 (@T4.n AV yy1 te te te te) te te te) (@T4.n AV yy1 (@T4.n AV yy1 te te te te) te te te) (@T4.n AV yy1 (@T4.n AV yy1 te te te te) te te te) (@T4.n AV yy4 te te te te))
/-- ba.own -/
def g295 : G DV := fun R1 H1 Kb1 => lc R1 fun d1 R2 => ln R2 <| cellsD d1 fun l1 => alK H1 l1 fun b1 H2 => alB H2 z5 nn8 nn0 fun b2 H3 => rdK H3 b1 nn4 fun v1 => isS v1 fun s1 => c1 [(DV.v (AV.s s1))] H3 fun d2 H4 => onV d2 fun v2 => isS v2 fun s2 => wrK H4 b1 nn4 (AV.s s2) fun H5 => rdR H5 b1 nn0 nn8 fun l2 => must (Nat.beq (llen l2) nn8) <| wrL H5 b2 nn0 l2 fun H6 => rdR H6 b2 nn0 nn8 fun l3 => Kb1 (DV.a l3) H6
def G295 : G DV := g295 G122

def z6 : T4 AV := (@T4.n AV yy1 (@T4.n AV yy2 (@T4.n AV yy1 te te te te) te te te) (@T4.n AV yy1 (@T4.n AV yy1 te te te te) te te te) (@T4.n AV yy1 (@T4.n AV yy1 te te te te) te te te) (@T4.n AV yy4 (@T4.n AV yy3 te te te te) te te te))
def g220x1 := lookD [((nat_lit 210) , c1), ((nat_lit 221) , c2), ((nat_lit 295) , c3)] m1 (appA (mapP L1) (appA [(DV.a l1)] (mapP L2))) H1 fun d1 H2 => onV d1 fun v1 => isB v1 fun t1 => br t1 (rdR H2 b1 nn0 nn8 fun l2 => c3 [(DV.a l2)] H2 fun d2 H3 => onL d2 fun l3 => must (Nat.beq (llen l3) nn8) <| alK H3 (lapp l3 []) fun b2 H4 => appD nn8 nn80 s1 (AS.sl b2 nn0 nn1 nn1) H4 fun s2 H5 => Kb1 (DV.v (AV.s s2)) H5) (Kb1 (DV.v (AV.s s1)) H2)
def g220x2 := jF [(5 , .slice)] (fun d2 H2 => onV d2 fun v1 => isS v1 fun s3 => wrp .i64 (iadd n1 ii1) fun n2 => Kc1 (DV.v (AV.s s3)) (DV.v (AV.i .i64 n2)) H2) fun Kb1 => ixA s1 n1 (fun x => Nat.mul x nn9) fun b1 m1 => rdR H1 b1 m1 nn9 fun l1 => alB H1 z6 nn9 nn0 fun b2 H2 => must (Nat.beq (llen l1) nn9) <| wrL H2 b2 nn0 l1 fun H3 => rdR H3 b2 nn0 nn9 fun l2 => onV d1 fun v1 => fnK v1 fun m2 L1 L2 => g220x1 l2 L1 L2 m2 b2 s2 H3 c1 c2 c3 Kb1
def g220x3 := lc R1 fun d1 R2 => ln R2 <| onA p1 fun b1 m1 => rdK H1 b1 (Nat.add m1 nn6) fun v1 => isS v1 fun s1 => lenA s1 fun m2 => lpR (failF [(5 , .slice), (13 , .int .i64)]) (fun Kc1 => fun d2 d3 H2 => onV d2 fun v2 => isS v2 fun s2 => onV d3 fun v3 => isI .i64 v3 fun n1 => frcB (ilt n1 (Int.ofNat m2)) fun t1 => br t1 (g220x2 d1 n1 s1 s2 H2 c1 c2 c3 Kc1) (Kb1 (DV.v (AV.s s2)) H2)) (nat_lit 100000) (DV.v (AV.s AS.nil)) (DV.v (AV.i .i64 ii0)) H1
/-- (*ba.Session).list -/
def g220 : G DV := fun R1 H1 Kb1 => lc R1 fun d1 R2 => onV d1 fun v1 => isP v1 fun p1 => g220x3 R2 p1 H1 c1 c2 c3 Kb1
def G220 : G DV := g220 G210 G221 G295

/-- (*ba.Session).flies$1 -/
def g290 : G DV := fun R1 H1 Kb1 => lc R1 fun d1 R2 => ln R2 <| cellsD d1 fun l1 => alK H1 l1 fun b1 H2 => rdK H2 b1 nn8 fun v1 => isB v1 fun t1 => Kb1 (DV.v (AV.b t1)) H2
def G290 : G DV := g290

def g313x1 := jn (fun d2 H2 => jn (fun d3 H3 => jn (fun d4 H4 => pickK t1 d4 (DV.v (AV.b false)) fun d5 => onV d5 fun v1 => isB v1 fun t2 => Kb1 (DV.v (AV.b t2)) H4) fun Kb2 => br t1 (onV d2 fun v1 => onV d3 fun v2 => isI .i64 v1 fun n1 => isI .i64 v2 fun n2 => frcB (ieq n1 n2) fun t2 => Kb2 (DV.v (AV.b t2)) H3) (Kb2 DV.n H3)) fun Kb2 => br t1 (onA p1 fun b1 m1 => rdK H2 b1 m1 fun v1 => isI .i64 v1 fun n1 => Kb2 (DV.v (AV.i .i64 n1)) H2) (Kb2 DV.n H2)) fun Kb2 => br t1 (onV d1 fun v1 => isP v1 fun p2 => onA p2 fun b1 m1 => rdK H1 b1 m1 fun v2 => isI .i64 v2 fun n1 => Kb2 (DV.v (AV.i .i64 n1)) H1) (Kb2 DV.n H1)
def g313x2 := lc R1 fun d2 R2 => onV d2 fun v1 => isP v1 fun p1 => ln R2 <| cellsD d1 fun l1 => alK H1 l1 fun b1 H2 => rdK H2 b1 nn8 fun v2 => isB v2 fun t1 => frcB (bnot t1) fun t2 => jn (fun d3 H3 => jn (fun d4 H4 => g313x1 d4 t2 p1 H4 Kb1) fun Kb2 => br t2 (onV d3 fun v3 => isP v3 fun p2 => onA p2 fun b2 m1 => Kb2 (DV.v (AV.p (AP.at b2 (Nat.add m1 nn5)))) H3) (Kb2 DV.n H3)) fun Kb2 => br t2 (Kb2 (DV.v (AV.p (AP.at b1 nn0))) H2) (Kb2 DV.n H2)
/-- (*ba.Session).Went$1 -/
def g313 : G DV := fun R1 H1 Kb1 => lc R1 fun d1 R2 => g313x2 d1 R2 H1 Kb1
def G313 : G DV := g313

def g291x1 := br t1 (ixA s1 n1 (fun x => Nat.mul x nn9) fun b1 m1 => rdR H1 b1 m1 nn9 fun l1 => onV d1 fun v1 => fnK v1 fun m2 L1 L2 => lookD [((nat_lit 205) , c1), ((nat_lit 210) , c2), ((nat_lit 290) , c3), ((nat_lit 313) , c4)] m2 (appA (mapP L1) (appA [(DV.a l1)] (mapP L2))) H1 fun d2 H2 => onV d2 fun v2 => isB v2 fun t2 => br t2 (Kb1 (DV.v (AV.i .i64 n1)) H2) (wrp .i64 (iadd n1 ii1) fun n2 => Kb2 (DV.v (AV.i .i64 n2)) H2)) (Kb1 (DV.v (AV.i .i64 im1)) H1)
/-- slices.IndexFunc[[]ba.frame,ba.frame] -/
def g291 : G DV := fun R1 H1 Kb1 => lc R1 fun d1 R2 => onV d1 fun v1 => isS v1 fun s1 => lc R2 fun d2 R3 => ln R3 <| lenA s1 fun m1 => lpR (failF [(8 , .int .i64)]) (fun Kb2 => fun d3 H2 => onV d3 fun v2 => isI .i64 v2 fun n1 => frcB (ilt n1 (Int.ofNat m1)) fun t1 => g291x1 d2 n1 t1 s1 H2 c1 c2 c3 c4 Kb1 Kb2) (nat_lit 100000) (DV.v (AV.i .i64 ii0)) H1
def G291 : G DV := g291 G205 G210 G290 G313

def z7 : List AV := [(AV.i .i64 ii0), (AV.i .u32 ii0), (AV.i .i64 ii0), (AV.i .i64 ii0), (AV.s AS.nil), (AV.i .i64 ii0), (AV.i .i64 ii0), (AV.i .i64 ii0), (AV.b false)]
def g292x1 := fnK v1 fun m1 L1 L2 => lookD [((nat_lit 210) , c1), ((nat_lit 291) , c2)] m1 (appA (mapP L1) (appA [(DV.a l1)] (mapP L2))) H1 fun d1 H2 => onV d1 fun v2 => isB v2 fun t1 => frcB (bnot t1) fun t2 => br t2 (rdR H2 b1 nn0 nn9 fun l2 => ixA s1 n1 (fun x => Nat.mul x nn9) fun b2 m2 => must (Nat.beq (llen l2) nn9) <| wrL H2 b2 m2 l2 fun H3 => wrp .i64 (iadd n1 ii1) fun n2 => Kb1 (DV.v (AV.i .i64 n2)) H3) (Kb1 (DV.v (AV.i .i64 n1)) H2)
def g292x2 := jF [(5 , .int .i64)] (fun d2 H2 => onV d2 fun v1 => isI .i64 v1 fun n3 => wrp .i64 (iadd n1 ii1) fun n4 => Kc1 (DV.v (AV.i .i64 n3)) (DV.v (AV.i .i64 n4)) H2) fun Kb1 => ixA s1 n1 (fun x => Nat.mul x nn9) fun b1 m1 => rdR H1 b1 m1 nn9 fun l1 => alB H1 z6 nn9 nn0 fun b2 H2 => must (Nat.beq (llen l1) nn9) <| wrL H2 b2 nn0 l1 fun H3 => rdR H3 b2 nn0 nn9 fun l2 => onV d1 fun v1 => g292x1 v1 l2 n2 b2 s1 H3 c1 c2 Kb1
def g292x3 := lpR (failF [(5 , .int .i64), (6 , .int .i64)]) (fun Kc1 => fun d2 d3 H2 => onV d2 fun v1 => isI .i64 v1 fun n3 => onV d3 fun v2 => isI .i64 v2 fun n4 => lenA s1 fun m1 => frcB (ilt n4 (Int.ofNat m1)) fun t1 => br t1 (g292x2 d1 n4 n3 s1 H2 c1 c2 Kc1) (natK n3 fun m2 => lenA s1 fun m3 => slA s1 m2 m3 (fun x => Nat.mul x nn9) fun s2 => clrD z7 s2 H2 fun H3 => natK n3 fun m4 => slA s1 nn0 m4 (fun x => Nat.mul x nn9) fun s3 => Kb1 (DV.v (AV.s s3)) H3)) (nat_lit 100000) (DV.v (AV.i .i64 n1)) (DV.v (AV.i .i64 n2)) H1
/-- slices.DeleteFunc[[]ba.frame,ba.frame] -/
def g292 : G DV := fun R1 H1 Kb1 => lc R1 fun d1 R2 => onV d1 fun v1 => isS v1 fun s1 => lc R2 fun d2 R3 => ln R3 <| c2 [(DV.v (AV.s s1)), d2] H1 fun d3 H2 => onV d3 fun v2 => isI .i64 v2 fun n1 => frcB (ieq n1 im1) fun t1 => br t1 (Kb1 (DV.v (AV.s s1)) H2) (wrp .i64 (iadd n1 ii1) fun n2 => g292x3 d2 n1 n2 s1 H2 c1 c2 Kb1)
def G292 : G DV := g292 G210 G291

/-- slices.Clone[[]ba.frame,ba.frame] -/
def g293 : G DV := fun R1 H1 Kb1 => lc R1 fun d1 R2 => onV d1 fun v1 => isS v1 fun s1 => ln R2 <| frcB (isNilS s1) fun t1 => br t1 (Kb1 (DV.v (AV.s AS.nil)) H1) (alB H1 te nn0 nn0 fun b1 H2 => appD nn9 nn88 (AS.sl b1 nn0 nn0 nn0) s1 H2 fun s2 H3 => Kb1 (DV.v (AV.s s2)) H3)
def G293 : G DV := g293

def g254x1 := lenA s1 fun m1 => lpR (failF [(8 , .int .i64)]) (fun Kb2 => fun d1 H2 => onV d1 fun v1 => isI .i64 v1 fun n2 => frcB (ilt n2 (Int.ofNat m1)) fun t1 => br t1 (ixA s1 n2 (fun x => x) fun b1 m2 => rdK H2 b1 m2 fun v2 => isI .i64 v2 fun n3 => frcB (ieq n1 n3) fun t2 => br t2 (Kb1 (DV.v (AV.i .i64 n2)) H2) (wrp .i64 (iadd n2 ii1) fun n4 => Kb2 (DV.v (AV.i .i64 n4)) H2)) (Kb1 (DV.v (AV.i .i64 im1)) H2)) (nat_lit 100000) (DV.v (AV.i .i64 ii0)) H1
/-- slices.Index[[]int,int] -/
def g254 : G DV := fun R1 H1 Kb1 => lc R1 fun d1 R2 => onV d1 fun v1 => isS v1 fun s1 => lc R2 fun d2 R3 => onV d2 fun v2 => isI .i64 v2 fun n1 => ln R3 <| g254x1 n1 s1 H1 Kb1
def G254 : G DV := g254

def g331x1 := slA3 s1 m1 m2 m3 (fun x => x) fun s2 => frcB (ieq n1 n2) fun t1 => br t1 (Kb1 (DV.v (AV.s s1)) H1) (lenA s1 fun m4 => natK n1 fun m5 => slA s1 nn0 m5 (fun x => x) fun s3 => natK n2 fun m6 => lenA s1 fun m7 => slA s1 m6 m7 (fun x => x) fun s4 => appD nn1 nn8 s3 s4 H1 fun s5 H2 => lenA s5 fun m8 => natK (Int.ofNat m8) fun m9 => natK (Int.ofNat m4) fun m10 => slA s5 m9 m10 (fun x => x) fun s6 => clrD [(AV.i .i64 ii0)] s6 H2 fun H3 => Kb1 (DV.v (AV.s s5)) H3)
/-- slices.Delete[[]int,int] -/
def g331 : G DV := fun R1 H1 Kb1 => lc R1 fun d1 R2 => onV d1 fun v1 => isS v1 fun s1 => lc R2 fun d2 R3 => onV d2 fun v2 => isI .i64 v2 fun n1 => lc R3 fun d3 R4 => onV d3 fun v3 => isI .i64 v3 fun n2 => ln R4 <| lenA s1 fun m1 => natK n1 fun m2 => natK n2 fun m3 => natK (Int.ofNat m1) fun m4 => g331x1 n1 n2 m2 m3 m4 s1 H1 Kb1
def G331 : G DV := g331

/-- slices.Clone[[]int,int] -/
def g332 : G DV := fun R1 H1 Kb1 => lc R1 fun d1 R2 => onV d1 fun v1 => isS v1 fun s1 => ln R2 <| frcB (isNilS s1) fun t1 => br t1 (Kb1 (DV.v (AV.s AS.nil)) H1) (alB H1 te nn0 nn0 fun b1 H2 => appD nn1 nn8 (AS.sl b1 nn0 nn0 nn0) s1 H2 fun s2 H3 => Kb1 (DV.v (AV.s s2)) H3)
def G332 : G DV := g332

def g294x1 := wrK H1 b1 m1 (AV.i .i64 n1) fun H2 => jF [] (fun H3 => Kb1 (DV.v AV.ni) H3) fun Ka1 => onA p1 fun b2 m2 => rdK H2 b2 (Nat.add m2 nn3) fun v1 => isS v1 fun s1 => lenA s1 fun m3 => frcB (ilt ii0 (Int.ofNat m3)) fun t1 => br t1 (onA p1 fun b3 m4 => rdK H2 b3 (Nat.add m4 nn3) fun v2 => isS v2 fun s2 => ixA s2 ii0 (fun x => x) fun b4 m5 => rdK H2 b4 m5 fun v3 => isI .i64 v3 fun n2 => onA p1 fun b5 m6 => wrK H2 b5 m6 (AV.i .i64 n2) fun H3 => Ka1 H3) (Ka1 H2)
def g294x2 := c1 [(DV.v (AV.s s1))] H1 fun d1 H2 => onV d1 fun v1 => isS v1 fun s2 => wrp .i64 (iadd n1 ii1) fun n2 => c2 [(DV.v (AV.s s2)), (DV.v (AV.i .i64 n1)), (DV.v (AV.i .i64 n2))] H2 fun d2 H3 => onV d2 fun v2 => isS v2 fun s3 => onA p1 fun b1 m1 => wrK H3 b1 (Nat.add m1 nn3) (AV.s s3) fun H4 => onA p1 fun b2 m2 => rdK H4 b2 (Nat.add m2 nn1) fun v3 => isI .i64 v3 fun n3 => onA p1 fun b3 m3 => g294x1 n3 m3 p1 b3 H4 Kb1
def g294x3 := lc R1 fun d1 R2 => onV d1 fun v1 => isI .i64 v1 fun n1 => ln R2 <| onA p1 fun b1 m1 => rdK H1 b1 (Nat.add m1 nn3) fun v2 => isS v2 fun s1 => c1 [(DV.v (AV.s s1)), (DV.v (AV.i .i64 n1))] H1 fun d2 H2 => onV d2 fun v3 => isI .i64 v3 fun n2 => frcB (ilt n2 ii0) fun t1 => br t1 (Kb1 (DV.v (AV.er (nat_lit 6))) H2) (onA p1 fun b2 m2 => rdK H2 b2 (Nat.add m2 nn3) fun v4 => isS v4 fun s2 => g294x2 n2 p1 s2 H2 c2 c3 Kb1)
/-- (*win.Win).Done -/
def g294 : G DV := fun R1 H1 Kb1 => lc R1 fun d1 R2 => onV d1 fun v1 => isP v1 fun p1 => g294x3 R2 p1 H1 c1 c3 c2 Kb1
def G294 : G DV := g294 G254 G331 G332

def g209x1 := ixA s1 n1 (fun x => Nat.mul x nn8) fun b1 m1 => rdR H1 b1 m1 nn8 fun l1 => alB H1 z5 nn8 nn0 fun b2 H2 => must (Nat.beq (llen l1) nn8) <| wrL H2 b2 nn0 l1 fun H3 => onA p1 fun b3 m2 => rdK H3 b3 m2 fun v1 => isP v1 fun p2 => rdK H3 b2 nn5 fun v2 => isI .i64 v2 fun n2 => c1 [(DV.v (AV.p p2)), (DV.v (AV.i .i64 n2))] H3 fun d1 H4 => onV d1 fun v3 => ifA false true v3 AV.ni fun t1 => frcB (bnot t1) fun t2 => br t2 (Ka1 H4) (Ka1 H4)
def g209x2 := onV d1 fun v1 => isS v1 fun s2 => onA p1 fun b1 m1 => wrK H1 b1 (Nat.add m1 nn6) (AV.s s2) fun H2 => lenA s1 fun m2 => lpR (failF [(23 , .int .i64)]) (fun Kb2 => fun d2 H3 => onV d2 fun v2 => isI .i64 v2 fun n1 => frcB (ilt n1 (Int.ofNat m2)) fun t1 => br t1 (jF [] (fun H4 => wrp .i64 (iadd n1 ii1) fun n2 => Kb2 (DV.v (AV.i .i64 n2)) H4) fun Ka1 => g209x1 n1 p1 s1 H3 c1 Ka1) (Kb1 (DV.v (AV.s s1)) H3)) (nat_lit 100000) (DV.v (AV.i .i64 ii0)) H2
/-- (*ba.Session).take -/
def g209 : G DV := fun R1 H1 Kb1 => lc R1 fun d1 R2 => onV d1 fun v1 => isP v1 fun p1 => lc R2 fun d2 R3 => ln R3 <| c1 [(DV.v (AV.p p1)), d2] H1 fun d3 H2 => onV d3 fun v2 => isS v2 fun s1 => onA p1 fun b1 m1 => rdK H2 b1 (Nat.add m1 nn6) fun v3 => isS v3 fun s2 => c3 [(DV.v (AV.s s2))] H2 fun d4 H3 => onV d4 fun v4 => isS v4 fun s3 => c2 [(DV.v (AV.s s3)), d2] H3 fun d5 H4 => g209x2 d5 p1 s1 H4 c4 Kb1
def G209 : G DV := g209 G220 G292 G293 G294

def g114x1 := rdR H1 b1 nn0 nn9 fun l1 => fnK v1 fun m1 L1 L2 => lookD [((nat_lit 209) , c1)] m1 (appA (mapP L1) (appA [(DV.a l1)] (mapP L2))) H1 fun d1 H2 => onV d1 fun v2 => isI .i64 v2 fun n1 => frcB (bnot (ieq n1 ii0)) fun t1 => br t1 (alB H2 (@T4.n AV (AV.i .i64 n1) te te te te) nn1 nn0 fun b2 H3 => appD nn1 nn8 s1 (AS.sl b2 nn0 nn1 nn1) H3 fun s2 H4 => Kb1 (DV.v (AV.s s2)) H4) (Kb1 (DV.v (AV.s s1)) H2)
def g114x2 := jn (fun d2 H2 => pickK t1 d2 (DV.v (AV.b false)) fun d3 => onV d3 fun v1 => isB v1 fun t2 => br t2 (rdK H2 b1 nn0 fun v2 => isP v2 fun p1 => rdK H2 b1 nn0 fun v3 => isP v3 fun p2 => onA p1 fun b2 m1 => wrK H2 b2 (Nat.add m1 nn7) (AV.b true) fun H3 => rdK H3 b1 nn0 fun v4 => must (aveq (AV.p p2) v4) <| onA p2 fun b3 m2 => wrK H3 b3 (Nat.add m2 nn8) (AV.i .i64 ii0) fun H4 => Ka1 H4) (Ka1 H2)) fun Kb1 => br t1 (onV d1 fun v1 => isB v1 fun t2 => frcB (bnot t2) fun t3 => Kb1 (DV.v (AV.b t3)) H1) (Kb1 DV.n H1)
def g114x3 := jn (fun d2 H2 => jn (fun d3 H3 => jn (fun d4 H4 => g114x2 d4 t1 b1 H4 Ka1) fun Kb1 => br t1 (onV d3 fun v1 => isP v1 fun p1 => onA p1 fun b2 m1 => rdK H3 b2 m1 fun v2 => isB v2 fun t2 => Kb1 (DV.v (AV.b t2)) H3) (Kb1 DV.n H3)) fun Kb1 => br t1 (onV d2 fun v1 => isP v1 fun p1 => onA p1 fun b2 m1 => Kb1 (DV.v (AV.p (AP.at b2 (Nat.add m1 nn7)))) H2) (Kb1 DV.n H2)) fun Kb1 => br t1 (onV d1 fun v1 => isP v1 fun p1 => onA p1 fun b2 m1 => Kb1 (DV.v (AV.p (AP.at b2 m1))) H1) (Kb1 DV.n H1)
def g114x4 := jn (fun d2 H2 => jn (fun d3 H3 => pickK t1 d3 (DV.v (AV.b false)) fun d4 => onV d4 fun v1 => isB v1 fun t2 => jn (fun d5 H4 => g114x3 d5 t2 b1 H4 Ka1) fun Kb1 => br t2 (rdK H3 b1 nn0 fun v2 => isP v2 fun p1 => Kb1 (DV.v (AV.p p1)) H3) (Kb1 DV.n H3)) fun Kb1 => br t1 (onV d2 fun v1 => isI .i64 v1 fun n1 => frcB (ieq n1 ii3) fun t2 => Kb1 (DV.v (AV.b t2)) H2) (Kb1 DV.n H2)) fun Kb1 => br t1 (onV d1 fun v1 => isP v1 fun p1 => onA p1 fun b2 m1 => rdK H1 b2 m1 fun v2 => isI .i64 v2 fun n1 => Kb1 (DV.v (AV.i .i64 n1)) H1) (Kb1 DV.n H1)
def g114x5 := jn (fun d1 H2 => jn (fun d2 H3 => jn (fun d3 H4 => g114x4 d3 t1 b1 H4 Ka1) fun Kb1 => br t1 (onV d2 fun v1 => isP v1 fun p1 => onA p1 fun b2 m1 => Kb1 (DV.v (AV.p (AP.at b2 (Nat.add m1 nn4)))) H3) (Kb1 DV.n H3)) fun Kb1 => br t1 (onV d1 fun v1 => isP v1 fun p1 => onA p1 fun b2 m1 => Kb1 (DV.v (AV.p (AP.at b2 m1))) H2) (Kb1 DV.n H2)) fun Kb1 => br t1 (rdK H1 b1 nn0 fun v1 => isP v1 fun p1 => Kb1 (DV.v (AV.p p1)) H1) (Kb1 DV.n H1)
def g114x6 := br t1 (jF [(7 , .slice)] (fun d1 H2 => onV d1 fun v1 => isS v1 fun s3 => wrp .i64 (iadd n1 ii1) fun n2 => Kc1 (DV.v (AV.s s3)) (DV.v (AV.i .i64 n2)) H2) fun Kb2 => ixA s1 n1 (fun x => Nat.mul x nn9) fun b3 m1 => rdR H1 b3 m1 nn9 fun l1 => alB H1 z6 nn9 nn0 fun b4 H2 => must (Nat.beq (llen l1) nn9) <| wrL H2 b4 nn0 l1 fun H3 => rdK H3 b1 nn0 fun v1 => g114x1 v1 b4 s2 H3 c1 Kb2) (rdK H1 b2 nn0 fun v1 => isP v1 fun p1 => c1 [(DV.v (AV.p p1)), (DV.v (AV.fn (nat_lit 218) [(AP.at b1 nn0)]))] H1 fun d1 H2 => onV d1 fun v2 => isS v2 fun s3 => jF [] (fun H3 => Kb1 (DV.c (DV.v (AV.s s3)) (DV.c (DV.v (AV.s s2)) DV.n)) H3) fun Ka1 => lenA s3 fun m1 => frcB (ilt ii0 (Int.ofNat m1)) fun t2 => g114x5 t2 b2 H2 Ka1)
def g114x7 := wrK H1 b1 nn0 (AV.fn (nat_lit 217) [(AP.at b2 nn0), (AP.at b3 nn0)]) fun H2 => rdK H2 b2 nn0 fun v1 => isP v1 fun p1 => onA p1 fun b4 m1 => rdK H2 b4 (Nat.add m1 nn6) fun v2 => isS v2 fun s1 => lenA s1 fun m2 => lpR (failF [(7 , .slice), (18 , .int .i64)]) (fun Kc1 => fun d1 d2 H3 => onV d1 fun v3 => isS v3 fun s2 => onV d2 fun v4 => isI .i64 v4 fun n1 => frcB (ilt n1 (Int.ofNat m2)) fun t1 => g114x6 n1 t1 b1 b2 s1 s2 H3 c1 Kb1 Kc1) (nat_lit 100000) (DV.v (AV.s AS.nil)) (DV.v (AV.i .i64 ii0)) H2
/-- (*ba.Session).Sweep -/
def g114 : G DV := fun R1 H1 Kb1 => lc R1 fun d1 R2 => onV d1 fun v1 => isP v1 fun p1 => lc R2 fun d2 R3 => onV d2 fun v2 => isI .i64 v2 fun n1 => ln R3 <| alB H1 (@T4.n AV (AV.p p1) te te te te) nn1 nn0 fun b1 H2 => alB H2 (@T4.n AV (AV.i .i64 n1) te te te te) nn1 nn0 fun b2 H3 => alB H3 (@T4.n AV yy7 te te te te) nn1 nn0 fun b3 H4 => g114x7 b3 b1 b2 H4 c1 Kb1
def G114 : G DV := g114 G209

def z8 : T4 AV := (@T4.n AV yy1 (@T4.n AV yy2 te te te te) (@T4.n AV yy1 te te te te) (@T4.n AV yy1 te te te te) (@T4.n AV yy4 te te te te))
def g115x1 := lpR (failF [(10 , .int .i64)]) (fun Kb2 => fun d1 H2 => onV d1 fun v1 => isI .i64 v1 fun n1 => frcB (ilt n1 (Int.ofNat m1)) fun t1 => br t1 (ixA s1 n1 (fun x => Nat.mul x nn5) fun b1 m2 => rdR H2 b1 m2 nn5 fun l1 => alB H2 z8 nn5 nn0 fun b2 H3 => must (Nat.beq (llen l1) nn5) <| wrL H3 b2 nn0 l1 fun H4 => onA p1 fun b3 m3 => rdK H4 b2 nn0 fun v2 => isI .i64 v2 fun n2 => none) (Kb1 DV.n H2)) (nat_lit 100000) (DV.v (AV.i .i64 ii0)) H1
/-- (*ap.AP).drop -/
def g115 : G DV := fun R1 H1 Kb1 => lc R1 fun d1 R2 => onV d1 fun v1 => isP v1 fun p1 => lc R2 fun d2 R3 => onV d2 fun v2 => isI .i64 v2 fun n1 => lc R3 fun d3 R4 => onV d3 fun v3 => isS v3 fun s1 => ln R4 <| lenA s1 fun m1 => g115x1 m1 p1 s1 H1 Kb1
def G115 : G DV := g115

/-- (*ba.Session).Out -/
def g116 : G DV := fun R1 H1 Kb1 => lc R1 fun d1 R2 => onV d1 fun v1 => isP v1 fun p1 => ln R2 <| c1 [(DV.v (AV.p p1)), (DV.v (AV.fn (nat_lit 221) []))] H1 fun d2 H2 => onV d2 fun v2 => isS v2 fun s1 => Kb1 (DV.v (AV.s s1)) H2
def G116 : G DV := g116 G220

def g47x1 := alB H1 z5 nn8 nn0 fun b1 H2 => must (Nat.beq (llen l1) nn8) <| wrL H2 b1 nn0 l1 fun H3 => ixA s1 n1 (fun x => x) fun b2 m1 => rdK H3 b2 m1 fun v1 => isI .i64 v1 fun n2 => rdR H3 b1 nn0 nn5 fun l2 => must (Nat.beq (llen l2) nn5) <| alK H3 (lapp l2 []) fun b3 H4 => c1 [(DV.v (AV.p p1)), (DV.v (AV.i .i64 n2)), (DV.v (AV.s (AS.sl b3 nn0 nn1 nn1)))] H4 fun d1 H5 => wrp .i64 (iadd n1 ii1) fun n3 => Kb1 (DV.v (AV.i .i64 n3)) H5
def g47x2 := jn (fun d2 H2 => jn (fun d3 H3 => pickK t1 d3 (DV.v (AV.b false)) fun d4 => onV d4 fun v1 => isB v1 fun t2 => br t2 (onA p1 fun b1 m1 => wrK H3 b1 (Nat.add m1 nn3) (AV.b false) fun H4 => onA p1 fun b2 m2 => rdK H4 b2 m2 fun v2 => isP v2 fun p2 => none) (Kb1 DV.n H3)) fun Kb2 => br t1 (onV d2 fun v1 => isI .i64 v1 fun n1 => frcB (ieq n1 ii0) fun t2 => Kb2 (DV.v (AV.b t2)) H2) (Kb2 DV.n H2)) fun Kb2 => br t1 (onV d1 fun v1 => isS v1 fun s1 => lenA s1 fun m1 => Kb2 (DV.v (AV.i .i64 (Int.ofNat m1))) H1) (Kb2 DV.n H1)
def g47x3 := jn (fun d2 H2 => jn (fun d3 H3 => jn (fun d4 H4 => g47x2 d4 t1 p1 H4 Kb1) fun Kb2 => br t1 (c1 [d3] H3 fun d4 H4 => onV d4 fun v1 => isS v1 fun s1 => Kb2 (DV.v (AV.s s1)) H4) (Kb2 DV.n H3)) fun Kb2 => br t1 (onV d2 fun v1 => isP v1 fun p2 => onA p2 fun b1 m1 => rdK H2 b1 m1 fun v2 => isP v2 fun p3 => Kb2 (DV.v (AV.p p3)) H2) (Kb2 DV.n H2)) fun Kb2 => br t1 (onV d1 fun v1 => isP v1 fun p2 => onA p2 fun b1 m1 => Kb2 (DV.v (AV.p (AP.at b1 m1))) H1) (Kb2 DV.n H1)
def g47x4 := br t1 (ixA s1 n1 (fun x => Nat.mul x nn8) fun b1 m1 => rdR H1 b1 m1 nn8 fun l1 => g47x1 l1 n1 p1 s2 H1 c1 Kb1) (onA p2 fun b1 m1 => rdK H1 b1 (Nat.add m1 nn3) fun v1 => isB v1 fun t2 => jn (fun d1 H2 => jn (fun d2 H3 => g47x3 d2 t2 p2 H3 c2 Kb2) fun Kb3 => br t2 (onV d1 fun v2 => isP v2 fun p3 => onA p3 fun b2 m2 => Kb3 (DV.v (AV.p (AP.at b2 m2))) H2) (Kb3 DV.n H2)) fun Kb3 => br t2 (Kb3 (DV.v (AV.p p2)) H1) (Kb3 DV.n H1))
def g47x5 := isI .i64 v1 fun n1 => c1 [(DV.v (AV.p p1)), (DV.v (AV.i .i64 n1))] H1 fun d1 H2 => onC d1 fun d2 d3 => onV d2 fun v2 => isS v2 fun s1 => onC d3 fun d4 d5 => onV d4 fun v3 => isS v3 fun s2 => onN d5 <| lenA s1 fun m1 => lpR (failF [(22 , .int .i64)]) (fun Kb2 => fun d6 H3 => onV d6 fun v4 => isI .i64 v4 fun n2 => frcB (ilt n2 (Int.ofNat m1)) fun t1 => g47x4 n2 t1 p2 p3 s1 s2 H3 c2 c3 Kb2 Kb1) (nat_lit 100000) (DV.v (AV.i .i64 ii0)) H2
/-- (*ap.AP).sweep -/
def g47 : G DV := fun R1 H1 Kb1 => lc R1 fun d1 R2 => onV d1 fun v1 => isP v1 fun p1 => lc R2 fun d2 R3 => onV d2 fun v2 => isP v2 fun p2 => ln R3 <| onA p2 fun b1 m1 => rdK H1 b1 m1 fun v3 => isP v3 fun p3 => onA p1 fun b2 m2 => rdK H1 b2 (Nat.add m2 nn21) fun v4 => g47x5 v4 p3 p1 p2 H1 c1 c2 c3 Kb1
def G47 : G DV := g47 G114 G115 G116

def z9 : T4 AV := (@T4.n AV yy3 (@T4.n AV yy0 (@T4.n AV yy0 te te te te) te te te) (@T4.n AV yy0 (@T4.n AV yy0 te te te te) te te te) (@T4.n AV yy0 (@T4.n AV yy1 te te te te) te te te) (@T4.n AV yy0 te te te te))
def g67x1 := alB H1 z9 nn8 nn0 fun b1 H2 => must (Nat.beq (llen (ltake (nat_lit 8) (ldrop (Nat.mul (itn n1) nn8) l1))) nn8) <| wrL H2 b1 nn0 (ltake (nat_lit 8) (ldrop (Nat.mul (itn n1) nn8) l1)) fun H3 => rdK H3 b1 nn0 fun v1 => isB v1 fun t1 => br t1 (wrp .i64 (iadd n1 ii1) fun n2 => alB H3 (@T4.n AV (AV.i .i64 n2) te te te te) nn1 nn0 fun b2 H4 => appD nn1 nn8 s1 (AS.sl b2 nn0 nn1 nn1) H4 fun s2 H5 => Kb1 (DV.v (AV.s s2)) H5) (Kb1 (DV.v (AV.s s1)) H3)
def g67x2 := lpR (failF [(3 , .slice), (10 , .int .i64)]) (fun Kc1 => fun d1 d2 H2 => onV d1 fun v1 => isS v1 fun s1 => onV d2 fun v2 => isI .i64 v2 fun n1 => frcB (ilt n1 ii16) fun t1 => br t1 (jF [(3 , .slice)] (fun d3 H3 => onV d3 fun v3 => isS v3 fun s2 => wrp .i64 (iadd n1 ii1) fun n2 => Kc1 (DV.v (AV.s s2)) (DV.v (AV.i .i64 n2)) H3) fun Kb2 => rng n1 nn16 <| g67x1 l1 n1 s1 H2 Kb2) (Kb1 (DV.v (AV.s s1)) H2)) (nat_lit 100000) (DV.v (AV.s AS.nil)) (DV.v (AV.i .i64 ii0)) H1
/-- (*sta.Table).All -/
def g67 : G DV := fun R1 H1 Kb1 => lc R1 fun d1 R2 => onV d1 fun v1 => isP v1 fun p1 => ln R2 <| onA p1 fun b1 m1 => rdR H1 b1 m1 nn128 fun l1 => g67x2 l1 H1 Kb1
def G67 : G DV := g67

/-- edca.fair -/
def g112 : G DV := fun R1 H1 Kb1 => lc R1 fun d1 R2 => onV d1 fun v1 => isI .i64 v1 fun n1 => ln R2 <| frcB (ile ii0 n1) fun t1 => jn (fun d2 H2 => jn (fun d3 H3 => pickK t1 d3 (DV.v (AV.b false)) fun d4 => onV d4 fun v2 => isB v2 fun t2 => Kb1 (DV.v (AV.b t2)) H3) fun Kb2 => br t1 (onV d2 fun v2 => isI .i64 v2 fun n2 => frcB (ilt n2 ii4) fun t2 => Kb2 (DV.v (AV.b t2)) H2) (Kb2 DV.n H2)) fun Kb2 => br t1 (Kb2 (DV.v (AV.i .i64 n1)) H1) (Kb2 DV.n H1)
def G112 : G DV := g112

def z10 : T4 AV := (@T4.n AV yy8 (@T4.n AV yy8 te te te te) (@T4.n AV yy9 te te te te) (@T4.n AV yy10 te te te te) te)
/-- edca.first -/
def g216 : G DV := fun R1 H1 Kb1 => lc R1 fun d1 R2 => onV d1 fun v1 => isI .i64 v1 fun n1 => ln R2 <| alB H1 z10 nn4 nn0 fun b1 H2 => ixA (AS.sl b1 nn0 nn4 nn4) n1 (fun x => x) fun b2 m1 => rdK H2 b2 m1 fun v2 => isI .i64 v2 fun n2 => Kb1 (DV.v (AV.i .i64 n2)) H2
def G216 : G DV := g216

def g135x1 := frcB (bnot t1) fun t2 => br t2 (Kb1 (DV.v (AV.i .i64 ii0)) H1) (onA p1 fun b1 m1 => rng n1 nn4 <| rdK H1 b1 (Nat.add (Nat.add m1 (Nat.mul (itn n1) nn3)) nn2) fun v1 => isI .i64 v1 fun n2 => c1 [(DV.v (AV.i .i64 n1))] H1 fun d1 H2 => onV d1 fun v2 => isI .i64 v2 fun n3 => rdK H2 b1 (Nat.add (Nat.add m1 (Nat.mul (itn n1) nn3)) nn2) fun v3 => must (aveq (AV.i .i64 n2) v3) <| wrp .i64 (iadd n3 n2) fun n4 => Kb1 (DV.v (AV.i .i64 n4)) H2)
/-- (*edca.Edca).Window -/
def g135 : G DV := fun R1 H1 Kb1 => lc R1 fun d1 R2 => onV d1 fun v1 => isP v1 fun p1 => lc R2 fun d2 R3 => onV d2 fun v2 => isI .i64 v2 fun n1 => ln R3 <| c1 [(DV.v (AV.i .i64 n1))] H1 fun d3 H2 => onV d3 fun v3 => isB v3 fun t1 => g135x1 n1 t1 p1 H2 c2 Kb1
def G135 : G DV := g135 G112 G216

def z11 : T4 AV := (@T4.n AV yy9 (@T4.n AV yy10 te te te te) (@T4.n AV yy11 te te te te) (@T4.n AV yy11 te te te te) te)
/-- edca.wait -/
def g136 : G DV := fun R1 H1 Kb1 => lc R1 fun d1 R2 => onV d1 fun v1 => isI .i64 v1 fun n1 => ln R2 <| alB H1 z11 nn4 nn0 fun b1 H2 => ixA (AS.sl b1 nn0 nn4 nn4) n1 (fun x => x) fun b2 m1 => rdK H2 b2 m1 fun v2 => isI .i64 v2 fun n2 => Kb1 (DV.v (AV.i .i64 n2)) H2
def G136 : G DV := g136

def g68x1 := jn (fun d2 H2 => jn (fun d3 H3 => pickK t1 (DV.v (AV.b true)) d3 fun d4 => onV d4 fun v1 => isB v1 fun t2 => br t2 (Kc1 (DV.v (AV.i .i64 n1)) (DV.v (AV.i .i64 n2)) H3) (Kc1 (DV.v (AV.i .i64 n3)) (DV.v (AV.i .i64 n4)) H3)) fun Kb1 => br t1 (Kb1 DV.n H2) (onV d1 fun v1 => onV d2 fun v2 => isI .i64 v1 fun n5 => isI .i64 v2 fun n6 => frcB (ile n5 n6) fun t2 => Kb1 (DV.v (AV.b t2)) H2)) fun Kb1 => br t1 (Kb1 DV.n H1) (Kb1 (DV.v (AV.i .i64 n4)) H1)
def g68x2 := rdK H1 b1 (Nat.add (Nat.add m1 (Nat.mul (itn n1) nn3)) nn1) fun v1 => isI .i64 v1 fun n4 => c1 [(DV.v (AV.i .i64 n1))] H1 fun d1 H2 => onV d1 fun v2 => isI .i64 v2 fun n5 => rdK H2 b1 (Nat.add (Nat.add m1 (Nat.mul (itn n1) nn3)) nn1) fun v3 => must (aveq (AV.i .i64 n4) v3) <| wrp .i64 (iadd n5 n4) fun n6 => frcB (ilt n2 ii0) fun t1 => jn (fun d2 H3 => g68x1 d2 n1 n6 n2 n3 t1 H3 Kc1) fun Kb1 => br t1 (Kb1 DV.n H2) (Kb1 (DV.v (AV.i .i64 n6)) H2)
def g68x3 := rdK H1 b1 (Nat.add nn0 (itn n1)) fun v1 => must (aveq (AV.i .u32 n2) v1) <| wrp .i64 (iadd n3 ii1) fun n4 => wrp .u32 n4 fun n5 => must (bnot (ieq n5 ii0)) <| asI (irem n2 n5) fun n6 => wrp .i64 n6 fun n7 => wrK H1 b2 (Nat.add m1 (Nat.mul (itn n1) nn3)) (AV.b true) fun H2 => rdK H2 b1 (Nat.add nn0 (itn n1)) fun v2 => must (aveq (AV.i .u32 n2) v2) <| wrK H2 b2 (Nat.add (Nat.add m1 (Nat.mul (itn n1) nn3)) nn1) (AV.i .i64 n7) fun H3 => Ka1 H3
def g68x4 := jF [] (fun H2 => onA p1 fun b2 m1 => rng n1 nn4 <| g68x2 n1 n2 n3 m1 b2 H2 c1 Kc1) fun Ka1 => onA p1 fun b2 m1 => rng n1 nn4 <| rdK H1 b2 (Nat.add m1 (Nat.mul (itn n1) nn3)) fun v1 => isB v1 fun t1 => frcB (bnot t1) fun t2 => br t2 (rng n1 nn4 <| rdK H1 b1 (Nat.add nn0 (itn n1)) fun v2 => isI .u32 v2 fun n4 => c2 [(DV.v (AV.p p1)), (DV.v (AV.i .i64 n1))] H1 fun d1 H2 => onV d1 fun v3 => isI .i64 v3 fun n5 => g68x3 n1 n4 n5 m1 b1 b2 H2 Ka1) (Ka1 H1)
def g68x5 := jF [(9 , .int .i64), (10 , .int .i64)] (fun d1 d2 H2 => onV d1 fun v1 => isI .i64 v1 fun n4 => onV d2 fun v2 => isI .i64 v2 fun n5 => wrp .i64 (iadd n1 ii1) fun n6 => Kd1 (DV.v (AV.i .i64 n4)) (DV.v (AV.i .i64 n5)) (DV.v (AV.i .i64 n6)) H2) fun Kc1 => rng n1 nn4 <| rdK H1 b1 (Nat.add nn0 (itn n1)) fun v1 => isB v1 fun t1 => frcB (bnot t1) fun t2 => br t2 (Kc1 (DV.v (AV.i .i64 n2)) (DV.v (AV.i .i64 n3)) H1) (g68x4 n1 n2 n3 p1 b2 H1 c1 c2 Kc1)
def g68x6 := rdK H1 b1 (Nat.add (Nat.add m1 (Nat.mul (itn n1) nn3)) nn1) fun v1 => isI .i64 v1 fun n3 => c1 [(DV.v (AV.i .i64 n1))] H1 fun d1 H2 => onV d1 fun v2 => isI .i64 v2 fun n4 => rdK H2 b1 (Nat.add (Nat.add m1 (Nat.mul (itn n1) nn3)) nn1) fun v3 => must (aveq (AV.i .i64 n3) v3) <| wrp .i64 (isub n2 n4) fun n5 => asI (imax n5 ii0) fun n6 => wrp .i64 (isub n3 n6) fun n7 => asI (imax n7 ii0) fun n8 => wrK H2 b1 (Nat.add (Nat.add m1 (Nat.mul (itn n1) nn3)) nn1) (AV.i .i64 n8) fun H3 => Ka1 H3
def g68x7 := rdK H1 b1 (Nat.add (Nat.add m1 (Nat.mul (itn n1) nn3)) nn1) fun v1 => must (aveq (AV.i .i64 n2) v1) <| wrp .i64 (iadd n3 n2) fun n6 => frcB (ilt n4 n6) fun t1 => br t1 (g68x6 n1 n4 m1 b1 H1 c1 Ka1) (jF [] (fun H2 => wrK H2 b1 (Nat.add m1 (Nat.mul (itn n1) nn3)) (AV.b false) fun H3 => wrK H3 b1 (Nat.add (Nat.add m1 (Nat.mul (itn n1) nn3)) nn1) (AV.i .i64 ii0) fun H4 => Ka1 H4) fun Ka2 => frcB (bnot (ieq n1 n5)) fun t2 => br t2 (none) (Ka2 H1))
def g68x8 := jF [] (fun H2 => wrp .i64 (iadd n1 ii1) fun n4 => Kb1 (DV.v (AV.i .i64 n4)) H2) fun Ka1 => onA p1 fun b2 m1 => rng n1 nn4 <| rng n1 nn4 <| rdK H1 b1 (Nat.add nn0 (itn n1)) fun v1 => isB v1 fun t1 => frcB (bnot t1) fun t2 => br t2 (Ka1 H1) (rdK H1 b2 (Nat.add (Nat.add m1 (Nat.mul (itn n1) nn3)) nn1) fun v2 => isI .i64 v2 fun n4 => c1 [(DV.v (AV.i .i64 n1))] H1 fun d1 H2 => onV d1 fun v3 => isI .i64 v3 fun n5 => g68x7 n1 n4 n5 n2 n3 m1 b2 H2 c1 Ka1)
def g68x9 := frcB (ilt n1 ii0) fun t1 => br t1 (Kb1 (DV.c (DV.v (AV.i .i64 ii0)) (DV.c (DV.v (AV.i .i64 ii0)) (DV.c (DV.v (AV.b false)) DV.n))) H1) (lpR (failF [(71 , .int .i64)]) (fun Kb2 => fun d1 H2 => onV d1 fun v1 => isI .i64 v1 fun n3 => frcB (ilt n3 ii4) fun t2 => br t2 (g68x8 n3 n2 n1 p1 b1 H2 c1 Kb2) (Kb1 (DV.c (DV.v (AV.i .i64 n1)) (DV.c (DV.v (AV.i .i64 n2)) (DV.c (DV.v (AV.b true)) DV.n))) H2)) (nat_lit 100000) (DV.v (AV.i .i64 ii0)) H1)
def g68x10 := lpR (failF [(9 , .int .i64), (10 , .int .i64), (16 , .int .i64)]) (fun Kd1 => fun d1 d2 d3 H2 => onV d1 fun v1 => isI .i64 v1 fun n1 => onV d2 fun v2 => isI .i64 v2 fun n2 => onV d3 fun v3 => isI .i64 v3 fun n3 => frcB (ilt n3 ii4) fun t1 => br t1 (g68x5 n3 n1 n2 p1 b1 b2 H2 c1 c2 Kd1) (g68x9 n1 n2 p1 b1 H2 c1 Kb1)) (nat_lit 100000) (DV.v (AV.i .i64 im1)) (DV.v (AV.i .i64 ii0)) (DV.v (AV.i .i64 ii0)) H1
/-- (*edca.Edca).Contend -/
def g68 : G DV := fun R1 H1 Kb1 => lc R1 fun d1 R2 => onV d1 fun v1 => isP v1 fun p1 => lc R2 fun d2 R3 => lc R3 fun d3 R4 => ln R4 <| cellsD d2 fun l1 => alK H1 l1 fun b1 H2 => cellsD d3 fun l2 => alK H2 l2 fun b2 H3 => g68x10 p1 b1 b2 H3 c2 c1 Kb1
def G68 : G DV := g68 G135 G136

/-- aql.there -/
def g102 : G DV := fun R1 H1 Kb1 => lc R1 fun d1 R2 => onV d1 fun v1 => isI .i64 v1 fun n1 => ln R2 <| frcB (ile ii1 n1) fun t1 => jn (fun d2 H2 => jn (fun d3 H3 => pickK t1 d3 (DV.v (AV.b false)) fun d4 => onV d4 fun v2 => isB v2 fun t2 => Kb1 (DV.v (AV.b t2)) H3) fun Kb2 => br t1 (onV d2 fun v2 => isI .i64 v2 fun n2 => frcB (ile n2 ii16) fun t2 => Kb2 (DV.v (AV.b t2)) H2) (Kb2 DV.n H2)) fun Kb2 => br t1 (Kb2 (DV.v (AV.i .i64 n1)) H1) (Kb2 DV.n H1)
def G102 : G DV := g102

def g104x1 := lc R1 fun d1 R2 => onV d1 fun v1 => isP v1 fun p1 => lc R2 fun d2 R3 => onV d2 fun v2 => isI .i64 v2 fun n1 => ln R3 <| c1 [(DV.v (AV.i .i64 n1))] H1 fun d3 H2 => onV d3 fun v3 => isB v3 fun t1 => frcB (bnot t1) fun t2 => br t2 (Kb1 (DV.v (AV.i .i64 ii0)) H2) (wrp .i64 (isub n1 ii1) fun n2 => onA p1 fun b1 m1 => rng n2 nn16 <| rdK H2 b1 (Nat.add (Nat.add m1 nn2) (itn n2)) fun v4 => isI .i64 v4 fun n3 => Kb1 (DV.v (AV.i .i64 n3)) H2)
/-- (*aql.Limit).Of -/
def g104 : G DV := fun R1 H1 Kb1 => g104x1 R1 H1 c1 Kb1
def G104 : G DV := g104 G102

def g71x1 := frcB (ieq n1 ii0) fun t1 => br t1 (Kb1 (DV.v (AV.b true)) H1) (onA p1 fun b1 m1 => rdK H1 b1 m1 fun v1 => isI .i64 v1 fun n3 => c1 [(DV.v (AV.p p1)), (DV.v (AV.i .i64 n2))] H1 fun d1 H2 => onV d1 fun v2 => isI .i64 v2 fun n4 => rdK H2 b1 m1 fun v3 => must (aveq (AV.i .i64 n3) v3) <| frcB (ilt n4 n3) fun t2 => br t2 (onA p1 fun b2 m2 => rdK H2 b2 (Nat.add m2 nn1) fun v4 => isI .i64 v4 fun n5 => none) (Kb1 (DV.v (AV.b false)) H2))
/-- (*aql.Limit).May -/
def g71 : G DV := fun R1 H1 Kb1 => lc R1 fun d1 R2 => onV d1 fun v1 => isP v1 fun p1 => lc R2 fun d2 R3 => onV d2 fun v2 => isI .i64 v2 fun n1 => ln R3 <| c1 [(DV.v (AV.i .i64 n1))] H1 fun d3 H2 => onV d3 fun v3 => isB v3 fun t1 => frcB (bnot t1) fun t2 => br t2 (Kb1 (DV.v (AV.b false)) H2) (c2 [(DV.v (AV.p p1)), (DV.v (AV.i .i64 n1))] H2 fun d4 H3 => onV d4 fun v4 => isI .i64 v4 fun n2 => g71x1 n2 n1 p1 H3 c2 Kb1)
def G71 : G DV := g71 G102 G104

def z12 : T4 AV := (@T4.n AV yy6 (@T4.n AV yy1 (@T4.n AV yy11 te te te te) te te te) (@T4.n AV yy1 (@T4.n AV yy10 te te te te) te te te) (@T4.n AV yy6 (@T4.n AV yy10 te te te te) te te te) (@T4.n AV yy11 te te te te))
/-- ap.category -/
def g143 : G DV := fun R1 H1 Kb1 => lc R1 fun d1 R2 => onV d1 fun v1 => isI .i64 v1 fun n1 => ln R2 <| alB H1 z12 nn8 nn0 fun b1 H2 => ixA (AS.sl b1 nn0 nn8 nn8) n1 (fun x => x) fun b2 m1 => rdK H2 b2 m1 fun v2 => isI .i64 v2 fun n2 => Kb1 (DV.v (AV.i .i64 n2)) H2
def G143 : G DV := pure1 (g143)

/-- (*ba.Session).State -/
def g110 : G DV := fun R1 H1 Kb1 => lc R1 fun d1 R2 => onV d1 fun v1 => isP v1 fun p1 => ln R2 <| onA p1 fun b1 m1 => rdK H1 b1 (Nat.add m1 nn4) fun v2 => isI .i64 v2 fun n1 => Kb1 (DV.v (AV.i .i64 n1)) H1
def G110 : G DV := g110

/-- (*win.Win).Start -/
def g240 : G DV := fun R1 H1 Kb1 => lc R1 fun d1 R2 => onV d1 fun v1 => isP v1 fun p1 => ln R2 <| onA p1 fun b1 m1 => rdK H1 b1 m1 fun v2 => isI .i64 v2 fun n1 => Kb1 (DV.v (AV.i .i64 n1)) H1
def G240 : G DV := g240

def g149x1 := lc R1 fun d1 R2 => onV d1 fun v1 => isP v1 fun p1 => ln R2 <| onA p1 fun b1 m1 => rdK H1 b1 (Nat.add m1 nn7) fun v2 => isB v2 fun t1 => frcB (bnot t1) fun t2 => br t2 (Kb1 (DV.c (DV.v (AV.i .i64 ii0)) (DV.c (DV.v (AV.b false)) DV.n)) H1) (onA p1 fun b2 m2 => rdK H1 b2 m2 fun v3 => isP v3 fun p2 => c1 [(DV.v (AV.p p2))] H1 fun d2 H2 => onV d2 fun v4 => isI .i64 v4 fun n1 => Kb1 (DV.c (DV.v (AV.i .i64 n1)) (DV.c (DV.v (AV.b true)) DV.n)) H2)
/-- (*ba.Session).Bar -/
def g149 : G DV := fun R1 H1 Kb1 => g149x1 R1 H1 c1 Kb1
def G149 : G DV := g149 G240

/-- (*ba.Session).Due -/
def g151 : G DV := fun R1 H1 Kb1 => lc R1 fun d1 R2 => onV d1 fun v1 => isP v1 fun p1 => ln R2 <| c1 [(DV.v (AV.p p1)), (DV.v (AV.fn (nat_lit 243) []))] H1 fun d2 H2 => onV d2 fun v2 => isS v2 fun s1 => Kb1 (DV.v (AV.s s1)) H2
def G151 : G DV := g151 G220

def g255x1 := jn (fun d2 H2 => pickK t1 d2 (DV.v (AV.b false)) fun d3 => onV d3 fun v1 => isB v1 fun t2 => jn (fun d4 H3 => jn (fun d5 H4 => pickK t2 d5 (DV.v (AV.b false)) fun d6 => onV d6 fun v2 => isB v2 fun t3 => Kb1 (DV.v (AV.b t3)) H4) fun Kb2 => br t2 (onV d4 fun v2 => isI .i64 v2 fun n2 => frcB (ilt n2 ii8) fun t3 => Kb2 (DV.v (AV.b t3)) H3) (Kb2 DV.n H3)) fun Kb2 => br t2 (Kb2 (DV.v (AV.i .i64 n1)) H2) (Kb2 DV.n H2)) fun Kb2 => br t1 (onV d1 fun v1 => isI .i64 v1 fun n2 => frcB (ile ii0 n2) fun t2 => Kb2 (DV.v (AV.b t2)) H1) (Kb2 DV.n H1)
def g255x2 := ln R1 <| frcB (ile ii1 n1) fun t1 => jn (fun d1 H2 => jn (fun d2 H3 => pickK t1 d2 (DV.v (AV.b false)) fun d3 => onV d3 fun v1 => isB v1 fun t2 => jn (fun d4 H4 => g255x1 d4 n2 t2 H4 Kb1) fun Kb2 => br t2 (Kb2 (DV.v (AV.i .i64 n2)) H3) (Kb2 DV.n H3)) fun Kb2 => br t1 (onV d1 fun v1 => isI .i64 v1 fun n3 => frcB (ile n3 ii16) fun t2 => Kb2 (DV.v (AV.b t2)) H2) (Kb2 DV.n H2)) fun Kb2 => br t1 (Kb2 (DV.v (AV.i .i64 n1)) H1) (Kb2 DV.n H1)
/-- pool.there -/
def g255 : G DV := fun R1 H1 Kb1 => lc R1 fun d1 R2 => onV d1 fun v1 => isI .i64 v1 fun n1 => lc R2 fun d2 R3 => onV d2 fun v2 => isI .i64 v2 fun n2 => g255x2 R3 n1 n2 H1 Kb1
def G255 : G DV := g255

/-- (*fq.Queue).Len -/
def g306 : G DV := fun R1 H1 Kb1 => lc R1 fun d1 R2 => onV d1 fun v1 => isP v1 fun p1 => ln R2 <| onA p1 fun b1 m1 => rdK H1 b1 (Nat.add m1 nn133) fun v2 => isI .i64 v2 fun n1 => Kb1 (DV.v (AV.i .i64 n1)) H1
def G306 : G DV := g306

def g237x1 := jn (fun d2 H2 => jn (fun d3 H3 => jn (fun d4 H4 => pickK t1 d4 (DV.v (AV.b false)) fun d5 => onV d5 fun v1 => isB v1 fun t2 => Kb1 (DV.v (AV.b t2)) H4) fun Kb2 => br t1 (onV d3 fun v1 => isI .i64 v1 fun n1 => frcB (ilt ii0 n1) fun t2 => Kb2 (DV.v (AV.b t2)) H3) (Kb2 DV.n H3)) fun Kb2 => br t1 (c1 [d2] H2 fun d3 H3 => onV d3 fun v1 => isI .i64 v1 fun n1 => Kb2 (DV.v (AV.i .i64 n1)) H3) (Kb2 DV.n H2)) fun Kb2 => br t1 (onV d1 fun v1 => isP v1 fun p1 => onA p1 fun b1 m1 => rdK H1 b1 m1 fun v2 => isP v2 fun p2 => Kb2 (DV.v (AV.p p2)) H1) (Kb2 DV.n H1)
def g237x2 := jn (fun d4 H2 => jn (fun d5 H3 => g237x1 d5 t1 H3 c1 Kb1) fun Kb2 => br t1 (onV d1 fun v1 => isJ v1 fun n1 => onV d4 fun v2 => isP v2 fun p1 => onA p1 fun b1 m1 => rng n1 nn8 <| Kb2 (DV.v (AV.p (AP.at b1 (Nat.add m1 (itn n1))))) H2) (Kb2 DV.n H2)) fun Kb2 => br t1 (onV d2 fun v1 => isJ v1 fun n1 => onV d3 fun v2 => isP v2 fun p1 => onA p1 fun b1 m1 => rng n1 nn16 <| Kb2 (DV.v (AV.p (AP.at b1 (Nat.add m1 (Nat.mul (itn n1) nn8))))) H1) (Kb2 DV.n H1)
def g237x3 := jn (fun d3 H2 => jn (fun d4 H3 => jn (fun d5 H4 => jn (fun d6 H5 => g237x2 d4 d3 d6 t1 H5 c1 Kb1) fun Kb2 => br t1 (onV d5 fun v1 => isP v1 fun p1 => onA p1 fun b1 m1 => Kb2 (DV.v (AV.p (AP.at b1 (Nat.add m1 nn5)))) H4) (Kb2 DV.n H4)) fun Kb2 => br t1 (onV d1 fun v1 => isP v1 fun p1 => onA p1 fun b1 m1 => Kb2 (DV.v (AV.p (AP.at b1 m1))) H3) (Kb2 DV.n H3)) fun Kb2 => br t1 (Kb2 (DV.v (AV.i .i64 n1)) H2) (Kb2 DV.n H2)) fun Kb2 => br t1 (onV d2 fun v1 => isI .i64 v1 fun n2 => wrp .i64 (isub n2 ii1) fun n3 => Kb2 (DV.v (AV.i .i64 n3)) H1) (Kb2 DV.n H1)
def g237x4 := isP v1 fun p1 => lc R1 fun d1 R2 => onV d1 fun v2 => isI .i64 v2 fun n1 => lc R2 fun d2 R3 => onV d2 fun v3 => isI .i64 v3 fun n2 => ln R3 <| c1 [(DV.v (AV.i .i64 n1)), (DV.v (AV.i .i64 n2))] H1 fun d3 H2 => onV d3 fun v4 => isB v4 fun t1 => jn (fun d4 H3 => jn (fun d5 H4 => g237x3 d4 d5 n2 t1 H4 c2 Kb1) fun Kb2 => br t1 (Kb2 (DV.v (AV.i .i64 n1)) H3) (Kb2 DV.n H3)) fun Kb2 => br t1 (Kb2 (DV.v (AV.p p1)) H2) (Kb2 DV.n H2)
/-- (*pool.Pool).Has -/
def g237 : G DV := fun R1 H1 Kb1 => lc R1 fun d1 R2 => onV d1 fun v1 => g237x4 v1 R2 H1 c1 c2 Kb1
def G237 : G DV := g237 G255 G306

def g307x1 := isI .i64 v1 fun n1 => onA p1 fun b2 m2 => rdK H1 b2 m2 fun v2 => isI .i64 v2 fun n2 => onA p1 fun b3 m3 => rdK H1 b3 (Nat.add m3 nn1) fun v3 => isI .i64 v3 fun n3 => c1 [(DV.v (AV.i .i64 n2)), (DV.v (AV.i .i64 n3))] H1 fun d1 H2 => onV d1 fun v4 => isI .i64 v4 fun n4 => rdK H2 b1 (Nat.add m1 nn2) fun v5 => must (aveq (AV.i .i64 n1) v5) <| wrp .i64 (isub n1 n4) fun n5 => asI (imax n5 ii0) fun n6 => Kb1 (DV.v (AV.i .i64 n6)) H2
/-- (*win.Win).Room -/
def g307 : G DV := fun R1 H1 Kb1 => lc R1 fun d1 R2 => onV d1 fun v1 => isP v1 fun p1 => ln R2 <| onA p1 fun b1 m1 => rdK H1 b1 (Nat.add m1 nn2) fun v2 => g307x1 v2 m1 p1 b1 H1 c1 Kb1
def G307 : G DV := g307 G206

/-- (*ba.Session).Room -/
def g238 : G DV := fun R1 H1 Kb1 => lc R1 fun d1 R2 => onV d1 fun v1 => isP v1 fun p1 => ln R2 <| onA p1 fun b1 m1 => rdK H1 b1 m1 fun v2 => isP v2 fun p2 => c1 [(DV.v (AV.p p2))] H1 fun d2 H2 => onV d2 fun v3 => isI .i64 v3 fun n1 => Kb1 (DV.v (AV.i .i64 n1)) H2
def G238 : G DV := g238 G307

def g144x1 := jn (fun d3 H2 => jn (fun d4 H3 => jn (fun d5 H4 => pickK t1 d5 (DV.v (AV.b false)) fun d6 => onV d6 fun v1 => isB v1 fun t2 => Kb1 (DV.v (AV.b t2)) H4) fun Kb2 => br t1 (onV d1 fun v1 => isB v1 fun t2 => pickK t2 (DV.v (AV.b true)) d4 fun d5 => onV d5 fun v2 => isB v2 fun t3 => Kb2 (DV.v (AV.b t3)) H3) (Kb2 DV.n H3)) fun Kb2 => grd d1 false (onV d3 fun v1 => isI .i64 v1 fun n1 => frcB (ieq n1 ii1) fun t2 => Kb2 (DV.v (AV.b t2)) H2) (Kb2 DV.n H2)) fun Kb2 => grd d1 false (c1 [d2] H1 fun d3 H2 => onV d3 fun v1 => isI .i64 v1 fun n1 => Kb2 (DV.v (AV.i .i64 n1)) H2) (Kb2 DV.n H1)
def g144x2 := jn (fun d3 H2 => jn (fun d4 H3 => jn (fun d5 H4 => g144x1 d1 d5 t1 H4 c1 Kb1) fun Kb2 => grd d1 false (onV d4 fun v1 => isP v1 fun p1 => onA p1 fun b1 m1 => rdK H3 b1 m1 fun v2 => isP v2 fun p2 => Kb2 (DV.v (AV.p p2)) H3) (Kb2 DV.n H3)) fun Kb2 => grd d1 false (onV d3 fun v1 => isP v1 fun p1 => onA p1 fun b1 m1 => Kb2 (DV.v (AV.p (AP.at b1 m1))) H2) (Kb2 DV.n H2)) fun Kb2 => grd d1 false (onV d2 fun v1 => isP v1 fun p1 => onA p1 fun b1 m1 => Kb2 (DV.v (AV.p (AP.at b1 m1))) H1) (Kb2 DV.n H1)
def g144x3 := jn (fun d2 H2 => jn (fun d3 H3 => jn (fun d4 H4 => jn (fun d5 H5 => g144x2 d4 d5 t1 H5 c1 Kb1) fun Kb2 => grd d4 false (Kb2 (DV.v (AV.p (AP.at b1 (Nat.add (Nat.add m1 nn6) (Nat.mul (itn n1) nn5))))) H4) (Kb2 DV.n H4)) fun Kb2 => br t1 (Kb2 d3 H3) (Kb2 DV.n H3)) fun Kb2 => br t1 (onV d2 fun v1 => isI .i64 v1 fun n2 => frcB (ilt ii0 n2) fun t2 => Kb2 (DV.v (AV.b t2)) H2) (Kb2 DV.n H2)) fun Kb2 => br t1 (c2 [d1] H1 fun d2 H2 => onV d2 fun v1 => isI .i64 v1 fun n2 => Kb2 (DV.v (AV.i .i64 n2)) H2) (Kb2 DV.n H1)
def g144x4 := jn (fun d2 H2 => jn (fun d3 H3 => jn (fun d4 H4 => g144x3 d4 n1 m1 t1 b1 H4 c1 c2 Kb1) fun Kb2 => br t1 (onV d3 fun v1 => isP v1 fun p1 => onA p1 fun b2 m2 => rdK H3 b2 m2 fun v2 => isP v2 fun p2 => Kb2 (DV.v (AV.p p2)) H3) (Kb2 DV.n H3)) fun Kb2 => br t1 (onV d2 fun v1 => isP v1 fun p1 => onA p1 fun b2 m2 => Kb2 (DV.v (AV.p (AP.at b2 m2))) H2) (Kb2 DV.n H2)) fun Kb2 => br t1 (onV d1 fun v1 => isP v1 fun p1 => onA p1 fun b2 m2 => Kb2 (DV.v (AV.p (AP.at b2 m2))) H1) (Kb2 DV.n H1)
def g144x5 := onV d1 fun v1 => isB v1 fun t1 => br t1 (Kb1 (DV.v (AV.b true)) H1) (onA p1 fun b2 m2 => rdK H1 b2 (Nat.add m2 nn311) fun v2 => isP v2 fun p2 => c1 [(DV.v (AV.p p2)), (DV.v (AV.i .i64 n1)), (DV.v (AV.i .i64 n2))] H1 fun d2 H2 => onV d2 fun v3 => isB v3 fun t2 => jn (fun d3 H3 => g144x4 d3 n2 m1 t2 b1 H3 c2 c3 Kb1) fun Kb2 => br t2 (Kb2 (DV.v (AV.p (AP.at b1 (Nat.add (Nat.add m1 nn6) (Nat.mul (itn n2) nn5))))) H2) (Kb2 DV.n H2))
def g144x6 := jn (fun d2 H2 => jn (fun d3 H3 => jn (fun d4 H4 => pickK t1 (DV.v (AV.b true)) d4 fun d5 => g144x5 d5 n1 n2 m1 p1 b1 H4 c1 c2 c3 Kb1) fun Kb2 => br t1 (Kb2 DV.n H3) (onV d3 fun v1 => isI .i64 v1 fun n3 => frcB (ilt ii0 n3) fun t2 => Kb2 (DV.v (AV.b t2)) H3)) fun Kb2 => br t1 (Kb2 DV.n H2) (onV d2 fun v1 => isS v1 fun s1 => lenA s1 fun m2 => Kb2 (DV.v (AV.i .i64 (Int.ofNat m2))) H2)) fun Kb2 => br t1 (Kb2 DV.n H1) (c4 [d1] H1 fun d2 H2 => onV d2 fun v1 => isS v1 fun s1 => Kb2 (DV.v (AV.s s1)) H2)
def g144x7 := jn (fun d2 H2 => jn (fun d3 H3 => jn (fun d4 H4 => g144x6 d4 n1 n2 m1 t1 p1 b1 H4 c1 c2 c3 c4 Kb1) fun Kb2 => br t1 (Kb2 DV.n H3) (onV d3 fun v1 => isP v1 fun p2 => onA p2 fun b2 m2 => rdK H3 b2 m2 fun v2 => isP v2 fun p3 => Kb2 (DV.v (AV.p p3)) H3)) fun Kb2 => br t1 (Kb2 DV.n H2) (onV d2 fun v1 => isP v1 fun p2 => onA p2 fun b2 m2 => Kb2 (DV.v (AV.p (AP.at b2 m2))) H2)) fun Kb2 => br t1 (Kb2 DV.n H1) (onV d1 fun v1 => isP v1 fun p2 => onA p2 fun b2 m2 => Kb2 (DV.v (AV.p (AP.at b2 m2))) H1)
def g144x8 := rdK H1 b1 (Nat.add (Nat.add m1 nn6) (Nat.mul (itn n1) nn5)) fun v1 => isP v1 fun p2 => c1 [(DV.v (AV.p p2))] H1 fun d1 H2 => onC d1 fun d2 d3 => onV d2 fun v2 => isI .i64 v2 fun n3 => onC d3 fun d4 d5 => onV d4 fun v3 => isB v3 fun t1 => onN d5 <| jn (fun d6 H3 => g144x7 d6 n2 n1 m1 t1 p1 b1 H3 c2 c3 c4 c5 Kb1) fun Kb2 => br t1 (Kb2 DV.n H2) (Kb2 (DV.v (AV.p (AP.at b1 (Nat.add (Nat.add m1 nn6) (Nat.mul (itn n1) nn5))))) H2)
def g144x9 := onV d1 fun v1 => isI .i64 v1 fun n1 => lc R1 fun d2 R2 => onV d2 fun v2 => isI .i64 v2 fun n2 => ln R2 <| c1 [(DV.v (AV.p p1)), (DV.v (AV.i .i64 n1))] H1 fun d3 H2 => onV d3 fun v3 => isP v3 fun p2 => onA p2 fun b1 m1 => rng n2 nn8 <| rdK H2 b1 (Nat.add (Nat.add (Nat.add m1 nn6) (Nat.mul (itn n2) nn5)) nn4) fun v4 => isB v4 fun t1 => br t1 (Kb1 (DV.v (AV.b false)) H2) (g144x8 n2 n1 m1 p1 b1 H2 c2 c3 c4 c5 c6 Kb1)
/-- (*ap.AP).ready -/
def g144 : G DV := fun R1 H1 Kb1 => lc R1 fun d1 R2 => onV d1 fun v1 => isP v1 fun p1 => lc R2 fun d2 R3 => g144x9 d2 R3 p1 H1 c1 c3 c5 c2 c6 c4 Kb1
def G144 : G DV := g144 G42 G110 G149 G151 G237 G238

def g72x1 := jn (fun d3 H2 => jn (fun d4 H3 => pickK t1 d4 (DV.v (AV.b false)) fun d5 => onV d5 fun v1 => isB v1 fun t2 => br t2 (alB H3 (@T4.n AV (AV.i .i64 n1) te te te te) nn1 nn0 fun b1 H4 => appD nn1 nn8 s1 (AS.sl b1 nn0 nn1 nn1) H4 fun s2 H5 => Kb1 (DV.v (AV.s s2)) H5) (Kb1 (DV.v (AV.s s1)) H3)) fun Kb2 => br t1 (c1 [d1, d2, d3] H2 fun d4 H3 => onV d4 fun v1 => isB v1 fun t2 => Kb2 (DV.v (AV.b t2)) H3) (Kb2 DV.n H2)) fun Kb2 => br t1 (Kb2 (DV.v (AV.i .i64 n1)) H1) (Kb2 DV.n H1)
def g72x2 := jF [(7 , .slice)] (fun d1 H2 => onV d1 fun v1 => isS v1 fun s2 => wrp .i64 (iadd n1 ii1) fun n4 => Kc1 (DV.v (AV.s s2)) (DV.v (AV.i .i64 n4)) H2) fun Kb1 => c1 [(DV.v (AV.i .i64 n1))] H1 fun d1 H2 => onV d1 fun v1 => isI .i64 v1 fun n4 => frcB (ieq n4 n2) fun t1 => jn (fun d2 H3 => jn (fun d3 H4 => g72x1 d2 d3 n1 t1 s1 H4 c2 Kb1) fun Kb2 => br t1 (Kb2 (DV.v (AV.i .i64 n3)) H3) (Kb2 DV.n H3)) fun Kb2 => br t1 (Kb2 (DV.v (AV.p p1)) H2) (Kb2 DV.n H2)
def g72x3 := lc R1 fun d1 R2 => onV d1 fun v1 => isI .i64 v1 fun n1 => lc R2 fun d2 R3 => onV d2 fun v2 => isI .i64 v2 fun n2 => ln R3 <| lpR (failF [(7 , .slice), (9 , .int .i64)]) (fun Kc1 => fun d3 d4 H2 => onV d3 fun v3 => isS v3 fun s1 => onV d4 fun v4 => isI .i64 v4 fun n3 => frcB (ilt n3 ii8) fun t1 => br t1 (g72x2 n3 n2 n1 p1 s1 H2 c1 c2 Kc1) (Kb1 (DV.v (AV.s s1)) H2)) (nat_lit 100000) (DV.v (AV.s AS.nil)) (DV.v (AV.i .i64 ii0)) H1
/-- (*ap.AP).readies -/
def g72 : G DV := fun R1 H1 Kb1 => lc R1 fun d1 R2 => onV d1 fun v1 => isP v1 fun p1 => g72x3 R2 p1 H1 c1 c2 Kb1
def G72 : G DV := g72 G143 G144

def g168x1 := jn (fun d2 H2 => jn (fun d3 H3 => pickK t1 (DV.v (AV.b true)) d3 fun d4 => onV d4 fun v1 => isB v1 fun t2 => br t2 (Kb1 (DV.v (AV.p AP.nil)) H3) (wrp .i64 (isub n1 ii1) fun n2 => onA p1 fun b1 m1 => rng n2 nn16 <| Kb1 (DV.v (AV.p (AP.at b1 (Nat.add m1 (Nat.mul (itn n2) nn10))))) H3)) fun Kb2 => br t1 (Kb2 DV.n H2) (onV d2 fun v1 => isB v1 fun t2 => frcB (bnot t2) fun t3 => Kb2 (DV.v (AV.b t3)) H2)) fun Kb2 => br t1 (Kb2 DV.n H1) (onV d1 fun v1 => isP v1 fun p2 => onA p2 fun b1 m1 => rdK H1 b1 m1 fun v2 => isB v2 fun t2 => Kb2 (DV.v (AV.b t2)) H1)
def g168x2 := jn (fun d3 H2 => jn (fun d4 H3 => jn (fun d5 H4 => g168x1 d5 n1 t1 p1 H4 Kb1) fun Kb2 => br t1 (Kb2 DV.n H3) (onV d4 fun v1 => isP v1 fun p2 => onA p2 fun b1 m1 => Kb2 (DV.v (AV.p (AP.at b1 m1))) H3)) fun Kb2 => br t1 (Kb2 DV.n H2) (onV d1 fun v1 => isJ v1 fun n2 => onV d3 fun v2 => isP v2 fun p2 => onA p2 fun b1 m1 => rng n2 nn16 <| Kb2 (DV.v (AV.p (AP.at b1 (Nat.add m1 (Nat.mul (itn n2) nn10))))) H2)) fun Kb2 => br t1 (Kb2 DV.n H1) (onV d2 fun v1 => isP v1 fun p2 => onA p2 fun b1 m1 => Kb2 (DV.v (AV.p (AP.at b1 m1))) H1)
def g168x3 := jn (fun d1 H2 => jn (fun d2 H3 => jn (fun d3 H4 => jn (fun d4 H5 => g168x2 d3 d4 n1 t1 p1 H5 Kb1) fun Kb2 => br t1 (Kb2 DV.n H4) (onV d1 fun v1 => isP v1 fun p2 => onA p2 fun b1 m1 => Kb2 (DV.v (AV.p (AP.at b1 m1))) H4)) fun Kb2 => br t1 (Kb2 DV.n H3) (onV d2 fun v1 => isI .i64 v1 fun n2 => wrp .i64 (isub n2 ii1) fun n3 => Kb2 (DV.v (AV.i .i64 n3)) H3)) fun Kb2 => br t1 (Kb2 DV.n H2) (Kb2 (DV.v (AV.i .i64 n1)) H2)) fun Kb2 => br t1 (Kb2 DV.n H1) (Kb2 (DV.v (AV.p p1)) H1)
def g168x4 := isP v1 fun p1 => lc R1 fun d1 R2 => onV d1 fun v2 => isI .i64 v2 fun n1 => ln R2 <| frcB (ilt n1 ii1) fun t1 => jn (fun d2 H2 => jn (fun d3 H3 => pickK t1 (DV.v (AV.b true)) d3 fun d4 => onV d4 fun v3 => isB v3 fun t2 => g168x3 n1 t2 p1 H3 Kb1) fun Kb2 => br t1 (Kb2 DV.n H2) (onV d2 fun v3 => isI .i64 v3 fun n2 => frcB (ilt ii16 n2) fun t2 => Kb2 (DV.v (AV.b t2)) H2)) fun Kb2 => br t1 (Kb2 DV.n H1) (Kb2 (DV.v (AV.i .i64 n1)) H1)
/-- (*ps.Power).of -/
def g168 : G DV := fun R1 H1 Kb1 => lc R1 fun d1 R2 => onV d1 fun v1 => g168x4 v1 R2 H1 Kb1
def G168 : G DV := g168

/-- ps.fair -/
def g203 : G DV := fun R1 H1 Kb1 => lc R1 fun d1 R2 => onV d1 fun v1 => isI .i64 v1 fun n1 => ln R2 <| frcB (ile ii0 n1) fun t1 => jn (fun d2 H2 => jn (fun d3 H3 => pickK t1 d3 (DV.v (AV.b false)) fun d4 => onV d4 fun v2 => isB v2 fun t2 => Kb1 (DV.v (AV.b t2)) H3) fun Kb2 => br t1 (onV d2 fun v2 => isI .i64 v2 fun n2 => frcB (ilt n2 ii4) fun t2 => Kb2 (DV.v (AV.b t2)) H2) (Kb2 DV.n H2)) fun Kb2 => br t1 (Kb2 (DV.v (AV.i .i64 n1)) H1) (Kb2 DV.n H1)
def G203 : G DV := g203

def g137x1 := jn (fun d4 H2 => jn (fun d5 H3 => pickK t1 d5 (DV.v (AV.b false)) fun d6 => onV d6 fun v1 => isB v1 fun t2 => Kb1 (DV.v (AV.b t2)) H3) fun Kb2 => br t1 (onV d1 fun v1 => isB v1 fun t2 => pickK t2 (DV.v (AV.b true)) d4 fun d5 => onV d5 fun v2 => isB v2 fun t3 => Kb2 (DV.v (AV.b t3)) H2) (Kb2 DV.n H2)) fun Kb2 => grd d1 false (onV d2 fun v1 => isB v1 fun t2 => pickK t2 d3 (DV.v (AV.b false)) fun d4 => onV d4 fun v2 => isB v2 fun t3 => Kb2 (DV.v (AV.b t3)) H1) (Kb2 DV.n H1)
def g137x2 := jn (fun d5 H2 => jn (fun d6 H3 => jn (fun d7 H4 => g137x1 d1 d2 d7 t1 H4 Kb1) fun Kb2 => grd d2 true (onV d6 fun v1 => isP v1 fun p1 => onA p1 fun b1 m1 => rdK H3 b1 m1 fun v2 => isB v2 fun t2 => Kb2 (DV.v (AV.b t2)) H3) (Kb2 DV.n H3)) fun Kb2 => grd d2 true (onV d3 fun v1 => isJ v1 fun n1 => onV d5 fun v2 => isP v2 fun p1 => onA p1 fun b1 m1 => rng n1 nn4 <| Kb2 (DV.v (AV.p (AP.at b1 (Nat.add m1 (itn n1))))) H2) (Kb2 DV.n H2)) fun Kb2 => grd d2 true (onV d4 fun v1 => isP v1 fun p1 => onA p1 fun b1 m1 => Kb2 (DV.v (AV.p (AP.at b1 (Nat.add m1 nn4)))) H1) (Kb2 DV.n H1)
def g137x3 := jn (fun d3 H2 => jn (fun d4 H3 => jn (fun d5 H4 => jn (fun d6 H5 => jn (fun d7 H6 => g137x2 d1 d4 d6 d7 t1 H6 Kb1) fun Kb2 => grd d4 true (onV d5 fun v1 => isP v1 fun p2 => onA p2 fun b1 m1 => Kb2 (DV.v (AV.p (AP.at b1 m1))) H5) (Kb2 DV.n H5)) fun Kb2 => grd d4 true (Kb2 (DV.v (AV.i .i64 n1)) H4) (Kb2 DV.n H4)) fun Kb2 => grd d4 true (Kb2 (DV.v (AV.p p1)) H3) (Kb2 DV.n H3)) fun Kb2 => grd d1 false (Kb2 d3 H2) (Kb2 DV.n H2)) fun Kb2 => grd d1 false (onV d2 fun v1 => isP v1 fun p2 => onA p2 fun b1 m1 => rdK H1 b1 m1 fun v2 => isB v2 fun t2 => Kb2 (DV.v (AV.b t2)) H1) (Kb2 DV.n H1)
def g137x4 := jn (fun d2 H2 => jn (fun d3 H3 => jn (fun d4 H4 => jn (fun d5 H5 => g137x3 d2 d5 n1 t1 p1 H5 Kb1) fun Kb2 => grd d2 false (onV d4 fun v1 => isP v1 fun p2 => onA p2 fun b1 m1 => Kb2 (DV.v (AV.p (AP.at b1 (Nat.add m1 nn3)))) H4) (Kb2 DV.n H4)) fun Kb2 => grd d2 false (onV d3 fun v1 => isP v1 fun p2 => onA p2 fun b1 m1 => Kb2 (DV.v (AV.p (AP.at b1 m1))) H3) (Kb2 DV.n H3)) fun Kb2 => grd d2 false (Kb2 (DV.v (AV.p p1)) H2) (Kb2 DV.n H2)) fun Kb2 => br t1 (Kb2 d1 H1) (Kb2 DV.n H1)
def g137x5 := jn (fun d3 H2 => jn (fun d4 H3 => jn (fun d5 H4 => g137x4 d5 n1 t1 p1 H4 Kb1) fun Kb2 => br t1 (onV d1 fun v1 => isB v1 fun t2 => pickK t2 (DV.v (AV.b true)) d4 fun d5 => onV d5 fun v2 => isB v2 fun t3 => Kb2 (DV.v (AV.b t3)) H3) (Kb2 DV.n H3)) fun Kb2 => grd d1 false (onV d3 fun v1 => isP v1 fun p2 => onA p2 fun b1 m1 => rdK H2 b1 m1 fun v2 => isB v2 fun t2 => Kb2 (DV.v (AV.b t2)) H2) (Kb2 DV.n H2)) fun Kb2 => grd d1 false (onV d2 fun v1 => isP v1 fun p2 => onA p2 fun b1 m1 => Kb2 (DV.v (AV.p (AP.at b1 (Nat.add m1 nn2)))) H1) (Kb2 DV.n H1)
def g137x6 := jn (fun d2 H2 => jn (fun d3 H3 => jn (fun d4 H4 => jn (fun d5 H5 => g137x5 d3 d5 n1 t1 p1 H5 Kb1) fun Kb2 => grd d3 false (onV d4 fun v1 => isP v1 fun p2 => onA p2 fun b1 m1 => Kb2 (DV.v (AV.p (AP.at b1 m1))) H4) (Kb2 DV.n H4)) fun Kb2 => grd d3 false (Kb2 (DV.v (AV.p p1)) H3) (Kb2 DV.n H3)) fun Kb2 => br t1 (Kb2 d2 H2) (Kb2 DV.n H2)) fun Kb2 => br t1 (onV d1 fun v1 => isB v1 fun t2 => frcB (bnot t2) fun t3 => Kb2 (DV.v (AV.b t3)) H1) (Kb2 DV.n H1)
def g137x7 := jn (fun d2 H2 => jn (fun d3 H3 => jn (fun d4 H4 => g137x6 d4 n1 t1 p1 H4 Kb1) fun Kb2 => br t1 (onV d3 fun v1 => isP v1 fun p2 => onA p2 fun b1 m1 => rdK H3 b1 m1 fun v2 => isB v2 fun t2 => Kb2 (DV.v (AV.b t2)) H3) (Kb2 DV.n H3)) fun Kb2 => br t1 (onV d2 fun v1 => isP v1 fun p2 => onA p2 fun b1 m1 => Kb2 (DV.v (AV.p (AP.at b1 (Nat.add m1 nn1)))) H2) (Kb2 DV.n H2)) fun Kb2 => br t1 (onV d1 fun v1 => isP v1 fun p2 => onA p2 fun b1 m1 => Kb2 (DV.v (AV.p (AP.at b1 m1))) H1) (Kb2 DV.n H1)
def g137x8 := isP v1 fun p1 => frcB (bnot (isNilA p1)) fun t1 => jn (fun d1 H2 => jn (fun d2 H3 => pickK t1 d2 (DV.v (AV.b false)) fun d3 => onV d3 fun v2 => isB v2 fun t2 => jn (fun d4 H4 => g137x7 d4 n1 t2 p1 H4 Kb1) fun Kb2 => br t2 (Kb2 (DV.v (AV.p p1)) H3) (Kb2 DV.n H3)) fun Kb2 => br t1 (c1 [d1] H2 fun d2 H3 => onV d2 fun v2 => isB v2 fun t2 => Kb2 (DV.v (AV.b t2)) H3) (Kb2 DV.n H2)) fun Kb2 => br t1 (Kb2 (DV.v (AV.i .i64 n1)) H1) (Kb2 DV.n H1)
/-- (*ps.Power).May -/
def g137 : G DV := fun R1 H1 Kb1 => lc R1 fun d1 R2 => onV d1 fun v1 => isP v1 fun p1 => lc R2 fun d2 R3 => onV d2 fun v2 => isI .i64 v2 fun n1 => lc R3 fun d3 R4 => onV d3 fun v3 => isI .i64 v3 fun n2 => ln R4 <| c1 [(DV.v (AV.p p1)), (DV.v (AV.i .i64 n1))] H1 fun d4 H2 => onV d4 fun v4 => g137x8 v4 n2 H2 c2 Kb1
def G137 : G DV := g137 G168 G203

/-- (*sched.turns).Len -/
def g140 : G DV := fun R1 H1 Kb1 => lc R1 fun d1 R2 => onV d1 fun v1 => isP v1 fun p1 => ln R2 <| onA p1 fun b1 m1 => rdK H1 b1 m1 fun v2 => isS v2 fun s1 => lenA s1 fun m2 => Kb1 (DV.v (AV.i .i64 (Int.ofNat m2))) H1
def G140 : G DV := g140

def g403x1 := br t1 (Kb1 (DV.v (AV.b true)) H1) (onA p1 fun b1 m1 => rdK H1 b1 (Nat.add m1 nn2) fun v1 => isI .i64 v1 fun n1 => onA p2 fun b2 m2 => rdK H1 b2 (Nat.add m2 nn2) fun v2 => isI .i64 v2 fun n2 => frcB (ieq n1 n2) fun t2 => br t2 (onA p1 fun b3 m3 => rdK H1 b3 m3 fun v3 => isI .i64 v3 fun n3 => onA p2 fun b4 m4 => rdK H1 b4 m4 fun v4 => isI .i64 v4 fun n4 => frcB (ilt n3 n4) fun t3 => Kb1 (DV.v (AV.b t3)) H1) (Kb1 (DV.v (AV.b false)) H1))
def g403x2 := ixA s1 n1 (fun x => x) fun b1 m1 => rdK H1 b1 m1 fun v1 => isP v1 fun p2 => onA p1 fun b2 m2 => rdK H1 b2 m2 fun v2 => isS v2 fun s2 => ixA s2 n2 (fun x => x) fun b3 m3 => rdK H1 b3 m3 fun v3 => isP v3 fun p3 => onA p2 fun b4 m4 => rdK H1 b4 (Nat.add m4 nn2) fun v4 => isI .i64 v4 fun n3 => onA p3 fun b5 m5 => rdK H1 b5 (Nat.add m5 nn2) fun v5 => isI .i64 v5 fun n4 => frcB (ilt n3 n4) fun t1 => g403x1 t1 p2 p3 H1 Kb1
/-- (*sched.turns).Less -/
def g403 : G DV := fun R1 H1 Kb1 => lc R1 fun d1 R2 => onV d1 fun v1 => isP v1 fun p1 => lc R2 fun d2 R3 => onV d2 fun v2 => isI .i64 v2 fun n1 => lc R3 fun d3 R4 => onV d3 fun v3 => isI .i64 v3 fun n2 => ln R4 <| onA p1 fun b1 m1 => rdK H1 b1 m1 fun v4 => isS v4 fun s1 => g403x2 n1 n2 p1 s1 H1 Kb1
def G403 : G DV := g403

def g406x1 := rdK H1 b1 m1 fun v1 => isS v1 fun s1 => ixA s1 n1 (fun x => x) fun b2 m2 => rdK H1 b2 m2 fun v2 => isP v2 fun p2 => onA p1 fun b3 m3 => rdK H1 b3 m3 fun v3 => isS v3 fun s2 => ixA s2 n2 (fun x => x) fun b4 m4 => rdK H1 b4 m4 fun v4 => isP v4 fun p3 => onA p2 fun b5 m5 => wrK H1 b5 (Nat.add m5 nn4) (AV.i .i64 n1) fun H2 => onA p3 fun b6 m6 => wrK H2 b6 (Nat.add m6 nn4) (AV.i .i64 n2) fun H3 => Kb1 DV.n H3
def g406x2 := ixA s1 n1 (fun x => x) fun b1 m1 => rdK H1 b1 m1 fun v1 => isP v1 fun p2 => onA p1 fun b2 m2 => rdK H1 b2 m2 fun v2 => isS v2 fun s4 => ixA s4 n2 (fun x => x) fun b3 m3 => rdK H1 b3 m3 fun v3 => isP v3 fun p3 => ixA s2 n2 (fun x => x) fun b4 m4 => wrK H1 b4 m4 (AV.p p2) fun H2 => ixA s3 n1 (fun x => x) fun b5 m5 => wrK H2 b5 m5 (AV.p p3) fun H3 => onA p1 fun b6 m6 => g406x1 n2 n1 m6 p1 b6 H3 Kb1
/-- (*sched.turns).Swap -/
def g406 : G DV := fun R1 H1 Kb1 => lc R1 fun d1 R2 => onV d1 fun v1 => isP v1 fun p1 => lc R2 fun d2 R3 => onV d2 fun v2 => isI .i64 v2 fun n1 => lc R3 fun d3 R4 => onV d3 fun v3 => isI .i64 v3 fun n2 => ln R4 <| onA p1 fun b1 m1 => rdK H1 b1 m1 fun v4 => isS v4 fun s1 => onA p1 fun b2 m2 => rdK H1 b2 m2 fun v5 => isS v5 fun s2 => onA p1 fun b3 m3 => rdK H1 b3 m3 fun v6 => isS v6 fun s3 => g406x2 n2 n1 p1 s3 s1 s2 H1 Kb1
def G406 : G DV := g406

def g235x1 := jn (fun d5 H2 => jn (fun d6 H3 => pickK t1 (DV.v (AV.b true)) d6 fun d7 => onV d7 fun v1 => isB v1 fun t2 => br t2 (Kb1 DV.n H3) (onV d1 fun v2 => isM v2 fun m1 v3 => br (Nat.beq (nat_lit 270) m1) (c1 [(DV.v v3), (DV.v (AV.i .i64 n1)), (DV.v (AV.i .i64 n2))] H3 fun d8 H4 => Kb2 (DV.v (AV.i .i64 n1)) H4) (none))) fun Kb3 => br t1 (Kb3 DV.n H2) (onV d5 fun v1 => isB v1 fun t2 => frcB (bnot t2) fun t3 => Kb3 (DV.v (AV.b t3)) H2)) fun Kb3 => br t1 (Kb3 DV.n H1) (onV d2 fun v1 => isM v1 fun m1 v2 => br (Nat.beq (nat_lit 270) m1) (c2 [(DV.v v2), d3, d4] H1 fun d5 H2 => onV d5 fun v3 => isB v3 fun t2 => Kb3 (DV.v (AV.b t2)) H2) (none))
def g235x2 := isI .i64 v1 fun n1 => wrp .i64 (isub n1 ii1) fun n2 => must (bnot (ieq ii2 ii0)) <| wrp .i64 (iquo n2 ii2) fun n3 => frcB (ieq n3 n1) fun t1 => jn (fun d2 H2 => jn (fun d3 H3 => jn (fun d4 H4 => g235x1 d1 d2 d3 d4 n3 n1 t1 H4 c1 c2 Kb1 Kb2) fun Kb3 => br t1 (Kb3 DV.n H3) (Kb3 (DV.v (AV.i .i64 n3)) H3)) fun Kb3 => br t1 (Kb3 DV.n H2) (Kb3 (DV.v (AV.i .i64 n1)) H2)) fun Kb3 => br t1 (Kb3 DV.n H1) (Kb3 d1 H1)
/-- container/heap.up -/
def g235 : G DV := fun R1 H1 Kb1 => lc R1 fun d1 R2 => lc R2 fun d2 R3 => onV d2 fun v1 => isI .i64 v1 fun n1 => ln R3 <| lpR (failF [(1 , .int .i64)]) (fun Kb2 => fun d3 H2 => onV d3 fun v2 => g235x2 v2 d1 H2 c2 c1 Kb1 Kb2) (nat_lit 100000) (DV.v (AV.i .i64 n1)) H1
def G235 : G DV := g235 G403 G406

def g405x1 := onA p1 fun b1 m1 => rdK H1 b1 m1 fun v1 => isS v1 fun s1 => lenA s1 fun m2 => onA p2 fun b2 m3 => wrK H1 b2 (Nat.add m3 nn4) (AV.i .i64 (Int.ofNat m2)) fun H2 => onA p1 fun b3 m4 => rdK H2 b3 m4 fun v2 => isS v2 fun s2 => alB H2 (@T4.n AV (AV.p p2) te te te te) nn1 nn0 fun b4 H3 => appD nn1 nn8 s2 (AS.sl b4 nn0 nn1 nn1) H3 fun s3 H4 => onA p1 fun b5 m5 => wrK H4 b5 m5 (AV.s s3) fun H5 => Kb1 DV.n H5
/-- (*sched.turns).Push -/
def g405 : G DV := fun R1 H1 Kb1 => lc R1 fun d1 R2 => onV d1 fun v1 => isP v1 fun p1 => lc R2 fun d2 R3 => ln R3 <| onV d2 fun v2 => asT (nat_lit 274) (AV.p AP.nil) v2 fun v3 t1 => isP v3 fun p2 => frcB (bnot t1) fun t2 => br t2 (Kb1 DV.n H1) (g405x1 p1 p2 H1 Kb1)
def G405 : G DV := g405

/-- container/heap.Push -/
def g139 : G DV := fun R1 H1 Kb1 => lc R1 fun d1 R2 => lc R2 fun d2 R3 => ln R3 <| onV d1 fun v1 => isM v1 fun m1 v2 => br (Nat.beq (nat_lit 270) m1) (c3 [(DV.v v2), d2] H1 fun d3 H2 => onV d1 fun v3 => isM v3 fun m2 v4 => br (Nat.beq (nat_lit 270) m2) (c1 [(DV.v v4)] H2 fun d4 H3 => onV d4 fun v5 => isI .i64 v5 fun n1 => wrp .i64 (isub n1 ii1) fun n2 => c2 [d1, (DV.v (AV.i .i64 n2))] H3 fun d5 H4 => Kb1 DV.n H4) (none)) (none)
def G139 : G DV := g139 G140 G235 G405

def g236x1 := isI .i64 v1 fun n2 => onV d1 fun v2 => isM v2 fun m1 v3 => br (Nat.beq (nat_lit 270) m1) (c1 [(DV.v v3), (DV.v (AV.i .i64 n2)), (DV.v (AV.i .i64 n1))] H1 fun d2 H2 => onV d2 fun v4 => isB v4 fun t1 => frcB (bnot t1) fun t2 => br t2 (Kb1 (DV.v (AV.i .i64 n1)) H2) (onV d1 fun v5 => isM v5 fun m2 v6 => br (Nat.beq (nat_lit 270) m2) (c2 [(DV.v v6), (DV.v (AV.i .i64 n1)), (DV.v (AV.i .i64 n2))] H2 fun d3 H3 => Kb2 (DV.v (AV.i .i64 n2)) H3) (none))) (none)
def g236x2 := jn (fun d3 H2 => jn (fun d4 H3 => pickK t1 d4 (DV.v (AV.b false)) fun d5 => onV d5 fun v1 => isB v1 fun t2 => br t2 (Kb1 (DV.v (AV.i .i64 n1)) H3) (Kb1 (DV.v (AV.i .i64 n2)) H3)) fun Kb2 => br t1 (onV d1 fun v1 => isM v1 fun m1 v2 => br (Nat.beq (nat_lit 270) m1) (c1 [(DV.v v2), d2, d3] H2 fun d4 H3 => onV d4 fun v3 => isB v3 fun t2 => Kb2 (DV.v (AV.b t2)) H3) (none)) (Kb2 DV.n H2)) fun Kb2 => br t1 (Kb2 (DV.v (AV.i .i64 n2)) H1) (Kb2 DV.n H1)
def g236x3 := onV d1 fun v1 => isB v1 fun t1 => br t1 (Kb1 (DV.v (AV.i .i64 n1)) H1) (jF [(9 , .int .i64)] (fun d3 H2 => onV d3 fun v2 => g236x1 v2 d2 n1 H2 c1 c2 Kb1 Kb2) fun Kb3 => wrp .i64 (iadd n2 ii1) fun n4 => frcB (ilt n4 n3) fun t2 => jn (fun d3 H2 => jn (fun d4 H3 => g236x2 d3 d4 n4 n2 t2 H3 c1 Kb3) fun Kb4 => br t2 (Kb4 (DV.v (AV.i .i64 n4)) H2) (Kb4 DV.n H2)) fun Kb4 => br t2 (Kb4 d2 H1) (Kb4 DV.n H1))
def g236x4 := onV d1 fun v1 => isI .i64 v1 fun n2 => wrp .i64 (imul ii2 n2) fun n3 => wrp .i64 (iadd n3 ii1) fun n4 => frcB (ile n1 n4) fun t1 => jn (fun d3 H2 => jn (fun d4 H3 => pickK t1 (DV.v (AV.b true)) d4 fun d5 => g236x3 d5 d2 n2 n4 n1 H3 c1 c2 Kb1 Kb2) fun Kb3 => br t1 (Kb3 DV.n H2) (onV d3 fun v2 => isI .i64 v2 fun n5 => frcB (ilt n5 ii0) fun t2 => Kb3 (DV.v (AV.b t2)) H2)) fun Kb3 => br t1 (Kb3 DV.n H1) (Kb3 (DV.v (AV.i .i64 n4)) H1)
/-- container/heap.down -/
def g236 : G DV := fun R1 H1 Kb1 => lc R1 fun d1 R2 => lc R2 fun d2 R3 => onV d2 fun v1 => isI .i64 v1 fun n1 => lc R3 fun d3 R4 => onV d3 fun v2 => isI .i64 v2 fun n2 => ln R4 <| jF [(7 , .int .i64)] (fun d4 H2 => onV d4 fun v3 => isI .i64 v3 fun n3 => frcB (ilt n1 n3) fun t1 => Kb1 (DV.v (AV.b t1)) H2) fun Kb2 => lpR (failF [(7 , .int .i64)]) (fun Kb3 => fun d4 H2 => g236x4 d4 d1 n2 H2 c1 c2 Kb2 Kb3) (nat_lit 100000) (DV.v (AV.i .i64 n1)) H1
def G236 : G DV := g236 G403 G406

def g404x1 := wrp .i64 (isub (Int.ofNat m1) ii1) fun n1 => ixA s1 n1 (fun x => x) fun b1 m2 => rdK H1 b1 m2 fun v1 => isP v1 fun p2 => onA p1 fun b2 m3 => rdK H1 b2 m3 fun v2 => isS v2 fun s2 => onA p1 fun b3 m4 => rdK H1 b3 m4 fun v3 => isS v3 fun s3 => lenA s3 fun m5 => wrp .i64 (isub (Int.ofNat m5) ii1) fun n2 => natK n2 fun m6 => slA s2 nn0 m6 (fun x => x) fun s4 => onA p1 fun b4 m7 => wrK H1 b4 m7 (AV.s s4) fun H2 => Kb1 (DV.v (AV.ifc (nat_lit 274) (AV.p p2))) H2
/-- (*sched.turns).Pop -/
def g404 : G DV := fun R1 H1 Kb1 => lc R1 fun d1 R2 => onV d1 fun v1 => isP v1 fun p1 => ln R2 <| onA p1 fun b1 m1 => rdK H1 b1 m1 fun v2 => isS v2 fun s1 => onA p1 fun b2 m2 => rdK H1 b2 m2 fun v3 => isS v3 fun s2 => lenA s2 fun m3 => g404x1 m3 p1 s1 H1 Kb1
def G404 : G DV := g404

def g141x1 := jF [] (fun H2 => onV d1 fun v1 => isM v1 fun m1 v2 => br (Nat.beq (nat_lit 270) m1) (c1 [(DV.v v2)] H2 fun d2 H3 => onV d2 fun v3 => Kb1 (DV.v v3) H3) (none)) fun Ka1 => frcB (bnot (ieq n1 n2)) fun t1 => br t1 (onV d1 fun v1 => isM v1 fun m1 v2 => br (Nat.beq (nat_lit 270) m1) (c2 [(DV.v v2), (DV.v (AV.i .i64 n2)), (DV.v (AV.i .i64 n1))] H1 fun d2 H2 => c3 [d1, (DV.v (AV.i .i64 n2)), (DV.v (AV.i .i64 n1))] H2 fun d3 H3 => onV d3 fun v3 => isB v3 fun t2 => frcB (bnot t2) fun t3 => br t3 (c4 [d1, (DV.v (AV.i .i64 n2))] H3 fun d4 H4 => Ka1 H4) (Ka1 H3)) (none)) (Ka1 H1)
/-- container/heap.Remove -/
def g141 : G DV := fun R1 H1 Kb1 => lc R1 fun d1 R2 => lc R2 fun d2 R3 => onV d2 fun v1 => isI .i64 v1 fun n1 => ln R3 <| onV d1 fun v2 => isM v2 fun m1 v3 => br (Nat.beq (nat_lit 270) m1) (c1 [(DV.v v3)] H1 fun d3 H2 => onV d3 fun v4 => isI .i64 v4 fun n2 => wrp .i64 (isub n2 ii1) fun n3 => g141x1 d1 n3 n1 H2 c4 c5 c3 c2 Kb1) (none)
def G141 : G DV := g141 G140 G235 G236 G404 G406

/-- sched.there -/
def g165 : G DV := fun R1 H1 Kb1 => lc R1 fun d1 R2 => onV d1 fun v1 => isI .i64 v1 fun n1 => ln R2 <| frcB (ile ii1 n1) fun t1 => jn (fun d2 H2 => jn (fun d3 H3 => pickK t1 d3 (DV.v (AV.b false)) fun d4 => onV d4 fun v2 => isB v2 fun t2 => Kb1 (DV.v (AV.b t2)) H3) fun Kb2 => br t1 (onV d2 fun v2 => isI .i64 v2 fun n2 => frcB (ile n2 ii16) fun t2 => Kb2 (DV.v (AV.b t2)) H2) (Kb2 DV.n H2)) fun Kb2 => br t1 (Kb2 (DV.v (AV.i .i64 n1)) H1) (Kb2 DV.n H1)
def G165 : G DV := g165

/-- (*sched.Sched).of -/
def g167 : G DV := fun R1 H1 Kb1 => lc R1 fun d1 R2 => onV d1 fun v1 => isP v1 fun p1 => lc R2 fun d2 R3 => onV d2 fun v2 => isI .i64 v2 fun n1 => ln R3 <| c1 [(DV.v (AV.i .i64 n1))] H1 fun d3 H2 => onV d3 fun v3 => isB v3 fun t1 => frcB (bnot t1) fun t2 => br t2 (Kb1 (DV.v (AV.p AP.nil)) H2) (wrp .i64 (isub n1 ii1) fun n2 => onA p1 fun b1 m1 => rng n2 nn16 <| rdK H2 b1 (Nat.add m1 (itn n2)) fun v4 => isP v4 fun p2 => Kb1 (DV.v (AV.p p2)) H2)
def G167 : G DV := g167 G165

def g138x1 := isI .i64 v1 fun n1 => onA p1 fun b1 m1 => rdK H1 b1 (Nat.add m1 nn16) fun v2 => isP v2 fun p3 => onA p3 fun b2 m2 => rdK H1 b2 m2 fun v3 => isS v3 fun s1 => ixA s1 ii0 (fun x => x) fun b3 m3 => rdK H1 b3 m3 fun v4 => isP v4 fun p4 => onA p4 fun b4 m4 => rdK H1 b4 (Nat.add m4 nn2) fun v5 => isI .i64 v5 fun n2 => asI (imax n1 n2) fun n3 => onA p2 fun b5 m5 => wrK H1 b5 (Nat.add m5 nn2) (AV.i .i64 n3) fun H2 => Ka1 H2
def g138x2 := jF [] (fun H2 => onA p1 fun b1 m1 => wrK H2 b1 (Nat.add m1 nn3) (AV.b true) fun H3 => onA p2 fun b2 m2 => rdK H3 b2 (Nat.add m2 nn16) fun v1 => isP v1 fun p3 => c1 [(DV.v (AV.ifc (nat_lit 270) (AV.p p3))), (DV.v (AV.ifc (nat_lit 274) (AV.p p1)))] H3 fun d1 H4 => Ka1 H4) fun Ka2 => onA p2 fun b1 m1 => rdK H1 b1 (Nat.add m1 nn16) fun v1 => isP v1 fun p3 => c2 [(DV.v (AV.p p3))] H1 fun d1 H2 => onV d1 fun v2 => isI .i64 v2 fun n1 => frcB (ilt ii0 n1) fun t1 => br t1 (onA p1 fun b2 m2 => rdK H2 b2 (Nat.add m2 nn2) fun v3 => g138x1 v3 p2 p1 H2 Ka2) (Ka2 H2)
def g138x3 := jn (fun d2 H2 => pickK t1 d2 (DV.v (AV.b false)) fun d3 => onV d3 fun v1 => isB v1 fun t2 => br t2 (onA p1 fun b1 m1 => wrK H2 b1 (Nat.add m1 nn3) (AV.b false) fun H3 => onA p2 fun b2 m2 => rdK H3 b2 (Nat.add m2 nn16) fun v2 => isP v2 fun p3 => onA p1 fun b3 m3 => rdK H3 b3 (Nat.add m3 nn4) fun v3 => isI .i64 v3 fun n1 => c1 [(DV.v (AV.ifc (nat_lit 270) (AV.p p3))), (DV.v (AV.i .i64 n1))] H3 fun d4 H4 => onV d4 fun v4 => Ka1 H4) (Ka1 H2)) fun Kb1 => br t1 (onV d1 fun v1 => isP v1 fun p3 => onA p3 fun b1 m1 => rdK H1 b1 m1 fun v2 => isB v2 fun t2 => Kb1 (DV.v (AV.b t2)) H1) (Kb1 DV.n H1)
def g138x4 := br t1 (g138x2 p1 p2 H1 c1 c2 Ka1) (frcB (bnot t2) fun t3 => jn (fun d1 H2 => jn (fun d2 H3 => jn (fun d3 H4 => g138x3 d3 t3 p1 p2 H4 c3 Ka1) fun Kb1 => br t3 (onV d2 fun v1 => isP v1 fun p3 => onA p3 fun b1 m1 => Kb1 (DV.v (AV.p (AP.at b1 (Nat.add m1 nn3)))) H3) (Kb1 DV.n H3)) fun Kb1 => br t3 (onV d1 fun v1 => isP v1 fun p3 => onA p3 fun b1 m1 => Kb1 (DV.v (AV.p (AP.at b1 m1))) H2) (Kb1 DV.n H2)) fun Kb1 => br t3 (Kb1 (DV.v (AV.p p1)) H1) (Kb1 DV.n H1))
def g138x5 := jn (fun d2 H2 => jn (fun d3 H3 => jn (fun d4 H4 => pickK t1 d4 (DV.v (AV.b false)) fun d5 => onV d5 fun v1 => isB v1 fun t2 => g138x4 t2 t1 p1 p2 H4 c1 c2 c3 Ka1) fun Kb1 => br t1 (onV d3 fun v1 => isB v1 fun t2 => frcB (bnot t2) fun t3 => Kb1 (DV.v (AV.b t3)) H3) (Kb1 DV.n H3)) fun Kb1 => br t1 (onV d2 fun v1 => isP v1 fun p3 => onA p3 fun b1 m1 => rdK H2 b1 m1 fun v2 => isB v2 fun t2 => Kb1 (DV.v (AV.b t2)) H2) (Kb1 DV.n H2)) fun Kb1 => br t1 (onV d1 fun v1 => isP v1 fun p3 => onA p3 fun b1 m1 => Kb1 (DV.v (AV.p (AP.at b1 (Nat.add m1 nn3)))) H1) (Kb1 DV.n H1)
def g138x6 := c1 [(DV.v (AV.p p1)), (DV.v (AV.i .i64 n1))] H1 fun d1 H2 => onV d1 fun v1 => isP v1 fun p2 => jF [] (fun H3 => Kb1 (DV.v AV.ni) H3) fun Ka1 => frcB (isNilA p2) fun t2 => br t2 (Kb1 (DV.v (AV.er (nat_lit 6))) H2) (jn (fun d2 H3 => jn (fun d3 H4 => g138x5 d3 t1 p2 p1 H4 c2 c3 c4 Ka1) fun Kb2 => br t1 (onV d2 fun v2 => isP v2 fun p3 => onA p3 fun b1 m1 => Kb2 (DV.v (AV.p (AP.at b1 m1))) H3) (Kb2 DV.n H3)) fun Kb2 => br t1 (Kb2 (DV.v (AV.p p2)) H2) (Kb2 DV.n H2))
/-- (*sched.Sched).Active -/
def g138 : G DV := fun R1 H1 Kb1 => lc R1 fun d1 R2 => onV d1 fun v1 => isP v1 fun p1 => lc R2 fun d2 R3 => onV d2 fun v2 => isI .i64 v2 fun n1 => lc R3 fun d3 R4 => onV d3 fun v3 => isB v3 fun t1 => ln R4 <| g138x6 n1 t1 p1 H1 c4 c1 c2 c3 Kb1
def G138 : G DV := g138 G139 G140 G141 G167

def z13 : T4 AV := (@T4.n AV yy3 (@T4.n AV yy3 te te te te) (@T4.n AV yy3 te te te te) (@T4.n AV yy3 te te te te) te)
def g69x1 := jn (fun d2 H2 => jn (fun d3 H3 => jn (fun d4 H4 => pickK t1 (DV.v (AV.b true)) d4 fun d5 => onV d5 fun v1 => isB v1 fun t2 => rng n1 nn4 <| wrK H4 b1 (Nat.add nn0 (itn n1)) (AV.b t2) fun H5 => Kb1 (DV.v (AV.s s1)) H5) fun Kb2 => br t1 (Kb2 DV.n H3) (c1 [d2, d3] H3 fun d4 H4 => onV d4 fun v1 => isB v1 fun t2 => Kb2 (DV.v (AV.b t2)) H4)) fun Kb2 => br t1 (Kb2 DV.n H2) (Kb2 (DV.v (AV.i .i64 n2)) H2)) fun Kb2 => br t1 (Kb2 DV.n H1) (onV d1 fun v1 => isP v1 fun p1 => onA p1 fun b2 m1 => rdK H1 b2 m1 fun v2 => isP v2 fun p2 => Kb2 (DV.v (AV.p p2)) H1)
def g69x2 := isB v1 fun t1 => jn (fun d1 H2 => jn (fun d2 H3 => jn (fun d3 H4 => g69x1 d3 n1 n2 t1 b1 s1 H4 c1 Kb1) fun Kb2 => br t1 (Kb2 DV.n H3) (onV d2 fun v2 => isP v2 fun p2 => onA p2 fun b2 m1 => Kb2 (DV.v (AV.p (AP.at b2 (Nat.add m1 nn312)))) H3)) fun Kb2 => br t1 (Kb2 DV.n H2) (onV d1 fun v2 => isP v2 fun p2 => onA p2 fun b2 m1 => Kb2 (DV.v (AV.p (AP.at b2 m1))) H2)) fun Kb2 => br t1 (Kb2 DV.n H1) (Kb2 (DV.v (AV.p p1)) H1)
def g69x3 := pickK t1 d1 (DV.v (AV.b false)) fun d2 => onV d2 fun v1 => isB v1 fun t2 => br t2 (alB H1 (@T4.n AV (AV.i .i64 n1) te te te te) nn1 nn0 fun b2 H2 => appD nn1 nn8 s1 (AS.sl b2 nn0 nn1 nn1) H2 fun s2 H3 => rng n2 nn4 <| rdK H3 b1 (Nat.add nn0 (itn n2)) fun v2 => g69x2 v2 n2 n1 p1 b1 s2 H3 c1 Kb1) (c2 [(DV.v (AV.p p2)), (DV.v (AV.i .i64 n1)), (DV.v (AV.b false))] H1 fun d3 H2 => onV d3 fun v2 => Kb1 (DV.v (AV.s s1)) H2)
def g69x4 := jn (fun d4 H2 => jn (fun d5 H3 => jn (fun d6 H4 => g69x3 d6 n1 n2 t1 p1 p2 b1 s1 H4 c1 c2 Kb1) fun Kb2 => br t1 (onV d5 fun v1 => isI .i64 v1 fun n3 => frcB (ilt ii0 n3) fun t2 => Kb2 (DV.v (AV.b t2)) H3) (Kb2 DV.n H3)) fun Kb2 => br t1 (onV d4 fun v1 => isS v1 fun s2 => lenA s2 fun m1 => Kb2 (DV.v (AV.i .i64 (Int.ofNat m1))) H2) (Kb2 DV.n H2)) fun Kb2 => br t1 (c3 [d1, d2, d3] H1 fun d4 H2 => onV d4 fun v1 => isS v1 fun s2 => Kb2 (DV.v (AV.s s2)) H2) (Kb2 DV.n H1)
def g69x5 := c1 [(DV.v (AV.p (AP.at b1 (Nat.add m1 nn150)))), (DV.v (AV.i .i64 n1)), (DV.v (AV.i .i64 n2))] H1 fun d1 H2 => onV d1 fun v1 => isB v1 fun t1 => jn (fun d2 H3 => jn (fun d3 H4 => jn (fun d4 H5 => g69x4 d2 d3 d4 n1 n2 t1 p1 p2 b2 s1 H5 c2 c3 c4 Kb1) fun Kb2 => br t1 (Kb2 (DV.v (AV.i .i64 n2)) H4) (Kb2 DV.n H4)) fun Kb2 => br t1 (Kb2 (DV.v (AV.i .i64 n1)) H3) (Kb2 DV.n H3)) fun Kb2 => br t1 (Kb2 (DV.v (AV.p p1)) H2) (Kb2 DV.n H2)
def g69x6 := lpR (failF [(65 , .int .i64)]) (fun Kb2 => fun d1 H2 => onV d1 fun v1 => isI .i64 v1 fun n2 => frcB (ilt n2 (Int.ofNat m1)) fun t1 => br t1 (ixA s1 n2 (fun x => x) fun b1 m2 => rdK H2 b1 m2 fun v2 => isI .i64 v2 fun n3 => c1 [(DV.v (AV.p p1)), (DV.v (AV.i .i64 n3)), (DV.v (AV.b true))] H2 fun d2 H3 => onV d2 fun v3 => wrp .i64 (iadd n2 ii1) fun n4 => Kb2 (DV.v (AV.i .i64 n4)) H3) (wrp .i64 (iadd n1 ii1) fun n3 => Kb1 (DV.v (AV.i .i64 n3)) H2)) (nat_lit 100000) (DV.v (AV.i .i64 ii0)) H1
def g69x7 := frcB (ilt n1 (Int.ofNat m1)) fun t1 => br t1 (jF [(6 , .slice)] (fun d1 H2 => onV d1 fun v1 => isS v1 fun s3 => wrp .i64 (iadd n1 ii1) fun n3 => Kc1 (DV.v (AV.s s3)) (DV.v (AV.i .i64 n3)) H2) fun Kb2 => ixA s1 n1 (fun x => x) fun b2 m2 => rdK H1 b2 m2 fun v1 => isI .i64 v1 fun n3 => onA p1 fun b3 m3 => g69x5 n3 n2 m3 p1 p2 b3 b1 s2 H1 c1 c2 c3 c4 Kb2) (lenA s2 fun m2 => g69x6 n2 m2 p2 s2 H1 c3 Kb1)
def g69x8 := isP v1 fun p2 => onA p1 fun b2 m1 => c1 [(DV.v (AV.p (AP.at b2 (Nat.add m1 nn22))))] H1 fun d1 H2 => onV d1 fun v2 => isS v2 fun s1 => lenA s1 fun m2 => lpR (failF [(6 , .slice), (24 , .int .i64)]) (fun Kc1 => fun d2 d3 H3 => onV d2 fun v3 => isS v3 fun s2 => onV d3 fun v4 => isI .i64 v4 fun n2 => g69x7 n2 n1 m2 p1 p2 b1 s1 s2 H3 c2 c3 c4 c5 Kb1 Kc1) (nat_lit 100000) (DV.v (AV.s AS.nil)) (DV.v (AV.i .i64 ii0)) H2
def g69x9 := rdR H1 b1 (Nat.add m1 nn313) nn4 fun l1 => lpR (failF [(15 , .int .i64)]) (fun Kb2 => fun d1 H2 => onV d1 fun v1 => isI .i64 v1 fun n1 => frcB (ilt n1 ii4) fun t1 => br t1 (rng n1 nn4 <| lgetK (itn n1) l1 fun v2 => g69x8 v2 n1 p1 b2 H2 c1 c2 c3 c4 c5 Kb2) (rdR H2 b2 nn0 nn4 fun l2 => must (Nat.beq (llen l2) nn4) <| wrL H2 b3 nn0 l2 fun H3 => rdR H3 b3 nn0 nn4 fun l3 => Kb1 (DV.a l3) H3)) (nat_lit 100000) (DV.v (AV.i .i64 ii0)) H1
/-- (*ap.AP).actives -/
def g69 : G DV := fun R1 H1 Kb1 => lc R1 fun d1 R2 => onV d1 fun v1 => isP v1 fun p1 => ln R2 <| alB H1 z13 nn4 nn0 fun b1 H2 => alB H2 z13 nn4 nn0 fun b2 H3 => onA p1 fun b3 m1 => g69x9 m1 p1 b3 b2 b1 H3 c1 c4 c2 c5 c3 Kb1
def G69 : G DV := g69 G67 G71 G72 G137 G138

def z14 : T4 AV := (@T4.n AV yy1 (@T4.n AV yy1 te te te te) (@T4.n AV yy1 te te te te) (@T4.n AV yy3 te te te te) (@T4.n AV yy1 te te te te))
def g70x1 := isS v1 fun s2 => ixA s2 ii0 (fun x => x) fun b2 m1 => rdK H1 b2 m1 fun v2 => isP v2 fun p1 => onA p1 fun b3 m2 => rdK H1 b3 m2 fun v3 => isI .i64 v3 fun n1 => alB H1 (@T4.n AV (AV.i .i64 n1) te te te te) nn1 nn0 fun b4 H2 => appD nn1 nn8 s1 (AS.sl b4 nn0 nn1 nn1) H2 fun s3 H3 => c1 [(DV.v (AV.ifc (nat_lit 270) (AV.p (AP.at b1 nn0)))), (DV.v (AV.i .i64 ii0))] H3 fun d1 H4 => onV d1 fun v4 => Kb1 (DV.v (AV.s s3)) H4
def g70x2 := br t1 (ixA s1 n1 (fun x => x) fun b2 m1 => rdK H1 b2 m1 fun v1 => isP v1 fun p1 => onA p1 fun b3 m2 => rdR H1 b3 m2 nn5 fun l1 => alB H1 z14 nn5 nn0 fun b4 H2 => must (Nat.beq (llen l1) nn5) <| wrL H2 b4 nn0 l1 fun H3 => c1 [(DV.v (AV.ifc (nat_lit 270) (AV.p (AP.at b1 nn0)))), (DV.v (AV.ifc (nat_lit 274) (AV.p (AP.at b4 nn0))))] H3 fun d1 H4 => wrp .i64 (iadd n1 ii1) fun n2 => Kb1 (DV.v (AV.i .i64 n2)) H4) (lpR (failF [(7 , .slice)]) (fun Kb3 => fun d1 H2 => onV d1 fun v1 => isS v1 fun s2 => c2 [(DV.v (AV.p (AP.at b1 nn0)))] H2 fun d2 H3 => onV d2 fun v2 => isI .i64 v2 fun n2 => frcB (ilt ii0 n2) fun t2 => br t2 (rdK H3 b1 nn0 fun v3 => g70x1 v3 b1 s2 H3 c3 Kb3) (Kb2 (DV.v (AV.s s2)) H3)) (nat_lit 100000) (DV.v (AV.s AS.nil)) H1)
def g70x3 := alB H1 (@T4.n AV yy4 te te te te) nn1 nn0 fun b1 H2 => onA p1 fun b2 m1 => rdK H2 b2 (Nat.add m1 nn16) fun v1 => isP v1 fun p2 => onA p2 fun b3 m2 => rdK H2 b3 m2 fun v2 => isS v2 fun s1 => lenA s1 fun m3 => lpR (failF [(18 , .int .i64)]) (fun Kb2 => fun d1 H3 => onV d1 fun v3 => isI .i64 v3 fun n1 => frcB (ilt n1 (Int.ofNat m3)) fun t1 => g70x2 n1 t1 b1 s1 H3 c1 c2 c3 Kb2 Kb1) (nat_lit 100000) (DV.v (AV.i .i64 ii0)) H2
/-- (*sched.Sched).Order -/
def g70 : G DV := fun R1 H1 Kb1 => lc R1 fun d1 R2 => onV d1 fun v1 => isP v1 fun p1 => ln R2 <| g70x3 p1 H1 c1 c2 c3 Kb1
def G70 : G DV := g70 G139 G140 G141

def g239x1 := jn (fun d2 H2 => jn (fun d3 H3 => pickK t1 (DV.v (AV.b true)) d3 fun d4 => onV d4 fun v1 => isB v1 fun t2 => br t2 (Kb1 (DV.v (AV.p AP.nil)) H3) (wrp .i64 (isub n1 ii1) fun n2 => onA p1 fun b1 m1 => rng n2 nn16 <| Kb1 (DV.v (AV.p (AP.at b1 (Nat.add m1 (Nat.mul (itn n2) nn8))))) H3)) fun Kb2 => br t1 (Kb2 DV.n H2) (onV d2 fun v1 => isB v1 fun t2 => frcB (bnot t2) fun t3 => Kb2 (DV.v (AV.b t3)) H2)) fun Kb2 => br t1 (Kb2 DV.n H1) (onV d1 fun v1 => isP v1 fun p2 => onA p2 fun b1 m1 => rdK H1 b1 m1 fun v2 => isB v2 fun t2 => Kb2 (DV.v (AV.b t2)) H1)
def g239x2 := jn (fun d3 H2 => jn (fun d4 H3 => jn (fun d5 H4 => g239x1 d5 n1 t1 p1 H4 Kb1) fun Kb2 => br t1 (Kb2 DV.n H3) (onV d4 fun v1 => isP v1 fun p2 => onA p2 fun b1 m1 => Kb2 (DV.v (AV.p (AP.at b1 m1))) H3)) fun Kb2 => br t1 (Kb2 DV.n H2) (onV d1 fun v1 => isJ v1 fun n2 => onV d3 fun v2 => isP v2 fun p2 => onA p2 fun b1 m1 => rng n2 nn16 <| Kb2 (DV.v (AV.p (AP.at b1 (Nat.add m1 (Nat.mul (itn n2) nn8))))) H2)) fun Kb2 => br t1 (Kb2 DV.n H1) (onV d2 fun v1 => isP v1 fun p2 => onA p2 fun b1 m1 => Kb2 (DV.v (AV.p (AP.at b1 m1))) H1)
def g239x3 := jn (fun d1 H2 => jn (fun d2 H3 => jn (fun d3 H4 => jn (fun d4 H5 => g239x2 d3 d4 n1 t1 p1 H5 Kb1) fun Kb2 => br t1 (Kb2 DV.n H4) (onV d1 fun v1 => isP v1 fun p2 => onA p2 fun b1 m1 => Kb2 (DV.v (AV.p (AP.at b1 m1))) H4)) fun Kb2 => br t1 (Kb2 DV.n H3) (onV d2 fun v1 => isI .i64 v1 fun n2 => wrp .i64 (isub n2 ii1) fun n3 => Kb2 (DV.v (AV.i .i64 n3)) H3)) fun Kb2 => br t1 (Kb2 DV.n H2) (Kb2 (DV.v (AV.i .i64 n1)) H2)) fun Kb2 => br t1 (Kb2 DV.n H1) (Kb2 (DV.v (AV.p p1)) H1)
def g239x4 := isP v1 fun p1 => lc R1 fun d1 R2 => onV d1 fun v2 => isI .i64 v2 fun n1 => ln R2 <| frcB (ilt n1 ii1) fun t1 => jn (fun d2 H2 => jn (fun d3 H3 => pickK t1 (DV.v (AV.b true)) d3 fun d4 => onV d4 fun v3 => isB v3 fun t2 => g239x3 n1 t2 p1 H3 Kb1) fun Kb2 => br t1 (Kb2 DV.n H2) (onV d2 fun v3 => isI .i64 v3 fun n2 => frcB (ilt ii16 n2) fun t2 => Kb2 (DV.v (AV.b t2)) H2)) fun Kb2 => br t1 (Kb2 DV.n H1) (Kb2 (DV.v (AV.i .i64 n1)) H1)
/-- (*sta.Table).of -/
def g239 : G DV := fun R1 H1 Kb1 => lc R1 fun d1 R2 => onV d1 fun v1 => g239x4 v1 R2 H1 Kb1
def G239 : G DV := g239

def g145x1 := c1 [(DV.v (AV.p p1)), (DV.v (AV.i .i64 n1))] H1 fun d1 H2 => onV d1 fun v1 => isP v1 fun p2 => frcB (isNilA p2) fun t1 => br t1 (wrL H2 b1 nn0 z4 fun H3 => rdR H3 b1 nn0 nn6 fun l1 => Kb1 (DV.c (DV.a l1) (DV.c (DV.v (AV.b false)) DV.n)) H3) (onA p2 fun b2 m1 => rdR H2 b2 (Nat.add m1 nn1) nn6 fun l1 => must (Nat.beq (llen l1) nn6) <| wrL H2 b1 nn0 l1 fun H3 => rdR H3 b1 nn0 nn6 fun l2 => Kb1 (DV.c (DV.a l2) (DV.c (DV.v (AV.b true)) DV.n)) H3)
/-- (*sta.Table).Addr -/
def g145 : G DV := fun R1 H1 Kb1 => lc R1 fun d1 R2 => onV d1 fun v1 => isP v1 fun p1 => lc R2 fun d2 R3 => onV d2 fun v2 => isI .i64 v2 fun n1 => ln R3 <| alB H1 z0 nn6 nn0 fun b1 H2 => g145x1 n1 p1 b1 H2 c1 Kb1
def G145 : G DV := g145 G239

def z15 : T4 AV := (@T4.n AV yy1 (@T4.n AV yy1 te te te te) (@T4.n AV yy1 te te te te) (@T4.n AV yy1 te te te te) (@T4.n AV yy1 te te te te))
def z16 : List AV := [(AV.i .i64 ii1), (AV.i .i64 ii4), (AV.i .i64 ii1), (AV.i .i64 ii20), (AV.i .i64 ii0)]
/-- ap.slow -/
def g146 : G DV := fun R1 H1 Kb1 => ln R1 <| alB H1 z15 nn5 nn0 fun b1 H2 => wrL H2 b1 nn0 z16 fun H3 => rdR H3 b1 nn0 nn5 fun l1 => Kb1 (DV.a l1) H3
def G146 : G DV := g146

/-- (*ba.Session).Start -/
def g147 : G DV := fun R1 H1 Kb1 => lc R1 fun d1 R2 => onV d1 fun v1 => isP v1 fun p1 => ln R2 <| onA p1 fun b1 m1 => rdK H1 b1 m1 fun v2 => isP v2 fun p2 => c1 [(DV.v (AV.p p2))] H1 fun d2 H2 => onV d2 fun v3 => isI .i64 v3 fun n1 => Kb1 (DV.v (AV.i .i64 n1)) H2
def G147 : G DV := g147 G240

/-- (*win.Win).Size -/
def g241 : G DV := fun R1 H1 Kb1 => lc R1 fun d1 R2 => onV d1 fun v1 => isP v1 fun p1 => ln R2 <| onA p1 fun b1 m1 => rdK H1 b1 (Nat.add m1 nn2) fun v2 => isI .i64 v2 fun n1 => Kb1 (DV.v (AV.i .i64 n1)) H1
def G241 : G DV := g241

/-- (*ba.Session).Size -/
def g148 : G DV := fun R1 H1 Kb1 => lc R1 fun d1 R2 => onV d1 fun v1 => isP v1 fun p1 => ln R2 <| onA p1 fun b1 m1 => rdK H1 b1 m1 fun v2 => isP v2 fun p2 => c1 [(DV.v (AV.p p2))] H1 fun d2 H2 => onV d2 fun v3 => isI .i64 v3 fun n1 => Kb1 (DV.v (AV.i .i64 n1)) H2
def G148 : G DV := g148 G241

def g156x1 := jn (fun d2 H2 => pickK t1 (DV.v (AV.b true)) d2 fun d3 => onV d3 fun v1 => isB v1 fun t2 => br t2 (onA p1 fun b1 m1 => wrK H2 b1 (Nat.add m1 nn3) (AV.b false) fun H3 => onA p1 fun b2 m2 => wrK H3 b2 (Nat.add m2 nn9) (AV.i .i64 ii0) fun H4 => Kb1 (DV.c (DV.v (AV.b true)) (DV.c (DV.v AV.ni) DV.n)) H4) (Kb1 (DV.c (DV.v (AV.b false)) (DV.c (DV.v AV.ni) DV.n)) H2)) fun Kb2 => br t1 (Kb2 DV.n H1) (onV d1 fun v1 => isB v1 fun t2 => frcB (bnot t2) fun t3 => Kb2 (DV.v (AV.b t3)) H1)
def g156x2 := rdK H1 b1 (Nat.add m1 nn8) fun v1 => isI .i64 v1 fun n1 => frcB (ilt ii0 n1) fun t1 => br t1 (onA p1 fun b2 m2 => rdK H1 b2 (Nat.add m2 nn9) fun v2 => isI .i64 v2 fun n2 => wrp .i64 (isub n2 ii1) fun n3 => onA p1 fun b3 m3 => wrK H1 b3 (Nat.add m3 nn9) (AV.i .i64 n3) fun H2 => onA p1 fun b4 m4 => rdK H2 b4 (Nat.add m4 nn9) fun v3 => isI .i64 v3 fun n4 => frcB (ieq n4 ii0) fun t2 => Kb1 (DV.v (AV.b t2)) H2) (Kb1 (DV.v (AV.b false)) H1)
def g156x3 := onA p1 fun b1 m1 => rdK H1 b1 (Nat.add m1 nn2) fun v1 => isB v1 fun t2 => br t2 (onA p1 fun b2 m2 => wrK H1 b2 (Nat.add m2 nn2) (AV.b false) fun H2 => Kb1 (DV.c (DV.v (AV.b false)) (DV.c (DV.v AV.ni) DV.n)) H2) (jF [(11 , .bool)] (fun d1 H2 => onV d1 fun v2 => isB v2 fun t3 => jn (fun d2 H3 => g156x1 d2 t3 p1 H3 Kb1) fun Kb2 => br t3 (Kb2 DV.n H2) (Kb2 (DV.v (AV.b t1)) H2)) fun Kb2 => onA p1 fun b2 m2 => g156x2 m2 p1 b2 H1 Kb2)
def g156x4 := br t1 (Kb1 (DV.c (DV.v (AV.b false)) (DV.c (DV.v (AV.er (nat_lit 2))) DV.n)) H1) (c1 [(DV.v (AV.p p1)), (DV.v (AV.i .i64 n1)), (DV.v (AV.i .i64 n2))] H1 fun d1 H2 => onV d1 fun v1 => isB v1 fun t3 => frcB (bnot t3) fun t4 => br t4 (Kb1 (DV.c (DV.v (AV.b false)) (DV.c (DV.v (AV.er (nat_lit 9))) DV.n)) H2) (onA p2 fun b1 m1 => rdK H2 b1 (Nat.add m1 nn1) fun v2 => isB v2 fun t5 => frcB (bnot t5) fun t6 => br t6 (Kb1 (DV.c (DV.v (AV.b false)) (DV.c (DV.v AV.ni) DV.n)) H2) (g156x3 t2 p2 H2 Kb1)))
def g156x5 := isI .i64 v1 fun n2 => lc R1 fun d1 R2 => onV d1 fun v2 => isB v2 fun t1 => ln R2 <| c1 [(DV.v (AV.p p1)), (DV.v (AV.i .i64 n1))] H1 fun d2 H2 => onV d2 fun v3 => isP v3 fun p2 => frcB (isNilA p2) fun t2 => br t2 (Kb1 (DV.c (DV.v (AV.b false)) (DV.c (DV.v (AV.er (nat_lit 6))) DV.n)) H2) (c2 [(DV.v (AV.i .i64 n2))] H2 fun d3 H3 => onV d3 fun v4 => isB v4 fun t3 => frcB (bnot t3) fun t4 => g156x4 n1 n2 t4 t1 p1 p2 H3 c3 Kb1)
/-- (*ps.Power).Sent -/
def g156 : G DV := fun R1 H1 Kb1 => lc R1 fun d1 R2 => onV d1 fun v1 => isP v1 fun p1 => lc R2 fun d2 R3 => onV d2 fun v2 => isI .i64 v2 fun n1 => lc R3 fun d3 R4 => onV d3 fun v3 => g156x5 v3 R4 n1 p1 H1 c2 c3 c1 Kb1
def G156 : G DV := g156 G137 G168 G203

def g157x1 := jn (fun d2 H2 => jn (fun d3 H3 => jn (fun d4 H4 => pickK t1 (DV.v (AV.b true)) d4 fun d5 => onV d5 fun v1 => isB v1 fun t2 => br t2 (Kb1 (DV.v (AV.b true)) H4) (wrp .i64 (iadd n1 ii1) fun n3 => Kb2 (DV.v (AV.i .i64 n3)) H4)) fun Kb3 => br t1 (Kb3 DV.n H3) (c1 [d1, d2, d3] H3 fun d4 H4 => onV d4 fun v1 => isB v1 fun t2 => Kb3 (DV.v (AV.b t2)) H4)) fun Kb3 => br t1 (Kb3 DV.n H2) (Kb3 (DV.v (AV.i .i64 n1)) H2)) fun Kb3 => br t1 (Kb3 DV.n H1) (Kb3 (DV.v (AV.i .i64 n2)) H1)
def g157x2 := jn (fun d2 H2 => jn (fun d3 H3 => jn (fun d4 H4 => g157x1 d4 n1 n2 t1 H4 c1 Kb1 Kb2) fun Kb3 => br t1 (Kb3 DV.n H3) (onV d3 fun v1 => isP v1 fun p1 => onA p1 fun b1 m1 => rdK H3 b1 m1 fun v2 => isP v2 fun p2 => Kb3 (DV.v (AV.p p2)) H3)) fun Kb3 => br t1 (Kb3 DV.n H2) (onV d2 fun v1 => isP v1 fun p1 => onA p1 fun b1 m1 => Kb3 (DV.v (AV.p (AP.at b1 (Nat.add m1 nn311)))) H2)) fun Kb3 => br t1 (Kb3 DV.n H1) (onV d1 fun v1 => isP v1 fun p1 => onA p1 fun b1 m1 => Kb3 (DV.v (AV.p (AP.at b1 m1))) H1)
def g157x3 := c1 [(DV.v (AV.p p1))] H1 fun d1 H2 => onV d1 fun v1 => isS v1 fun s1 => lenA s1 fun m1 => jF [(11 , .int .i64)] (fun d2 H3 => onV d2 fun v2 => isI .i64 v2 fun n5 => frcB (ilt ii0 n5) fun t1 => jn (fun d3 H4 => g157x2 d3 n1 n2 t1 H4 c2 Kb1 Kb2) fun Kb3 => br t1 (Kb3 DV.n H3) (Kb3 (DV.v (AV.p p2)) H3)) fun Kb3 => frcB (ieq n1 n3) fun t1 => br t1 (wrp .i64 (isub (Int.ofNat m1) n4) fun n5 => Kb3 (DV.v (AV.i .i64 n5)) H2) (Kb3 (DV.v (AV.i .i64 (Int.ofNat m1))) H2)
def g157x4 := c1 [(DV.v (AV.p p1)), (DV.v (AV.i .i64 n1))] H1 fun d1 H2 => onV d1 fun v1 => isP v1 fun p2 => lpR (failF [(15 , .int .i64)]) (fun Kb2 => fun d2 H3 => onV d2 fun v2 => isI .i64 v2 fun n4 => frcB (ilt n4 ii8) fun t1 => br t1 (onA p2 fun b1 m1 => rng n4 nn8 <| rdK H3 b1 (Nat.add (Nat.add m1 nn6) (Nat.mul (itn n4) nn5)) fun v3 => isP v3 fun p3 => g157x3 n4 n1 n2 n3 p3 p1 H3 c2 c3 Kb1 Kb2) (Kb1 (DV.v (AV.b false)) H3)) (nat_lit 100000) (DV.v (AV.i .i64 ii0)) H2
/-- (*ap.AP).has -/
def g157 : G DV := fun R1 H1 Kb1 => lc R1 fun d1 R2 => onV d1 fun v1 => isP v1 fun p1 => lc R2 fun d2 R3 => onV d2 fun v2 => isI .i64 v2 fun n1 => lc R3 fun d3 R4 => onV d3 fun v3 => isI .i64 v3 fun n2 => lc R4 fun d4 R5 => onV d4 fun v4 => isI .i64 v4 fun n3 => ln R5 <| g157x4 n1 n2 n3 p1 H1 c1 c2 c3 Kb1
def G157 : G DV := g157 G42 G116 G237

def g212x1 := jn (fun d3 H2 => pickK t1 (DV.v (AV.b true)) d3 fun d4 => onV d4 fun v1 => isB v1 fun t2 => br t2 (Kb1 (DV.c (DV.v (AV.p AP.nil)) (DV.c (DV.v (AV.er (nat_lit 6))) DV.n)) H2) (onA p1 fun b1 m1 => rdK H2 b1 m1 fun v2 => isS v2 fun s1 => wrp .i64 (isub n1 ii1) fun n2 => ixA s1 n2 (fun x => Nat.mul x nn2) fun b2 m2 => Kb1 (DV.c (DV.v (AV.p (AP.at b2 m2))) (DV.c (DV.v AV.ni) DV.n)) H2)) fun Kb2 => br t1 (Kb2 DV.n H1) (onV d1 fun v1 => onV d2 fun v2 => isI .i64 v1 fun n2 => isI .i64 v2 fun n3 => frcB (ilt n3 n2) fun t2 => Kb2 (DV.v (AV.b t2)) H1)
def g212x2 := jn (fun d3 H2 => jn (fun d4 H3 => jn (fun d5 H4 => g212x1 d1 d5 n1 t1 p1 H4 Kb1) fun Kb2 => br t1 (Kb2 DV.n H3) (onV d4 fun v1 => isS v1 fun s1 => lenA s1 fun m1 => Kb2 (DV.v (AV.i .i64 (Int.ofNat m1))) H3)) fun Kb2 => br t1 (Kb2 DV.n H2) (onV d3 fun v1 => isP v1 fun p2 => onA p2 fun b1 m1 => rdK H2 b1 m1 fun v2 => isS v2 fun s1 => Kb2 (DV.v (AV.s s1)) H2)) fun Kb2 => br t1 (Kb2 DV.n H1) (onV d2 fun v1 => isP v1 fun p2 => onA p2 fun b1 m1 => Kb2 (DV.v (AV.p (AP.at b1 m1))) H1)
def g212x3 := lc R1 fun d1 R2 => onV d1 fun v1 => isI .i64 v1 fun n1 => ln R2 <| frcB (ilt n1 ii1) fun t1 => jn (fun d2 H2 => jn (fun d3 H3 => jn (fun d4 H4 => g212x2 d2 d4 n1 t1 p1 H4 Kb1) fun Kb2 => br t1 (Kb2 DV.n H3) (onV d3 fun v2 => isP v2 fun p2 => onA p2 fun b1 m1 => Kb2 (DV.v (AV.p (AP.at b1 m1))) H3)) fun Kb2 => br t1 (Kb2 DV.n H2) (Kb2 (DV.v (AV.p p1)) H2)) fun Kb2 => br t1 (Kb2 DV.n H1) (Kb2 (DV.v (AV.i .i64 n1)) H1)
/-- (*count.Book).of -/
def g212 : G DV := fun R1 H1 Kb1 => lc R1 fun d1 R2 => onV d1 fun v1 => isP v1 fun p1 => g212x3 R2 p1 H1 Kb1
def G212 : G DV := g212

def g213x1 := jn (fun d2 H2 => jn (fun d3 H3 => jn (fun d4 H4 => pickK t1 (DV.v (AV.b true)) d4 fun d5 => onV d5 fun v1 => isB v1 fun t2 => Kb1 (DV.v (AV.b t2)) H4) fun Kb2 => br t1 (Kb2 DV.n H3) (onV d3 fun v1 => isI .i64 v1 fun n1 => frcB (ieq n1 ii4) fun t2 => Kb2 (DV.v (AV.b t2)) H3)) fun Kb2 => br t1 (Kb2 DV.n H2) (onV d2 fun v1 => isP v1 fun p1 => onA p1 fun b1 m1 => rdK H2 b1 m1 fun v2 => isI .i64 v2 fun n1 => Kb2 (DV.v (AV.i .i64 n1)) H2)) fun Kb2 => br t1 (Kb2 DV.n H1) (onV d1 fun v1 => isP v1 fun p1 => onA p1 fun b1 m1 => Kb2 (DV.v (AV.p (AP.at b1 m1))) H1)
/-- count.over -/
def g213 : G DV := fun R1 H1 Kb1 => lc R1 fun d1 R2 => onV d1 fun v1 => isP v1 fun p1 => ln R2 <| onA p1 fun b1 m1 => rdK H1 b1 m1 fun v2 => isI .i64 v2 fun n1 => frcB (ieq n1 ii3) fun t1 => jn (fun d2 H2 => jn (fun d3 H3 => g213x1 d3 t1 H3 Kb1) fun Kb2 => br t1 (Kb2 DV.n H2) (onV d2 fun v3 => isP v3 fun p2 => onA p2 fun b2 m2 => Kb2 (DV.v (AV.p (AP.at b2 m2))) H2)) fun Kb2 => br t1 (Kb2 DV.n H1) (Kb2 (DV.v (AV.p p1)) H1)
def G213 : G DV := g213

def g107x1 := jn (fun d3 H2 => jn (fun d4 H3 => pickK t1 (DV.v (AV.b true)) d4 fun d5 => onV d5 fun v1 => isB v1 fun t2 => br t2 (Kb1 (DV.v (AV.er (nat_lit 9))) H3) (onA p1 fun b1 m1 => wrK H3 b1 m1 (AV.i .i64 n1) fun H4 => Kb1 (DV.v AV.ni) H4)) fun Kb2 => br t1 (Kb2 DV.n H2) (onV d1 fun v1 => isB v1 fun t2 => pickK t2 d3 (DV.v (AV.b false)) fun d4 => onV d4 fun v2 => isB v2 fun t3 => Kb2 (DV.v (AV.b t3)) H2)) fun Kb2 => grd d1 true (onV d2 fun v1 => isI .i64 v1 fun n2 => frcB (ieq n2 ii1) fun t2 => Kb2 (DV.v (AV.b t2)) H1) (Kb2 DV.n H1)
def g107x2 := jn (fun d3 H2 => jn (fun d4 H3 => jn (fun d5 H4 => g107x1 d1 d5 n1 t1 p1 H4 Kb1) fun Kb2 => grd d1 true (onV d4 fun v1 => isP v1 fun p2 => onA p2 fun b1 m1 => rdK H3 b1 m1 fun v2 => isI .i64 v2 fun n2 => Kb2 (DV.v (AV.i .i64 n2)) H3) (Kb2 DV.n H3)) fun Kb2 => grd d1 true (onV d3 fun v1 => isP v1 fun p2 => onA p2 fun b1 m1 => Kb2 (DV.v (AV.p (AP.at b1 m1))) H2) (Kb2 DV.n H2)) fun Kb2 => grd d1 true (onV d2 fun v1 => isP v1 fun p2 => onA p2 fun b1 m1 => Kb2 (DV.v (AV.p (AP.at b1 m1))) H1) (Kb2 DV.n H1)
def g107x3 := onV d1 fun v1 => isB v1 fun t1 => jn (fun d2 H2 => jn (fun d3 H3 => jn (fun d4 H4 => jn (fun d5 H5 => g107x2 d4 d5 n1 t1 p1 H5 Kb1) fun Kb2 => grd d4 true (Kb2 (DV.v (AV.p p1)) H4) (Kb2 DV.n H4)) fun Kb2 => br t1 (Kb2 DV.n H3) (Kb2 d3 H3)) fun Kb2 => br t1 (Kb2 DV.n H2) (onV d2 fun v2 => isI .i64 v2 fun n2 => frcB (ieq n2 ii3) fun t2 => Kb2 (DV.v (AV.b t2)) H2)) fun Kb2 => br t1 (Kb2 DV.n H1) (Kb2 (DV.v (AV.i .i64 n1)) H1)
def g107x4 := onV d1 fun v1 => isB v1 fun t1 => br t1 (Kb1 (DV.v (AV.er (nat_lit 2))) H1) (c1 [(DV.v (AV.p p1))] H1 fun d2 H2 => onV d2 fun v2 => isB v2 fun t2 => jn (fun d3 H3 => jn (fun d4 H4 => pickK t2 (DV.v (AV.b true)) d4 fun d5 => g107x3 d5 n1 p1 H4 Kb1) fun Kb2 => br t2 (Kb2 DV.n H3) (onV d3 fun v3 => isI .i64 v3 fun n2 => frcB (ieq n2 ii1) fun t3 => Kb2 (DV.v (AV.b t3)) H3)) fun Kb2 => br t2 (Kb2 DV.n H2) (Kb2 (DV.v (AV.i .i64 n1)) H2))
def g107x5 := onV d1 fun v1 => onN d2 <| ifA true true v1 AV.ni fun t1 => frcB (bnot t1) fun t2 => br t2 (Kb1 (DV.v v1) H1) (frcB (ilt n1 ii1) fun t3 => jn (fun d3 H2 => jn (fun d4 H3 => pickK t3 (DV.v (AV.b true)) d4 fun d5 => g107x4 d5 n1 p1 H3 c1 Kb1) fun Kb2 => br t3 (Kb2 DV.n H2) (onV d3 fun v2 => isI .i64 v2 fun n2 => frcB (ilt ii3 n2) fun t4 => Kb2 (DV.v (AV.b t4)) H2)) fun Kb2 => br t3 (Kb2 DV.n H1) (Kb2 (DV.v (AV.i .i64 n1)) H1))
/-- (*count.Book).Move -/
def g107 : G DV := fun R1 H1 Kb1 => lc R1 fun d1 R2 => onV d1 fun v1 => isP v1 fun p1 => lc R2 fun d2 R3 => onV d2 fun v2 => isI .i64 v2 fun n1 => lc R3 fun d3 R4 => onV d3 fun v3 => isI .i64 v3 fun n2 => ln R4 <| c1 [(DV.v (AV.p p1)), (DV.v (AV.i .i64 n1))] H1 fun d4 H2 => onC d4 fun d5 d6 => onV d5 fun v4 => isP v4 fun p2 => onC d6 fun d7 d8 => g107x5 d7 d8 n2 p2 H2 c2 Kb1
def G107 : G DV := g107 G212 G213

/-- slices.Clone[[]api.Packet,api.Packet] -/
def g352 : G DV := fun R1 H1 Kb1 => lc R1 fun d1 R2 => onV d1 fun v1 => isS v1 fun s1 => ln R2 <| frcB (isNilS s1) fun t1 => br t1 (Kb1 (DV.v (AV.s AS.nil)) H1) (alB H1 te nn0 nn0 fun b1 H2 => appD nn5 nn56 (AS.sl b1 nn0 nn0 nn0) s1 H2 fun s2 H3 => Kb1 (DV.v (AV.s s2)) H3)
def G352 : G DV := g352

def g344x1 := wrK H1 b1 (Nat.add m1 nn133) (AV.i .i64 n1) fun H2 => onA p1 fun b4 m2 => rdK H2 b4 (Nat.add m2 nn134) fun v1 => isI .i64 v1 fun n2 => rdK H2 b2 nn4 fun v2 => isS v2 fun s1 => lenA s1 fun m3 => wrp .i64 (isub n2 (Int.ofNat m3)) fun n3 => onA p1 fun b5 m4 => wrK H2 b5 (Nat.add m4 nn134) (AV.i .i64 n3) fun H3 => rdR H3 b2 nn0 nn5 fun l1 => must (Nat.beq (llen l1) nn5) <| wrL H3 b3 nn0 l1 fun H4 => rdR H4 b3 nn0 nn5 fun l2 => Kb1 (DV.a l2) H4
def g344x2 := rdK H1 b1 (Nat.add (Nat.add (Nat.add m1 nn3) (Nat.mul (itn n1) nn8)) nn1) fun v1 => isI .i64 v1 fun n2 => rdK H1 b2 nn4 fun v2 => isS v2 fun s1 => lenA s1 fun m2 => wrp .i64 (isub n2 (Int.ofNat m2)) fun n3 => wrK H1 b1 (Nat.add (Nat.add (Nat.add m1 nn3) (Nat.mul (itn n1) nn8)) nn1) (AV.i .i64 n3) fun H2 => onA p1 fun b4 m3 => rdK H2 b4 (Nat.add m3 nn133) fun v3 => isI .i64 v3 fun n4 => wrp .i64 (isub n4 ii1) fun n5 => onA p1 fun b5 m4 => g344x1 n5 m4 p1 b5 b2 b3 H2 Kb1
def g344x3 := alB H1 z8 nn5 nn0 fun b3 H2 => must (Nat.beq (llen l1) nn5) <| wrL H2 b3 nn0 l1 fun H3 => rdK H3 b1 (Nat.add (Nat.add m1 nn3) (Nat.mul (itn n1) nn8)) fun v1 => isS v1 fun s1 => lenA s1 fun m2 => slA s1 nn1 m2 (fun x => Nat.mul x nn5) fun s2 => c1 [(DV.v (AV.s s2))] H3 fun d1 H4 => onV d1 fun v2 => isS v2 fun s3 => wrK H4 b1 (Nat.add (Nat.add m1 nn3) (Nat.mul (itn n1) nn8)) (AV.s s3) fun H5 => g344x2 n1 m1 p1 b1 b3 b2 H5 Kb1
/-- (*fq.Queue).shift -/
def g344 : G DV := fun R1 H1 Kb1 => lc R1 fun d1 R2 => onV d1 fun v1 => isP v1 fun p1 => lc R2 fun d2 R3 => onV d2 fun v2 => isI .i64 v2 fun n1 => ln R3 <| alB H1 z8 nn5 nn0 fun b1 H2 => onA p1 fun b2 m1 => rng n1 nn16 <| rdK H2 b2 (Nat.add (Nat.add m1 nn3) (Nat.mul (itn n1) nn8)) fun v3 => isS v3 fun s1 => ixA s1 ii0 (fun x => Nat.mul x nn5) fun b3 m2 => rdR H2 b3 m2 nn5 fun l1 => g344x3 l1 n1 m1 p1 b2 b1 H2 c1 Kb1
def G344 : G DV := g344 G352

def g372x1 := br t1 (onA p1 fun b1 m1 => rdK H1 b1 (Nat.add m1 nn5) fun v1 => isI .i64 v1 fun n1 => onA p1 fun b2 m2 => rdK H1 b2 (Nat.add m2 nn7) fun v2 => isI .i64 v2 fun n2 => wrp .i64 (iadd n1 n2) fun n3 => onA p1 fun b3 m3 => wrK H1 b3 m3 (AV.i .i64 n3) fun H2 => Kb1 (DV.c (DV.v (AV.b true)) (DV.c (DV.v (AV.b false)) DV.n)) H2) (onA p1 fun b1 m1 => rdK H1 b1 (Nat.add m1 nn5) fun v1 => isI .i64 v1 fun n1 => onA p1 fun b2 m2 => rdK H1 b2 m2 fun v2 => isI .i64 v2 fun n2 => frcB (ile n2 n1) fun t2 => Kb1 (DV.c (DV.v (AV.b true)) (DV.c (DV.v (AV.b t2)) DV.n)) H1)
def g372x2 := onA p1 fun b2 m1 => rdK H1 b2 (Nat.add m1 nn5) fun v1 => isI .i64 v1 fun n1 => rdK H1 b1 nn0 fun v2 => isI .i64 v2 fun n2 => wrp .i64 (isub n1 n2) fun n3 => onA p1 fun b3 m2 => rdK H1 b3 (Nat.add m2 nn6) fun v3 => isI .i64 v3 fun n4 => frcB (ilt n3 n4) fun t1 => br t1 (Kb1 (DV.v (AV.b true)) H1) (onA p1 fun b4 m3 => rdK H1 b4 (Nat.add m3 nn8) fun v4 => isI .i64 v4 fun n5 => frcB (ile n5 ii1514) fun t2 => Kb1 (DV.v (AV.b t2)) H1)
def g372x3 := onA p1 fun b2 m1 => wrK H1 b2 (Nat.add m1 nn8) (AV.i .i64 n1) fun H2 => jF [(39 , .bool)] (fun d1 H3 => onV d1 fun v1 => isB v1 fun t1 => br t1 (onA p1 fun b3 m2 => wrK H3 b3 m2 (AV.i .i64 ii0) fun H4 => Kb1 (DV.c (DV.v (AV.b true)) (DV.c (DV.v (AV.b false)) DV.n)) H4) (onA p1 fun b3 m2 => rdK H3 b3 m2 fun v2 => isI .i64 v2 fun n2 => frcB (ieq n2 ii0) fun t2 => g372x1 t2 p1 H3 Kb1)) fun Kb2 => g372x2 p1 b1 H2 Kb2
def g372x4 := ixA s1 n1 (fun x => Nat.mul x nn2) fun b1 m1 => rdR H1 b1 m1 nn2 fun l1 => alB H1 (@T4.n AV yy1 (@T4.n AV yy1 te te te te) te te te) nn2 nn0 fun b2 H2 => must (Nat.beq (llen l1) nn2) <| wrL H2 b2 nn0 l1 fun H3 => onA p1 fun b3 m2 => rdK H3 b3 (Nat.add m2 nn8) fun v1 => isI .i64 v1 fun n2 => rdK H3 b2 nn1 fun v2 => isI .i64 v2 fun n3 => asI (imax n3 ii0) fun n4 => wrp .i64 (isub n2 n4) fun n5 => g372x3 n5 p1 b2 H3 Kb1
def g372x5 := onA p1 fun b1 m1 => rdK H1 b1 (Nat.add m1 nn9) fun v1 => isS v1 fun s1 => lenA s1 fun m2 => frcB (ile (Int.ofNat m2) n1) fun t1 => br t1 (onA p1 fun b2 m3 => wrK H1 b2 m3 (AV.i .i64 ii0) fun H2 => Kb1 (DV.c (DV.v (AV.b false)) (DV.c (DV.v (AV.b false)) DV.n)) H2) (onA p1 fun b2 m3 => rdK H1 b2 (Nat.add m3 nn9) fun v2 => isS v2 fun s2 => onA p1 fun b3 m4 => rdK H1 b3 (Nat.add m4 nn10) fun v3 => isI .i64 v3 fun n2 => g372x4 n2 p1 s2 H1 Kb1)
/-- (*codel.state).look -/
def g372 : G DV := fun R1 H1 Kb1 => lc R1 fun d1 R2 => onV d1 fun v1 => isP v1 fun p1 => ln R2 <| onA p1 fun b1 m1 => rdK H1 b1 (Nat.add m1 nn10) fun v2 => isI .i64 v2 fun n1 => g372x5 n1 p1 H1 Kb1
def G372 : G DV := g372

def g371x1 := jn (fun d2 H2 => pickK t1 d2 (DV.v (AV.b false)) fun d3 => onV d3 fun v1 => isB v1 fun t3 => br t3 (onA p1 fun b1 m1 => wrK H2 b1 (Nat.add m1 nn4) (AV.b false) fun H3 => Kb1 (DV.v (AV.b true)) H3) (onA p1 fun b1 m1 => rdK H2 b1 (Nat.add m1 nn4) fun v2 => isB v2 fun t4 => br t4 (none) (br t2 (none) (Kb1 (DV.v (AV.b true)) H2)))) fun Kb2 => br t1 (onV d1 fun v1 => isB v1 fun t3 => frcB (bnot t3) fun t4 => Kb2 (DV.v (AV.b t4)) H1) (Kb2 DV.n H1)
def g371x2 := onC d1 fun d2 d3 => onV d2 fun v1 => isB v1 fun t1 => onC d3 fun d4 d5 => onV d4 fun v2 => isB v2 fun t2 => onN d5 <| frcB (bnot t1) fun t3 => br t3 (onA p1 fun b1 m1 => wrK H1 b1 (Nat.add m1 nn4) (AV.b false) fun H2 => Kb1 (DV.v (AV.b false)) H2) (onA p1 fun b1 m1 => rdK H1 b1 (Nat.add m1 nn4) fun v3 => isB v3 fun t4 => jn (fun d6 H2 => g371x1 d6 t4 t2 p1 H2 Kb1) fun Kb2 => br t4 (Kb2 (DV.v (AV.b t2)) H1) (Kb2 DV.n H1))
/-- (*codel.state).run -/
def g371 : G DV := fun R1 H1 Kb1 => lc R1 fun d1 R2 => onV d1 fun v1 => isP v1 fun p1 => ln R2 <| c1 [(DV.v (AV.p p1))] H1 fun d2 H2 => g371x2 d2 p1 H2 Kb1
def G371 : G DV := g371 G372

def z17 : T4 AV := (@T4.n AV yy1 (@T4.n AV yy1 te te te te) (@T4.n AV yy2 te te te te) (@T4.n AV yy2 te te te te) (@T4.n AV yy3 te te te te))
def g369x1 := alK H1 (lapp l1 ((AV.i .i64 n1) :: ((AV.i .i64 n2) :: ((AV.i .i64 n3) :: ((AV.i .i64 n4) :: ((AV.s s1) :: ((AV.i .i64 ii0) :: []))))))) fun b2 H2 => c1 [(DV.v (AV.p (AP.at b2 nn0)))] H2 fun d1 H3 => onV d1 fun v1 => isB v1 fun t1 => rdR H3 b2 nn0 nn5 fun l2 => rdK H3 b2 nn10 fun v2 => isI .i64 v2 fun n5 => must (Nat.beq (llen l2) nn5) <| wrL H3 b1 nn0 l2 fun H4 => rdK H4 b2 nn10 fun v3 => must (aveq (AV.i .i64 n5) v3) <| rdR H4 b1 nn0 nn5 fun l3 => Kb1 (DV.c (DV.a l3) (DV.c (DV.v (AV.i .i64 n5)) (DV.c (DV.v (AV.b t1)) DV.n))) H4
def g369x2 := isI .i64 v1 fun n3 => lc R1 fun d2 R2 => onV d2 fun v2 => isI .i64 v2 fun n4 => lc R2 fun d3 R3 => onV d3 fun v3 => isS v3 fun s1 => ln R3 <| cellsD d1 fun l1 => alK H1 l1 fun b1 H2 => alB H2 z17 nn5 nn0 fun b2 H3 => rdR H3 b1 nn0 nn5 fun l2 => asI (imax n1 ii0) fun n5 => asI (imin n5 ii1073741824) fun n6 => asI (imax n3 ii0) fun n7 => asI (imin n7 ii1073741824) fun n8 => must (Nat.beq (llen l2) nn5) <| g369x1 l2 n2 n6 n8 n4 b2 s1 H3 c1 Kb1
/-- (codel.Codel).Pull -/
def g369 : G DV := fun R1 H1 Kb1 => lc R1 fun d1 R2 => lc R2 fun d2 R3 => onV d2 fun v1 => isI .i64 v1 fun n1 => lc R3 fun d3 R4 => onV d3 fun v2 => isI .i64 v2 fun n2 => lc R4 fun d4 R5 => onV d4 fun v3 => g369x2 v3 d1 R5 n2 n1 H1 c1 Kb1
def G369 : G DV := g369 G371

def g363x1 := must (Nat.beq (llen l1) nn5) <| wrL H1 b1 nn0 l1 fun H2 => rdK H2 b1 nn3 fun v1 => isI .i64 v1 fun n2 => rdK H2 b1 nn4 fun v2 => isS v2 fun s2 => lenA s2 fun m1 => alB H2 (@T4.n AV (AV.i .i64 n2) (@T4.n AV (AV.i .i64 (Int.ofNat m1)) te te te te) te te te) nn2 nn0 fun b2 H3 => appD nn2 nn16 s1 (AS.sl b2 nn0 nn1 nn1) H3 fun s3 H4 => wrp .i64 (iadd n1 ii1) fun n3 => Kc1 (DV.v (AV.s s3)) (DV.v (AV.i .i64 n3)) H4
def g363x2 := isS v1 fun s1 => onV d1 fun v2 => isI .i64 v2 fun n3 => frcB (ilt n3 n1) fun t2 => br t2 (c1 [(DV.v (AV.p p1)), (DV.v (AV.i .i64 n2))] H1 fun d2 H2 => onL d2 fun l1 => must (Nat.beq (llen l1) nn5) <| alK H2 (lapp l1 []) fun b1 H3 => appD nn5 nn56 s1 (AS.sl b1 nn0 nn1 nn1) H3 fun s2 H4 => wrp .i64 (iadd n3 ii1) fun n4 => Kc1 (DV.v (AV.s s2)) (DV.v (AV.i .i64 n4)) H4) (Kb1 (DV.c (DV.v (AV.s s1)) (DV.c (DV.v (AV.b t1)) DV.n)) H1)
def g363x3 := alB H1 z17 nn5 nn0 fun b2 H2 => must (Nat.beq (llen l1) nn5) <| wrL H2 b2 nn0 l1 fun H3 => rdR H3 b2 nn0 nn5 fun l2 => must (Nat.beq (llen l2) nn5) <| wrL H3 b1 (Nat.add (Nat.add (Nat.add m1 nn3) (Nat.mul (itn n1) nn8)) nn3) l2 fun H4 => lpR (failF [(15 , .slice), (68 , .int .i64)]) (fun Kc1 => fun d1 d2 H5 => onV d1 fun v1 => g363x2 v1 d2 n2 n1 t1 p1 H5 c1 Kb1 Kc1) (nat_lit 100000) (DV.v (AV.s AS.nil)) (DV.v (AV.i .i64 ii0)) H4
def g363x4 := rdK H1 b1 (Nat.add (Nat.add (Nat.add m1 nn3) (Nat.mul (itn n1) nn8)) nn1) fun v1 => isI .i64 v1 fun n5 => c1 [(DV.a l1), (DV.v (AV.i .i64 n2)), (DV.v (AV.i .i64 n3)), (DV.v (AV.i .i64 n4)), (DV.v (AV.i .i64 n5)), (DV.v (AV.s s1))] H1 fun d1 H2 => onC d1 fun d2 d3 => onL d2 fun l2 => onC d3 fun d4 d5 => onV d4 fun v2 => isI .i64 v2 fun n6 => onC d5 fun d6 d7 => onV d6 fun v3 => isB v3 fun t1 => onN d7 <| g363x3 l2 n1 n6 m1 t1 p1 b1 H2 c2 Kb1
def g363x5 := br t1 (ixA s1 n1 (fun x => Nat.mul x nn5) fun b2 m2 => rdR H1 b2 m2 nn5 fun l1 => alB H1 z8 nn5 nn0 fun b3 H2 => g363x1 l1 n1 b3 s2 H2 Kc1) (rdR H1 b1 (Nat.add (Nat.add (Nat.add m1 nn3) (Nat.mul (itn n2) nn8)) nn3) nn5 fun l1 => onA p1 fun b2 m2 => rdK H1 b2 (Nat.add m2 nn1) fun v1 => isI .i64 v1 fun n4 => onA p1 fun b3 m3 => rdK H1 b3 (Nat.add m3 nn2) fun v2 => isI .i64 v2 fun n5 => g363x4 l1 n2 n3 n4 n5 m1 p1 b1 s2 H1 c1 c2 Kb1)
def g363x6 := onA p1 fun b1 m1 => rng n1 nn16 <| rdK H1 b1 (Nat.add (Nat.add m1 nn3) (Nat.mul (itn n1) nn8)) fun v1 => isS v1 fun s1 => lenA s1 fun m2 => lpR (failF [(9 , .slice), (26 , .int .i64)]) (fun Kc1 => fun d1 d2 H2 => onV d1 fun v2 => isS v2 fun s2 => onV d2 fun v3 => isI .i64 v3 fun n3 => frcB (ilt n3 (Int.ofNat m2)) fun t1 => g363x5 n3 n1 n2 m1 t1 p1 b1 s1 s2 H2 c1 c2 Kb1 Kc1) (nat_lit 100000) (DV.v (AV.s AS.nil)) (DV.v (AV.i .i64 ii0)) H1
/-- (*fq.Queue).pull -/
def g363 : G DV := fun R1 H1 Kb1 => lc R1 fun d1 R2 => onV d1 fun v1 => isP v1 fun p1 => lc R2 fun d2 R3 => onV d2 fun v2 => isI .i64 v2 fun n1 => lc R3 fun d3 R4 => onV d3 fun v3 => isI .i64 v3 fun n2 => ln R4 <| g363x6 n1 n2 p1 H1 c2 c1 Kb1
def G363 : G DV := g363 G344 G369

def z18 : List AV := [(AV.i .i64 ii0), (AV.i .u32 ii0), (AV.i .i64 ii0), (AV.i .i64 ii0), (AV.s AS.nil)]
def g349x1 := isS v1 fun s2 => lenA s2 fun m1 => slA s2 nn1 m1 (fun x => x) fun s3 => onA p1 fun b1 m2 => wrK H1 b1 m2 (AV.s s3) fun H2 => onA p2 fun b2 m3 => rdK H2 b2 (Nat.add m3 nn132) fun v2 => isS v2 fun s4 => alB H2 (@T4.n AV (AV.i .i64 n1) te te te te) nn1 nn0 fun b3 H3 => appD nn1 nn8 s4 (AS.sl b3 nn0 nn1 nn1) H3 fun s5 H4 => onA p2 fun b4 m4 => wrK H4 b4 (Nat.add m4 nn132) (AV.s s5) fun H5 => Kb1 (DV.v (AV.s s1)) H5
def g349x2 := rdK H1 b1 (Nat.add (Nat.add (Nat.add m1 nn3) (Nat.mul (itn n1) nn8)) nn2) fun v1 => isI .i64 v1 fun n2 => rdK H1 b2 nn4 fun v2 => isS v2 fun s2 => lenA s2 fun m2 => wrp .i64 (isub n2 (Int.ofNat m2)) fun n3 => wrK H1 b1 (Nat.add (Nat.add (Nat.add m1 nn3) (Nat.mul (itn n1) nn8)) nn2) (AV.i .i64 n3) fun H2 => rdR H2 b2 nn0 nn5 fun l1 => must (Nat.beq (llen l1) nn5) <| wrL H2 b3 nn0 l1 fun H3 => rdR H3 b3 nn0 nn5 fun l2 => Kb1 (DV.c (DV.a l2) (DV.c (DV.v (AV.s s1)) (DV.c (DV.v (AV.b true)) DV.n))) H3
def g349x3 := jn (fun d2 H2 => pickK t1 d2 (DV.v (AV.b false)) fun d3 => onV d3 fun v1 => isB v1 fun t2 => br t2 (onA p1 fun b1 m1 => rdK H2 b1 (Nat.add m1 nn132) fun v2 => isS v2 fun s2 => alB H2 (@T4.n AV (AV.i .i64 n1) te te te te) nn1 nn0 fun b2 H3 => appD nn1 nn8 s2 (AS.sl b2 nn0 nn1 nn1) H3 fun s3 H4 => onA p1 fun b3 m2 => wrK H4 b3 (Nat.add m2 nn132) (AV.s s3) fun H5 => Kb1 (DV.v (AV.s s1)) H5) (Kb1 (DV.v (AV.s s1)) H2)) fun Kb2 => br t1 (onV d1 fun v1 => isI .i64 v1 fun n2 => frcB (ilt ii0 n2) fun t2 => Kb2 (DV.v (AV.b t2)) H1) (Kb2 DV.n H1)
def g349x4 := jn (fun d2 H2 => jn (fun d3 H3 => jn (fun d4 H4 => g349x3 d4 n1 t1 p1 s1 H4 Kb1) fun Kb2 => br t1 (onV d3 fun v1 => isS v1 fun s2 => lenA s2 fun m1 => Kb2 (DV.v (AV.i .i64 (Int.ofNat m1))) H3) (Kb2 DV.n H3)) fun Kb2 => br t1 (onV d2 fun v1 => isP v1 fun p2 => onA p2 fun b1 m1 => rdK H2 b1 m1 fun v2 => isS v2 fun s2 => Kb2 (DV.v (AV.s s2)) H2) (Kb2 DV.n H2)) fun Kb2 => br t1 (onV d1 fun v1 => isP v1 fun p2 => onA p2 fun b1 m1 => Kb2 (DV.v (AV.p (AP.at b1 (Nat.add m1 nn132)))) H1) (Kb2 DV.n H1)
def g349x5 := onA p1 fun b1 m1 => rdK H1 b1 m1 fun v1 => isS v1 fun s2 => lenA s2 fun m2 => slA s2 nn1 m2 (fun x => x) fun s3 => onA p1 fun b2 m3 => wrK H1 b2 m3 (AV.s s3) fun H2 => jn (fun d1 H3 => jn (fun d2 H4 => g349x4 d2 n1 t1 p2 s1 H4 Kb1) fun Kb2 => br t1 (onV d1 fun v2 => isP v2 fun p3 => onA p3 fun b3 m4 => Kb2 (DV.v (AV.p (AP.at b3 m4))) H3) (Kb2 DV.n H3)) fun Kb2 => br t1 (Kb2 (DV.v (AV.p p2)) H2) (Kb2 DV.n H2)
def g349x6 := onC d1 fun d2 d3 => onV d2 fun v1 => isS v1 fun s2 => onC d3 fun d4 d5 => onV d4 fun v2 => isB v2 fun t2 => onN d5 <| appD nn5 nn56 s1 s2 H1 fun s3 H2 => br t2 (c1 [(DV.v (AV.p p1)), (DV.v (AV.i .i64 n1))] H2 fun d6 H3 => onL d6 fun l1 => alB H3 z8 nn5 nn0 fun b3 H4 => must (Nat.beq (llen l1) nn5) <| wrL H4 b3 nn0 l1 fun H5 => g349x2 n1 m1 b1 b3 b2 s3 H5 Kb1) (g349x5 n1 t1 p2 p1 s3 H2 Kb2)
def g349x7 := br t1 (rdK H1 b1 (Nat.add (Nat.add (Nat.add m1 nn3) (Nat.mul (itn n1) nn8)) nn2) fun v1 => isI .i64 v1 fun n3 => wrp .i64 (iadd n3 ii300) fun n4 => wrK H1 b1 (Nat.add (Nat.add (Nat.add m1 nn3) (Nat.mul (itn n1) nn8)) nn2) (AV.i .i64 n4) fun H2 => onA p1 fun b3 m2 => rdK H2 b3 m2 fun v2 => g349x1 v2 n1 p1 p2 s1 H2 Kb1) (c1 [(DV.v (AV.p p2)), (DV.v (AV.i .i64 n1)), (DV.v (AV.i .i64 n2))] H1 fun d1 H2 => g349x6 d1 n1 m1 t2 p2 p1 b1 b2 s1 H2 c2 Kb2 Kb1)
def g349x8 := br t1 (wrL H1 b1 nn0 z18 fun H2 => rdR H2 b1 nn0 nn5 fun l1 => Kb1 (DV.c (DV.a l1) (DV.c (DV.v (AV.s s1)) (DV.c (DV.v (AV.b false)) DV.n))) H2) (onA p1 fun b2 m1 => rdK H1 b2 m1 fun v1 => isS v1 fun s2 => ixA s2 ii0 (fun x => x) fun b3 m2 => rdK H1 b3 m2 fun v2 => isI .i64 v2 fun n2 => onA p2 fun b4 m3 => rng n2 nn16 <| rdK H1 b4 (Nat.add (Nat.add (Nat.add m3 nn3) (Nat.mul (itn n2) nn8)) nn2) fun v3 => isI .i64 v3 fun n3 => frcB (ile n3 ii0) fun t3 => g349x7 n2 n1 m3 t3 t2 p1 p2 b4 b1 s1 H1 c1 c2 Kb2 Kb1)
def g349x9 := jF [(8 , .ptr), (9 , .bool)] (fun d1 d2 H2 => onV d1 fun v1 => isP v1 fun p2 => onV d2 fun v2 => isB v2 fun t1 => onA p2 fun b3 m2 => rdK H2 b3 m2 fun v3 => isS v3 fun s2 => lenA s2 fun m3 => frcB (ieq (Int.ofNat m3) ii0) fun t2 => g349x8 n1 t2 t1 p2 p1 b1 s1 H2 c1 c2 Kb1 Kb2) fun Kc1 => onA p1 fun b3 m2 => rdK H1 b3 (Nat.add m2 nn131) fun v1 => isS v1 fun s2 => lenA s2 fun m3 => frcB (ieq (Int.ofNat m3) ii0) fun t1 => br t1 (onA p1 fun b4 m4 => Kc1 (DV.v (AV.p (AP.at b4 (Nat.add m4 nn132)))) (DV.v (AV.b false)) H1) (Kc1 (DV.v (AV.p (AP.at b2 (Nat.add m1 nn131)))) (DV.v (AV.b true)) H1)
/-- (*fq.Queue).Take -/
def g349 : G DV := fun R1 H1 Kb1 => lc R1 fun d1 R2 => onV d1 fun v1 => isP v1 fun p1 => lc R2 fun d2 R3 => onV d2 fun v2 => isI .i64 v2 fun n1 => ln R3 <| alB H1 z8 nn5 nn0 fun b1 H2 => lpR (failF [(7 , .slice)]) (fun Kb2 => fun d3 H3 => onV d3 fun v3 => isS v3 fun s1 => onA p1 fun b2 m1 => g349x9 n1 m1 p1 b1 b2 s1 H3 c2 c1 Kb1 Kb2) (nat_lit 100000) (DV.v (AV.s AS.nil)) H2
def G349 : G DV := g349 G344 G363

def g336x1 := rdK H1 b1 (Nat.add (Nat.add (Nat.add m1 nn5) (Nat.mul (itn n1) nn8)) (itn n2)) fun v1 => isP v1 fun p1 => c1 [(DV.v (AV.p p1)), (DV.v (AV.i .i64 n3))] H1 fun d1 H2 => onC d1 fun d2 d3 => onL d2 fun l1 => onC d3 fun d4 d5 => onV d4 fun v2 => isS v2 fun s1 => onC d5 fun d6 d7 => onV d6 fun v3 => isB v3 fun t1 => onN d7 <| must (Nat.beq (llen l1) nn5) <| wrL H2 b2 nn0 l1 fun H3 => rdR H3 b2 nn0 nn5 fun l2 => Kb1 (DV.c (DV.a l2) (DV.c (DV.v (AV.s s1)) (DV.c (DV.v (AV.b t1)) DV.n))) H3
def g336x2 := alB H1 z8 nn5 nn0 fun b1 H2 => c1 [(DV.v (AV.i .i64 n1)), (DV.v (AV.i .i64 n2))] H2 fun d1 H3 => onV d1 fun v1 => isB v1 fun t1 => frcB (bnot t1) fun t2 => br t2 (wrL H3 b1 nn0 z18 fun H4 => rdR H4 b1 nn0 nn5 fun l1 => Kb1 (DV.c (DV.a l1) (DV.c (DV.v (AV.s AS.nil)) (DV.c (DV.v (AV.b false)) DV.n))) H4) (wrp .i64 (isub n1 ii1) fun n4 => onA p1 fun b2 m1 => rng n4 nn16 <| rng n2 nn8 <| g336x1 n4 n2 n3 m1 b2 b1 H3 c2 Kb1)
/-- (*pool.Pool).Take -/
def g336 : G DV := fun R1 H1 Kb1 => lc R1 fun d1 R2 => onV d1 fun v1 => isP v1 fun p1 => lc R2 fun d2 R3 => onV d2 fun v2 => isI .i64 v2 fun n1 => lc R3 fun d3 R4 => onV d3 fun v3 => isI .i64 v3 fun n2 => lc R4 fun d4 R5 => onV d4 fun v4 => isI .i64 v4 fun n3 => ln R5 <| g336x2 n1 n2 n3 p1 H1 c1 c2 Kb1
def G336 : G DV := g336 G255 G349

def g305x1 := lc R1 fun d1 R2 => onV d1 fun v1 => isI .i64 v1 fun n1 => lc R2 fun d2 R3 => onV d2 fun v2 => isI .i64 v2 fun n2 => ln R3 <| c1 [(DV.v (AV.i .i64 n1))] H1 fun d3 H2 => onV d3 fun v3 => isI .i64 v3 fun n3 => c1 [(DV.v (AV.i .i64 n2))] H2 fun d4 H3 => onV d4 fun v4 => isI .i64 v4 fun n4 => wrp .i64 (iadd n3 n4) fun n5 => c1 [(DV.v (AV.i .i64 n5))] H3 fun d5 H4 => onV d5 fun v5 => isI .i64 v5 fun n6 => Kb1 (DV.v (AV.i .i64 n6)) H4
/-- seq.Add -/
def g305 : G DV := fun R1 H1 Kb1 => g305x1 R1 H1 c1 Kb1
def G305 : G DV := g305 G289

def g350x1 := isI .i64 v1 fun n2 => onA p1 fun b1 m1 => wrK H1 b1 (Nat.add m1 nn1) (AV.i .i64 n2) fun H2 => onA p1 fun b2 m2 => rdK H2 b2 (Nat.add m2 nn3) fun v2 => isS v2 fun s1 => alB H2 (@T4.n AV (AV.i .i64 n1) te te te te) nn1 nn0 fun b3 H3 => appD nn1 nn8 s1 (AS.sl b3 nn0 nn1 nn1) H3 fun s2 H4 => onA p1 fun b4 m3 => wrK H4 b4 (Nat.add m3 nn3) (AV.s s2) fun H5 => Kb1 (DV.c (DV.v (AV.i .i64 n1)) (DV.c (DV.v (AV.b true)) DV.n)) H5
def g350x2 := lc R1 fun d1 R2 => onV d1 fun v1 => isP v1 fun p1 => ln R2 <| c1 [(DV.v (AV.p p1))] H1 fun d2 H2 => onV d2 fun v2 => isI .i64 v2 fun n1 => frcB (ieq n1 ii0) fun t1 => br t1 (Kb1 (DV.c (DV.v (AV.i .i64 ii0)) (DV.c (DV.v (AV.b false)) DV.n)) H2) (onA p1 fun b1 m1 => rdK H2 b1 (Nat.add m1 nn1) fun v3 => isI .i64 v3 fun n2 => c2 [(DV.v (AV.i .i64 n2)), (DV.v (AV.i .i64 ii1))] H2 fun d3 H3 => onV d3 fun v4 => g350x1 v4 n2 p1 H3 Kb1)
/-- (*win.Win).Next -/
def g350 : G DV := fun R1 H1 Kb1 => g350x2 R1 H1 c2 c1 Kb1
def G350 : G DV := g350 G305 G307

def z19 : List AV := [(AV.i .i64 ii0), (AV.i .u32 ii0), (AV.i .i64 ii0), (AV.i .i64 ii0), (AV.s AS.nil), (AV.i .i64 ii0), (AV.i .i64 ii0), (AV.i .i64 ii0)]
def g337x1 := must (Nat.beq (llen (lapp l1 ((AV.b false) :: []))) nn9) <| alK H1 (lapp (lapp l1 ((AV.b false) :: [])) []) fun b3 H2 => appD nn9 nn88 s1 (AS.sl b3 nn0 nn1 nn1) H2 fun s2 H3 => onA p1 fun b4 m1 => wrK H3 b4 (Nat.add m1 nn6) (AV.s s2) fun H4 => rdR H4 b1 nn0 nn8 fun l2 => c1 [(DV.a l2)] H4 fun d1 H5 => onL d1 fun l3 => must (Nat.beq (llen l3) nn8) <| wrL H5 b2 nn0 l3 fun H6 => rdR H6 b2 nn0 nn8 fun l4 => Kb1 (DV.c (DV.a l4) (DV.c (DV.v AV.ni) DV.n)) H6
def g337x2 := must (Nat.beq (llen l1) nn5) <| c1 [(DV.a (lapp l1 ((AV.i .i64 n1) :: ((AV.i .i64 ii0) :: ((AV.i .i64 n2) :: [])))))] H1 fun d1 H2 => onL d1 fun l2 => alB H2 z5 nn8 nn0 fun b2 H3 => must (Nat.beq (llen l2) nn8) <| wrL H3 b2 nn0 l2 fun H4 => onA p1 fun b3 m1 => rdK H4 b3 (Nat.add m1 nn6) fun v1 => isS v1 fun s1 => rdR H4 b2 nn0 nn8 fun l3 => must (Nat.beq (llen l3) nn8) <| g337x1 l3 p1 b2 b1 s1 H4 c1 Kb1
def g337x3 := isI .i64 v1 fun n2 => onC d1 fun d2 d3 => onV d2 fun v2 => isB v2 fun t1 => onN d3 <| frcB (bnot t1) fun t2 => br t2 (wrL H1 b1 nn0 z19 fun H2 => rdR H2 b1 nn0 nn8 fun l1 => Kb1 (DV.c (DV.a l1) (DV.c (DV.v (AV.er (nat_lit 8))) DV.n)) H2) (rdR H1 b2 nn0 nn5 fun l1 => onA p1 fun b3 m1 => rdK H1 b3 (Nat.add m1 nn3) fun v3 => isI .i64 v3 fun n3 => wrp .i64 (iadd n1 n3) fun n4 => g337x2 l1 n2 n4 p1 b1 H1 c1 Kb1)
def g337x4 := br t1 (wrL H1 b1 nn0 z19 fun H2 => rdR H2 b1 nn0 nn8 fun l1 => Kb1 (DV.c (DV.a l1) (DV.c (DV.v (AV.er (nat_lit 9))) DV.n)) H2) (onA p1 fun b3 m1 => rdK H1 b3 (Nat.add m1 nn7) fun v1 => isB v1 fun t2 => br t2 (wrL H1 b1 nn0 z19 fun H2 => rdR H2 b1 nn0 nn8 fun l1 => Kb1 (DV.c (DV.a l1) (DV.c (DV.v (AV.er (nat_lit 8))) DV.n)) H2) (onA p1 fun b4 m2 => rdK H1 b4 m2 fun v2 => isP v2 fun p2 => c1 [(DV.v (AV.p p2))] H1 fun d1 H2 => onC d1 fun d2 d3 => onV d2 fun v3 => g337x3 v3 d3 n1 p1 b1 b2 H2 c2 Kb1))
/-- (*ba.Session).Fresh -/
def g337 : G DV := fun R1 H1 Kb1 => lc R1 fun d1 R2 => onV d1 fun v1 => isP v1 fun p1 => lc R2 fun d2 R3 => lc R3 fun d3 R4 => onV d3 fun v2 => isI .i64 v2 fun n1 => ln R4 <| cellsD d2 fun l1 => alK H1 l1 fun b1 H2 => alB H2 z5 nn8 nn0 fun b2 H3 => onA p1 fun b3 m1 => rdK H3 b3 (Nat.add m1 nn4) fun v3 => isI .i64 v3 fun n2 => frcB (ieq n2 ii2) fun t1 => g337x4 n1 t1 p1 b2 b1 H3 c2 c1 Kb1
def G337 : G DV := g337 G295 G350

def g308x1 := br t1 (wrL H1 b1 nn0 z19 fun H2 => rdR H2 b1 nn0 nn8 fun l1 => Kb1 (DV.c (DV.a l1) (DV.c (DV.v (AV.b false)) DV.n)) H2) (onA p1 fun b4 m1 => rdK H1 b2 nn0 fun v1 => isI .i64 v1 fun n1 => c1 [(DV.v (AV.p (AP.at b4 (Nat.add m1 nn310)))), (DV.v (AV.i .i64 n1)), (DV.v (AV.i .i64 ii2))] H1 fun d1 H2 => onV d1 fun v2 => rdR H2 b3 nn0 nn8 fun l1 => must (Nat.beq (llen l1) nn8) <| wrL H2 b1 nn0 l1 fun H3 => rdR H3 b1 nn0 nn8 fun l2 => Kb1 (DV.c (DV.a l2) (DV.c (DV.v (AV.b true)) DV.n)) H3)
def g308x2 := onA p1 fun b3 m1 => rdK H1 b3 (Nat.add m1 nn21) fun v1 => isI .i64 v1 fun n1 => c1 [(DV.v (AV.p p2)), (DV.a l1), (DV.v (AV.i .i64 n1))] H1 fun d1 H2 => onC d1 fun d2 d3 => onL d2 fun l2 => onC d3 fun d4 d5 => onV d4 fun v2 => onN d5 <| alB H2 z5 nn8 nn0 fun b4 H3 => must (Nat.beq (llen l2) nn8) <| wrL H3 b4 nn0 l2 fun H4 => ifA true true v2 AV.ni fun t1 => frcB (bnot t1) fun t2 => g308x1 t2 p1 b1 b2 b4 H4 c2 Kb1
def g308x3 := must (Nat.beq (llen l1) nn5) <| wrL H1 b1 nn0 l1 fun H2 => c1 [(DV.v (AV.p p1)), (DV.v (AV.i .i64 ii2)), (DV.v (AV.s s1))] H2 fun d1 H3 => frcB (bnot t1) fun t2 => br t2 (wrL H3 b2 nn0 z19 fun H4 => rdR H4 b2 nn0 nn8 fun l2 => Kb1 (DV.c (DV.a l2) (DV.c (DV.v (AV.b false)) DV.n)) H4) (onA p2 fun b3 m1 => rdK H3 b3 m1 fun v1 => isP v1 fun p3 => rdR H3 b1 nn0 nn5 fun l2 => g308x2 l2 p1 p3 b2 b1 H3 c2 c3 Kb1)
def g308x4 := onA p1 fun b2 m1 => rdK H1 b2 (Nat.add m1 nn21) fun v1 => isI .i64 v1 fun n3 => c1 [(DV.v (AV.p p2)), (DV.v (AV.i .i64 n1)), (DV.v (AV.i .i64 n2)), (DV.v (AV.i .i64 n3))] H1 fun d1 H2 => onC d1 fun d2 d3 => onL d2 fun l1 => onC d3 fun d4 d5 => onV d4 fun v2 => isS v2 fun s1 => onC d5 fun d6 d7 => onV d6 fun v3 => isB v3 fun t1 => onN d7 <| alB H2 z8 nn5 nn0 fun b3 H3 => g308x3 l1 t1 p1 p3 b3 b1 s1 H3 c2 c3 c4 Kb1
def g308x5 := onV d1 fun v1 => isP v1 fun p2 => lc R1 fun d2 R2 => onV d2 fun v2 => isP v2 fun p3 => ln R2 <| alB H1 z5 nn8 nn0 fun b1 H2 => onA p1 fun b2 m1 => rdK H2 b2 (Nat.add m1 nn311) fun v3 => isP v3 fun p4 => onA p2 fun b3 m2 => rdK H2 b3 (Nat.add m2 nn1) fun v4 => isI .i64 v4 fun n1 => onA p2 fun b4 m3 => rdK H2 b4 (Nat.add m3 nn2) fun v5 => isI .i64 v5 fun n2 => g308x4 n1 n2 p1 p4 p3 b1 H2 c1 c2 c3 c4 Kb1
/-- (*ap.AP).fresh -/
def g308 : G DV := fun R1 H1 Kb1 => lc R1 fun d1 R2 => onV d1 fun v1 => isP v1 fun p1 => lc R2 fun d2 R3 => g308x5 d2 R3 p1 H1 c3 c2 c4 c1 Kb1
def G308 : G DV := g308 G107 G115 G336 G337

def z20 : T4 AV := (@T4.n AV yy1 (@T4.n AV yy1 te te te te) (@T4.n AV yy1 te te te te) te te)
def g248x1 := onC d1 fun d2 d3 => onV d2 fun v1 => isB v1 fun t1 => onN d3 <| alB H1 z5 nn8 nn0 fun b1 H2 => must (Nat.beq (llen l1) nn8) <| wrL H2 b1 nn0 l1 fun H3 => frcB (bnot t1) fun t2 => br t2 (Kb1 (DV.c (DV.v (AV.s AS.nil)) (DV.c (DV.v (AV.b false)) DV.n)) H3) (rdR H3 b1 nn0 nn8 fun l2 => must (Nat.beq (llen l2) nn8) <| alK H3 (lapp l2 []) fun b2 H4 => appD nn8 nn80 s1 (AS.sl b2 nn0 nn1 nn1) H4 fun s2 H5 => Kb2 (DV.v (AV.s s2)) H5)
def g248x2 := jF [(13 , .slice)] (fun d1 H2 => onV d1 fun v1 => isS v1 fun s2 => br t1 (slA s2 nn0 nn1 (fun x => Nat.mul x nn8) fun s3 => Kb1 (DV.c (DV.v (AV.s s3)) (DV.c (DV.v (AV.b false)) DV.n)) H2) (rdR H2 b1 nn0 nn5 fun l1 => rdR H2 b2 nn0 nn3 fun l2 => none)) fun Kb2 => lenA s1 fun m1 => frcB (ieq (Int.ofNat m1) ii0) fun t2 => br t2 (c1 [(DV.v (AV.p p1)), (DV.v (AV.p p2)), (DV.v (AV.p p3))] H1 fun d1 H2 => onC d1 fun d2 d3 => onL d2 fun l1 => g248x1 l1 d3 s1 H2 Kb1 Kb2) (Kb2 (DV.v (AV.s s1)) H1)
def g248x3 := rdK H1 b1 (Nat.add (Nat.add m1 nn11) nn20) fun v1 => must (aveq (AV.i .i64 n1) v1) <| rdK H1 b2 (Nat.add m2 nn14) fun v2 => must (aveq (AV.i .i64 n2) v2) <| alB H1 z20 nn3 nn0 fun b4 H2 => wrL H2 b4 nn0 [(AV.i .i64 n3), (AV.i .i64 n2), (AV.i .i64 n1)] fun H3 => onA p1 fun b5 m3 => rdK H3 b5 m3 fun v3 => isP v3 fun p4 => c1 [(DV.v (AV.p p4))] H3 fun d1 H4 => onV d1 fun v4 => isS v4 fun s1 => g248x2 t1 p2 p3 p1 b3 b4 s1 H4 c2 Kb1
def g248x4 := alK H1 l1 fun b1 H2 => onA p1 fun b2 m1 => rdK H2 b2 m1 fun v1 => isP v1 fun p4 => onA p2 fun b3 m2 => rdK H2 b3 (Nat.add m2 nn14) fun v2 => isI .i64 v2 fun n1 => onA p3 fun b4 m3 => rdK H2 b4 (Nat.add (Nat.add m3 nn11) nn20) fun v3 => isI .i64 v3 fun n2 => c1 [(DV.v (AV.p p4))] H2 fun d1 H3 => onV d1 fun v4 => isI .i64 v4 fun n3 => g248x3 n2 n1 n3 m3 m2 t1 p1 p2 p3 b4 b3 b1 H3 c2 c3 Kb1
/-- (*ap.AP).choose -/
def g248 : G DV := fun R1 H1 Kb1 => lc R1 fun d1 R2 => onV d1 fun v1 => isP v1 fun p1 => lc R2 fun d2 R3 => onV d2 fun v2 => isP v2 fun p2 => lc R3 fun d3 R4 => onV d3 fun v3 => isP v3 fun p3 => lc R4 fun d4 R5 => lc R5 fun d5 R6 => onV d5 fun v4 => isB v4 fun t1 => ln R6 <| cellsD d4 fun l1 => g248x4 l1 t1 p3 p1 p2 H1 c1 c2 c3 Kb1
def G248 : G DV := g248 G148 G151 G308

def g249x1 := asI (idiv n1 (ip2 ii8)) fun n4 => wrp .u8 n4 fun n5 => alB H1 (@T4.n AV (AV.i .u8 n2) (@T4.n AV (AV.i .u8 n5) te te te te) (@T4.n AV (AV.i .u8 n3) te te te te) (@T4.n AV yy0 te te te te) te) nn4 nn0 fun b2 H2 => appD nn1 nn1 s1 (AS.sl b2 nn0 nn4 nn4) H2 fun s2 H3 => rdK H3 b1 nn23 fun v1 => isS v1 fun s3 => appD nn1 nn1 s2 s3 H3 fun s4 H4 => Kb1 (DV.c (DV.v (AV.s s4)) (DV.c (DV.v AV.ni) DV.n)) H4
def g249x2 := br t1 (ixA (AS.sl b1 nn0 nn3 nn3) n1 (fun x => Nat.mul x nn6) fun b3 m1 => rdR H1 b3 m1 nn6 fun l1 => alB H1 z0 nn6 nn0 fun b4 H2 => must (Nat.beq (llen l1) nn6) <| wrL H2 b4 nn0 l1 fun H3 => appD nn1 nn1 s1 (AS.sl b4 nn0 nn6 nn6) H3 fun s2 H4 => wrp .i64 (iadd n1 ii1) fun n3 => Kc1 (DV.v (AV.s s2)) (DV.v (AV.i .i64 n3)) H4) (rdK H1 b2 nn19 fun v1 => isI .i64 v1 fun n3 => wrp .i64 (imul n3 ii16) fun n4 => wrp .u8 n4 fun n5 => g249x1 n4 n5 n2 b2 s1 H1 Kb1)
def g249x3 := must (Nat.beq (llen l1) nn6) <| must (Nat.beq (llen l2) nn6) <| alK H1 (lapp l3 (lapp l1 (lapp l2 []))) fun b3 H2 => lenA (AS.sl b3 nn0 nn3 nn3) fun m1 => lpR (failF [(6 , .slice), (60 , .int .i64)]) (fun Kc1 => fun d1 d2 H3 => onV d1 fun v1 => isS v1 fun s1 => onV d2 fun v2 => isI .i64 v2 fun n2 => frcB (ilt n2 (Int.ofNat m1)) fun t1 => g249x2 n2 n1 t1 b3 b1 s1 H3 Kb1 Kc1) (nat_lit 100000) (DV.v (AV.s (AS.sl b2 nn0 nn4 nn4))) (DV.v (AV.i .i64 ii0)) H2
def g249x4 := jF [(5 , .int .u8)] (fun d1 H2 => onV d1 fun v1 => isI .u8 v1 fun n3 => alB H2 (@T4.n AV yy12 (@T4.n AV (AV.i .u8 n1) te te te te) (@T4.n AV yy0 te te te te) (@T4.n AV yy0 te te te te) te) nn4 nn0 fun b2 H3 => rdR H3 b1 nn0 nn6 fun l1 => rdR H3 b1 nn6 nn6 fun l2 => rdR H3 b1 nn12 nn6 fun l3 => must (Nat.beq (llen l1) nn6) <| g249x3 l2 l3 l1 n3 b1 b2 H3 Kb1) fun Kb2 => rdK H1 b1 nn22 fun v1 => isB v1 fun t1 => br t1 (asI (bits .or .u8 n2 ii16) fun n3 => Kb2 (DV.v (AV.i .u8 n3)) H1) (Kb2 (DV.v (AV.i .u8 n2)) H1)
def g249x5 := jF [(4 , .int .u8)] (fun d1 H2 => onV d1 fun v1 => isI .u8 v1 fun n2 => jF [(4 , .int .u8)] (fun d2 H3 => onV d2 fun v2 => isI .u8 v2 fun n3 => g249x4 n3 n1 b1 H3 Kb1) fun Kb2 => rdK H2 b1 nn21 fun v2 => isB v2 fun t1 => br t1 (asI (bits .or .u8 n2 ii32) fun n3 => Kb2 (DV.v (AV.i .u8 n3)) H2) (Kb2 (DV.v (AV.i .u8 n2)) H2)) fun Kb2 => rdK H1 b1 nn20 fun v1 => isB v1 fun t1 => br t1 (asI (bits .or .u8 ii2 ii8) fun n2 => Kb2 (DV.v (AV.i .u8 n2)) H1) (Kb2 (DV.v (AV.i .u8 ii2)) H1)
def g249x6 := jn (fun d2 H2 => jn (fun d3 H3 => pickK t1 (DV.v (AV.b true)) d3 fun d4 => onV d4 fun v1 => isB v1 fun t2 => br t2 (Kb1 (DV.c (DV.v (AV.s AS.nil)) (DV.c (DV.v (AV.er (nat_lit 2))) DV.n)) H3) (rdK H3 b1 nn18 fun v2 => isI .i64 v2 fun n1 => wrp .u8 n1 fun n2 => g249x5 n2 b1 H3 Kb1)) fun Kb2 => br t1 (Kb2 DV.n H2) (onV d2 fun v1 => isI .i64 v1 fun n1 => frcB (ilt ii1500 n1) fun t2 => Kb2 (DV.v (AV.b t2)) H2)) fun Kb2 => br t1 (Kb2 DV.n H1) (onV d1 fun v1 => isS v1 fun s1 => lenA s1 fun m1 => Kb2 (DV.v (AV.i .i64 (Int.ofNat m1))) H1)
def g249x7 := jn (fun d2 H2 => pickK t1 (DV.v (AV.b true)) d2 fun d3 => onV d3 fun v1 => isB v1 fun t2 => jn (fun d4 H3 => jn (fun d5 H4 => g249x6 d5 t2 b1 H4 Kb1) fun Kb2 => br t2 (Kb2 DV.n H3) (onV d4 fun v2 => isP v2 fun p1 => onA p1 fun b2 m1 => rdK H3 b2 m1 fun v3 => isS v3 fun s1 => Kb2 (DV.v (AV.s s1)) H3)) fun Kb2 => br t2 (Kb2 DV.n H2) (Kb2 (DV.v (AV.p (AP.at b1 nn23))) H2)) fun Kb2 => br t1 (Kb2 DV.n H1) (onV d1 fun v1 => isI .i64 v1 fun n1 => frcB (ile ii4096 n1) fun t2 => Kb2 (DV.v (AV.b t2)) H1)
def g249x8 := jn (fun d2 H2 => pickK t1 (DV.v (AV.b true)) d2 fun d3 => onV d3 fun v1 => isB v1 fun t2 => jn (fun d4 H3 => jn (fun d5 H4 => g249x7 d5 t2 b1 H4 Kb1) fun Kb2 => br t2 (Kb2 DV.n H3) (onV d4 fun v2 => isP v2 fun p1 => onA p1 fun b2 m1 => rdK H3 b2 m1 fun v3 => isI .i64 v3 fun n1 => Kb2 (DV.v (AV.i .i64 n1)) H3)) fun Kb2 => br t2 (Kb2 DV.n H2) (Kb2 (DV.v (AV.p (AP.at b1 nn19))) H2)) fun Kb2 => br t1 (Kb2 DV.n H1) (onV d1 fun v1 => isI .i64 v1 fun n1 => frcB (ilt n1 ii0) fun t2 => Kb2 (DV.v (AV.b t2)) H1)
def g249x9 := jn (fun d2 H2 => pickK t1 (DV.v (AV.b true)) d2 fun d3 => onV d3 fun v1 => isB v1 fun t2 => jn (fun d4 H3 => jn (fun d5 H4 => g249x8 d5 t2 b1 H4 Kb1) fun Kb2 => br t2 (Kb2 DV.n H3) (onV d4 fun v2 => isP v2 fun p1 => onA p1 fun b2 m1 => rdK H3 b2 m1 fun v3 => isI .i64 v3 fun n1 => Kb2 (DV.v (AV.i .i64 n1)) H3)) fun Kb2 => br t2 (Kb2 DV.n H2) (Kb2 (DV.v (AV.p (AP.at b1 nn19))) H2)) fun Kb2 => br t1 (Kb2 DV.n H1) (onV d1 fun v1 => isI .i64 v1 fun n1 => frcB (ile ii8 n1) fun t2 => Kb2 (DV.v (AV.b t2)) H1)
def g249x10 := lc R1 fun d1 R2 => ln R2 <| cellsD d1 fun l1 => alK H1 l1 fun b1 H2 => rdK H2 b1 nn18 fun v1 => isI .i64 v1 fun n1 => frcB (ilt n1 ii0) fun t1 => jn (fun d2 H3 => jn (fun d3 H4 => g249x9 d3 t1 b1 H4 Kb1) fun Kb2 => br t1 (Kb2 DV.n H3) (onV d2 fun v2 => isP v2 fun p1 => onA p1 fun b2 m1 => rdK H3 b2 m1 fun v3 => isI .i64 v3 fun n2 => Kb2 (DV.v (AV.i .i64 n2)) H3)) fun Kb2 => br t1 (Kb2 DV.n H2) (Kb2 (DV.v (AV.p (AP.at b1 nn18))) H2)
/-- qos.Bytes -/
def g249 : G DV := fun R1 H1 Kb1 => g249x10 R1 H1 Kb1
def G249 : G DV := g249

/-- slices.Contains[[]int,int] -/
def g162 : G DV := fun R1 H1 Kb1 => lc R1 fun d1 R2 => onV d1 fun v1 => isS v1 fun s1 => lc R2 fun d2 R3 => onV d2 fun v2 => isI .i64 v2 fun n1 => ln R3 <| c1 [(DV.v (AV.s s1)), (DV.v (AV.i .i64 n1))] H1 fun d3 H2 => onV d3 fun v3 => isI .i64 v3 fun n2 => frcB (ile ii0 n2) fun t1 => Kb1 (DV.v (AV.b t1)) H2
def G162 : G DV := g162 G254

/-- slices.ContainsFunc[[]ba.frame,ba.frame] -/
def g208 : G DV := fun R1 H1 Kb1 => lc R1 fun d1 R2 => onV d1 fun v1 => isS v1 fun s1 => lc R2 fun d2 R3 => ln R3 <| c1 [(DV.v (AV.s s1)), d2] H1 fun d3 H2 => onV d3 fun v2 => isI .i64 v2 fun n1 => frcB (ile ii0 n1) fun t1 => Kb1 (DV.v (AV.b t1)) H2
def G208 : G DV := g208 G291

/-- (*ba.Session).flies -/
def g207 : G DV := fun R1 H1 Kb1 => lc R1 fun d1 R2 => onV d1 fun v1 => isP v1 fun p1 => ln R2 <| onA p1 fun b1 m1 => rdK H1 b1 (Nat.add m1 nn6) fun v2 => isS v2 fun s1 => c1 [(DV.v (AV.s s1)), (DV.v (AV.fn (nat_lit 290) []))] H1 fun d2 H2 => onV d2 fun v3 => isB v3 fun t1 => Kb1 (DV.v (AV.b t1)) H2
def G207 : G DV := g207 G208

def g250x1 := slA s1 nn0 m1 (fun x => x) fun s2 => rdK H1 b1 nn0 fun v1 => isI .i64 v1 fun n1 => c1 [(DV.v (AV.s s2)), (DV.v (AV.i .i64 n1))] H1 fun d1 H2 => onV d1 fun v2 => isB v2 fun t1 => br t1 (Kb1 (DV.v (AV.b true)) H2) (onA p1 fun b2 m2 => rdK H2 b2 (Nat.add m2 nn6) fun v3 => isS v3 fun s3 => c2 [(DV.v (AV.s s3)), (DV.v (AV.fn (nat_lit 313) [(AP.at b1 nn0)]))] H2 fun d2 H3 => onV d2 fun v4 => isB v4 fun t2 => frcB (bnot t2) fun t3 => Kb1 (DV.v (AV.b t3)) H3)
def g250x2 := ixA s1 n1 (fun x => x) fun b1 m1 => rdK H1 b1 m1 fun v1 => isI .i64 v1 fun n2 => alB H1 (@T4.n AV yy1 te te te te) nn1 nn0 fun b2 H2 => wrK H2 b2 nn0 (AV.i .i64 n2) fun H3 => jF [(29 , .bool)] (fun d1 H4 => onV d1 fun v2 => isB v2 fun t1 => br t1 (Kb1 (DV.v (AV.er (nat_lit 6))) H4) (wrp .i64 (iadd n1 ii1) fun n3 => Kb2 (DV.v (AV.i .i64 n3)) H4)) fun Kb3 => natK n1 fun m2 => g250x1 m2 p1 b2 s1 H3 c1 c2 Kb3
def g250x3 := isS v1 fun s2 => ixA s2 n1 (fun x => Nat.mul x nn9) fun b1 m1 => rdK H1 b1 (Nat.add m1 nn5) fun v2 => isI .i64 v2 fun n2 => c1 [(DV.v (AV.s s1)), (DV.v (AV.i .i64 n2))] H1 fun d1 H2 => onV d1 fun v3 => isB v3 fun t1 => br t1 (wrK H2 b1 (Nat.add m1 nn8) (AV.b true) fun H3 => rdK H3 b1 (Nat.add m1 nn6) fun v4 => isI .i64 v4 fun n3 => wrp .i64 (iadd n3 ii1) fun n4 => wrK H3 b1 (Nat.add m1 nn6) (AV.i .i64 n4) fun H4 => Ka1 H4) (Ka1 H2)
def g250x4 := rdK H1 b1 (Nat.add m1 nn6) fun v1 => isS v1 fun s2 => lenA s2 fun m2 => lpR (failF [(40 , .int .i64)]) (fun Kb2 => fun d1 H2 => onV d1 fun v2 => isI .i64 v2 fun n1 => frcB (ilt n1 (Int.ofNat m2)) fun t1 => br t1 (jF [] (fun H3 => wrp .i64 (iadd n1 ii1) fun n2 => Kb2 (DV.v (AV.i .i64 n2)) H3) fun Ka1 => onA p1 fun b2 m3 => rdK H2 b2 (Nat.add m3 nn6) fun v3 => g250x3 v3 n1 s1 H2 c1 Ka1) (Kb1 (DV.v AV.ni) H2)) (nat_lit 100000) (DV.v (AV.i .i64 ii0)) H1
def g250x5 := isS v1 fun s1 => ln R1 <| lenA s1 fun m1 => lpR (failF [(11 , .int .i64)]) (fun Kb2 => fun d1 H2 => onV d1 fun v2 => isI .i64 v2 fun n1 => frcB (ilt n1 (Int.ofNat m1)) fun t1 => br t1 (g250x2 n1 p1 s1 H2 c1 c2 Kb1 Kb2) (c3 [(DV.v (AV.p p1))] H2 fun d2 H3 => onV d2 fun v3 => isB v3 fun t2 => br t2 (Kb1 (DV.v (AV.er (nat_lit 9))) H3) (onA p1 fun b1 m2 => g250x4 m2 p1 b1 s1 H3 c1 Kb1))) (nat_lit 100000) (DV.v (AV.i .i64 ii0)) H1
/-- (*ba.Session).Went -/
def g250 : G DV := fun R1 H1 Kb1 => lc R1 fun d1 R2 => onV d1 fun v1 => isP v1 fun p1 => lc R2 fun d2 R3 => onV d2 fun v2 => g250x5 v2 R3 p1 H1 c1 c3 c2 Kb1
def G250 : G DV := g250 G162 G207 G208

def g154x1 := onN d1 <| rdK H1 b1 nn5 fun v1 => isI .i64 v1 fun n2 => alB H1 (@T4.n AV (AV.i .i64 n2) te te te te) nn1 nn0 fun b2 H2 => appD nn1 nn8 s1 (AS.sl b2 nn0 nn1 nn1) H2 fun s4 H3 => alB H3 (@T4.n AV (AV.s s2) te te te te) nn1 nn0 fun b3 H4 => appD nn1 nn24 s3 (AS.sl b3 nn0 nn1 nn1) H4 fun s5 H5 => wrp .i64 (iadd n1 ii1) fun n3 => Kd1 (DV.v (AV.s s4)) (DV.v (AV.s s5)) (DV.v (AV.i .i64 n3)) H5
def g154x2 := rdK H1 b1 nn4 fun v1 => isS v1 fun s3 => must (Nat.beq (llen l1) nn6) <| must (Nat.beq (llen l2) nn6) <| must (Nat.beq (llen l3) nn6) <| c1 [(DV.a (lapp l1 (lapp l2 (lapp l3 ((AV.i .i64 n1) :: ((AV.i .i64 n2) :: ((AV.b t1) :: ((AV.b t2) :: ((AV.b t3) :: ((AV.s s3) :: []))))))))))] H1 fun d1 H2 => onC d1 fun d2 d3 => onV d2 fun v2 => isS v2 fun s4 => onC d3 fun d4 d5 => onV d4 fun v3 => g154x1 d5 n3 b1 s1 s4 s2 H2 Kd1
def g154x3 := rdR H1 b1 (Nat.add (Nat.add m1 nn11) nn6) nn6 fun l1 => onA p1 fun b3 m2 => rdR H1 b3 m2 nn6 fun l2 => onA p1 fun b4 m3 => rdR H1 b4 m3 nn6 fun l3 => onA p2 fun b5 m4 => rdK H1 b5 (Nat.add m4 nn2) fun v1 => isI .i64 v1 fun n2 => rdK H1 b2 nn5 fun v2 => isI .i64 v2 fun n3 => rdK H1 b2 nn6 fun v3 => isI .i64 v3 fun n4 => frcB (ilt ii0 n4) fun t3 => g154x2 l1 l2 l3 n2 n3 n1 t3 t1 t2 b2 s1 s2 H1 c1 Kd1
def g154x4 := wrK H1 b1 (Nat.add m1 nn6) (AV.b t1) fun H2 => onA p1 fun b2 m2 => wrK H2 b2 (Nat.add m2 nn7) (AV.s s1) fun H3 => onA p1 fun b3 m3 => must (Nat.beq (llen l1) nn5) <| wrL H3 b3 (Nat.add (Nat.add m3 nn11) nn12) l1 fun H4 => jF [] (fun H5 => onA p2 fun b4 m4 => rdK H5 b4 m4 fun v1 => isP v1 fun p3 => c1 [(DV.v (AV.p p3)), (DV.v (AV.s s2))] H5 fun d1 H6 => onV d1 fun v2 => Kb1 (DV.v (AV.p p1)) H6) fun Ka1 => br t1 (none) (Ka1 H4)
def g154x5 := br t1 (ixA s1 n1 (fun x => Nat.mul x nn8) fun b1 m1 => rdR H1 b1 m1 nn8 fun l1 => alB H1 z5 nn8 nn0 fun b2 H2 => must (Nat.beq (llen l1) nn8) <| wrL H2 b2 nn0 l1 fun H3 => onA p1 fun b3 m2 => g154x3 n1 m2 t2 t3 p2 p1 b3 b2 s2 s3 H3 c1 Kd1) (lenA s1 fun m1 => ixA s3 ii0 (fun x => x) fun b1 m2 => rdK H1 b1 m2 fun v1 => isS v1 fun s4 => onA p3 fun b2 m3 => rdR H1 b2 m3 nn5 fun l1 => onA p1 fun b3 m4 => wrK H1 b3 (Nat.add m4 nn4) (AV.i .i64 ii1) fun H2 => onA p1 fun b4 m5 => wrK H2 b4 (Nat.add m5 nn5) (AV.i .i64 (Int.ofNat m1)) fun H3 => onA p1 fun b5 m6 => g154x4 l1 m6 t4 p1 p4 b5 s4 s2 H3 c2 Kb1)
def g154x6 := onV d1 fun v1 => onN d2 <| lenA s1 fun m1 => lpR (failF [(15 , .slice), (16 , .slice), (77 , .int .i64)]) (fun Kd1 => fun d3 d4 d5 H2 => onV d3 fun v2 => isS v2 fun s2 => onV d4 fun v3 => isS v3 fun s3 => onV d5 fun v4 => isI .i64 v4 fun n1 => frcB (ilt n1 (Int.ofNat m1)) fun t4 => g154x5 n1 t4 t1 t2 t3 p1 p2 p3 p4 s1 s2 s3 H2 c1 c2 Kb1 Kd1) (nat_lit 100000) (DV.v (AV.s AS.nil)) (DV.v (AV.s AS.nil)) (DV.v (AV.i .i64 ii0)) H1
def g154x7 := onA p1 fun b2 m2 => rdK H1 b2 (Nat.add m2 nn1) fun v1 => isI .i64 v1 fun n1 => onA p1 fun b3 m3 => rdK H1 b3 (Nat.add m3 nn3) fun v2 => isI .i64 v2 fun n2 => c1 [(DV.v (AV.p (AP.at b1 (Nat.add m1 nn150)))), (DV.v (AV.i .i64 n1)), (DV.v (AV.i .i64 n2)), (DV.v (AV.b t1))] H1 fun d1 H2 => onC d1 fun d2 d3 => onV d2 fun v3 => isB v3 fun t3 => onC d3 fun d4 d5 => g154x6 d4 d5 t1 t3 t2 p1 p2 p3 p4 s1 H2 c2 c3 Kb1
def g154x8 := br t1 (Kb1 (DV.v (AV.p AP.nil)) H1) (onA p1 fun b1 m1 => rdK H1 b1 (Nat.add m1 nn1) fun v1 => isI .i64 v1 fun n1 => onA p1 fun b2 m2 => rdK H1 b2 (Nat.add m2 nn2) fun v2 => isI .i64 v2 fun n2 => lenA s1 fun m3 => c1 [(DV.v (AV.p p2)), (DV.v (AV.i .i64 n1)), (DV.v (AV.i .i64 n2)), (DV.v (AV.i .i64 (Int.ofNat m3)))] H1 fun d1 H2 => onV d1 fun v3 => isB v3 fun t3 => onA p2 fun b3 m4 => g154x7 m4 t3 t2 p1 p2 p3 p4 b3 s1 H2 c2 c3 c4 Kb1)
def g154x9 := c1 [(DV.v (AV.p p1)), (DV.v (AV.i .i64 n1))] H1 fun d1 H2 => onV d1 fun v1 => isP v1 fun p4 => onA p4 fun b1 m1 => rdR H2 b1 m1 nn5 fun l1 => c2 [(DV.v (AV.p p1)), (DV.v (AV.p p2)), (DV.v (AV.p p3)), (DV.a l1), (DV.v (AV.b t1))] H2 fun d2 H3 => onC d2 fun d3 d4 => onV d3 fun v2 => isS v2 fun s1 => onC d4 fun d5 d6 => onV d5 fun v3 => isB v3 fun t2 => onN d6 <| lenA s1 fun m2 => frcB (ieq (Int.ofNat m2) ii0) fun t3 => g154x8 t3 t2 p2 p1 p4 p3 s1 H3 c3 c4 c5 c6 Kb1
/-- (*ap.AP).data -/
def g154 : G DV := fun R1 H1 Kb1 => lc R1 fun d1 R2 => onV d1 fun v1 => isP v1 fun p1 => lc R2 fun d2 R3 => onV d2 fun v2 => isP v2 fun p2 => lc R3 fun d3 R4 => onV d3 fun v3 => isP v3 fun p3 => lc R4 fun d4 R5 => onV d4 fun v4 => isB v4 fun t1 => ln R5 <| onA p2 fun b1 m1 => rdK H1 b1 (Nat.add m1 nn1) fun v5 => isI .i64 v5 fun n1 => g154x9 n1 t1 p1 p2 p3 H1 c1 c4 c3 c2 c5 c6 Kb1
def G154 : G DV := g154 G42 G156 G157 G248 G249 G250

def g73x1 := jn (fun d2 H2 => jn (fun d3 H3 => jn (fun d4 H4 => pickK t1 (DV.v (AV.b true)) d4 fun d5 => onV d5 fun v1 => isB v1 fun t2 => c1 [(DV.v (AV.p p1)), (DV.v (AV.p (AP.at b1 nn0))), (DV.v (AV.p (AP.at b2 (Nat.add (Nat.add m1 nn6) (Nat.mul (itn n1) nn5))))), (DV.v (AV.b t2))] H4 fun d6 H5 => onV d6 fun v2 => isP v2 fun p2 => Kb1 (DV.v (AV.p p2)) H5) fun Kb2 => br t1 (Kb2 DV.n H3) (none)) fun Kb2 => br t1 (Kb2 DV.n H2) (Kb2 (DV.v (AV.i .i64 n2)) H2)) fun Kb2 => br t1 (Kb2 DV.n H1) (onV d1 fun v1 => isP v1 fun p2 => onA p2 fun b3 m2 => Kb2 (DV.v (AV.p (AP.at b3 (Nat.add m2 nn150)))) H1)
def g73x2 := br t1 (rdK H1 b1 (Nat.add (Nat.add m1 nn6) (Nat.mul (itn n1) nn5)) fun v1 => isP v1 fun p3 => onA p1 fun b3 m2 => rdK H1 b3 (Nat.add m2 nn5) fun v2 => isI .i64 v2 fun n3 => none) (jn (fun d1 H2 => jn (fun d2 H3 => g73x1 d2 n1 n2 m1 t2 p2 b2 b1 H3 c1 Kb1) fun Kb2 => br t2 (Kb2 DV.n H2) (onV d1 fun v1 => isP v1 fun p3 => onA p3 fun b3 m2 => Kb2 (DV.v (AV.p (AP.at b3 m2))) H2)) fun Kb2 => br t2 (Kb2 DV.n H1) (Kb2 (DV.v (AV.p p2)) H1))
def g73x3 := frcB (ilt ii1 n1) fun t1 => br t1 (rdK H1 b1 (Nat.add (Nat.add (Nat.add m1 nn6) (Nat.mul (itn n2) nn5)) nn2) fun v1 => isB v1 fun t2 => frcB (bnot t2) fun t3 => br t3 (rdK H1 b1 (Nat.add (Nat.add (Nat.add m1 nn6) (Nat.mul (itn n2) nn5)) nn1) fun v2 => isI .i64 v2 fun n3 => onA p1 fun b2 m2 => rdK H1 b2 (Nat.add m2 nn12) fun v3 => isI .i64 v3 fun n4 => frcB (ile n3 n4) fun t4 => Kb1 (DV.v (AV.b t4)) H1) (Kb1 (DV.v (AV.b false)) H1)) (Kb1 (DV.v (AV.b false)) H1)
def g73x4 := jF [(131 , .bool)] (fun d1 H2 => onV d1 fun v1 => isB v1 fun t2 => g73x2 n1 n2 m1 t2 t1 p1 p2 b1 b2 H2 c1 Kb1) fun Kb2 => br t1 (rdK H1 b1 (Nat.add (Nat.add m1 nn6) (Nat.mul (itn n1) nn5)) fun v1 => isP v1 fun p3 => c2 [(DV.v (AV.p p3))] H1 fun d1 H2 => onV d1 fun v2 => isS v2 fun s1 => lenA s1 fun m2 => frcB (ieq (Int.ofNat m2) ii0) fun t2 => br t2 (onA p2 fun b3 m3 => rdK H2 b3 (Nat.add m3 nn11) fun v3 => isI .i64 v3 fun n3 => g73x3 n3 n1 m1 p2 b1 H2 Kb2) (Kb2 (DV.v (AV.b false)) H2)) (Kb2 (DV.v (AV.b false)) H1)
def g73x5 := jF [] (fun H2 => onA p1 fun b4 m2 => c1 [(DV.v (AV.p p1)), (DV.v (AV.i .i64 n1)), (DV.v (AV.i .i64 ii0)), (DV.v (AV.i .i64 ii0))] H2 fun d1 H3 => onV d1 fun v1 => isB v1 fun t3 => c2 [(DV.v (AV.p (AP.at b4 (Nat.add m2 nn150)))), (DV.v (AV.i .i64 n1)), (DV.v (AV.i .i64 n2)), (DV.v (AV.b t3))] H3 fun d2 H4 => onC d2 fun d3 d4 => onV d3 fun v2 => isB v2 fun t4 => onC d4 fun d5 d6 => onV d5 fun v3 => onN d6 <| Kb1 (DV.v (AV.p (AP.at b1 nn0))) H4) fun Ka1 => br t1 (wrK H1 b1 nn4 (AV.i .i64 ii2) fun H2 => rdR H2 b2 nn0 nn6 fun l1 => onA p1 fun b4 m2 => rdR H2 b4 m2 nn6 fun l2 => must (Nat.beq (llen l1) nn6) <| must (Nat.beq (llen l2) nn6) <| none) (g73x4 n3 n1 m1 t2 p2 p1 b3 b1 H1 c3 c4 Kb1)
def g73x6 := c1 [(DV.v (AV.p p1))] H1 fun d1 H2 => onC d1 fun d2 d3 => onV d2 fun v1 => isI .i64 v1 fun n4 => onC d3 fun d4 d5 => onV d4 fun v2 => isB v2 fun t1 => onN d5 <| rdK H2 b1 (Nat.add (Nat.add m1 nn6) (Nat.mul (itn n1) nn5)) fun v3 => isP v3 fun p4 => c2 [(DV.v (AV.p p4))] H2 fun d6 H3 => onV d6 fun v4 => isI .i64 v4 fun n5 => frcB (ieq n5 ii1) fun t2 => g73x5 n2 n3 n1 m1 t1 t2 p2 p3 b2 b3 b1 H3 c3 c4 c5 c6 Kb1
def g73x7 := alK H1 ((AV.i .i64 ii0) :: ((AV.i .i64 n1) :: ((AV.i .i64 n2) :: ((AV.i .i64 n3) :: ((AV.i .i64 ii0) :: ((AV.i .i64 ii1) :: ((AV.b false) :: ((AV.s AS.nil) :: ((AV.i .i64 ii0) :: ((AV.i .i64 ii0) :: ((AV.i .i64 ii0) :: (lapp (lapp l1 (lapp l2 (lapp l3 ((AV.i .i64 n4) :: ((AV.i .i64 n5) :: ((AV.i .i64 n6) :: ((AV.i .i64 n7) :: ((AV.b t1) :: [])))))))) [])))))))))))) fun b3 H2 => rdK H2 b1 (Nat.add (Nat.add m1 nn6) (Nat.mul (itn n2) nn5)) fun v1 => isP v1 fun p3 => g73x6 n2 n1 n3 m1 p3 p1 p2 b1 b3 b2 H2 c1 c2 c3 c4 c5 c6 Kb1
def g73x8 := rdR H1 b1 m1 nn6 fun l4 => must (aleq l1 l4) <| frcB (ieq n1 ii3) fun t1 => must (Nat.beq (llen l1) nn6) <| must (Nat.beq (llen l2) nn6) <| must (Nat.beq (llen l3) nn5) <| must (Nat.beq (llen (lapp l1 (lapp l2 (lapp l3 ((AV.i .i64 n2) :: ((AV.i .i64 n3) :: ((AV.i .i64 n4) :: ((AV.i .i64 n5) :: ((AV.b t1) :: []))))))))) nn22) <| g73x7 l1 l2 l3 n6 n7 n8 n2 n3 n4 n5 m2 t1 p1 p2 b2 b3 H1 c1 c2 c3 c4 c5 c6 Kb1
def g73x9 := rdR H1 b1 nn0 nn6 fun l4 => must (aleq l1 l4) <| rdR H1 b2 m1 nn6 fun l5 => must (aleq l2 l5) <| c1 [(DV.v (AV.p p1))] H1 fun d1 H2 => onV d1 fun v1 => isI .i64 v1 fun n8 => rdK H2 b3 (Nat.add m2 nn14) fun v2 => must (aveq (AV.i .i64 n1) v2) <| rdR H2 b1 nn0 nn6 fun l6 => must (aleq l1 l6) <| g73x8 l2 l1 l3 n8 n2 n3 n1 n4 n5 n6 n7 m1 m3 p2 p3 b2 b4 b1 H2 c2 c1 c3 c4 c5 c6 Kb1
def g73x10 := rdR H1 b1 m1 nn6 fun l4 => must (aleq l1 l4) <| c1 [(DV.v (AV.p p1))] H1 fun d1 H2 => onV d1 fun v1 => isI .i64 v1 fun n7 => rdK H2 b2 (Nat.add (Nat.add m2 nn6) (Nat.mul (itn n1) nn5)) fun v2 => must (aveq (AV.p p2) v2) <| rdK H2 b3 (Nat.add m3 nn14) fun v3 => must (aveq (AV.i .i64 n2) v3) <| g73x9 l2 l1 l3 n2 n3 n7 n4 n5 n1 n6 m1 m3 m2 p2 p3 p4 b4 b1 b3 b2 H2 c2 c3 c4 c5 c6 c7 Kb1
def g73x11 := rdK H1 b1 (Nat.add (Nat.add m1 nn6) (Nat.mul (itn n1) nn5)) fun v1 => must (aveq (AV.p p1) v1) <| rdK H1 b2 (Nat.add m2 nn14) fun v2 => must (aveq (AV.i .i64 n2) v2) <| rdK H1 b1 (Nat.add (Nat.add m1 nn6) (Nat.mul (itn n1) nn5)) fun v3 => must (aveq (AV.p p2) v3) <| rdR H1 b3 nn0 nn6 fun l4 => must (aleq l1 l4) <| g73x10 l2 l1 l3 n1 n2 n3 n4 n5 n6 m3 m1 m2 p2 p1 p3 p4 b4 b1 b2 b3 H1 c1 c2 c3 c4 c5 c6 c7 Kb1
def g73x12 := rdK H1 b1 (Nat.add (Nat.add m1 nn6) (Nat.mul (itn n1) nn5)) fun v1 => must (aveq (AV.p p1) v1) <| rdR H1 b2 nn0 nn6 fun l4 => must (aleq l1 l4) <| rdR H1 b3 m2 nn6 fun l5 => must (aleq l2 l5) <| c1 [(DV.v (AV.p p1))] H1 fun d1 H2 => onV d1 fun v2 => isI .i64 v2 fun n6 => g73x11 l1 l2 l3 n1 n2 n6 n3 n4 n5 m1 m3 m2 p2 p3 p4 p5 b1 b4 b2 b3 H2 c2 c3 c4 c5 c6 c7 c8 Kb1
def g73x13 := onL d1 fun l3 => rdK H1 b1 (Nat.add (Nat.add m1 nn6) (Nat.mul (itn n1) nn5)) fun v1 => must (aveq (AV.p p1) v1) <| rdK H1 b2 (Nat.add m2 nn14) fun v2 => must (aveq (AV.i .i64 n2) v2) <| rdK H1 b1 (Nat.add (Nat.add m1 nn6) (Nat.mul (itn n1) nn5)) fun v3 => must (aveq (AV.p p2) v3) <| g73x12 l1 l2 l3 n1 n2 n3 n4 n5 m1 m3 m2 p3 p1 p2 p4 p5 b1 b3 b4 b2 H1 c1 c2 c3 c4 c5 c6 c7 c8 Kb1
def g73x14 := rdK H1 b1 (Nat.add (Nat.add m1 nn6) (Nat.mul (itn n1) nn5)) fun v1 => isP v1 fun p4 => onA p1 fun b4 m3 => rdK H1 b4 (Nat.add m3 nn14) fun v2 => isI .i64 v2 fun n5 => rdK H1 b1 (Nat.add (Nat.add m1 nn6) (Nat.mul (itn n1) nn5)) fun v3 => isP v3 fun p5 => c1 [] H1 fun d1 H2 => g73x13 l1 l2 d1 n1 n5 n2 n3 n4 m1 m3 m2 p5 p4 p2 p1 p3 b1 b4 b2 b3 H2 c2 c3 c4 c5 c6 c7 c8 c9 Kb1
def g73x15 := jF [(12 , .int .i64)] (fun d1 H2 => onV d1 fun v1 => isI .i64 v1 fun n5 => onA p1 fun b3 m2 => rdR H2 b3 m2 nn6 fun l1 => rdR H2 b1 nn0 nn6 fun l2 => rdK H2 b2 (Nat.add (Nat.add m1 nn6) (Nat.mul (itn n1) nn5)) fun v2 => isP v2 fun p3 => g73x14 l2 l1 n1 n5 n2 n3 m1 m2 p1 p3 p2 b2 b1 b3 H2 c1 c2 c3 c4 c5 c6 c7 c8 c9 Kb1) fun Kb2 => frcB (ieq n4 ii0) fun t1 => br t1 (Kb2 (DV.v (AV.i .i64 ii54840)) H1) (Kb2 (DV.v (AV.i .i64 n4)) H1)
def g73x16 := isB v1 fun t1 => onN d1 <| alB H1 z0 nn6 nn0 fun b2 H2 => must (Nat.beq (llen l1) nn6) <| wrL H2 b2 nn0 l1 fun H3 => c1 [(DV.v (AV.i .i64 n1))] H3 fun d2 H4 => onV d2 fun v2 => isI .i64 v2 fun n3 => onA p1 fun b3 m2 => rng n3 nn4 <| rdK H4 b3 (Nat.add (Nat.add m2 nn15) (itn n3)) fun v3 => isI .i64 v3 fun n4 => g73x15 n1 n2 n3 n4 m1 p1 p2 b2 b1 H4 c2 c3 c4 c5 c6 c7 c8 c9 c10 Kb1
def g73x17 := c1 [(DV.v (AV.p p1)), (DV.v (AV.i .i64 n1))] H1 fun d1 H2 => onV d1 fun v1 => isP v1 fun p2 => onA p2 fun b1 m1 => rng n2 nn8 <| onA p1 fun b2 m2 => c2 [(DV.v (AV.p (AP.at b2 (Nat.add m2 nn22)))), (DV.v (AV.i .i64 n1))] H2 fun d2 H3 => onC d2 fun d3 d4 => onL d3 fun l1 => onC d4 fun d5 d6 => onV d5 fun v2 => g73x16 v2 l1 d6 n2 n1 m1 p1 p2 b1 H3 c3 c4 c5 c6 c7 c8 c9 c10 c11 c12 Kb1
/-- (*ap.AP).make -/
def g73 : G DV := fun R1 H1 Kb1 => lc R1 fun d1 R2 => onV d1 fun v1 => isP v1 fun p1 => lc R2 fun d2 R3 => onV d2 fun v2 => isI .i64 v2 fun n1 => lc R3 fun d3 R4 => onV d3 fun v3 => isI .i64 v3 fun n2 => ln R4 <| g73x17 n1 n2 p1 H1 c1 c4 c3 c5 c6 c7 c2 c8 c12 c11 c10 c9 Kb1
def G73 : G DV := g73 G42 G110 G143 G145 G146 G147 G148 G149 G151 G154 G156 G157

def g161x1 := br t1 (Kb1 (DV.c (DV.v (AV.i .i64 ii7)) (DV.c (DV.v (AV.i .i64 ii4)) (DV.c (DV.v (AV.i .i64 ii1)) DV.n))) H1) (frcB (ieq n1 ii3) fun t2 => br t2 (Kb1 (DV.c (DV.v (AV.i .i64 ii9)) (DV.c (DV.v (AV.i .i64 ii8)) (DV.c (DV.v (AV.i .i64 ii1)) DV.n))) H1) (frcB (ieq n1 ii4) fun t3 => br t3 (Kb1 (DV.c (DV.v (AV.i .i64 ii11)) (DV.c (DV.v (AV.i .i64 ii8)) (DV.c (DV.v (AV.i .i64 ii2)) DV.n))) H1) (Kb1 (DV.c (DV.v (AV.i .i64 im1)) (DV.c (DV.v (AV.i .i64 ii0)) (DV.c (DV.v (AV.i .i64 im1)) DV.n))) H1)))
/-- rate.tops -/
def g161 : G DV := fun R1 H1 Kb1 => lc R1 fun d1 R2 => onV d1 fun v1 => isI .i64 v1 fun n1 => ln R2 <| frcB (ieq n1 ii1) fun t1 => br t1 (Kb1 (DV.c (DV.v (AV.i .i64 ii7)) (DV.c (DV.v (AV.i .i64 ii1)) (DV.c (DV.v (AV.i .i64 ii0)) DV.n))) H1) (frcB (ieq n1 ii2) fun t2 => g161x1 n1 t2 H1 Kb1)
def G161 : G DV := g161

def z21 : T4 AV := (@T4.n AV yy13 (@T4.n AV yy14 te te te te) (@T4.n AV yy15 te te te te) (@T4.n AV yy16 te te te te) te)
def g163x1 := br t1 (alB H1 (@T4.n AV yy13 (@T4.n AV yy14 te te te te) te te te) nn2 nn0 fun b1 H2 => Kb1 (DV.v (AV.s (AS.sl b1 nn0 nn2 nn2))) H2) (jF [(10 , .bool)] (fun d1 H2 => onV d1 fun v1 => isB v1 fun t2 => br t2 (alB H2 z21 nn4 nn0 fun b1 H3 => Kb1 (DV.v (AV.s (AS.sl b1 nn0 nn4 nn4))) H3) (Kb1 (DV.v (AV.s AS.nil)) H2)) fun Kb2 => frcB (ieq n1 ii3) fun t2 => br t2 (Kb2 (DV.v (AV.b t2)) H1) (frcB (ieq n1 ii4) fun t3 => Kb2 (DV.v (AV.b t3)) H1))
/-- rate.widths -/
def g163 : G DV := fun R1 H1 Kb1 => lc R1 fun d1 R2 => onV d1 fun v1 => isI .i64 v1 fun n1 => ln R2 <| frcB (ieq n1 ii1) fun t1 => br t1 (alB H1 (@T4.n AV yy13 te te te te) nn1 nn0 fun b1 H2 => Kb1 (DV.v (AV.s (AS.sl b1 nn0 nn1 nn1))) H2) (frcB (ieq n1 ii2) fun t2 => g163x1 n1 t2 H1 Kb1)
def G163 : G DV := g163

def g75x1 := must (aveq (AV.i .i64 n1) v1) <| c1 [(DV.v (AV.s s1)), (DV.v (AV.i .i64 n2))] H1 fun d1 H2 => onV d1 fun v2 => isB v2 fun t1 => rdK H2 b1 nn4 fun v3 => must (aveq (AV.i .i64 n3) v3) <| rdK H2 b1 nn2 fun v4 => must (aveq (AV.i .i64 n4) v4) <| rdK H2 b1 nn2 fun v5 => must (aveq (AV.i .i64 n5) v5) <| rdK H2 b1 nn1 fun v6 => must (aveq (AV.i .i64 n6) v6) <| rdK H2 b1 nn1 fun v7 => must (aveq (AV.i .i64 n1) v7) <| Kb1 (DV.v (AV.b t1)) H2
def g75x2 := c1 [(DV.v (AV.i .i64 n1))] H1 fun d1 H2 => onV d1 fun v1 => isS v1 fun s1 => rdK H2 b1 nn3 fun v2 => must (aveq (AV.i .i64 n2) v2) <| rdK H2 b1 nn4 fun v3 => must (aveq (AV.i .i64 n3) v3) <| rdK H2 b1 nn2 fun v4 => must (aveq (AV.i .i64 n4) v4) <| rdK H2 b1 nn2 fun v5 => must (aveq (AV.i .i64 n5) v5) <| rdK H2 b1 nn1 fun v6 => must (aveq (AV.i .i64 n6) v6) <| rdK H2 b1 nn1 fun v7 => g75x1 v7 n7 n2 n3 n4 n5 n6 b1 s1 H2 c2 Kb1
def g75x3 := frcB (ile n1 n2) fun t1 => br t1 (rdK H1 b1 nn4 fun v1 => isI .i64 v1 fun n7 => frcB (ile ii0 n7) fun t2 => br t2 (rdK H1 b1 nn4 fun v2 => isI .i64 v2 fun n8 => frcB (ile n8 n3) fun t3 => br t3 (rdK H1 b1 nn0 fun v3 => isI .i64 v3 fun n9 => rdK H1 b1 nn3 fun v4 => isI .i64 v4 fun n10 => g75x2 n9 n10 n7 n1 n4 n5 n6 b1 H1 c1 c2 Kb1) (Kb1 (DV.v (AV.b false)) H1)) (Kb1 (DV.v (AV.b false)) H1)) (Kb1 (DV.v (AV.b false)) H1)
def g75x4 := rdK H1 b1 nn1 fun v1 => isI .i64 v1 fun n4 => frcB (ile ii0 n4) fun t1 => br t1 (rdK H1 b1 nn1 fun v2 => isI .i64 v2 fun n5 => frcB (ile n5 n1) fun t2 => br t2 (rdK H1 b1 nn2 fun v3 => isI .i64 v3 fun n6 => frcB (ile ii1 n6) fun t3 => br t3 (rdK H1 b1 nn2 fun v4 => isI .i64 v4 fun n7 => g75x3 n7 n2 n3 n6 n5 n4 b1 H1 c1 c2 Kb1) (Kb1 (DV.v (AV.b false)) H1)) (Kb1 (DV.v (AV.b false)) H1)) (Kb1 (DV.v (AV.b false)) H1)
/-- rate.Valid -/
def g75 : G DV := fun R1 H1 Kb1 => lc R1 fun d1 R2 => ln R2 <| cellsD d1 fun l1 => alK H1 l1 fun b1 H2 => rdK H2 b1 nn0 fun v1 => isI .i64 v1 fun n1 => c1 [(DV.v (AV.i .i64 n1))] H2 fun d2 H3 => onC d2 fun d3 d4 => onV d3 fun v2 => isI .i64 v2 fun n2 => onC d4 fun d5 d6 => onV d5 fun v3 => isI .i64 v3 fun n3 => onC d6 fun d7 d8 => onV d7 fun v4 => isI .i64 v4 fun n4 => onN d8 <| g75x4 n2 n3 n4 b1 H3 c3 c2 Kb1
def G75 : G DV := pure1 (g75 G161 G162 G163)

def z22 : T4 AV := (@T4.n AV yy17 (@T4.n AV yy18 (@T4.n AV yy19 te te te te) te te te) (@T4.n AV yy20 (@T4.n AV yy21 te te te te) te te te) (@T4.n AV yy22 (@T4.n AV yy23 te te te te) te te te) (@T4.n AV yy24 te te te te))
def g314x1 := isB v1 fun t1 => frcB (bnot t1) fun t2 => br t2 (Kb1 (DV.v (AV.i .i64 ii0)) H1) (rdK H1 b1 nn0 fun v2 => isI .i64 v2 fun n1 => frcB (ieq n1 ii1) fun t3 => br t3 (alB H1 z22 nn8 nn0 fun b2 H2 => rdK H2 b1 nn1 fun v3 => isI .i64 v3 fun n2 => ixA (AS.sl b2 nn0 nn8 nn8) n2 (fun x => x) fun b3 m1 => rdK H2 b3 m1 fun v4 => isI .i64 v4 fun n3 => Kb1 (DV.v (AV.i .i64 n3)) H2) (rdK H1 b1 nn1 fun v3 => isI .i64 v3 fun n2 => none))
/-- rate.Bits -/
def g314 : G DV := fun R1 H1 Kb1 => lc R1 fun d1 R2 => ln R2 <| cellsD d1 fun l1 => alK H1 l1 fun b1 H2 => rdR H2 b1 nn0 nn5 fun l2 => c1 [(DV.a l2)] H2 fun d2 H3 => onV d2 fun v1 => g314x1 v1 b1 H3 Kb1
def G314 : G DV := g314 G75

def g315x1 := frcB (ieq n1 ii1) fun t1 => br t1 (Kb1 (DV.v (AV.i .i64 ii200)) H1) (frcB (ieq n1 ii2) fun t2 => br t2 (wrp .i64 (imul ii40 n2) fun n3 => wrp .i64 (iadd ii320 n3) fun n4 => Kb1 (DV.v (AV.i .i64 n4)) H1) (frcB (ieq n1 ii3) fun t3 => br t3 (wrp .i64 (imul ii40 n2) fun n3 => wrp .i64 (iadd ii360 n3) fun n4 => Kb1 (DV.v (AV.i .i64 n4)) H1) (wrp .i64 (imul ii80 n2) fun n3 => wrp .i64 (iadd ii360 n3) fun n4 => Kb1 (DV.v (AV.i .i64 n4)) H1)))
def g315x2 := br t1 (Kb1 (DV.v (AV.i .i64 ii0)) H1) (rdK H1 b1 nn2 fun v1 => isI .i64 v1 fun n1 => rdK H1 b1 nn2 fun v2 => isI .i64 v2 fun n2 => must (bnot (ieq ii2 ii0)) <| asI (irem n2 ii2) fun n3 => rdK H1 b1 nn2 fun v3 => isI .i64 v3 fun n4 => wrp .i64 (isub n4 ii1) fun n5 => asI (imin n5 ii1) fun n6 => wrp .i64 (imul n3 n6) fun n7 => wrp .i64 (iadd n1 n7) fun n8 => rdK H1 b1 nn0 fun v4 => isI .i64 v4 fun n9 => g315x1 n9 n8 H1 Kb1)
/-- rate.Preamble -/
def g315 : G DV := fun R1 H1 Kb1 => lc R1 fun d1 R2 => ln R2 <| cellsD d1 fun l1 => alK H1 l1 fun b1 H2 => rdR H2 b1 nn0 nn5 fun l2 => c1 [(DV.a l2)] H2 fun d2 H3 => onV d2 fun v1 => isB v1 fun t1 => frcB (bnot t1) fun t2 => g315x2 t2 b1 H3 Kb1
def G315 : G DV := g315 G75

def z23 : T4 AV := (@T4.n AV yy16 (@T4.n AV yy19 te te te te) (@T4.n AV yy25 te te te te) te te)
def g316x1 := isI .i64 v1 fun n1 => frcB (ieq n1 ii4) fun t1 => br t1 (alB H1 z23 nn3 nn0 fun b2 H2 => rdK H2 b1 nn4 fun v2 => isI .i64 v2 fun n2 => ixA (AS.sl b2 nn0 nn3 nn3) n2 (fun x => x) fun b3 m1 => rdK H2 b3 m1 fun v3 => isI .i64 v3 fun n3 => Kb1 (DV.v (AV.i .i64 n3)) H2) (rdK H1 b1 nn4 fun v2 => isI .i64 v2 fun n2 => frcB (ieq n2 ii1) fun t2 => br t2 (Kb1 (DV.v (AV.i .i64 ii36)) H1) (Kb1 (DV.v (AV.i .i64 ii40)) H1))
/-- rate.Symbol -/
def g316 : G DV := fun R1 H1 Kb1 => lc R1 fun d1 R2 => ln R2 <| cellsD d1 fun l1 => alK H1 l1 fun b1 H2 => rdR H2 b1 nn0 nn5 fun l2 => c1 [(DV.a l2)] H2 fun d2 H3 => onV d2 fun v1 => isB v1 fun t1 => frcB (bnot t1) fun t2 => br t2 (Kb1 (DV.v (AV.i .i64 ii0)) H3) (rdK H3 b1 nn0 fun v2 => g316x1 v2 b1 H3 Kb1)
def G316 : G DV := g316 G75

def g251x1 := wrp .i64 (isub n1 ii1) fun n3 => must (bnot (ieq n2 ii0)) <| wrp .i64 (iquo n3 n2) fun n4 => rdR H1 b1 nn0 nn5 fun l1 => rdR H1 b1 nn0 nn5 fun l2 => c1 [(DV.a l1)] H1 fun d1 H2 => onV d1 fun v1 => isI .i64 v1 fun n5 => rdR H2 b1 nn0 nn5 fun l3 => must (aleq l2 l3) <| c2 [(DV.a l2)] H2 fun d2 H3 => onV d2 fun v2 => isI .i64 v2 fun n6 => wrp .i64 (imul n4 n6) fun n7 => wrp .i64 (iadd n5 n7) fun n8 => Kb1 (DV.v (AV.i .i64 n8)) H3
def g251x2 := jn (fun d2 H2 => pickK t1 (DV.v (AV.b true)) d2 fun d3 => onV d3 fun v1 => isB v1 fun t2 => br t2 (Kb1 (DV.v (AV.i .i64 ii0)) H2) (rdR H2 b1 nn0 nn5 fun l1 => c1 [(DV.a l1)] H2 fun d4 H3 => onV d4 fun v2 => isI .i64 v2 fun n2 => wrp .i64 (imul ii8 n1) fun n3 => wrp .i64 (iadd ii22 n3) fun n4 => wrp .i64 (iadd n4 n2) fun n5 => g251x1 n5 n2 b1 H3 c2 c3 Kb1)) fun Kb2 => br t1 (Kb2 DV.n H1) (onV d1 fun v1 => isI .i64 v1 fun n2 => frcB (ilt ii1048576 n2) fun t2 => Kb2 (DV.v (AV.b t2)) H1)
def g251x3 := frcB (bnot t1) fun t2 => jn (fun d1 H2 => jn (fun d2 H3 => pickK t2 (DV.v (AV.b true)) d2 fun d3 => onV d3 fun v1 => isB v1 fun t3 => jn (fun d4 H4 => g251x2 d4 n1 t3 b1 H4 c1 c2 c3 Kb1) fun Kb2 => br t3 (Kb2 DV.n H3) (Kb2 (DV.v (AV.i .i64 n1)) H3)) fun Kb2 => br t2 (Kb2 DV.n H2) (onV d1 fun v1 => isI .i64 v1 fun n2 => frcB (ilt n2 ii0) fun t3 => Kb2 (DV.v (AV.b t3)) H2)) fun Kb2 => br t2 (Kb2 DV.n H1) (Kb2 (DV.v (AV.i .i64 n1)) H1)
/-- air.Ppdu -/
def g251 : G DV := fun R1 H1 Kb1 => lc R1 fun d1 R2 => lc R2 fun d2 R3 => onV d2 fun v1 => isI .i64 v1 fun n1 => ln R3 <| cellsD d1 fun l1 => alK H1 l1 fun b1 H2 => rdR H2 b1 nn0 nn5 fun l2 => c1 [(DV.a l2)] H2 fun d3 H3 => onV d3 fun v2 => isB v2 fun t1 => g251x3 n1 t1 b1 H3 c2 c3 c4 Kb1
def G251 : G DV := pure1 (g251 G75 G314 G315 G316)

/-- air.Answer -/
def g252 : G DV := fun R1 H1 Kb1 => ln R1 <| c1 [(DV.a z16), (DV.v (AV.i .i64 ii32))] H1 fun d1 H2 => onV d1 fun v1 => isI .i64 v1 fun n1 => wrp .i64 (iadd ii160 n1) fun n2 => Kb1 (DV.v (AV.i .i64 n2)) H2
def G252 : G DV := g252 G251

def g158x1 := rdR H1 b1 nn0 nn5 fun l1 => c1 [(DV.a l1), (DV.v (AV.i .i64 n1))] H1 fun d1 H2 => onV d1 fun v1 => isI .i64 v1 fun n2 => frcB (ieq n2 ii0) fun t1 => br t1 (Kb1 (DV.v (AV.i .i64 ii0)) H2) (rdR H2 b1 nn0 nn5 fun l2 => c1 [(DV.a l2), (DV.v (AV.i .i64 n1))] H2 fun d2 H3 => onV d2 fun v2 => isI .i64 v2 fun n3 => c2 [] H3 fun d3 H4 => onV d3 fun v3 => isI .i64 v3 fun n4 => wrp .i64 (iadd n3 n4) fun n5 => Kb1 (DV.v (AV.i .i64 n5)) H4)
/-- air.Total -/
def g158 : G DV := fun R1 H1 Kb1 => lc R1 fun d1 R2 => lc R2 fun d2 R3 => onV d2 fun v1 => isI .i64 v1 fun n1 => ln R3 <| cellsD d1 fun l1 => alK H1 l1 fun b1 H2 => g158x1 n1 b1 H2 c1 c2 Kb1
def G158 : G DV := pure1 (g158 G251 G252)

def g253x1 := lc R1 fun d2 R2 => onV d2 fun v1 => isI .i64 v1 fun n1 => ln R2 <| onV d1 fun v2 => isM v2 fun m1 v3 => br (Nat.beq (nat_lit 270) m1) (c1 [(DV.v v3)] H1 fun d3 H2 => onV d3 fun v4 => isI .i64 v4 fun n2 => c2 [d1, (DV.v (AV.i .i64 n1)), (DV.v (AV.i .i64 n2))] H2 fun d4 H3 => onV d4 fun v5 => isB v5 fun t1 => frcB (bnot t1) fun t2 => br t2 (c3 [d1, (DV.v (AV.i .i64 n1))] H3 fun d5 H4 => Kb1 DV.n H4) (Kb1 DV.n H3)) (none)
/-- container/heap.Fix -/
def g253 : G DV := fun R1 H1 Kb1 => lc R1 fun d1 R2 => g253x1 d1 R2 H1 c1 c3 c2 Kb1
def G253 : G DV := g253 G140 G235 G236

def g159x1 := wrK H1 b1 (Nat.add m1 nn2) (AV.i .i64 n1) fun H2 => jF [] (fun H3 => Kb1 (DV.v AV.ni) H3) fun Ka1 => onA p1 fun b2 m2 => rdK H2 b2 (Nat.add m2 nn3) fun v1 => isB v1 fun t1 => br t1 (onA p2 fun b3 m3 => rdK H2 b3 (Nat.add m3 nn16) fun v2 => isP v2 fun p3 => onA p1 fun b4 m4 => rdK H2 b4 (Nat.add m4 nn4) fun v3 => isI .i64 v3 fun n2 => c1 [(DV.v (AV.ifc (nat_lit 270) (AV.p p3))), (DV.v (AV.i .i64 n2))] H2 fun d1 H3 => Ka1 H3) (Ka1 H2)
def g159x2 := isB v1 fun t1 => br t1 (Kb1 (DV.v (AV.er (nat_lit 2))) H1) (onA p1 fun b1 m1 => rdK H1 b1 (Nat.add m1 nn2) fun v2 => isI .i64 v2 fun n2 => wrp .i64 (imul ii10000 n1) fun n3 => onA p1 fun b2 m2 => rdK H1 b2 (Nat.add m2 nn1) fun v3 => isI .i64 v3 fun n4 => must (bnot (ieq n4 ii0)) <| wrp .i64 (iquo n3 n4) fun n5 => wrp .i64 (iadd n2 n5) fun n6 => asI (imin n6 ii1152921504606846976) fun n7 => onA p1 fun b3 m3 => g159x1 n7 m3 p1 p2 b3 H1 c1 Kb1)
def g159x3 := onV d1 fun v1 => isP v1 fun p2 => frcB (isNilA p2) fun t1 => br t1 (Kb1 (DV.v (AV.er (nat_lit 6))) H1) (frcB (ilt n1 ii0) fun t2 => jn (fun d2 H2 => jn (fun d3 H3 => pickK t2 (DV.v (AV.b true)) d3 fun d4 => onV d4 fun v2 => g159x2 v2 n1 p2 p1 H3 c1 Kb1) fun Kb2 => br t2 (Kb2 DV.n H2) (onV d2 fun v2 => isI .i64 v2 fun n2 => frcB (ilt ii1099511627776 n2) fun t3 => Kb2 (DV.v (AV.b t3)) H2)) fun Kb2 => br t2 (Kb2 DV.n H1) (Kb2 (DV.v (AV.i .i64 n1)) H1))
/-- (*sched.Sched).Charge -/
def g159 : G DV := fun R1 H1 Kb1 => lc R1 fun d1 R2 => onV d1 fun v1 => isP v1 fun p1 => lc R2 fun d2 R3 => onV d2 fun v2 => isI .i64 v2 fun n1 => lc R3 fun d3 R4 => onV d3 fun v3 => isI .i64 v3 fun n2 => ln R4 <| c1 [(DV.v (AV.p p1)), (DV.v (AV.i .i64 n1))] H1 fun d4 H2 => g159x3 d4 n2 p1 H2 c2 Kb1
def G159 : G DV := g159 G167 G253

def g160x1 := jn (fun d2 H2 => pickK t1 (DV.v (AV.b true)) d2 fun d3 => onV d3 fun v1 => isB v1 fun t2 => br t2 (Kb1 (DV.v (AV.er (nat_lit 2))) H2) (wrp .i64 (isub n1 ii1) fun n3 => onA p1 fun b1 m1 => rng n3 nn16 <| rdK H2 b1 (Nat.add (Nat.add m1 nn2) (itn n3)) fun v2 => isI .i64 v2 fun n4 => wrp .i64 (iadd n4 n2) fun n5 => onA p1 fun b2 m2 => rng n3 nn16 <| wrK H2 b2 (Nat.add (Nat.add m2 nn2) (itn n3)) (AV.i .i64 n5) fun H3 => Kb1 (DV.v AV.ni) H3)) fun Kb2 => br t1 (Kb2 DV.n H1) (onV d1 fun v1 => isB v1 fun t2 => frcB (bnot t2) fun t3 => Kb2 (DV.v (AV.b t3)) H1)
def g160x2 := lc R1 fun d1 R2 => onV d1 fun v1 => isI .i64 v1 fun n2 => ln R2 <| c1 [(DV.v (AV.i .i64 n1))] H1 fun d2 H2 => onV d2 fun v2 => isB v2 fun t1 => frcB (bnot t1) fun t2 => jn (fun d3 H3 => jn (fun d4 H4 => g160x1 d4 n1 n2 t2 p1 H4 Kb1) fun Kb2 => br t2 (Kb2 DV.n H3) (c2 [d3] H3 fun d4 H4 => onV d4 fun v3 => isB v3 fun t3 => Kb2 (DV.v (AV.b t3)) H4)) fun Kb2 => br t2 (Kb2 DV.n H2) (Kb2 (DV.v (AV.i .i64 n2)) H2)
/-- (*aql.Limit).Add -/
def g160 : G DV := fun R1 H1 Kb1 => lc R1 fun d1 R2 => onV d1 fun v1 => isP v1 fun p1 => lc R2 fun d2 R3 => onV d2 fun v2 => isI .i64 v2 fun n1 => g160x2 R3 n1 p1 H1 c1 c2 Kb1
def G160 : G DV := g160 G102 G103

def z24 : T4 AV := (@T4.n AV yy1 (@T4.n AV yy1 (@T4.n AV yy1 te te te te) (@T4.n AV yy1 te te te te) te te) (@T4.n AV yy1 (@T4.n AV yy3 te te te te) te te te) (@T4.n AV yy1 (@T4.n AV yy4 te te te te) te te te) (@T4.n AV yy1 (@T4.n AV yy1 te te te te) te te te))
def g74x1 := onA p1 fun b2 m1 => rdR H1 b2 m1 nn10 fun l1 => alB H1 z24 nn10 nn0 fun b3 H2 => must (Nat.beq (llen l1) nn10) <| wrL H2 b3 nn0 l1 fun H3 => onA p1 fun b4 m2 => rdK H3 b4 (Nat.add m2 nn7) fun v1 => isS v1 fun s1 => appD nn1 nn1 AS.nil s1 H3 fun s2 H4 => wrK H4 b3 nn7 (AV.s s2) fun H5 => rdR H5 b3 nn0 nn10 fun l2 => must (Nat.beq (llen l2) nn10) <| wrL H5 b1 nn0 l2 fun H6 => rdR H6 b1 nn0 nn10 fun l3 => Kb1 (DV.a l3) H6
def g74x2 := onA p1 fun b2 m1 => rng n1 nn8 <| wrK H1 b2 (Nat.add (Nat.add (Nat.add m1 nn6) (Nat.mul (itn n1) nn5)) nn4) (AV.b true) fun H2 => onA p2 fun b3 m2 => rdK H2 b3 (Nat.add m2 nn346) fun v1 => isS v1 fun s1 => alB H2 (@T4.n AV (AV.p p3) te te te te) nn1 nn0 fun b4 H3 => appD nn1 nn8 s1 (AS.sl b4 nn0 nn1 nn1) H3 fun s2 H4 => onA p2 fun b5 m3 => wrK H4 b5 (Nat.add m3 nn346) (AV.s s2) fun H5 => g74x1 p3 b1 H5 Kb1
def g74x3 := rng n1 nn4 <| rdK H1 b1 (Nat.add (Nat.add m1 nn46) (itn n1)) fun v1 => isI .i64 v1 fun n2 => onA p1 fun b3 m2 => rdK H1 b3 (Nat.add m2 nn8) fun v2 => isI .i64 v2 fun n3 => wrp .i64 (iadd n2 n3) fun n4 => onA p2 fun b4 m3 => rng n1 nn4 <| wrK H1 b4 (Nat.add (Nat.add m3 nn46) (itn n1)) (AV.i .i64 n4) fun H2 => onA p1 fun b5 m4 => rdK H2 b5 (Nat.add m4 nn2) fun v3 => isI .i64 v3 fun n5 => g74x2 n5 p2 p3 p1 b2 H2 Kb1
def g74x4 := isP v1 fun p4 => onA p1 fun b2 m1 => rdK H1 b2 (Nat.add m1 nn1) fun v2 => isI .i64 v2 fun n1 => onA p1 fun b3 m2 => rdK H1 b3 (Nat.add m2 nn8) fun v3 => isI .i64 v3 fun n2 => c1 [(DV.v (AV.p p4)), (DV.v (AV.i .i64 n1)), (DV.v (AV.i .i64 n2))] H1 fun d1 H2 => onV d1 fun v4 => onA p1 fun b4 m3 => rdK H2 b4 (Nat.add m3 nn3) fun v5 => isI .i64 v5 fun n3 => onA p2 fun b5 m4 => g74x3 n3 m4 p1 p2 p3 b5 b1 H2 Kb1
def g74x5 := rdK H1 b1 (Nat.add (Nat.add m1 nn313) (itn n1)) fun v1 => isP v1 fun p4 => onA p1 fun b3 m2 => rdK H1 b3 (Nat.add m2 nn1) fun v2 => isI .i64 v2 fun n2 => onA p1 fun b4 m3 => rdK H1 b4 (Nat.add m3 nn8) fun v3 => isI .i64 v3 fun n3 => c1 [(DV.v (AV.p p4)), (DV.v (AV.i .i64 n2)), (DV.v (AV.i .i64 n3))] H1 fun d1 H2 => onV d1 fun v4 => onA p2 fun b5 m4 => rdK H2 b5 (Nat.add m4 nn312) fun v5 => g74x4 v5 p1 p3 p2 b2 H2 c2 Kb1
def g74x6 := onA p1 fun b2 m1 => rdK H1 b2 (Nat.add m1 nn7) fun v1 => isS v1 fun s1 => lenA s1 fun m2 => c1 [(DV.a l1), (DV.v (AV.i .i64 (Int.ofNat m2)))] H1 fun d1 H2 => onV d1 fun v2 => isI .i64 v2 fun n1 => onA p1 fun b3 m3 => wrK H2 b3 (Nat.add m3 nn8) (AV.i .i64 n1) fun H3 => onA p1 fun b4 m4 => rdK H3 b4 (Nat.add m4 nn3) fun v3 => isI .i64 v3 fun n2 => onA p2 fun b5 m5 => rng n2 nn4 <| g74x5 n2 m5 p1 p2 p3 b5 b1 H3 c2 c3 Kb1
def g74x7 := wrp .i64 (iadd n1 ii1) fun n3 => onA p1 fun b2 m1 => wrK H1 b2 (Nat.add m1 nn345) (AV.i .i64 n3) fun H2 => onA p1 fun b3 m2 => rdK H2 b3 (Nat.add m2 nn345) fun v1 => isI .i64 v1 fun n4 => onA p2 fun b4 m3 => wrK H2 b4 m3 (AV.i .i64 n4) fun H3 => onA p2 fun b5 m4 => wrK H3 b5 (Nat.add m4 nn9) (AV.i .i64 n2) fun H4 => onA p2 fun b6 m5 => rdR H4 b6 (Nat.add (Nat.add m5 nn11) nn12) nn5 fun l1 => g74x6 l1 p2 p1 p3 b1 H4 c1 c2 c3 Kb1
def g74x8 := isP v1 fun p2 => lc R1 fun d1 R2 => onV d1 fun v2 => isI .i64 v2 fun n1 => ln R2 <| alB H1 z24 nn10 nn0 fun b1 H2 => onA p2 fun b2 m1 => rdK H2 b2 (Nat.add m1 nn1) fun v3 => isI .i64 v3 fun n2 => c1 [(DV.v (AV.p p1)), (DV.v (AV.i .i64 n2))] H2 fun d2 H3 => onV d2 fun v4 => isP v4 fun p3 => onA p1 fun b3 m2 => rdK H3 b3 (Nat.add m2 nn345) fun v5 => isI .i64 v5 fun n3 => g74x7 n3 n1 p1 p2 p3 b1 H3 c2 c3 c4 Kb1
/-- (*ap.AP).launch -/
def g74 : G DV := fun R1 H1 Kb1 => lc R1 fun d1 R2 => onV d1 fun v1 => isP v1 fun p1 => lc R2 fun d2 R3 => onV d2 fun v2 => g74x8 v2 R3 p1 H1 c1 c2 c3 c4 Kb1
def G74 : G DV := g74 G42 G158 G159 G160

def z25 : List AV := [(AV.i .i64 ii0), (AV.i .i64 ii0), (AV.i .i64 ii0), (AV.i .i64 ii0), (AV.i .i64 ii0), (AV.i .i64 ii0), (AV.b false), (AV.s AS.nil), (AV.i .i64 ii0), (AV.i .i64 ii0)]
def g23x1 := jF [] (fun H2 => wrp .i64 (iadd n1 ii1) fun n3 => Kb1 (DV.v (AV.i .i64 n3)) H2) fun Ka1 => c1 [(DV.v (AV.p p1)), (DV.v (AV.i .i64 n2))] H1 fun d1 H2 => onV d1 fun v1 => isP v1 fun p2 => onA p2 fun b1 m1 => rng n1 nn8 <| rdK H2 b1 (Nat.add (Nat.add (Nat.add m1 nn6) (Nat.mul (itn n1) nn5)) nn4) fun v2 => isB v2 fun t1 => frcB (bnot t1) fun t2 => br t2 (c2 [(DV.v (AV.p p1)), (DV.v (AV.p (AP.at b1 (Nat.add (Nat.add m1 nn6) (Nat.mul (itn n1) nn5)))))] H2 fun d2 H3 => Ka1 H3) (Ka1 H2)
def g23x2 := c1 [(DV.v (AV.p p1)), (DV.v (AV.i .i64 n1)), (DV.v (AV.i .i64 n2))] H1 fun d1 H2 => onV d1 fun v1 => isP v1 fun p2 => frcB (bnot (isNilA p2)) fun t1 => br t1 (c2 [(DV.v (AV.p p1)), (DV.v (AV.p p2)), (DV.v (AV.i .i64 n3))] H2 fun d2 H3 => onL d2 fun l1 => must (Nat.beq (llen l1) nn10) <| wrL H3 b1 nn0 l1 fun H4 => rdR H4 b1 nn0 nn10 fun l2 => Kb1 (DV.c (DV.a l2) (DV.c (DV.v (AV.b true)) DV.n)) H4) (wrp .i64 (iadd n4 ii1) fun n5 => Kb2 (DV.v (AV.i .i64 n5)) H2)
def g23x3 := c1 [(DV.v (AV.p p1)), (DV.v (AV.i .i64 n1)), (DV.v (AV.i .i64 n2))] H1 fun d1 H2 => onV d1 fun v1 => isS v1 fun s1 => lenA s1 fun m1 => lpR (failF [(98 , .int .i64)]) (fun Kb2 => fun d2 H3 => onV d2 fun v2 => isI .i64 v2 fun n4 => frcB (ilt n4 (Int.ofNat m1)) fun t1 => br t1 (ixA s1 n4 (fun x => x) fun b2 m2 => rdK H3 b2 m2 fun v3 => isI .i64 v3 fun n5 => g23x2 n1 n5 n3 n4 p1 b1 H3 c2 c3 Kb1 Kb2) (Ka1 H3)) (nat_lit 100000) (DV.v (AV.i .i64 ii0)) H2
def g23x4 := jF [] (fun H2 => wrp .i64 (iadd n1 ii1) fun n4 => Kb1 (DV.v (AV.i .i64 n4)) H2) fun Ka1 => ixA s1 n1 (fun x => x) fun b2 m1 => rdK H1 b2 m1 fun v1 => isI .i64 v1 fun n4 => onA p1 fun b3 m2 => rdK H1 b3 (Nat.add m2 nn312) fun v2 => isP v2 fun p2 => c1 [(DV.v (AV.p p2)), (DV.v (AV.i .i64 n4))] H1 fun d1 H2 => onV d1 fun v3 => isB v3 fun t1 => frcB (bnot t1) fun t2 => br t2 (Ka1 H2) (g23x3 n4 n2 n3 p1 b1 H2 c2 c3 c4 Ka1 Kb2)
def g23x5 := c1 [(DV.v (AV.p p1))] H1 fun d1 H2 => onV d1 fun v1 => isS v1 fun s1 => lenA s1 fun m1 => lpR (failF [(82 , .int .i64)]) (fun Kb2 => fun d2 H3 => onV d2 fun v2 => isI .i64 v2 fun n3 => frcB (ilt n3 (Int.ofNat m1)) fun t1 => br t1 (g23x4 n3 n1 n2 p2 b1 s1 H3 c2 c3 c4 c5 Kb2 Kb1) (wrL H3 b1 nn0 z25 fun H4 => rdR H4 b1 nn0 nn10 fun l1 => Kb1 (DV.c (DV.a l1) (DV.c (DV.v (AV.b false)) DV.n)) H4)) (nat_lit 100000) (DV.v (AV.i .i64 ii0)) H2
def g23x6 := onC d1 fun d2 d3 => onV d2 fun v1 => isI .i64 v1 fun n2 => onC d3 fun d4 d5 => onV d4 fun v2 => isB v2 fun t1 => onN d5 <| frcB (bnot t1) fun t2 => br t2 (wrL H1 b1 nn0 z25 fun H2 => rdR H2 b1 nn0 nn10 fun l1 => Kb1 (DV.c (DV.a l1) (DV.c (DV.v (AV.b false)) DV.n)) H2) (onA p1 fun b2 m1 => rng n1 nn4 <| rdK H1 b2 (Nat.add (Nat.add m1 nn313) (itn n1)) fun v3 => isP v3 fun p2 => g23x5 n1 n2 p2 p1 b1 H1 c1 c2 c3 c4 c5 Kb1)
def g23x7 := br t1 (ixA s1 n1 (fun x => x) fun b3 m1 => rdK H1 b3 m1 fun v1 => isI .i64 v1 fun n2 => lpR (failF [(40 , .int .i64)]) (fun Kb3 => fun d1 H2 => onV d1 fun v2 => isI .i64 v2 fun n3 => frcB (ilt n3 ii8) fun t2 => br t2 (g23x1 n3 n2 p1 H2 c1 c2 Kb3) (wrp .i64 (iadd n1 ii1) fun n4 => Kb1 (DV.v (AV.i .i64 n4)) H2)) (nat_lit 100000) (DV.v (AV.i .i64 ii0)) H1) (onA p1 fun b3 m1 => rdR H1 b1 nn0 nn4 fun l1 => c3 [(DV.v (AV.p p1))] H1 fun d1 H2 => onL d1 fun l2 => rdR H2 b1 nn0 nn4 fun l3 => must (aleq l1 l3) <| c4 [(DV.v (AV.p (AP.at b3 (Nat.add m1 nn317)))), (DV.a l2), (DV.a l1)] H2 fun d2 H3 => onC d2 fun d3 d4 => onV d3 fun v1 => isI .i64 v1 fun n2 => g23x6 d4 n2 p1 b2 H3 c5 c6 c7 c8 c9 Kb2)
def g23x8 := wrK H1 b1 (Nat.add m1 nn21) (AV.i .i64 n1) fun H2 => onA p1 fun b4 m2 => c1 [(DV.v (AV.p (AP.at b4 (Nat.add m2 nn22))))] H2 fun d1 H3 => onV d1 fun v1 => isS v1 fun s1 => lenA s1 fun m3 => lpR (failF [(36 , .int .i64)]) (fun Kb2 => fun d2 H4 => onV d2 fun v2 => isI .i64 v2 fun n2 => frcB (ilt n2 (Int.ofNat m3)) fun t1 => g23x7 n2 t1 p1 b2 b3 s1 H4 c2 c3 c4 c5 c6 c7 c8 c9 c10 Kb2 Kb1) (nat_lit 100000) (DV.v (AV.i .i64 ii0)) H3
def g23x9 := cellsD d1 fun l1 => alK H1 l1 fun b1 H2 => alB H2 z24 nn10 nn0 fun b2 H3 => onA p1 fun b3 m1 => rdK H3 b3 (Nat.add m1 nn21) fun v1 => isI .i64 v1 fun n2 => frcB (ilt n1 n2) fun t1 => br t1 (wrL H3 b2 nn0 z25 fun H4 => rdR H4 b2 nn0 nn10 fun l2 => Kb1 (DV.c (DV.a l2) (DV.c (DV.v (AV.b false)) DV.n)) H4) (onA p1 fun b4 m2 => g23x8 n1 m2 p1 b4 b1 b2 H3 c1 c2 c3 c4 c5 c6 c7 c8 c9 c10 Kb1)
/-- (*ap.AP).Send -/
def g23 : G DV := fun R1 H1 Kb1 => lc R1 fun d1 R2 => onV d1 fun v1 => isP v1 fun p1 => lc R2 fun d2 R3 => onV d2 fun v2 => isI .i64 v2 fun n1 => lc R3 fun d3 R4 => ln R4 <| g23x9 d3 n1 p1 H1 c3 c1 c2 c5 c4 c6 c7 c8 c9 c10 Kb1
def G23 : G DV := g23 G42 G47 G67 G68 G69 G70 G71 G72 G73 G74

def g164x1 := jn (fun d3 H2 => pickK t1 d3 (DV.v (AV.b false)) fun d4 => onV d4 fun v1 => isB v1 fun t2 => br t2 (wrp .i64 (iadd n1 ii1) fun n2 => Kb1 (DV.c (DV.v (AV.i .i64 n2)) (DV.c (DV.v (AV.b true)) DV.n)) H2) (wrp .i64 (iadd n1 ii1) fun n2 => Kb2 (DV.v (AV.i .i64 n2)) H2)) fun Kb3 => br t1 (onL d1 fun l1 => onL d2 fun l2 => intsK .u8 l1 fun x1 => intsK .u8 l2 fun x2 => must (Nat.beq (leni x1) nn6) <| must (Nat.beq (leni x2) nn6) <| frcB (leqI x1 x2) fun t2 => Kb3 (DV.v (AV.b t2)) H1) (Kb3 DV.n H1)
def g164x2 := wrL H1 b1 nn0 (ltake (nat_lit 8) (ldrop (Nat.mul (itn n1) nn8) l1)) fun H2 => rdK H2 b1 nn0 fun v1 => isB v1 fun t1 => jn (fun d1 H3 => jn (fun d2 H4 => jn (fun d3 H5 => g164x1 d2 d3 n1 t1 H5 Kb1 Kb2) fun Kb3 => br t1 (rdR H4 b2 nn0 nn6 fun l2 => Kb3 (DV.a l2) H4) (Kb3 DV.n H4)) fun Kb3 => br t1 (onV d1 fun v2 => isP v2 fun p1 => onA p1 fun b3 m1 => rdR H3 b3 m1 nn6 fun l2 => Kb3 (DV.a l2) H3) (Kb3 DV.n H3)) fun Kb3 => br t1 (Kb3 (DV.v (AV.p (AP.at b1 nn1))) H2) (Kb3 DV.n H2)
def g164x3 := onA p1 fun b2 m1 => rdR H1 b2 m1 nn128 fun l1 => lpR (failF [(12 , .int .i64)]) (fun Kb2 => fun d1 H2 => onV d1 fun v1 => isI .i64 v1 fun n1 => frcB (ilt n1 ii16) fun t1 => br t1 (rng n1 nn16 <| alB H2 z9 nn8 nn0 fun b3 H3 => must (Nat.beq (llen (ltake (nat_lit 8) (ldrop (Nat.mul (itn n1) nn8) l1))) nn8) <| g164x2 l1 n1 b3 b1 H3 Kb1 Kb2) (Kb1 (DV.c (DV.v (AV.i .i64 ii0)) (DV.c (DV.v (AV.b false)) DV.n)) H2)) (nat_lit 100000) (DV.v (AV.i .i64 ii0)) H1
/-- (*sta.Table).Find -/
def g164 : G DV := fun R1 H1 Kb1 => lc R1 fun d1 R2 => onV d1 fun v1 => isP v1 fun p1 => lc R2 fun d2 R3 => ln R3 <| cellsD d2 fun l1 => alK H1 l1 fun b1 H2 => g164x3 p1 b1 H2 Kb1
def G164 : G DV := g164

def g76x1 := rdR H1 b1 nn0 nn6 fun l2 => must (aleq l1 l2) <| must (Nat.beq (llen l1) nn6) <| wrL H1 b2 (Nat.add (Nat.add m1 (Nat.mul (itn n1) nn8)) nn1) l1 fun H2 => rdK H2 b2 (Nat.add (Nat.add m1 (Nat.mul (itn n1) nn8)) nn7) fun v1 => isI .i64 v1 fun n2 => wrp .i64 (iadd n2 ii1) fun n3 => wrK H2 b2 (Nat.add (Nat.add m1 (Nat.mul (itn n1) nn8)) nn7) (AV.i .i64 n3) fun H3 => wrp .i64 (iadd n1 ii1) fun n4 => Kb1 (DV.c (DV.v (AV.i .i64 n4)) (DV.c (DV.v AV.ni) DV.n)) H3
def g76x2 := frcB (ilt n1 ii16) fun t1 => br t1 (onA p1 fun b2 m1 => rng n1 nn16 <| rdK H1 b2 (Nat.add m1 (Nat.mul (itn n1) nn8)) fun v1 => isB v1 fun t2 => frcB (bnot t2) fun t3 => br t3 (rdR H1 b1 nn0 nn6 fun l1 => wrK H1 b2 (Nat.add m1 (Nat.mul (itn n1) nn8)) (AV.b true) fun H2 => g76x1 l1 n1 m1 b1 b2 H2 Kb1) (wrp .i64 (iadd n1 ii1) fun n2 => Kb2 (DV.v (AV.i .i64 n2)) H1)) (Kb1 (DV.c (DV.v (AV.i .i64 ii0)) (DV.c (DV.v (AV.er (nat_lit 8))) DV.n)) H1)
def g76x3 := rdR H1 b1 nn0 nn6 fun l1 => c1 [(DV.v (AV.p p1)), (DV.a l1)] H1 fun d1 H2 => onC d1 fun d2 d3 => onV d2 fun v1 => isI .i64 v1 fun n1 => onC d3 fun d4 d5 => onV d4 fun v2 => isB v2 fun t1 => onN d5 <| br t1 (Kb1 (DV.c (DV.v (AV.i .i64 ii0)) (DV.c (DV.v (AV.er (nat_lit 7))) DV.n)) H2) (lpR (failF [(22 , .int .i64)]) (fun Kb2 => fun d6 H3 => onV d6 fun v3 => isI .i64 v3 fun n2 => g76x2 n2 p1 b1 H3 Kb1 Kb2) (nat_lit 100000) (DV.v (AV.i .i64 ii0)) H2)
/-- (*sta.Table).Add -/
def g76 : G DV := fun R1 H1 Kb1 => lc R1 fun d1 R2 => onV d1 fun v1 => isP v1 fun p1 => lc R2 fun d2 R3 => ln R3 <| cellsD d2 fun l1 => alK H1 l1 fun b1 H2 => rdR H2 b1 nn0 nn6 fun l2 => c1 [(DV.a l2)] H2 fun d3 H3 => onV d3 fun v2 => isB v2 fun t1 => frcB (bnot t1) fun t2 => br t2 (Kb1 (DV.c (DV.v (AV.i .i64 ii0)) (DV.c (DV.v (AV.er (nat_lit 2))) DV.n)) H3) (g76x3 p1 b1 H3 c2 Kb1)
def G76 : G DV := g76 G65 G164

/-- sched.fair -/
def g166 : G DV := fun R1 H1 Kb1 => lc R1 fun d1 R2 => onV d1 fun v1 => isI .i64 v1 fun n1 => ln R2 <| frcB (ile ii1 n1) fun t1 => jn (fun d2 H2 => jn (fun d3 H3 => pickK t1 d3 (DV.v (AV.b false)) fun d4 => onV d4 fun v2 => isB v2 fun t2 => Kb1 (DV.v (AV.b t2)) H3) fun Kb2 => br t1 (onV d2 fun v2 => isI .i64 v2 fun n2 => frcB (ile n2 ii100) fun t2 => Kb2 (DV.v (AV.b t2)) H2) (Kb2 DV.n H2)) fun Kb2 => br t1 (Kb2 (DV.v (AV.i .i64 n1)) H1) (Kb2 DV.n H1)
def G166 : G DV := g166

def g77x1 := frcB (bnot (isNilA p1)) fun t1 => br t1 (Kb1 (DV.v (AV.er (nat_lit 7))) H1) (wrp .i64 (isub n1 ii1) fun n3 => alB H1 (@T4.n AV (AV.i .i64 n1) (@T4.n AV (AV.i .i64 n2) te te te te) (@T4.n AV yy1 te te te te) (@T4.n AV yy3 te te te te) (@T4.n AV yy1 te te te te)) nn5 nn0 fun b1 H2 => onA p2 fun b2 m1 => rng n3 nn16 <| wrK H2 b2 (Nat.add m1 (itn n3)) (AV.p (AP.at b1 nn0)) fun H3 => Kb1 (DV.v AV.ni) H3)
def g77x2 := jn (fun d2 H2 => jn (fun d3 H3 => pickK t1 (DV.v (AV.b true)) d3 fun d4 => onV d4 fun v1 => isB v1 fun t2 => br t2 (Kb1 (DV.v (AV.er (nat_lit 2))) H3) (c1 [(DV.v (AV.p p1)), (DV.v (AV.i .i64 n1))] H3 fun d5 H4 => onV d5 fun v2 => isP v2 fun p2 => g77x1 n1 n2 p2 p1 H4 Kb1)) fun Kb2 => br t1 (Kb2 DV.n H2) (onV d2 fun v1 => isB v1 fun t2 => frcB (bnot t2) fun t3 => Kb2 (DV.v (AV.b t3)) H2)) fun Kb2 => br t1 (Kb2 DV.n H1) (c2 [d1] H1 fun d2 H2 => onV d2 fun v1 => isB v1 fun t2 => Kb2 (DV.v (AV.b t2)) H2)
/-- (*sched.Sched).Add -/
def g77 : G DV := fun R1 H1 Kb1 => lc R1 fun d1 R2 => onV d1 fun v1 => isP v1 fun p1 => lc R2 fun d2 R3 => onV d2 fun v2 => isI .i64 v2 fun n1 => lc R3 fun d3 R4 => onV d3 fun v3 => isI .i64 v3 fun n2 => ln R4 <| c1 [(DV.v (AV.i .i64 n1))] H1 fun d4 H2 => onV d4 fun v4 => isB v4 fun t1 => frcB (bnot t1) fun t2 => jn (fun d5 H3 => g77x2 d5 n1 n2 t2 p1 H3 c3 c2 Kb1) fun Kb2 => br t2 (Kb2 DV.n H2) (Kb2 (DV.v (AV.i .i64 n2)) H2)
def G77 : G DV := g77 G165 G166 G167

def g78x1 := rdR H1 b1 nn0 nn4 fun l1 => must (Nat.beq (llen l1) nn4) <| onA p1 fun b2 m1 => rng n1 nn16 <| must (Nat.beq (llen ((AV.b true) :: ((AV.b false) :: ((AV.b false) :: ((AV.b false) :: (lapp l1 ((AV.i .i64 n2) :: ((AV.i .i64 ii0) :: [])))))))) nn10) <| wrL H1 b2 (Nat.add m1 (Nat.mul (itn n1) nn10)) ((AV.b true) :: ((AV.b false) :: ((AV.b false) :: ((AV.b false) :: (lapp l1 ((AV.i .i64 n2) :: ((AV.i .i64 ii0) :: []))))))) fun H2 => Kb1 (DV.v AV.ni) H2
def g78x2 := jn (fun d2 H2 => pickK t1 (DV.v (AV.b true)) d2 fun d3 => onV d3 fun v1 => isB v1 fun t2 => br t2 (Kb1 (DV.v (AV.er (nat_lit 2))) H2) (c1 [(DV.v (AV.p p1)), (DV.v (AV.i .i64 n1))] H2 fun d4 H3 => onV d4 fun v2 => isP v2 fun p2 => frcB (bnot (isNilA p2)) fun t3 => br t3 (Kb1 (DV.v (AV.er (nat_lit 7))) H3) (wrp .i64 (isub n1 ii1) fun n3 => g78x1 n3 n2 p1 b1 H3 Kb1))) fun Kb2 => br t1 (Kb2 DV.n H1) (onV d1 fun v1 => isI .i64 v1 fun n3 => frcB (ilt ii8 n3) fun t2 => Kb2 (DV.v (AV.b t2)) H1)
def g78x3 := isB v1 fun t1 => jn (fun d1 H2 => jn (fun d2 H3 => pickK t1 (DV.v (AV.b true)) d2 fun d3 => onV d3 fun v2 => isB v2 fun t2 => jn (fun d4 H4 => g78x2 d4 n1 n2 t2 p1 b1 H4 c1 Kb1) fun Kb2 => br t2 (Kb2 DV.n H3) (Kb2 (DV.v (AV.i .i64 n2)) H3)) fun Kb2 => br t1 (Kb2 DV.n H2) (onV d1 fun v2 => isI .i64 v2 fun n3 => frcB (ilt n3 ii0) fun t2 => Kb2 (DV.v (AV.b t2)) H2)) fun Kb2 => br t1 (Kb2 DV.n H1) (Kb2 (DV.v (AV.i .i64 n2)) H1)
def g78x4 := onV d1 fun v1 => isI .i64 v1 fun n2 => ln R1 <| cellsD d2 fun l1 => alK H1 l1 fun b1 H2 => frcB (ilt n1 ii1) fun t1 => jn (fun d3 H3 => jn (fun d4 H4 => pickK t1 (DV.v (AV.b true)) d4 fun d5 => onV d5 fun v2 => g78x3 v2 n1 n2 p1 b1 H4 c1 Kb1) fun Kb2 => br t1 (Kb2 DV.n H3) (onV d3 fun v2 => isI .i64 v2 fun n3 => frcB (ilt ii16 n3) fun t2 => Kb2 (DV.v (AV.b t2)) H3)) fun Kb2 => br t1 (Kb2 DV.n H2) (Kb2 (DV.v (AV.i .i64 n1)) H2)
/-- (*ps.Power).Add -/
def g78 : G DV := fun R1 H1 Kb1 => lc R1 fun d1 R2 => onV d1 fun v1 => isP v1 fun p1 => lc R2 fun d2 R3 => onV d2 fun v2 => isI .i64 v2 fun n1 => lc R3 fun d3 R4 => lc R4 fun d4 R5 => g78x4 d4 d3 R5 n1 p1 H1 c1 Kb1
def G78 : G DV := g78 G168

def z26 : List AV := [(AV.i .i64 ii0), (AV.i .i64 ii0), (AV.i .i64 ii0), (AV.i .i64 ii0)]
def g24x1 := c1 [(DV.v (AV.i .i64 n1)), (DV.v (AV.i .i64 n2)), (DV.v (AV.i .i64 n3))] H1 fun d1 H2 => onC d1 fun d2 d3 => onV d2 fun v1 => isP v1 fun p1 => onC d3 fun d4 d5 => onV d4 fun v2 => onN d5 <| rng n4 nn8 <| wrK H2 b1 (Nat.add nn6 (Nat.mul (itn n4) nn5)) (AV.p p1) fun H3 => ifA true true v2 AV.ni fun t1 => frcB (bnot t1) fun t2 => br t2 (Kb1 (DV.c (DV.v (AV.i .i64 ii0)) (DV.c (DV.v v2) DV.n)) H3) (wrp .i64 (iadd n4 ii1) fun n5 => Kb2 (DV.v (AV.i .i64 n5)) H3)
def g24x2 := c1 [(DV.v (AV.p (AP.at b1 (Nat.add m1 nn150)))), (DV.v (AV.i .i64 n1)), (DV.a l1), (DV.v (AV.i .i64 n2))] H1 fun d1 H2 => onV d1 fun v1 => ifA true true v1 AV.ni fun t1 => frcB (bnot t1) fun t2 => br t2 (Kb1 (DV.c (DV.v (AV.i .i64 ii0)) (DV.c (DV.v v1) DV.n)) H2) (wrp .i64 (isub n1 ii1) fun n3 => onA p1 fun b3 m2 => rng n3 nn16 <| wrK H2 b3 (Nat.add (Nat.add m2 nn329) (itn n3)) (AV.p (AP.at b2 nn0)) fun H3 => Kb1 (DV.c (DV.v (AV.i .i64 n1)) (DV.c (DV.v AV.ni) DV.n)) H3)
def g24x3 := br t1 (rng n1 nn4 <| lgetK (itn n1) l1 fun v1 => isP v1 fun p2 => c1 [(DV.v (AV.p p2)), (DV.v (AV.i .i64 n2)), (DV.v (AV.i .i64 n3))] H1 fun d1 H2 => onV d1 fun v2 => ifA true true v2 AV.ni fun t2 => frcB (bnot t2) fun t3 => br t3 (Kb1 (DV.c (DV.v (AV.i .i64 ii0)) (DV.c (DV.v v2) DV.n)) H2) (wrp .i64 (iadd n1 ii1) fun n5 => Kb2 (DV.v (AV.i .i64 n5)) H2)) (onA p1 fun b3 m1 => rdR H1 b1 nn0 nn4 fun l2 => g24x2 l2 n2 n4 m1 p1 b3 b2 H1 c2 Kb1)
def g24x4 := br t1 (onA p1 fun b3 m1 => rdK H1 b3 (Nat.add m1 nn11) fun v1 => isI .i64 v1 fun n5 => onA p1 fun b4 m2 => rdK H1 b4 (Nat.add m2 nn12) fun v2 => isI .i64 v2 fun n6 => onA p1 fun b5 m3 => rdK H1 b5 (Nat.add m3 nn13) fun v3 => isI .i64 v3 fun n7 => g24x1 n5 n6 n7 n1 b1 H1 c1 Kb1 Kb2) (onA p1 fun b3 m1 => rdR H1 b3 (Nat.add m1 nn313) nn4 fun l1 => lpR (failF [(107 , .int .i64)]) (fun Kb3 => fun d1 H2 => onV d1 fun v1 => isI .i64 v1 fun n5 => frcB (ilt n5 ii4) fun t2 => g24x3 l1 n5 n2 n3 n4 t2 p1 b2 b1 H2 c2 c3 Kb1 Kb3) (nat_lit 100000) (DV.v (AV.i .i64 ii0)) H1)
def g24x5 := alK H1 (lapp l1 ((AV.i .i64 ii0) :: ((AV.p AP.nil) :: ((AV.i .i64 ii0) :: ((AV.b false) :: ((AV.b false) :: ((AV.b false) :: ((AV.p AP.nil) :: ((AV.i .i64 ii0) :: ((AV.b false) :: ((AV.b false) :: ((AV.b false) :: ((AV.p AP.nil) :: ((AV.i .i64 ii0) :: ((AV.b false) :: ((AV.b false) :: ((AV.b false) :: ((AV.p AP.nil) :: ((AV.i .i64 ii0) :: ((AV.b false) :: ((AV.b false) :: ((AV.b false) :: ((AV.p AP.nil) :: ((AV.i .i64 ii0) :: ((AV.b false) :: ((AV.b false) :: ((AV.b false) :: ((AV.p AP.nil) :: ((AV.i .i64 ii0) :: ((AV.b false) :: ((AV.b false) :: ((AV.b false) :: ((AV.p AP.nil) :: ((AV.i .i64 ii0) :: ((AV.b false) :: ((AV.b false) :: ((AV.b false) :: ((AV.p AP.nil) :: ((AV.i .i64 ii0) :: ((AV.b false) :: ((AV.b false) :: ((AV.b false) :: z26)))))))))))))))))))))))))))))))))))))))))) fun b2 H2 => lpR (failF [(71 , .int .i64)]) (fun Kb2 => fun d1 H3 => onV d1 fun v1 => isI .i64 v1 fun n4 => frcB (ilt n4 ii8) fun t1 => g24x4 n4 n1 n2 n3 t1 p1 b2 b1 H3 c1 c2 c3 Kb1 Kb2) (nat_lit 100000) (DV.v (AV.i .i64 ii0)) H2
def g24x6 := rdR H1 b1 nn0 nn6 fun l1 => c1 [(DV.v (AV.p (AP.at b2 (Nat.add m1 nn22)))), (DV.a l1)] H1 fun d1 H2 => onC d1 fun d2 d3 => onV d2 fun v1 => isI .i64 v1 fun n3 => onC d3 fun d4 d5 => onV d4 fun v2 => onN d5 <| ifA true true v2 AV.ni fun t1 => frcB (bnot t1) fun t2 => br t2 (Kb1 (DV.c (DV.v (AV.i .i64 ii0)) (DV.c (DV.v v2) DV.n)) H2) (rdR H2 b3 nn0 nn5 fun l2 => must (Nat.beq (llen l2) nn5) <| g24x5 l2 n3 n1 n2 p1 b4 H2 c2 c3 c4 Kb1)
def g24x7 := jn (fun d1 H2 => jn (fun d2 H3 => pickK t1 (DV.v (AV.b true)) d2 fun d3 => onV d3 fun v1 => isB v1 fun t2 => br t2 (Kb1 (DV.c (DV.v (AV.i .i64 ii0)) (DV.c (DV.v (AV.er (nat_lit 2))) DV.n)) H3) (onA p1 fun b4 m1 => g24x6 n1 n2 m1 p1 b1 b4 b2 b3 H3 c1 c2 c3 c4 Kb1)) fun Kb2 => br t1 (Kb2 DV.n H2) (onV d1 fun v1 => isI .i64 v1 fun n3 => frcB (ilt ii8 n3) fun t2 => Kb2 (DV.v (AV.b t2)) H2)) fun Kb2 => br t1 (Kb2 DV.n H1) (Kb2 (DV.v (AV.i .i64 n2)) H1)
def g24x8 := pickK t1 (DV.v (AV.b true)) d1 fun d2 => onV d2 fun v1 => isB v1 fun t2 => jn (fun d3 H2 => jn (fun d4 H3 => pickK t2 (DV.v (AV.b true)) d4 fun d5 => onV d5 fun v2 => isB v2 fun t3 => g24x7 n1 n2 t3 p1 b1 b2 b3 H3 c1 c2 c3 c4 Kb1) fun Kb2 => br t2 (Kb2 DV.n H2) (onV d3 fun v2 => isI .i64 v2 fun n3 => frcB (ilt n3 ii0) fun t3 => Kb2 (DV.v (AV.b t3)) H2)) fun Kb2 => br t2 (Kb2 DV.n H1) (Kb2 (DV.v (AV.i .i64 n2)) H1)
def g24x9 := jn (fun d2 H2 => pickK t1 (DV.v (AV.b true)) d2 fun d3 => onV d3 fun v1 => isB v1 fun t2 => jn (fun d4 H3 => jn (fun d5 H4 => g24x8 d5 n1 n2 t2 p1 b1 b2 b3 H4 c1 c2 c3 c4 Kb1) fun Kb2 => br t2 (Kb2 DV.n H3) (onV d4 fun v2 => isI .i64 v2 fun n3 => frcB (ilt ii100 n3) fun t3 => Kb2 (DV.v (AV.b t3)) H3)) fun Kb2 => br t2 (Kb2 DV.n H2) (Kb2 (DV.v (AV.i .i64 n1)) H2)) fun Kb2 => br t1 (Kb2 DV.n H1) (onV d1 fun v1 => isI .i64 v1 fun n3 => frcB (ilt n3 ii1) fun t2 => Kb2 (DV.v (AV.b t2)) H1)
def g24x10 := must (Nat.beq (leni x1) nn6) <| must (Nat.beq (leni x2) nn6) <| frcB (leqI x1 x2) fun t1 => br t1 (Kb1 (DV.c (DV.v (AV.i .i64 ii0)) (DV.c (DV.v (AV.er (nat_lit 7))) DV.n)) H1) (rdR H1 b1 nn0 nn5 fun l1 => c1 [(DV.a l1)] H1 fun d1 H2 => onV d1 fun v1 => isB v1 fun t2 => frcB (bnot t2) fun t3 => jn (fun d2 H3 => g24x9 d2 n1 n2 t3 p1 b2 b1 b3 H3 c2 c3 c4 c5 Kb1) fun Kb2 => br t3 (Kb2 DV.n H2) (Kb2 (DV.v (AV.i .i64 n1)) H2))
def g24x11 := alK H1 l1 fun b3 H2 => rdR H2 b1 nn0 nn6 fun l2 => c1 [(DV.a l2)] H2 fun d1 H3 => onV d1 fun v1 => isB v1 fun t1 => frcB (bnot t1) fun t2 => br t2 (Kb1 (DV.c (DV.v (AV.i .i64 ii0)) (DV.c (DV.v (AV.er (nat_lit 2))) DV.n)) H3) (rdR H3 b1 nn0 nn6 fun l3 => onA p1 fun b4 m1 => rdR H3 b4 m1 nn6 fun l4 => intsK .u8 l3 fun x1 => intsK .u8 l4 fun x2 => g24x10 n1 n2 p1 b2 b1 b3 H3 x1 x2 c2 c3 c4 c5 c6 Kb1)
/-- (*ap.AP).Join -/
def g24 : G DV := fun R1 H1 Kb1 => lc R1 fun d1 R2 => onV d1 fun v1 => isP v1 fun p1 => lc R2 fun d2 R3 => lc R3 fun d3 R4 => lc R4 fun d4 R5 => onV d4 fun v2 => isI .i64 v2 fun n1 => lc R5 fun d5 R6 => lc R6 fun d6 R7 => onV d6 fun v3 => isI .i64 v3 fun n2 => ln R7 <| cellsD d2 fun l1 => alK H1 l1 fun b1 H2 => cellsD d3 fun l2 => alK H2 l2 fun b2 H3 => cellsD d5 fun l3 => g24x11 l3 n1 n2 p1 b1 b2 H3 c2 c3 c4 c1 c5 c6 Kb1
def G24 : G DV := g24 G61 G65 G75 G76 G77 G78

/-- muezzinair.Addr -/
def g25 : G DV := fun R1 H1 Kb1 => lc R1 fun d1 R2 => onV d1 fun v1 => isI .i64 v1 fun n1 => ln R2 <| alB H1 z0 nn6 nn0 fun b1 H2 => wrp .u8 n1 fun n2 => wrL H2 b1 nn0 [(AV.i .u8 ii2), (AV.i .u8 ii0), (AV.i .u8 ii0), (AV.i .u8 ii0), (AV.i .u8 ii0), (AV.i .u8 n2)] fun H3 => rdR H3 b1 nn0 nn6 fun l1 => Kb1 (DV.a l1) H3
def G25 : G DV := g25

def z27 : List AV := [(AV.i .i64 ii1), (AV.i .i64 ii0), (AV.i .i64 ii1), (AV.i .i64 ii20), (AV.i .i64 ii0)]
def z28 : List AV := [(AV.b false), (AV.b false), (AV.b false), (AV.b false)]
def z29 : List AV := [(AV.i .u32 ii0), (AV.i .u32 ii0), (AV.i .u32 ii0), (AV.i .u32 ii0)]
def g5x1 := jn (fun d2 H2 => pickK t1 d2 (DV.v (AV.b false)) fun d3 => onV d3 fun v1 => isB v1 fun t2 => jn (fun d4 H3 => jn (fun d5 H4 => pickK t2 d5 (DV.v (AV.b false)) fun d6 => onV d6 fun v2 => isB v2 fun t3 => Kb1 (DV.v (AV.b t3)) H4) fun Kb2 => br t2 (onV d4 fun v2 => isI .i64 v2 fun n2 => frcB (ieq n2 ii1) fun t3 => Kb2 (DV.v (AV.b t3)) H3) (Kb2 DV.n H3)) fun Kb2 => br t2 (Kb2 (DV.v (AV.i .i64 n1)) H2) (Kb2 DV.n H2)) fun Kb2 => br t1 (onV d1 fun v1 => ifA true true v1 AV.ni fun t2 => Kb2 (DV.v (AV.b t2)) H1) (Kb2 DV.n H1)
def g5x2 := wrL H1 b1 nn0 l1 fun H2 => c1 [(DV.v (AV.i .i64 ii1))] H2 fun d1 H3 => onL d1 fun l2 => c2 [(DV.v (AV.p p1)), (DV.a l2), (DV.a z27), (DV.v (AV.i .i64 ii1)), (DV.a z28), (DV.v (AV.i .i64 ii0))] H3 fun d2 H4 => onC d2 fun d3 d4 => onV d3 fun v1 => isI .i64 v1 fun n1 => onC d4 fun d5 d6 => onV d5 fun v2 => onN d6 <| frcB (bnot t1) fun t2 => jn (fun d7 H5 => g5x1 d7 n1 t2 H5 Kb1) fun Kb2 => br t2 (Kb2 (DV.v v2) H4) (Kb2 DV.n H4)
def g5x3 := jn (fun d2 H2 => pickK t1 (DV.v (AV.b true)) d2 fun d3 => onV d3 fun v1 => isB v1 fun t2 => br t2 (Kb1 (DV.v (AV.b false)) H2) (c1 [(DV.v (AV.p p1)), (DV.v (AV.i .i64 ii0)), (DV.a z29)] H2 fun d4 H3 => onC d4 fun d5 d6 => onL d5 fun l1 => onC d6 fun d7 d8 => onV d7 fun v2 => isB v2 fun t3 => onN d8 <| alB H3 z24 nn10 nn0 fun b1 H4 => must (Nat.beq (llen l1) nn10) <| g5x2 l1 t3 p1 b1 H4 c2 c3 Kb1)) fun Kb2 => br t1 (Kb2 DV.n H1) (onV d1 fun v1 => ifA true true v1 AV.ni fun t2 => frcB (bnot t2) fun t3 => Kb2 (DV.v (AV.b t3)) H1)
/-- muezzinlaw26.first -/
def g5 : G DV := fun R1 H1 Kb1 => ln R1 <| c1 [(DV.v (AV.i .i64 ii0))] H1 fun d1 H2 => onL d1 fun l1 => c2 [(DV.a l1)] H2 fun d2 H3 => onC d2 fun d3 d4 => onV d3 fun v1 => isP v1 fun p1 => onC d4 fun d5 d6 => onV d5 fun v2 => onN d6 <| frcB (isNilA p1) fun t1 => jn (fun d7 H4 => g5x3 d7 t1 p1 H4 c3 c5 c4 Kb1) fun Kb2 => br t1 (Kb2 DV.n H3) (Kb2 (DV.v v2) H3)
def G5 : G DV := yes0

def g8x1 := alK H1 (lapp l1 ((AV.p p1) :: ((AV.i .i64 ii0) :: ((AV.p AP.nil) :: ((AV.s AS.nil) :: ((AV.s AS.nil) :: ((AV.b false) :: ((AV.s AS.nil) :: ((AV.i .i64 ii0) :: ((AV.p AP.nil) :: ((AV.s AS.nil) :: ((AV.s AS.nil) :: ((AV.b false) :: ((AV.s AS.nil) :: ((AV.i .i64 ii0) :: ((AV.p AP.nil) :: ((AV.s AS.nil) :: ((AV.s AS.nil) :: ((AV.b false) :: ((AV.s AS.nil) :: ((AV.i .i64 ii0) :: ((AV.p AP.nil) :: ((AV.s AS.nil) :: ((AV.s AS.nil) :: ((AV.b false) :: ((AV.s AS.nil) :: ((AV.s AS.nil) :: ((AV.i .i64 ii0) :: ((AV.i .i64 n1) :: ((AV.i .i64 ii0) :: ((AV.i .i64 ii0) :: ((AV.i .i64 ii0) :: ((AV.i .i64 ii0) :: ((AV.i .i64 ii0) :: ((AV.i .i64 ii0) :: ((AV.b false) :: ((AV.s AS.nil) :: ((AV.i .i64 ii0) :: ((AV.i .i64 ii0) :: ((AV.b false) :: [])))))))))))))))))))))))))))))))))))))))) fun b1 H2 => Kb1 (DV.v (AV.p (AP.at b1 nn0))) H2
def g8x2 := ifA true true v1 AV.ni fun t1 => frcB (bnot t1) fun t2 => jn (fun d1 H2 => jn (fun d2 H3 => pickK t2 (DV.v (AV.b true)) d2 fun d3 => onV d3 fun v2 => isB v2 fun t3 => br t3 (Kb1 (DV.v (AV.p AP.nil)) H3) (rdR H3 b1 nn0 nn21 fun l1 => must (Nat.beq (llen l1) nn21) <| g8x1 l1 n1 p1 H3 Kb1)) fun Kb2 => br t2 (Kb2 DV.n H2) (onV d1 fun v2 => isP v2 fun p2 => frcB (isNilA p2) fun t3 => Kb2 (DV.v (AV.b t3)) H2)) fun Kb2 => br t2 (Kb2 DV.n H1) (Kb2 (DV.v (AV.p p1)) H1)
/-- muezzinair.New -/
def g8 : G DV := fun R1 H1 Kb1 => lc R1 fun d1 R2 => lc R2 fun d2 R3 => onV d2 fun v1 => isI .i64 v1 fun n1 => ln R3 <| cellsD d1 fun l1 => alK H1 l1 fun b1 H2 => rdR H2 b1 nn0 nn21 fun l2 => c1 [(DV.a l2)] H2 fun d3 H3 => onC d3 fun d4 d5 => onV d4 fun v2 => isP v2 fun p1 => onC d5 fun d6 d7 => onV d6 fun v3 => onN d7 <| g8x2 v3 n1 p1 b1 H3 Kb1
def G8 : G DV := g8 G22

/-- (*ap.AP).Done$1 -/
def g40 : G DV := fun R1 H1 Kb1 => lc R1 fun d1 R2 => onV d1 fun v1 => isP v1 fun p1 => lc R2 fun d2 R3 => onV d2 fun v2 => isP v2 fun p2 => ln R3 <| onA p2 fun b1 m1 => rdK H1 b1 m1 fun v3 => isP v3 fun p3 => ptrs2 H1 p1 p3 fun t1 => Kb1 (DV.v (AV.b t1)) H1
def G40 : G DV := g40

/-- (*ap.AP).way$1 -/
def g101 : G DV := fun R1 H1 Kb1 => lc R1 fun d1 R2 => onV d1 fun v1 => isP v1 fun p1 => lc R2 fun d2 R3 => onV d2 fun v2 => isP v2 fun p2 => ln R3 <| onA p1 fun b1 m1 => rdK H1 b1 m1 fun v3 => isI .i64 v3 fun n1 => onA p2 fun b2 m2 => rdK H1 b2 m2 fun v4 => isI .i64 v4 fun n2 => frcB (ieq n1 n2) fun t1 => Kb1 (DV.v (AV.b t1)) H1
def G101 : G DV := g101

def g100x1 := br t1 (ixA s1 n1 (fun x => x) fun b1 m1 => rdK H1 b1 m1 fun v1 => isP v1 fun p1 => onV d1 fun v2 => fnK v2 fun m2 L1 L2 => lookD [((nat_lit 40) , c1), ((nat_lit 101) , c2)] m2 (appA (mapP L1) (appA [(DV.v (AV.p p1))] (mapP L2))) H1 fun d2 H2 => onV d2 fun v3 => isB v3 fun t2 => br t2 (Kb1 (DV.v (AV.i .i64 n1)) H2) (wrp .i64 (iadd n1 ii1) fun n2 => Kb2 (DV.v (AV.i .i64 n2)) H2)) (Kb1 (DV.v (AV.i .i64 im1)) H1)
/-- slices.IndexFunc[[]*ap.under,*ap.under] -/
def g100 : G DV := fun R1 H1 Kb1 => lc R1 fun d1 R2 => onV d1 fun v1 => isS v1 fun s1 => lc R2 fun d2 R3 => ln R3 <| lenA s1 fun m1 => lpR (failF [(8 , .int .i64)]) (fun Kb2 => fun d3 H2 => onV d3 fun v2 => isI .i64 v2 fun n1 => frcB (ilt n1 (Int.ofNat m1)) fun t1 => g100x1 d2 n1 t1 s1 H2 c1 c2 Kb1 Kb2) (nat_lit 100000) (DV.v (AV.i .i64 ii0)) H1
def G100 : G DV := g100 G40 G101

def g38x1 := onA p1 fun b2 m1 => rdK H1 b2 (Nat.add m1 nn346) fun v1 => isS v1 fun s1 => c1 [(DV.v (AV.s s1)), (DV.v (AV.fn (nat_lit 101) [(AP.at b1 nn0)]))] H1 fun d1 H2 => onV d1 fun v2 => isI .i64 v2 fun n1 => frcB (ilt n1 ii0) fun t1 => br t1 (Kb1 (DV.v (AV.p AP.nil)) H2) (onA p1 fun b3 m2 => rdK H2 b3 (Nat.add m2 nn346) fun v3 => isS v3 fun s2 => ixA s2 n1 (fun x => x) fun b4 m3 => rdK H2 b4 m3 fun v4 => isP v4 fun p2 => Kb1 (DV.v (AV.p p2)) H2)
/-- (*ap.AP).way -/
def g38 : G DV := fun R1 H1 Kb1 => lc R1 fun d1 R2 => onV d1 fun v1 => isP v1 fun p1 => lc R2 fun d2 R3 => onV d2 fun v2 => isI .i64 v2 fun n1 => ln R3 <| alB H1 (@T4.n AV (AV.i .i64 n1) te te te te) nn1 nn0 fun b1 H2 => g38x1 p1 b1 H2 c1 Kb1
def G38 : G DV := g38 G100

def g39x1 := rdK H1 b1 m1 fun v1 => isP v1 fun p1 => onV d1 fun v2 => fnK v2 fun m2 L1 L2 => lookD [((nat_lit 40) , c1), ((nat_lit 100) , c2)] m2 (appA (mapP L1) (appA [(DV.v (AV.p p1))] (mapP L2))) H1 fun d2 H2 => onV d2 fun v3 => isB v3 fun t1 => frcB (bnot t1) fun t2 => br t2 (ixA s1 n1 (fun x => x) fun b2 m3 => wrK H2 b2 m3 (AV.p p1) fun H3 => wrp .i64 (iadd n1 ii1) fun n2 => Kb1 (DV.v (AV.i .i64 n2)) H3) (Kb1 (DV.v (AV.i .i64 n1)) H2)
def g39x2 := br t1 (jF [(5 , .int .i64)] (fun d2 H2 => onV d2 fun v1 => isI .i64 v1 fun n3 => wrp .i64 (iadd n1 ii1) fun n4 => Kc1 (DV.v (AV.i .i64 n3)) (DV.v (AV.i .i64 n4)) H2) fun Kb2 => ixA s1 n1 (fun x => x) fun b1 m1 => g39x1 d1 n2 m1 b1 s1 H1 c1 c2 Kb2) (natK n2 fun m1 => lenA s1 fun m2 => slA s1 m1 m2 (fun x => x) fun s2 => clrD [(AV.p AP.nil)] s2 H1 fun H2 => natK n2 fun m3 => slA s1 nn0 m3 (fun x => x) fun s3 => Kb1 (DV.v (AV.s s3)) H2)
def g39x3 := isI .i64 v1 fun n1 => frcB (ieq n1 im1) fun t1 => br t1 (Kb1 (DV.v (AV.s s1)) H1) (wrp .i64 (iadd n1 ii1) fun n2 => lpR (failF [(5 , .int .i64), (6 , .int .i64)]) (fun Kc1 => fun d2 d3 H2 => onV d2 fun v2 => isI .i64 v2 fun n3 => onV d3 fun v3 => isI .i64 v3 fun n4 => lenA s1 fun m1 => frcB (ilt n4 (Int.ofNat m1)) fun t2 => g39x2 d1 n4 n3 t2 s1 H2 c1 c2 Kb1 Kc1) (nat_lit 100000) (DV.v (AV.i .i64 n1)) (DV.v (AV.i .i64 n2)) H1)
/-- slices.DeleteFunc[[]*ap.under,*ap.under] -/
def g39 : G DV := fun R1 H1 Kb1 => lc R1 fun d1 R2 => onV d1 fun v1 => isS v1 fun s1 => lc R2 fun d2 R3 => ln R3 <| c2 [(DV.v (AV.s s1)), d2] H1 fun d3 H2 => onV d3 fun v2 => g39x3 v2 d2 s1 H2 c1 c2 Kb1
def G39 : G DV := g39 G40 G100

def g41x1 := c1 [(DV.v (AV.p p1)), (DV.v (AV.i .i64 n1))] H1 fun d1 H2 => onV d1 fun v1 => isI .i64 v1 fun n3 => frcB (ilt n3 n2) fun t1 => br t1 (Kb1 (DV.v (AV.er (nat_lit 9))) H2) (wrp .i64 (isub n1 ii1) fun n4 => onA p1 fun b1 m1 => rng n4 nn16 <| rdK H2 b1 (Nat.add (Nat.add m1 nn2) (itn n4)) fun v2 => isI .i64 v2 fun n5 => wrp .i64 (isub n5 n2) fun n6 => onA p1 fun b2 m2 => rng n4 nn16 <| wrK H2 b2 (Nat.add (Nat.add m2 nn2) (itn n4)) (AV.i .i64 n6) fun H3 => Kb1 (DV.v AV.ni) H3)
def g41x2 := jn (fun d1 H2 => jn (fun d2 H3 => jn (fun d3 H4 => pickK t1 (DV.v (AV.b true)) d3 fun d4 => onV d4 fun v1 => isB v1 fun t2 => br t2 (Kb1 (DV.v (AV.er (nat_lit 2))) H4) (g41x1 n1 n2 p1 H4 c1 Kb1)) fun Kb2 => br t1 (Kb2 DV.n H3) (onV d2 fun v1 => isB v1 fun t2 => frcB (bnot t2) fun t3 => Kb2 (DV.v (AV.b t3)) H3)) fun Kb2 => br t1 (Kb2 DV.n H2) (c2 [d1] H2 fun d2 H3 => onV d2 fun v1 => isB v1 fun t2 => Kb2 (DV.v (AV.b t2)) H3)) fun Kb2 => br t1 (Kb2 DV.n H1) (Kb2 (DV.v (AV.i .i64 n2)) H1)
/-- (*aql.Limit).Sub -/
def g41 : G DV := fun R1 H1 Kb1 => lc R1 fun d1 R2 => onV d1 fun v1 => isP v1 fun p1 => lc R2 fun d2 R3 => onV d2 fun v2 => isI .i64 v2 fun n1 => lc R3 fun d3 R4 => onV d3 fun v3 => isI .i64 v3 fun n2 => ln R4 <| c1 [(DV.v (AV.i .i64 n1))] H1 fun d4 H2 => onV d4 fun v4 => isB v4 fun t1 => frcB (bnot t1) fun t2 => g41x2 n1 n2 t2 p1 H2 c3 c2 Kb1
def G41 : G DV := g41 G102 G103 G104

def g280x1 := jn (fun d3 H2 => pickK t1 d3 (DV.v (AV.b false)) fun d4 => onV d4 fun v1 => isB v1 fun t2 => br t2 (Kb1 (DV.v (AV.er (nat_lit 4))) H2) (lenA s1 fun m1 => frcB (ilt (Int.ofNat m1) n1) fun t3 => br t3 (Kb1 (DV.v (AV.er (nat_lit 0))) H2) (lenA s1 fun m2 => frcB (ilt n1 (Int.ofNat m2)) fun t4 => br t4 (Kb1 (DV.v (AV.er (nat_lit 1))) H2) (Kb1 (DV.v AV.ni) H2)))) fun Kb2 => br t1 (onV d1 fun v1 => onV d2 fun v2 => isI .u8 v1 fun n2 => isI .u8 v2 fun n3 => frcB (bnot (ieq n2 n3)) fun t2 => Kb2 (DV.v (AV.b t2)) H1) (Kb2 DV.n H1)
def g280x2 := jn (fun d2 H2 => jn (fun d3 H3 => jn (fun d4 H4 => g280x1 d3 d4 n1 t1 s1 H4 Kb1) fun Kb2 => br t1 (Kb2 (DV.v (AV.i .u8 n2)) H3) (Kb2 DV.n H3)) fun Kb2 => br t1 (onV d2 fun v1 => isP v1 fun p1 => onA p1 fun b1 m1 => rdK H2 b1 m1 fun v2 => isI .u8 v2 fun n3 => Kb2 (DV.v (AV.i .u8 n3)) H2) (Kb2 DV.n H2)) fun Kb2 => br t1 (onV d1 fun v1 => isS v1 fun s2 => ixA s2 ii0 (fun x => x) fun b1 m1 => Kb2 (DV.v (AV.p (AP.at b1 m1))) H1) (Kb2 DV.n H1)
/-- ctl.long -/
def g280 : G DV := fun R1 H1 Kb1 => lc R1 fun d1 R2 => onV d1 fun v1 => isS v1 fun s1 => lc R2 fun d2 R3 => onV d2 fun v2 => isI .u8 v2 fun n1 => lc R3 fun d3 R4 => onV d3 fun v3 => isI .i64 v3 fun n2 => ln R4 <| lenA s1 fun m1 => frcB (ilt ii0 (Int.ofNat m1)) fun t1 => jn (fun d4 H2 => g280x2 d4 n2 n1 t1 s1 H2 Kb1) fun Kb2 => br t1 (Kb2 (DV.v (AV.s s1)) H1) (Kb2 DV.n H1)
def G280 : G DV := g280

/-- ctl.number -/
def g281 : G DV := fun R1 H1 Kb1 => lc R1 fun d1 R2 => onV d1 fun v1 => isS v1 fun s1 => ln R2 <| ixA s1 ii0 (fun x => x) fun b1 m1 => rdK H1 b1 m1 fun v2 => isI .u8 v2 fun n1 => wrp .i64 n1 fun n2 => ixA s1 ii1 (fun x => x) fun b2 m2 => rdK H1 b2 m2 fun v3 => isI .u8 v3 fun n3 => wrp .i64 n3 fun n4 => wrp .i64 (imul n4 (ip2 ii8)) fun n5 => asI (bits .or .i64 n2 n5) fun n6 => Kb1 (DV.v (AV.i .i64 n6)) H1
def G281 : G DV := g281

def z30 : T4 AV := (@T4.n AV yy0 (@T4.n AV yy0 (@T4.n AV yy0 te te te te) (@T4.n AV yy0 te te te te) (@T4.n AV yy1 te te te te) te) (@T4.n AV yy0 (@T4.n AV yy0 te te te te) (@T4.n AV yy0 te te te te) te te) (@T4.n AV yy0 (@T4.n AV yy0 te te te te) (@T4.n AV yy0 te te te te) te te) (@T4.n AV yy0 (@T4.n AV yy0 te te te te) (@T4.n AV yy1 te te te te) te te))
def g287x1 := wrL H1 b1 nn0 [(AV.i .u8 ii0), (AV.i .u8 ii0), (AV.i .u8 ii0), (AV.i .u8 ii0), (AV.i .u8 ii0), (AV.i .u8 ii0), (AV.i .u8 ii0), (AV.i .u8 ii0), (AV.i .u8 ii0), (AV.i .u8 ii0), (AV.i .u8 ii0), (AV.i .u8 ii0), (AV.i .i64 n1), (AV.i .i64 n2)] fun H2 => lenA s1 fun m1 => slA s1 nn4 m1 (fun x => x) fun s2 => copyD (nat_lit 1) (AS.sl b1 nn0 nn6 nn6) s2 H2 fun d1 H3 => lenA s1 fun m2 => slA s1 nn10 m2 (fun x => x) fun s3 => copyD (nat_lit 1) (AS.sl b1 nn6 nn6 nn6) s3 H3 fun d2 H4 => rdR H4 b1 nn0 nn14 fun l1 => must (Nat.beq (llen l1) nn14) <| wrL H4 b2 nn0 l1 fun H5 => rdR H5 b2 nn0 nn14 fun l2 => Kb1 (DV.a l2) H5
def g287x2 := slA s1 nn16 m1 (fun x => x) fun s2 => lenA s1 fun m2 => slA s1 nn18 m2 (fun x => x) fun s3 => c1 [(DV.v (AV.s s2))] H1 fun d1 H2 => onV d1 fun v1 => isI .i64 v1 fun n1 => must (bnot (ieq ii4096 ii0)) <| wrp .i64 (iquo n1 ii4096) fun n2 => c1 [(DV.v (AV.s s3))] H2 fun d2 H3 => onV d2 fun v2 => isI .i64 v2 fun n3 => must (bnot (ieq ii16 ii0)) <| wrp .i64 (iquo n3 ii16) fun n4 => alB H3 z30 nn14 nn0 fun b2 H4 => g287x1 n2 n4 b2 b1 s1 H4 Kb1
/-- ctl.asked -/
def g287 : G DV := fun R1 H1 Kb1 => lc R1 fun d1 R2 => onV d1 fun v1 => isS v1 fun s1 => ln R2 <| alB H1 z30 nn14 nn0 fun b1 H2 => lenA s1 fun m1 => g287x2 m1 b1 s1 H2 c1 Kb1
def G287 : G DV := g287 G281

/-- ctl.two -/
def g233 : G DV := fun R1 H1 Kb1 => lc R1 fun d1 R2 => onV d1 fun v1 => isI .i64 v1 fun n1 => ln R2 <| wrp .u8 n1 fun n2 => asI (idiv n1 (ip2 ii8)) fun n3 => wrp .u8 n3 fun n4 => alB H1 (@T4.n AV (AV.i .u8 n2) (@T4.n AV (AV.i .u8 n4) te te te te) te te te) nn2 nn0 fun b1 H2 => Kb1 (DV.v (AV.s (AS.sl b1 nn0 nn2 nn2))) H2
def G233 : G DV := g233

def g242x1 := appD nn1 nn1 s1 (AS.sl b1 nn0 nn6 nn6) H1 fun s2 H2 => wrp .i64 (imul n1 ii4096) fun n3 => wrp .i64 (iadd ii4 n3) fun n4 => c1 [(DV.v (AV.i .i64 n4))] H2 fun d1 H3 => onV d1 fun v1 => isS v1 fun s3 => appD nn1 nn1 s2 s3 H3 fun s4 H4 => wrp .i64 (imul n2 ii16) fun n5 => c1 [(DV.v (AV.i .i64 n5))] H4 fun d2 H5 => onV d2 fun v2 => isS v2 fun s5 => appD nn1 nn1 s4 s5 H5 fun s6 H6 => Kb1 (DV.c (DV.v (AV.s s6)) (DV.c (DV.v AV.ni) DV.n)) H6
def g242x2 := pickK t1 (DV.v (AV.b true)) d1 fun d2 => onV d2 fun v1 => isB v1 fun t2 => br t2 (Kb1 (DV.c (DV.v (AV.s AS.nil)) (DV.c (DV.v (AV.er (nat_lit 2))) DV.n)) H1) (alB H1 (@T4.n AV (AV.i .u8 n1) (@T4.n AV yy0 te te te te) (@T4.n AV yy0 te te te te) (@T4.n AV yy0 te te te te) te) nn4 nn0 fun b3 H2 => appD nn1 nn1 (AS.sl b3 nn0 nn4 nn4) (AS.sl b1 nn0 nn6 nn6) H2 fun s1 H3 => g242x1 n2 n3 b2 s1 H3 c1 Kb1)
def g242x3 := jn (fun d2 H2 => pickK t1 (DV.v (AV.b true)) d2 fun d3 => onV d3 fun v1 => isB v1 fun t2 => jn (fun d4 H3 => jn (fun d5 H4 => g242x2 d5 n1 n2 n3 t2 b1 b2 H4 c1 Kb1) fun Kb2 => br t2 (Kb2 DV.n H3) (onV d4 fun v2 => isI .i64 v2 fun n4 => frcB (ile ii4096 n4) fun t3 => Kb2 (DV.v (AV.b t3)) H3)) fun Kb2 => br t2 (Kb2 DV.n H2) (Kb2 (DV.v (AV.i .i64 n3)) H2)) fun Kb2 => br t1 (Kb2 DV.n H1) (onV d1 fun v1 => isI .i64 v1 fun n4 => frcB (ilt n4 ii0) fun t2 => Kb2 (DV.v (AV.b t2)) H1)
def g242x4 := frcB (ilt n1 ii0) fun t1 => jn (fun d1 H2 => jn (fun d2 H3 => pickK t1 (DV.v (AV.b true)) d2 fun d3 => onV d3 fun v1 => isB v1 fun t2 => jn (fun d4 H4 => g242x3 d4 n2 n1 n3 t2 b1 b2 H4 c1 Kb1) fun Kb2 => br t2 (Kb2 DV.n H3) (Kb2 (DV.v (AV.i .i64 n3)) H3)) fun Kb2 => br t1 (Kb2 DV.n H2) (onV d1 fun v1 => isI .i64 v1 fun n4 => frcB (ile ii8 n4) fun t2 => Kb2 (DV.v (AV.b t2)) H2)) fun Kb2 => br t1 (Kb2 DV.n H1) (Kb2 (DV.v (AV.i .i64 n1)) H1)
/-- ctl.asks -/
def g242 : G DV := fun R1 H1 Kb1 => lc R1 fun d1 R2 => onV d1 fun v1 => isI .u8 v1 fun n1 => lc R2 fun d2 R3 => lc R3 fun d3 R4 => lc R4 fun d4 R5 => onV d4 fun v2 => isI .i64 v2 fun n2 => lc R5 fun d5 R6 => onV d5 fun v3 => isI .i64 v3 fun n3 => ln R6 <| cellsD d2 fun l1 => alK H1 l1 fun b1 H2 => cellsD d3 fun l2 => alK H2 l2 fun b2 H3 => g242x4 n2 n1 n3 b1 b2 H3 c1 Kb1
def G242 : G DV := g242 G233

def g288x1 := br t1 (rdK H1 b1 nn14 fun v1 => isI .u64 v1 fun n2 => wrp .i64 (imul ii8 n1) fun n3 => must (ile ii0 n3) <| must (ile n3 ii64) <| asI (idiv n2 (ip2 n3)) fun n4 => wrp .u8 n4 fun n5 => alB H1 (@T4.n AV (AV.i .u8 n5) te te te te) nn1 nn0 fun b2 H2 => appD nn1 nn1 s1 (AS.sl b2 nn0 nn1 nn1) H2 fun s2 H3 => wrp .i64 (iadd n1 ii1) fun n6 => Kc1 (DV.v (AV.s s2)) (DV.v (AV.i .i64 n6)) H3) (Kb1 (DV.c (DV.v (AV.s s1)) (DV.c (DV.v AV.ni) DV.n)) H1)
def g288x2 := onC d1 fun d2 d3 => onV d2 fun v1 => onN d3 <| ifA true true v1 AV.ni fun t1 => frcB (bnot t1) fun t2 => br t2 (Kb1 (DV.c (DV.v (AV.s AS.nil)) (DV.c (DV.v v1) DV.n)) H1) (lpR (failF [(4 , .slice), (22 , .int .i64)]) (fun Kc1 => fun d4 d5 H2 => onV d4 fun v2 => isS v2 fun s2 => onV d5 fun v3 => isI .i64 v3 fun n1 => frcB (ilt n1 ii8) fun t3 => g288x1 n1 t3 b1 s2 H2 Kb1 Kc1) (nat_lit 100000) (DV.v (AV.s s1)) (DV.v (AV.i .i64 ii0)) H1)
def g288x3 := lc R1 fun d1 R2 => ln R2 <| cellsD d1 fun l1 => alK H1 l1 fun b1 H2 => rdR H2 b1 nn0 nn6 fun l2 => rdR H2 b1 nn6 nn6 fun l3 => rdK H2 b1 nn12 fun v1 => isI .i64 v1 fun n1 => rdK H2 b1 nn13 fun v2 => isI .i64 v2 fun n2 => c1 [(DV.v (AV.i .u8 ii148)), (DV.a l2), (DV.a l3), (DV.v (AV.i .i64 n1)), (DV.v (AV.i .i64 n2))] H2 fun d2 H3 => onC d2 fun d3 d4 => onV d3 fun v3 => isS v3 fun s1 => g288x2 d4 b1 s1 H3 Kb1
/-- ctl.AckBytes -/
def g288 : G DV := fun R1 H1 Kb1 => g288x3 R1 H1 c1 Kb1
def G288 : G DV := g288 G242

def z31 : T4 AV := (@T4.n AV yy0 (@T4.n AV yy0 (@T4.n AV yy0 te te te te) (@T4.n AV yy0 te te te te) (@T4.n AV yy1 te te te te) te) (@T4.n AV yy0 (@T4.n AV yy0 te te te te) (@T4.n AV yy0 te te te te) (@T4.n AV yy26 te te te te) te) (@T4.n AV yy0 (@T4.n AV yy0 te te te te) (@T4.n AV yy0 te te te te) te te) (@T4.n AV yy0 (@T4.n AV yy0 te te te te) (@T4.n AV yy1 te te te te) te te))
def z32 : List AV := [(AV.i .u8 ii0), (AV.i .u8 ii0), (AV.i .u8 ii0), (AV.i .u8 ii0), (AV.i .u8 ii0), (AV.i .u8 ii0), (AV.i .u8 ii0), (AV.i .u8 ii0), (AV.i .u8 ii0), (AV.i .u8 ii0), (AV.i .u8 ii0), (AV.i .u8 ii0), (AV.i .i64 ii0), (AV.i .i64 ii0), (AV.i .u64 ii0)]
def g204x1 := rdK H1 b1 nn14 fun v1 => isI .u64 v1 fun n2 => wrp .i64 (iadd ii20 n1) fun n3 => ixA s1 n3 (fun x => x) fun b2 m1 => rdK H1 b2 m1 fun v2 => isI .u8 v2 fun n4 => wrp .u64 n4 fun n5 => wrp .i64 (imul ii8 n1) fun n6 => must (ile ii0 n6) <| must (ile n6 ii64) <| wrp .u64 (imul n5 (ip2 n6)) fun n7 => asI (bits .or .u64 n2 n7) fun n8 => wrK H1 b1 nn14 (AV.i .u64 n8) fun H2 => wrp .i64 (iadd n1 ii1) fun n9 => Kb1 (DV.v (AV.i .i64 n9)) H2
def g204x2 := jn (fun d2 H2 => pickK t1 (DV.v (AV.b true)) d2 fun d3 => onV d3 fun v1 => isB v1 fun t2 => br t2 (wrL H2 b1 nn0 z32 fun H3 => rdR H3 b1 nn0 nn15 fun l1 => Kb1 (DV.c (DV.a l1) (DV.c (DV.v (AV.er (nat_lit 1))) DV.n)) H3) (rdR H2 b2 nn0 nn15 fun l1 => must (Nat.beq (llen l1) nn15) <| wrL H2 b1 nn0 l1 fun H3 => rdR H3 b1 nn0 nn15 fun l2 => Kb1 (DV.c (DV.a l2) (DV.c (DV.v AV.ni) DV.n)) H3)) fun Kb2 => br t1 (Kb2 DV.n H1) (onV d1 fun v1 => isB v1 fun t2 => frcB (bnot t2) fun t3 => Kb2 (DV.v (AV.b t3)) H1)
def g204x3 := onC d1 fun d2 d3 => onV d2 fun v1 => onN d3 <| ifA true true v1 AV.ni fun t1 => frcB (bnot t1) fun t2 => jn (fun d4 H2 => jn (fun d5 H3 => jn (fun d6 H4 => g204x2 d6 t2 b1 b2 H4 Kb1) fun Kb2 => br t2 (Kb2 DV.n H3) (c1 [d4, d5] H3 fun d6 H4 => onV d6 fun v2 => isB v2 fun t3 => Kb2 (DV.v (AV.b t3)) H4)) fun Kb2 => br t2 (Kb2 DV.n H2) (Kb2 (DV.v (AV.s s1)) H2)) fun Kb2 => br t2 (Kb2 DV.n H1) (Kb2 (DV.v (AV.s s2)) H1)
def g204x4 := wrL H1 b1 nn0 (lapp l1 (lapp l2 ((AV.i .i64 n1) :: ((AV.i .i64 n2) :: ((AV.i .u64 ii0) :: []))))) fun H2 => lpR (failF [(27 , .int .i64)]) (fun Kb2 => fun d1 H3 => onV d1 fun v1 => isI .i64 v1 fun n3 => frcB (ilt n3 ii8) fun t1 => br t1 (g204x1 n3 b1 s1 H3 Kb2) (rdR H3 b1 nn0 nn15 fun l3 => c1 [(DV.a l3)] H3 fun d2 H4 => onC d2 fun d3 d4 => onV d3 fun v2 => isS v2 fun s2 => g204x3 d4 b2 b1 s1 s2 H4 c2 Kb1)) (nat_lit 100000) (DV.v (AV.i .i64 ii0)) H2
def g204x5 := wrL H1 b1 nn0 l1 fun H2 => rdR H2 b1 nn0 nn6 fun l2 => rdR H2 b1 nn6 nn6 fun l3 => rdK H2 b1 nn12 fun v1 => isI .i64 v1 fun n1 => rdK H2 b1 nn13 fun v2 => isI .i64 v2 fun n2 => must (Nat.beq (llen l2) nn6) <| must (Nat.beq (llen l3) nn6) <| alB H2 z31 nn15 nn0 fun b3 H3 => must (Nat.beq (llen (lapp l2 (lapp l3 ((AV.i .i64 n1) :: ((AV.i .i64 n2) :: ((AV.i .u64 ii0) :: [])))))) nn15) <| g204x4 l2 l3 n1 n2 b3 b2 s1 H3 c1 c2 Kb1
def g204x6 := c1 [(DV.v (AV.s s1)), (DV.v (AV.i .u8 ii148)), (DV.v (AV.i .i64 ii28))] H1 fun d1 H2 => onV d1 fun v1 => ifA true true v1 AV.ni fun t1 => frcB (bnot t1) fun t2 => br t2 (wrL H2 b1 nn0 z32 fun H3 => rdR H3 b1 nn0 nn15 fun l1 => Kb1 (DV.c (DV.a l1) (DV.c (DV.v v1) DV.n)) H3) (c2 [(DV.v (AV.s s1))] H2 fun d2 H3 => onL d2 fun l1 => alB H3 z30 nn14 nn0 fun b2 H4 => must (Nat.beq (llen l1) nn14) <| g204x5 l1 b2 b1 s1 H4 c3 c4 Kb1)
/-- ctl.ReadAck -/
def g204 : G DV := fun R1 H1 Kb1 => lc R1 fun d1 R2 => onV d1 fun v1 => isS v1 fun s1 => ln R2 <| alB H1 z31 nn15 nn0 fun b1 H2 => g204x6 b1 s1 H2 c1 c3 c4 c2 Kb1
def G204 : G DV := g204 G280 gEqual.G G287 G288

def g105x1 := isI .i64 v1 fun n2 => frcB (ieq n1 n2) fun t1 => must (Nat.beq (llen l1) nn15) <| wrL H1 b1 nn0 l1 fun H2 => rdK H2 b2 (Nat.add m1 nn2) fun v2 => must (aveq (AV.i .i64 n2) v2) <| rdK H2 b3 nn12 fun v3 => must (aveq (AV.i .i64 n1) v3) <| rdR H2 b4 (Nat.add (Nat.add m2 nn11) nn6) nn6 fun l4 => must (aleq l2 l4) <| rdR H2 b3 nn6 nn6 fun l5 => must (aleq l3 l5) <| rdR H2 b1 nn0 nn15 fun l6 => Kb1 (DV.c (DV.a l6) (DV.c (DV.v (AV.b t1)) DV.n)) H2
def g105x2 := br t1 (rdK H1 b1 nn12 fun v1 => isI .i64 v1 fun n1 => onA p1 fun b4 m2 => rdK H1 b4 (Nat.add m2 nn2) fun v2 => g105x1 v2 l1 l2 l3 n1 m2 m1 b2 b4 b1 b3 H1 Kb1) (must (Nat.beq (llen l1) nn15) <| wrL H1 b2 nn0 l1 fun H2 => rdR H2 b3 (Nat.add (Nat.add m1 nn11) nn6) nn6 fun l4 => must (aleq l2 l4) <| rdR H2 b1 nn6 nn6 fun l5 => must (aleq l3 l5) <| rdR H2 b2 nn0 nn15 fun l6 => Kb1 (DV.c (DV.a l6) (DV.c (DV.v (AV.b false)) DV.n)) H2)
def g105x3 := br t1 (rdR H1 b1 nn0 nn6 fun l4 => onA p1 fun b4 m2 => rdR H1 b4 m2 nn6 fun l5 => intsK .u8 l4 fun x1 => intsK .u8 l5 fun x2 => must (Nat.beq (leni x1) nn6) <| must (Nat.beq (leni x2) nn6) <| frcB (leqI x1 x2) fun t2 => g105x2 l1 l2 l3 m1 t2 p2 b1 b2 b3 H1 Kb1) (must (Nat.beq (llen l1) nn15) <| wrL H1 b2 nn0 l1 fun H2 => rdR H2 b3 (Nat.add (Nat.add m1 nn11) nn6) nn6 fun l4 => must (aleq l2 l4) <| rdR H2 b1 nn6 nn6 fun l5 => must (aleq l3 l5) <| rdR H2 b2 nn0 nn15 fun l6 => Kb1 (DV.c (DV.a l6) (DV.c (DV.v (AV.b false)) DV.n)) H2)
def g105x4 := br t1 (rdR H1 b1 nn6 nn6 fun l2 => onA p1 fun b3 m1 => rdR H1 b3 (Nat.add (Nat.add m1 nn11) nn6) nn6 fun l3 => intsK .u8 l2 fun x1 => intsK .u8 l3 fun x2 => must (Nat.beq (leni x1) nn6) <| must (Nat.beq (leni x2) nn6) <| frcB (leqI x1 x2) fun t2 => g105x3 l1 l3 l2 m1 t2 p2 p1 b1 b2 b3 H1 Kb1) (must (Nat.beq (llen l1) nn15) <| wrL H1 b2 nn0 l1 fun H2 => rdR H2 b2 nn0 nn15 fun l2 => Kb1 (DV.c (DV.a l2) (DV.c (DV.v (AV.b false)) DV.n)) H2)
def g105x5 := lc R1 fun d1 R2 => onV d1 fun v1 => isS v1 fun s1 => ln R2 <| alB H1 z31 nn15 nn0 fun b1 H2 => c1 [(DV.v (AV.s s1))] H2 fun d2 H3 => onC d2 fun d3 d4 => onL d3 fun l1 => onC d4 fun d5 d6 => onV d5 fun v2 => onN d6 <| alB H3 z31 nn15 nn0 fun b2 H4 => must (Nat.beq (llen l1) nn15) <| wrL H4 b2 nn0 l1 fun H5 => rdR H5 b2 nn0 nn15 fun l2 => ifA false true v2 AV.ni fun t1 => g105x4 l2 t1 p1 p2 b2 b1 H5 Kb1
/-- (*ap.AP).heard -/
def g105 : G DV := fun R1 H1 Kb1 => lc R1 fun d1 R2 => onV d1 fun v1 => isP v1 fun p1 => lc R2 fun d2 R3 => onV d2 fun v2 => isP v2 fun p2 => g105x5 R3 p2 p1 H1 c1 Kb1
def G105 : G DV := g105 G204

def g211x1 := lenA s1 fun m1 => lpR (failF [(8 , .int .i64)]) (fun Kb2 => fun d1 H2 => onV d1 fun v1 => isI .i64 v1 fun n1 => frcB (ilt n1 (Int.ofNat m1)) fun t1 => br t1 (onA p1 fun b1 m2 => rdK H2 b1 (Nat.add m2 nn6) fun v2 => isS v2 fun s2 => ixA s2 n1 (fun x => Nat.mul x nn9) fun b2 m3 => wrK H2 b2 (Nat.add m3 nn8) (AV.b false) fun H3 => wrp .i64 (iadd n1 ii1) fun n2 => Kb2 (DV.v (AV.i .i64 n2)) H3) (Kb1 DV.n H2)) (nat_lit 100000) (DV.v (AV.i .i64 ii0)) H1
/-- (*ba.Session).land -/
def g211 : G DV := fun R1 H1 Kb1 => lc R1 fun d1 R2 => onV d1 fun v1 => isP v1 fun p1 => ln R2 <| onA p1 fun b1 m1 => rdK H1 b1 (Nat.add m1 nn6) fun v2 => isS v2 fun s1 => g211x1 p1 s1 H1 Kb1
def G211 : G DV := g211

def g106x1 := isI .i64 v1 fun n1 => frcB (ilt n1 ii0) fun t1 => br t1 (Kb1 (DV.v (AV.b true)) H1) (rdK H1 b1 nn13 fun v2 => isI .i64 v2 fun n2 => frcB (ile ii4096 n2) fun t2 => br t2 (Kb1 (DV.v (AV.b true)) H1) (onA p1 fun b3 m1 => rdK H1 b3 (Nat.add m1 nn6) fun v3 => isS v3 fun s1 => rdK H1 b2 nn0 fun v4 => c1 [(DV.v (AV.s s1)), (DV.v v4)] H1 fun d1 H2 => onV d1 fun v5 => isB v5 fun t3 => frcB (bnot t3) fun t4 => Kb1 (DV.v (AV.b t4)) H2))
def g106x2 := jF [(14 , .bool)] (fun d1 H2 => onV d1 fun v1 => isB v1 fun t1 => br t1 (Kb1 (DV.c (DV.v (AV.s AS.nil)) (DV.c (DV.v (AV.er (nat_lit 10))) DV.n)) H2) (c1 [(DV.v (AV.p p1)), (DV.v (AV.fn (nat_lit 210) [(AP.at b1 nn0), (AP.at b2 nn0)]))] H2 fun d2 H3 => onV d2 fun v2 => isS v2 fun s1 => c2 [(DV.v (AV.p p1))] H3 fun d3 H4 => Kb1 (DV.c (DV.v (AV.s s1)) (DV.c (DV.v AV.ni) DV.n)) H4)) fun Kb2 => rdK H1 b2 nn13 fun v1 => g106x1 v1 p1 b2 b1 H1 c3 Kb2
def g106x3 := isP v1 fun p1 => lc R1 fun d1 R2 => ln R2 <| cellsD d1 fun l1 => alK H1 l1 fun b1 H2 => alB H2 (@T4.n AV yy7 te te te te) nn1 nn0 fun b2 H3 => wrK H3 b2 nn0 (AV.fn (nat_lit 205) [(AP.at b1 nn0)]) fun H4 => c1 [(DV.v (AV.p p1))] H4 fun d2 H5 => onV d2 fun v2 => isB v2 fun t1 => frcB (bnot t1) fun t2 => br t2 (Kb1 (DV.c (DV.v (AV.s AS.nil)) (DV.c (DV.v (AV.er (nat_lit 9))) DV.n)) H5) (g106x2 p1 b2 b1 H5 c2 c3 c4 Kb1)
/-- (*ba.Session).Heard -/
def g106 : G DV := fun R1 H1 Kb1 => lc R1 fun d1 R2 => onV d1 fun v1 => g106x3 v1 R2 H1 c1 c3 c4 c2 Kb1
def G106 : G DV := g106 G207 G208 G209 G211

def g43x1 := ixA s1 n1 (fun x => Nat.mul x nn8) fun b1 m1 => rdR H1 b1 m1 nn8 fun l1 => alB H1 z5 nn8 nn0 fun b2 H2 => must (Nat.beq (llen l1) nn8) <| wrL H2 b2 nn0 l1 fun H3 => onA p1 fun b3 m2 => rdK H3 b2 nn0 fun v1 => isI .i64 v1 fun n2 => c1 [(DV.v (AV.p (AP.at b3 (Nat.add m2 nn310)))), (DV.v (AV.i .i64 n2)), (DV.v (AV.i .i64 ii3))] H3 fun d1 H4 => onV d1 fun v2 => wrp .i64 (iadd n1 ii1) fun n3 => Kb1 (DV.v (AV.i .i64 n3)) H4
def g43x2 := c1 [(DV.v (AV.p p1)), (DV.a l1)] H1 fun d1 H2 => onC d1 fun d2 d3 => onV d2 fun v1 => isS v1 fun s1 => onC d3 fun d4 d5 => onV d4 fun v2 => onN d5 <| ifA true true v2 AV.ni fun t1 => lenA s1 fun m1 => lpR (failF [(36 , .int .i64)]) (fun Kb2 => fun d6 H3 => onV d6 fun v3 => isI .i64 v3 fun n1 => frcB (ilt n1 (Int.ofNat m1)) fun t2 => br t2 (g43x1 n1 p2 s1 H3 c2 Kb2) (Kb1 (DV.v (AV.b t1)) H3)) (nat_lit 100000) (DV.v (AV.i .i64 ii0)) H2
def g43x3 := wrL H1 b1 nn0 l1 fun H2 => jF [(10 , .bool)] (fun d1 H3 => onV d1 fun v1 => isB v1 fun t2 => jF [] (fun H4 => Kb1 (DV.v (AV.b t2)) H4) fun Ka1 => frcB (bnot t2) fun t3 => br t3 (onA p1 fun b2 m1 => rdK H3 b2 m1 fun v2 => isP v2 fun p3 => none) (Ka1 H3)) fun Kb2 => br t1 (onA p1 fun b2 m1 => rdK H2 b2 m1 fun v1 => isP v1 fun p3 => rdR H2 b1 nn0 nn15 fun l2 => g43x2 l2 p3 p2 H2 c1 c2 Kb2) (Kb2 (DV.v (AV.b t1)) H2)
def g43x4 := onV d1 fun v1 => isP v1 fun p2 => lc R1 fun d2 R2 => onV d2 fun v2 => isP v2 fun p3 => lc R2 fun d3 R3 => onV d3 fun v3 => isS v3 fun s1 => ln R3 <| c1 [(DV.v (AV.p p1)), (DV.v (AV.p p2)), (DV.v (AV.s s1))] H1 fun d4 H2 => onC d4 fun d5 d6 => onL d5 fun l1 => onC d6 fun d7 d8 => onV d7 fun v4 => isB v4 fun t1 => onN d8 <| alB H2 z31 nn15 nn0 fun b1 H3 => must (Nat.beq (llen l1) nn15) <| g43x3 l1 t1 p3 p1 b1 H3 c2 c3 Kb1
/-- (*ap.AP).dataDone -/
def g43 : G DV := fun R1 H1 Kb1 => lc R1 fun d1 R2 => onV d1 fun v1 => isP v1 fun p1 => lc R2 fun d2 R3 => g43x4 d2 R3 p1 H1 c1 c2 c3 Kb1
def G43 : G DV := g43 G105 G106 G107

def g46x1 := isP v1 fun p1 => lc R1 fun d1 R2 => onV d1 fun v2 => isI .i64 v2 fun n1 => lc R2 fun d2 R3 => onV d2 fun v3 => isB v3 fun t1 => ln R3 <| c1 [(DV.v (AV.i .i64 n1))] H1 fun d3 H2 => onV d3 fun v4 => isB v4 fun t2 => frcB (bnot t2) fun t3 => br t3 (Kb1 (DV.v (AV.er (nat_lit 2))) H2) (br t1 (onA p1 fun b1 m1 => rng n1 nn4 <| wrK H2 b1 (Nat.add (Nat.add m1 (Nat.mul (itn n1) nn3)) nn2) (AV.i .i64 ii0) fun H3 => Kb1 (DV.v AV.ni) H3) (none))
/-- (*edca.Edca).End -/
def g46 : G DV := fun R1 H1 Kb1 => lc R1 fun d1 R2 => onV d1 fun v1 => g46x1 v1 R2 H1 c1 Kb1
def G46 : G DV := g46 G112

def g11x1 := rdK H1 b1 (Nat.add m1 nn3) fun v1 => isI .i64 v1 fun n2 => c1 [(DV.v (AV.p (AP.at b2 (Nat.add m2 nn317)))), (DV.v (AV.i .i64 n2)), (DV.v (AV.b t1))] H1 fun d1 H2 => onV d1 fun v2 => rdK H2 b3 nn0 fun v3 => must (aveq (AV.p p1) v3) <| ifA true true v2 AV.ni fun t2 => frcB (bnot t2) fun t3 => br t3 (Kb1 (DV.v v2) H2) (c2 [(DV.v (AV.p p2)), (DV.v (AV.p (AP.at b4 (Nat.add (Nat.add m3 nn6) (Nat.mul (itn n1) nn5)))))] H2 fun d2 H3 => Kb1 (DV.v AV.ni) H3)
def g11x2 := lookD [((nat_lit 38) , c1), ((nat_lit 39) , c2), ((nat_lit 41) , c3), ((nat_lit 42) , c4), ((nat_lit 43) , c5), ((nat_lit 46) , c6), ((nat_lit 47) , c7)] m1 (appA (mapP L1) (appA [(DV.v (AV.p p1)), (DV.v (AV.p p2)), (DV.v (AV.p (AP.at b1 (Nat.add (Nat.add m2 nn6) (Nat.mul (itn n1) nn5))))), (DV.v (AV.s s1))] (mapP L2))) H1 fun d1 H2 => onV d1 fun v1 => isB v1 fun t1 => onA p1 fun b3 m3 => rdK H2 b2 nn0 fun v2 => isP v2 fun p3 => onA p3 fun b4 m4 => g11x1 n1 m4 m3 m2 t1 p3 p1 b4 b3 b2 b1 H2 c6 c7 Kb1
def g11x3 := jF [(12 , .any)] (fun d1 H2 => rdK H2 b1 nn0 fun v1 => isP v1 fun p2 => onV d1 fun v2 => fnK v2 fun m2 L1 L2 => g11x2 L1 L2 n1 m2 m1 p1 p2 b2 b1 s1 H2 c1 c2 c3 c4 c5 c6 c7 Kb1) fun Kb2 => rdK H1 b1 nn0 fun v1 => isP v1 fun p2 => onA p2 fun b3 m2 => rdK H1 b3 (Nat.add m2 nn4) fun v2 => isI .i64 v2 fun n2 => frcB (ieq n2 ii2) fun t1 => br t1 (Kb2 (DV.v (AV.fn (nat_lit 44) [])) H1) (frcB (ieq n2 ii3) fun t2 => br t2 (Kb2 (DV.v (AV.fn (nat_lit 45) [])) H1) (Kb2 (DV.v (AV.fn (nat_lit 43) [])) H1))
def g11x4 := isI .i64 v1 fun n1 => c1 [(DV.v (AV.p p1)), (DV.v (AV.i .i64 n1))] H1 fun d1 H2 => onV d1 fun v2 => isP v2 fun p2 => rdK H2 b1 nn0 fun v3 => isP v3 fun p3 => onA p3 fun b2 m1 => rdK H2 b2 (Nat.add m1 nn2) fun v4 => isI .i64 v4 fun n2 => onA p2 fun b3 m2 => rng n2 nn8 <| wrK H2 b3 (Nat.add (Nat.add (Nat.add m2 nn6) (Nat.mul (itn n2) nn5)) nn4) (AV.b false) fun H3 => g11x3 n2 m2 p1 b1 b3 s1 H3 c2 c3 c4 c1 c5 c6 c7 Kb1
def g11x5 := rdK H1 b1 (Nat.add m1 nn8) fun v1 => isI .i64 v1 fun n2 => c1 [(DV.v (AV.p p1)), (DV.v (AV.i .i64 n1)), (DV.v (AV.i .i64 n2))] H1 fun d1 H2 => onV d1 fun v2 => rdK H2 b2 nn0 fun v3 => must (aveq (AV.p p2) v3) <| rdK H2 b2 nn0 fun v4 => must (aveq (AV.p p3) v4) <| rdK H2 b2 nn0 fun v5 => isP v5 fun p5 => onA p5 fun b3 m2 => rdK H2 b3 (Nat.add m2 nn1) fun v6 => g11x4 v6 p4 b2 s1 H2 c2 c3 c4 c1 c5 c6 c7 Kb1
def g11x6 := onA p1 fun b2 m1 => wrK H1 b2 (Nat.add m1 nn346) (AV.s s1) fun H2 => onA p1 fun b3 m2 => rdK H2 b3 (Nat.add m2 nn312) fun v1 => isP v1 fun p2 => rdK H2 b1 nn0 fun v2 => isP v2 fun p3 => onA p3 fun b4 m3 => rdK H2 b4 (Nat.add m3 nn1) fun v3 => isI .i64 v3 fun n1 => rdK H2 b1 nn0 fun v4 => isP v4 fun p4 => onA p4 fun b5 m4 => g11x5 n1 m4 p2 p4 p3 p1 b5 b1 s2 H2 c1 c2 c3 c4 c5 c6 c7 Kb1
def g11x7 := isI .i64 v1 fun n2 => frcB (ilt n1 n2) fun t1 => br t1 (Kb1 (DV.v (AV.er (nat_lit 2))) H1) (onA p1 fun b2 m1 => wrK H1 b2 (Nat.add m1 nn21) (AV.i .i64 n1) fun H2 => onA p1 fun b3 m2 => rdK H2 b3 (Nat.add m2 nn346) fun v2 => isS v2 fun s2 => c1 [(DV.v (AV.s s2)), (DV.v (AV.fn (nat_lit 40) [(AP.at b1 nn0)]))] H2 fun d1 H3 => onV d1 fun v3 => isS v3 fun s3 => g11x6 p1 b1 s3 s1 H3 c2 c3 c4 c1 c5 c6 c7 Kb1)
def g11x8 := c1 [(DV.v (AV.p p1)), (DV.v (AV.i .i64 n1))] H1 fun d1 H2 => onV d1 fun v1 => isP v1 fun p2 => alB H2 (@T4.n AV yy5 te te te te) nn1 nn0 fun b1 H3 => wrK H3 b1 nn0 (AV.p p2) fun H4 => rdK H4 b1 nn0 fun v2 => isP v2 fun p3 => frcB (isNilA p3) fun t1 => br t1 (Kb1 (DV.v (AV.er (nat_lit 6))) H4) (onA p1 fun b2 m1 => rdK H4 b2 (Nat.add m1 nn21) fun v3 => g11x7 v3 n2 p1 b1 s1 H4 c2 c3 c4 c1 c5 c6 c7 Kb1)
/-- (*ap.AP).Done -/
def g11 : G DV := fun R1 H1 Kb1 => lc R1 fun d1 R2 => onV d1 fun v1 => isP v1 fun p1 => lc R2 fun d2 R3 => onV d2 fun v2 => isI .i64 v2 fun n1 => lc R3 fun d3 R4 => onV d3 fun v3 => isI .i64 v3 fun n2 => lc R4 fun d4 R5 => onV d4 fun v4 => isS v4 fun s1 => ln R5 <| g11x8 n2 n1 p1 s1 H1 c1 c2 c3 c4 c5 c6 c7 Kb1
def G11 : G DV := g11 G38 G39 G41 G42 G43 G46 G47

def z33 : List AV := [(AV.b false), (AV.i .i64 ii0), (AV.i .i64 ii0), (AV.s AS.nil), (AV.i .i64 ii0), (AV.i .u64 ii0), (AV.b false), (AV.i .i64 ii0), (AV.b false), (AV.i .i64 ii0), (AV.i .i64 ii0), (AV.s AS.nil), (AV.i .i64 ii0), (AV.i .u64 ii0), (AV.b false), (AV.i .i64 ii0), (AV.b false), (AV.i .i64 ii0), (AV.i .i64 ii0), (AV.s AS.nil), (AV.i .i64 ii0), (AV.i .u64 ii0), (AV.b false), (AV.i .i64 ii0), (AV.b false), (AV.i .i64 ii0), (AV.i .i64 ii0), (AV.s AS.nil), (AV.i .i64 ii0), (AV.i .u64 ii0), (AV.b false), (AV.i .i64 ii0), (AV.b false), (AV.i .i64 ii0), (AV.i .i64 ii0), (AV.s AS.nil), (AV.i .i64 ii0), (AV.i .u64 ii0), (AV.b false), (AV.i .i64 ii0), (AV.b false), (AV.i .i64 ii0), (AV.i .i64 ii0), (AV.s AS.nil), (AV.i .i64 ii0), (AV.i .u64 ii0), (AV.b false), (AV.i .i64 ii0), (AV.b false), (AV.i .i64 ii0), (AV.i .i64 ii0), (AV.s AS.nil), (AV.i .i64 ii0), (AV.i .u64 ii0), (AV.b false), (AV.i .i64 ii0), (AV.b false), (AV.i .i64 ii0), (AV.i .i64 ii0), (AV.s AS.nil), (AV.i .i64 ii0), (AV.i .u64 ii0), (AV.b false), (AV.i .i64 ii0)]
/-- muezzinref24.New -/
def g27 : G DV := fun R1 H1 Kb1 => lc R1 fun d1 R2 => lc R2 fun d2 R3 => lc R3 fun d3 R4 => onV d3 fun v1 => isI .i64 v1 fun n1 => ln R4 <| cellsD d1 fun l1 => alK H1 l1 fun b1 H2 => cellsD d2 fun l2 => alK H2 l2 fun b2 H3 => rdR H3 b1 nn0 nn6 fun l3 => rdR H3 b2 nn0 nn6 fun l4 => must (Nat.beq (llen l3) nn6) <| must (Nat.beq (llen l4) nn6) <| alK H3 (lapp l3 (lapp l4 ((AV.i .i64 n1) :: z33))) fun b3 H4 => Kb1 (DV.v (AV.p (AP.at b3 nn0))) H4
def G27 : G DV := g27

def g176x1 := isP v1 fun p1 => ln R1 <| onA p1 fun b1 m1 => rdK H1 b1 m1 fun v2 => isS v2 fun s1 => alB H1 (@T4.n AV yy6 (@T4.n AV yy1 te te te te) te te te) nn2 nn0 fun b2 H2 => appD nn2 nn16 s1 (AS.sl b2 nn0 nn1 nn1) H2 fun s2 H3 => onA p1 fun b3 m2 => wrK H3 b3 m2 (AV.s s2) fun H4 => onA p1 fun b4 m3 => rdK H4 b4 m3 fun v3 => isS v3 fun s3 => lenA s3 fun m4 => Kb1 (DV.v (AV.i .i64 (Int.ofNat m4))) H4
/-- (*count.Book).Accept -/
def g176 : G DV := fun R1 H1 Kb1 => lc R1 fun d1 R2 => onV d1 fun v1 => g176x1 v1 R2 H1 Kb1
def G176 : G DV := g176

def g342x1 := isI .u32 v1 fun n1 => lc R1 fun d1 R2 => onV d1 fun v2 => isI .u32 v2 fun n2 => ln R2 <| asI (bits .xor .u32 n1 n2) fun n3 => asI (idiv n3 (ip2 ii16)) fun n4 => asI (bits .xor .u32 n3 n4) fun n5 => wrp .u32 (imul n5 ii73244475) fun n6 => asI (idiv n6 (ip2 ii16)) fun n7 => asI (bits .xor .u32 n6 n7) fun n8 => wrp .u32 (imul n8 ii73244475) fun n9 => asI (idiv n9 (ip2 ii16)) fun n10 => asI (bits .xor .u32 n9 n10) fun n11 => Kb1 (DV.v (AV.i .u32 n11)) H1
/-- hash.Mix -/
def g342 : G DV := fun R1 H1 Kb1 => lc R1 fun d1 R2 => onV d1 fun v1 => g342x1 v1 R2 H1 Kb1
def G342 : G DV := g342

/-- hash.Bucket -/
def g318 : G DV := fun R1 H1 Kb1 => lc R1 fun d1 R2 => onV d1 fun v1 => isI .u32 v1 fun n1 => lc R2 fun d2 R3 => onV d2 fun v2 => isI .u32 v2 fun n2 => ln R3 <| c1 [(DV.v (AV.i .u32 n1)), (DV.v (AV.i .u32 n2))] H1 fun d3 H2 => onV d3 fun v3 => isI .u32 v3 fun n3 => must (bnot (ieq ii16 ii0)) <| asI (irem n3 ii16) fun n4 => wrp .i64 n4 fun n5 => Kb1 (DV.v (AV.i .i64 n5)) H2
def G318 : G DV := g318 G342

def g259x1 := onV d1 fun v1 => isB v1 fun t1 => br t1 (wrK H1 b1 (Nat.add (Nat.add (Nat.add m1 nn3) (Nat.mul (itn n1) nn8)) nn2) (AV.i .i64 ii300) fun H2 => onA p1 fun b2 m2 => rdK H2 b2 (Nat.add m2 nn131) fun v2 => isS v2 fun s1 => alB H2 (@T4.n AV (AV.i .i64 n1) te te te te) nn1 nn0 fun b3 H3 => appD nn1 nn8 s1 (AS.sl b3 nn0 nn1 nn1) H3 fun s2 H4 => onA p1 fun b4 m3 => wrK H4 b4 (Nat.add m3 nn131) (AV.s s2) fun H5 => Ka1 H5) (Ka1 H1)
def g259x2 := jn (fun d2 H2 => jn (fun d3 H3 => jn (fun d4 H4 => pickK t1 d4 (DV.v (AV.b false)) fun d5 => g259x1 d5 n1 m1 p1 b1 H4 Ka1) fun Kb1 => br t1 (onV d3 fun v1 => isB v1 fun t2 => frcB (bnot t2) fun t3 => Kb1 (DV.v (AV.b t3)) H3) (Kb1 DV.n H3)) fun Kb1 => br t1 (c1 [d1, d2] H2 fun d3 H3 => onV d3 fun v1 => isB v1 fun t2 => Kb1 (DV.v (AV.b t2)) H3) (Kb1 DV.n H2)) fun Kb1 => br t1 (Kb1 (DV.v (AV.i .i64 n1)) H1) (Kb1 DV.n H1)
def g259x3 := jn (fun d2 H2 => jn (fun d3 H3 => jn (fun d4 H4 => g259x2 d4 n1 m1 t1 p1 b1 H4 c1 Ka1) fun Kb1 => br t1 (onV d3 fun v1 => isP v1 fun p2 => onA p2 fun b2 m2 => rdK H3 b2 m2 fun v2 => isS v2 fun s1 => Kb1 (DV.v (AV.s s1)) H3) (Kb1 DV.n H3)) fun Kb1 => br t1 (onV d2 fun v1 => isP v1 fun p2 => onA p2 fun b2 m2 => Kb1 (DV.v (AV.p (AP.at b2 (Nat.add m2 nn132)))) H2) (Kb1 DV.n H2)) fun Kb1 => br t1 (onV d1 fun v1 => isP v1 fun p2 => onA p2 fun b2 m2 => Kb1 (DV.v (AV.p (AP.at b2 m2))) H1) (Kb1 DV.n H1)
def g259x4 := onA p1 fun b2 m2 => wrK H1 b2 (Nat.add m2 nn134) (AV.i .i64 n1) fun H2 => jF [] (fun H3 => Kb1 (DV.v (AV.i .i64 n2)) H3) fun Ka1 => onA p1 fun b3 m3 => rdK H2 b3 (Nat.add m3 nn131) fun v1 => isS v1 fun s1 => c1 [(DV.v (AV.s s1)), (DV.v (AV.i .i64 n2))] H2 fun d1 H3 => onV d1 fun v2 => isB v2 fun t1 => frcB (bnot t1) fun t2 => jn (fun d2 H4 => g259x3 d2 n2 m1 t2 p1 b1 H4 c1 Ka1) fun Kb2 => br t2 (Kb2 (DV.v (AV.p p1)) H3) (Kb2 DV.n H3)
def g259x5 := wrK H1 b1 (Nat.add (Nat.add (Nat.add m1 nn3) (Nat.mul (itn n1) nn8)) nn1) (AV.i .i64 n2) fun H2 => onA p1 fun b3 m2 => rdK H2 b3 (Nat.add m2 nn133) fun v1 => isI .i64 v1 fun n3 => wrp .i64 (iadd n3 ii1) fun n4 => onA p1 fun b4 m3 => wrK H2 b4 (Nat.add m3 nn133) (AV.i .i64 n4) fun H3 => onA p1 fun b5 m4 => rdK H3 b5 (Nat.add m4 nn134) fun v2 => isI .i64 v2 fun n5 => rdK H3 b2 nn4 fun v3 => isS v3 fun s1 => lenA s1 fun m5 => wrp .i64 (iadd n5 (Int.ofNat m5)) fun n6 => g259x4 n6 n1 m1 p1 b1 H3 c1 Kb1
def g259x6 := must (Nat.beq (llen l1) nn5) <| alK H1 (lapp l1 []) fun b3 H2 => appD nn5 nn56 s1 (AS.sl b3 nn0 nn1 nn1) H2 fun s2 H3 => wrK H3 b1 (Nat.add (Nat.add m1 nn3) (Nat.mul (itn n1) nn8)) (AV.s s2) fun H4 => rdK H4 b1 (Nat.add (Nat.add (Nat.add m1 nn3) (Nat.mul (itn n1) nn8)) nn1) fun v1 => isI .i64 v1 fun n2 => rdK H4 b2 nn4 fun v2 => isS v2 fun s3 => lenA s3 fun m2 => wrp .i64 (iadd n2 (Int.ofNat m2)) fun n3 => g259x5 n1 n3 m1 p1 b1 b2 H4 c1 Kb1
def g259x7 := c1 [(DV.v (AV.i .u32 n1)), (DV.v (AV.i .u32 n2))] H1 fun d1 H2 => onV d1 fun v1 => isI .i64 v1 fun n3 => onA p1 fun b2 m1 => rng n3 nn16 <| rdK H2 b1 nn4 fun v2 => isS v2 fun s1 => c2 [(DV.v (AV.s s1))] H2 fun d2 H3 => onV d2 fun v3 => isS v3 fun s2 => wrK H3 b1 nn4 (AV.s s2) fun H4 => rdK H4 b2 (Nat.add (Nat.add m1 nn3) (Nat.mul (itn n3) nn8)) fun v4 => isS v4 fun s3 => rdR H4 b1 nn0 nn5 fun l1 => g259x6 l1 n3 m1 p1 b2 b1 s3 H4 c3 Kb1
/-- (*fq.Queue).Put -/
def g259 : G DV := fun R1 H1 Kb1 => lc R1 fun d1 R2 => onV d1 fun v1 => isP v1 fun p1 => lc R2 fun d2 R3 => ln R3 <| cellsD d2 fun l1 => alK H1 l1 fun b1 H2 => rdK H2 b1 nn1 fun v2 => isI .u32 v2 fun n1 => onA p1 fun b2 m1 => rdK H2 b2 m1 fun v3 => isI .u32 v3 fun n2 => g259x7 n1 n2 p1 b1 H2 c3 c1 c2 Kb1
def G259 : G DV := g259 G122 G162 G318

def g177x1 := isI .i64 v1 fun n2 => rdK H1 b1 (Nat.add m1 nn3) fun v2 => must (aveq (AV.i .i64 n1) v2) <| frcB (ilt n1 n2) fun t1 => br t1 (Ka1 H1) (onA p1 fun b2 m2 => rdK H1 b2 (Nat.add m2 nn4) fun v3 => isI .i64 v3 fun n3 => c1 [(DV.v (AV.p p1))] H1 fun d1 H2 => onV d1 fun v4 => isI .i64 v4 fun n4 => rdK H2 b2 (Nat.add m2 nn4) fun v5 => must (aveq (AV.i .i64 n3) v5) <| frcB (ilt n3 n4) fun t2 => br t2 (Ka1 H2) (Kb1 (DV.v (AV.s s1)) H2))
def g177x2 := jF [(8 , .slice)] (fun d1 H2 => onV d1 fun v1 => isS v1 fun s1 => Kb1 (DV.c (DV.v (AV.s s1)) (DV.c (DV.v AV.ni) DV.n)) H2) fun Kb2 => lpR (failF [(8 , .slice)]) (fun Kb3 => fun d1 H2 => onV d1 fun v1 => isS v1 fun s1 => jF [] (fun H3 => none) fun Ka1 => onA p1 fun b1 m1 => rdK H2 b1 (Nat.add m1 nn3) fun v2 => isI .i64 v2 fun n1 => c1 [(DV.v (AV.p p1))] H2 fun d2 H3 => onV d2 fun v3 => g177x1 v3 n1 m1 p1 b1 s1 H3 c2 Ka1 Kb2) (nat_lit 100000) (DV.v (AV.s AS.nil)) H1
def g177x3 := br t1 (Kb1 (DV.c (DV.v (AV.s AS.nil)) (DV.c (DV.v (AV.er (nat_lit 2))) DV.n)) H1) (wrp .i64 (isub n1 ii1) fun n2 => rdK H1 b1 nn2 fun v1 => isI .i64 v1 fun n3 => onA p1 fun b2 m1 => rng n2 nn16 <| rng n3 nn8 <| rdK H1 b2 (Nat.add (Nat.add (Nat.add m1 nn5) (Nat.mul (itn n2) nn8)) (itn n3)) fun v2 => isP v2 fun p2 => rdR H1 b1 nn0 nn5 fun l1 => c1 [(DV.v (AV.p p2)), (DV.a l1)] H1 fun d1 H2 => onV d1 fun v3 => isI .i64 v3 fun n4 => g177x2 p1 H2 c2 c3 Kb1)
/-- (*pool.Pool).Put -/
def g177 : G DV := fun R1 H1 Kb1 => lc R1 fun d1 R2 => onV d1 fun v1 => isP v1 fun p1 => lc R2 fun d2 R3 => onV d2 fun v2 => isI .i64 v2 fun n1 => lc R3 fun d3 R4 => ln R4 <| cellsD d3 fun l1 => alK H1 l1 fun b1 H2 => rdK H2 b1 nn2 fun v3 => isI .i64 v3 fun n2 => c1 [(DV.v (AV.i .i64 n1)), (DV.v (AV.i .i64 n2))] H2 fun d4 H3 => onV d4 fun v4 => isB v4 fun t1 => frcB (bnot t1) fun t2 => g177x3 n1 t2 p1 b1 H3 c2 c3 c4 Kb1
def G177 : G DV := g177 G255 G259 gPoolLen.G gPoolBytes.G

def g82x1 := c1 [(DV.v (AV.p p1)), (DV.v (AV.i .i64 n1)), (DV.a [(AV.i .i64 n2), (AV.i .u32 n3), (AV.i .i64 n4), (AV.i .i64 n5), (AV.s s1)])] H1 fun d1 H2 => onC d1 fun d2 d3 => onV d2 fun v1 => isS v1 fun s2 => onC d3 fun d4 d5 => onV d4 fun v2 => onN d5 <| ifA true true v2 AV.ni fun t1 => frcB (bnot t1) fun t2 => br t2 (Kb1 (DV.c (DV.v (AV.i .i64 ii0)) (DV.c (DV.v v2) DV.n)) H2) (c2 [(DV.v (AV.p p2)), (DV.v (AV.i .i64 ii1)), (DV.v (AV.s s2))] H2 fun d6 H3 => Kb1 (DV.c (DV.v (AV.i .i64 n2)) (DV.c (DV.v AV.ni) DV.n)) H3)
def g82x2 := isB v1 fun t1 => br t1 (Kb1 (DV.c (DV.v (AV.i .i64 ii0)) (DV.c (DV.v (AV.er (nat_lit 2))) DV.n)) H1) (onA p1 fun b1 m1 => wrK H1 b1 (Nat.add m1 nn21) (AV.i .i64 n1) fun H2 => onA p1 fun b2 m2 => c1 [(DV.v (AV.p (AP.at b2 (Nat.add m2 nn310))))] H2 fun d1 H3 => onV d1 fun v2 => isI .i64 v2 fun n5 => onA p1 fun b3 m3 => rdK H3 b3 (Nat.add m3 nn311) fun v3 => isP v3 fun p2 => g82x1 n2 n5 n3 n4 n1 p2 p1 s1 H3 c2 c3 Kb1)
def g82x3 := jn (fun d3 H2 => jn (fun d4 H3 => pickK t1 (DV.v (AV.b true)) d4 fun d5 => onV d5 fun v1 => g82x2 v1 n1 n2 n3 n4 p1 s1 H3 c1 c2 c3 Kb1) fun Kb2 => br t1 (Kb2 DV.n H2) (onV d1 fun v1 => onV d3 fun v2 => isI .i64 v1 fun n5 => isI .i64 v2 fun n6 => frcB (ilt n5 n6) fun t2 => Kb2 (DV.v (AV.b t2)) H2)) fun Kb2 => br t1 (Kb2 DV.n H1) (onV d2 fun v1 => isP v1 fun p2 => onA p2 fun b1 m1 => rdK H1 b1 m1 fun v2 => isI .i64 v2 fun n5 => Kb2 (DV.v (AV.i .i64 n5)) H1)
def g82x4 := jn (fun d2 H2 => jn (fun d3 H3 => jn (fun d4 H4 => g82x3 d1 d4 n1 n2 n3 n4 t1 p1 s1 H4 c1 c2 c3 Kb1) fun Kb2 => br t1 (Kb2 DV.n H3) (onV d3 fun v1 => isP v1 fun p2 => onA p2 fun b1 m1 => Kb2 (DV.v (AV.p (AP.at b1 (Nat.add m1 nn21)))) H3)) fun Kb2 => br t1 (Kb2 DV.n H2) (onV d2 fun v1 => isP v1 fun p2 => onA p2 fun b1 m1 => Kb2 (DV.v (AV.p (AP.at b1 m1))) H2)) fun Kb2 => br t1 (Kb2 DV.n H1) (Kb2 (DV.v (AV.p p1)) H1)
def g82x5 := jn (fun d2 H2 => jn (fun d3 H3 => pickK t1 (DV.v (AV.b true)) d3 fun d4 => onV d4 fun v1 => isB v1 fun t2 => jn (fun d5 H4 => g82x4 d5 n1 n2 n3 n4 t2 p1 s1 H4 c1 c2 c3 Kb1) fun Kb2 => br t2 (Kb2 DV.n H3) (Kb2 (DV.v (AV.i .i64 n1)) H3)) fun Kb2 => br t1 (Kb2 DV.n H2) (onV d2 fun v1 => isI .i64 v1 fun n5 => frcB (ilt ii1500 n5) fun t2 => Kb2 (DV.v (AV.b t2)) H2)) fun Kb2 => br t1 (Kb2 DV.n H1) (onV d1 fun v1 => isS v1 fun s2 => lenA s2 fun m1 => Kb2 (DV.v (AV.i .i64 (Int.ofNat m1))) H1)
def g82x6 := jn (fun d1 H2 => jn (fun d2 H3 => pickK t1 (DV.v (AV.b true)) d2 fun d3 => onV d3 fun v1 => isB v1 fun t2 => jn (fun d4 H4 => g82x5 d4 n1 n2 n3 n4 t2 p1 s1 H4 c1 c2 c3 Kb1) fun Kb2 => br t2 (Kb2 DV.n H3) (Kb2 (DV.v (AV.s s1)) H3)) fun Kb2 => br t1 (Kb2 DV.n H2) (onV d1 fun v1 => isI .i64 v1 fun n5 => frcB (ile ii8 n5) fun t2 => Kb2 (DV.v (AV.b t2)) H2)) fun Kb2 => br t1 (Kb2 DV.n H1) (Kb2 (DV.v (AV.i .i64 n4)) H1)
def g82x7 := isI .i64 v1 fun n3 => lc R1 fun d1 R2 => onV d1 fun v2 => isI .u32 v2 fun n4 => lc R2 fun d2 R3 => onV d2 fun v3 => isS v3 fun s1 => ln R3 <| c1 [(DV.v (AV.p p1)), (DV.v (AV.i .i64 n1))] H1 fun d3 H2 => onV d3 fun v4 => isP v4 fun p2 => frcB (isNilA p2) fun t1 => br t1 (Kb1 (DV.c (DV.v (AV.i .i64 ii0)) (DV.c (DV.v (AV.er (nat_lit 6))) DV.n)) H2) (frcB (ilt n3 ii0) fun t2 => g82x6 n2 n1 n4 n3 t2 p1 s1 H2 c2 c3 c4 Kb1)
/-- (*ap.AP).Offer -/
def g82 : G DV := fun R1 H1 Kb1 => lc R1 fun d1 R2 => onV d1 fun v1 => isP v1 fun p1 => lc R2 fun d2 R3 => onV d2 fun v2 => isI .i64 v2 fun n1 => lc R3 fun d3 R4 => onV d3 fun v3 => isI .i64 v3 fun n2 => lc R4 fun d4 R5 => onV d4 fun v4 => g82x7 v4 R5 n2 n1 p1 H1 c1 c3 c4 c2 Kb1
def G82 : G DV := g82 G42 G115 G176 G177

def g83x1 := onV d1 fun v1 => isI .i64 v1 fun n1 => lenA s1 fun m1 => frcB (ilt n1 (Int.ofNat m1)) fun t1 => br t1 (ixA s1 n1 (fun x => x) fun b1 m2 => rdK H1 b1 m2 fun v2 => isI .u8 v2 fun n2 => alB H1 (@T4.n AV (AV.i .u8 n2) te te te te) nn1 nn0 fun b2 H2 => appD nn1 nn1 s2 (AS.sl b2 nn0 nn1 nn1) H2 fun s3 H3 => wrp .i64 (iadd n1 ii1) fun n3 => Kc1 (DV.v (AV.s s3)) (DV.v (AV.i .i64 n3)) H3) (Kb1 (DV.v (AV.s s2)) H1)
def g83x2 := onV d1 fun v1 => isS v1 fun s1 => ln R1 <| lenA s1 fun m1 => natK (Int.ofNat m1) fun m2 => must (Nat.ble nn0 m2) <| must (Nat.ble (Nat.mul (nat_lit 1) m2) (nat_lit 281474976710656)) <| must (Nat.ble m2 (nat_lit 9223372036854775807)) <| alK H1 (mkL [(AV.i .u8 ii0)] m2) fun b1 H2 => lpR (failF [(3 , .slice), (4 , .int .i64)]) (fun Kc1 => fun d2 d3 H3 => onV d2 fun v2 => isS v2 fun s2 => g83x1 d3 s1 s2 H3 Kb1 Kc1) (nat_lit 100000) (DV.v (AV.s (AS.sl b1 nn0 nn0 m2))) (DV.v (AV.i .i64 ii0)) H2
/-- muezzinref.Bytes -/
def g83 : G DV := fun R1 H1 Kb1 => lc R1 fun d1 R2 => g83x2 d1 R2 H1 Kb1
def G83 : G DV := g83
end
end Go.Proofs.YtjjkbedlnbaccaaGreatDoor
