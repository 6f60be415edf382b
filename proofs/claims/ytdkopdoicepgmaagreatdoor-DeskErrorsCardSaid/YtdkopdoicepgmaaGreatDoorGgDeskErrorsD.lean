/- The law DeskErrors on the abstract machine: written by a program (ggen) off the elaborated code. -/
import Derived.Test.YtdkopdoicepgmaaGreatDoorGgD1
set_option linter.unusedVariables false
set_option linter.constructorNameAsVariable false
set_option maxRecDepth 100000
namespace Go.Proofs.YtdkopdoicepgmaaGreatDoor
open Go.Vc Go.Ab
noncomputable section
variable (v1 v2 v3 v4 v5 v6 : AV) (l1 l2 l3 l4 : List AV) (L1 L2 : List AP) (d1 d2 d3 d4 : DV) (R1 : List DV) (n1 n2 n3 n4 n5 n6 n7 n8 : Int) (m1 m2 m3 m4 : Nat) (t1 t2 t3 t4 : Bool) (p1 p2 p3 p4 p5 : AP) (b1 b2 b3 b4 b5 : P4) (s1 s2 s3 : AS) (H1 : AH) (x1 x2 : List Int) (c1 c2 c3 c4 c5 c6 c7 c8 c9 c10 c11 c12 c13 c14 c15 : G DV) (Ka1 Ka2 : AH → Option DV) (Kb1 Kb2 : DV → AH → Option DV) (Kc1 Kc2 : DV → DV → AH → Option DV) (Kd1 : DV → DV → DV → AH → Option DV)
variable {ads : List Addr}
def ss32 : List Int := [ii106, ii111, ii105, ii110, ii115, ii32, ii48, ii32, ii49]
def ss33 : List Int := [ii106, ii111, ii105, ii110, ii32, ii48]
def ss34 : List Int := [ii111, ii102, ii102, ii101, ii114, ii32, ii48, ii32, ii48, ii32, ii49]
def ss35 : List Int := [ii99, ii111, ii117, ii110, ii116, ii115, ii32, ii49]
def ss36 : List Int := [ii106, ii111, ii105, ii110, ii32, ii48, ii32, ii49, ii32, ii50]
def ss37 : List Int := [ii111, ii102, ii102, ii101, ii114, ii32, ii48, ii32, ii48, ii32, ii49, ii32, ii97, ii32, ii98]
def ss38 : List Int := [ii116, ii105, ii109, ii101, ii32, ii49]
def ss39 : List Int := [ii116, ii114, ii105, ii103, ii103, ii101, ii114, ii32, ii48]
def ss40 : List Int := [ii115, ii101, ii110, ii100, ii32, ii48]
def ss41 : List Int := [ii98, ii101, ii97, ii99, ii111, ii110, ii32, ii48]
def ss42 : List Int := [ii117, ii112, ii32, ii48, ii10, ii117, ii112, ii32, ii48]
def ss43 : List Int := [ii100, ii111, ii122, ii101, ii32, ii48]
def ss44 : List Int := [ii114, ii97, ii116, ii101, ii32, ii48]
def ss45 : List Int := [ii106, ii111, ii105, ii110, ii32, ii120, ii32, ii49]
def ss46 : List Int := [ii106, ii111, ii105, ii110, ii32, ii48, ii32, ii48, ii49]
def ss47 : List Int := [ii117, ii112, ii32, ii49, ii50, ii51, ii52, ii53, ii54, ii55, ii56, ii57, ii48]
def ss48 : List Int := [ii108, ii101, ii97, ii118, ii101, ii32, ii45, ii49]
def ss49 : List Int := [ii111, ii102, ii102, ii101, ii114, ii32, ii48, ii32, ii48, ii32, ii113, ii32, ii97]
def ss50 : List Int := [ii100, ii111, ii122, ii101, ii32, ii48, ii32, ii121]
def ss51 : List Int := [ii114, ii97, ii116, ii101, ii32, ii48, ii32, ii43, ii49]
def ss52 : List Int := [ii115, ii101, ii110, ii100, ii32, ii49, ii32, ii122]
def ss53 : List Int := [ii108, ii101, ii97, ii118, ii101, ii32, ii48]
def ss54 : List Int := [ii100, ii111, ii122, ii101, ii32, ii48, ii32, ii49]
def ss55 : List Int := [ii114, ii97, ii116, ii101, ii32, ii53, ii32, ii49]
def ss56 : List Int := [ii112, ii111, ii108, ii108, ii32, ii51]
def ss57 : List Int := [ii116, ii114, ii105, ii103, ii103, ii101, ii114, ii32, ii50, ii32, ii49]
def ss58 : List Int := [ii111, ii102, ii102, ii101, ii114, ii32, ii49, ii32, ii48, ii32, ii48, ii32, ii97]
def ss59 : List Int := [ii113, ii117, ii101, ii117, ii101, ii100, ii32, ii48]
def ss60 : List Int := [ii102, ii108, ii121, ii105, ii110, ii103, ii32, ii48]
def ss61 : List Int := [ii97, ii99, ii107, ii101, ii100, ii32, ii48]
def ss62 : List Int := [ii100, ii114, ii111, ii112, ii112, ii101, ii100, ii32, ii48]
def ss63 : List Int := [ii32, ii32]
def ss64 : List Int := [ii32, ii32, ii35, ii32, ii106, ii111, ii105, ii110, ii32, ii48, ii32, ii49]
def yy61 : AV := (AV.g ss32)
def yy62 : AV := (AV.g ss33)
def yy63 : AV := (AV.g ss34)
def yy64 : AV := (AV.g ss35)
def yy65 : AV := (AV.g ss5)
def yy66 : AV := (AV.g ss36)
def yy67 : AV := (AV.g ss37)
def yy68 : AV := (AV.g ss38)
def yy69 : AV := (AV.g ss39)
def yy70 : AV := (AV.g ss4)
def yy71 : AV := (AV.g ss40)
def yy72 : AV := (AV.g ss41)
def yy73 : AV := (AV.g ss42)
def yy74 : AV := (AV.g ss43)
def yy75 : AV := (AV.g ss6)
def yy76 : AV := (AV.g ss44)
def yy77 : AV := (AV.g ss45)
def yy78 : AV := (AV.g ss46)
def yy79 : AV := (AV.g ss47)
def yy80 : AV := (AV.g ss48)
def yy81 : AV := (AV.g ss49)
def yy82 : AV := (AV.g ss50)
def yy83 : AV := (AV.g ss51)
def yy84 : AV := (AV.g ss52)
def yy85 : AV := (AV.g ss53)
def yy86 : AV := (AV.g ss54)
def yy87 : AV := (AV.g ss55)
def yy88 : AV := (AV.g ss56)
def yy89 : AV := (AV.g ss57)
def yy90 : AV := (AV.g ss58)
def yy91 : AV := (AV.g ss59)
def yy92 : AV := (AV.g ss60)
def yy93 : AV := (AV.g ss61)
def yy94 : AV := (AV.g ss62)
def z46 : T4 AV := (@T4.n AV yy61 (@T4.n AV yy62 (@T4.n AV yy63 te te te te) (@T4.n AV yy64 te te te te) (@T4.n AV yy65 te te te te) te) (@T4.n AV yy66 (@T4.n AV yy67 te te te te) (@T4.n AV yy68 te te te te) (@T4.n AV yy69 te te te te) te) (@T4.n AV yy70 (@T4.n AV yy71 te te te te) (@T4.n AV yy72 te te te te) (@T4.n AV yy73 te te te te) te) (@T4.n AV yy74 (@T4.n AV yy75 te te te te) (@T4.n AV yy76 te te te te) te te))
def z47 : T4 AV := (@T4.n AV yy77 (@T4.n AV yy78 (@T4.n AV yy79 te te te te) te te te) (@T4.n AV yy80 (@T4.n AV yy81 te te te te) te te te) (@T4.n AV yy82 (@T4.n AV yy83 te te te te) te te te) (@T4.n AV yy84 te te te te))
def z48 : T4 AV := (@T4.n AV yy85 (@T4.n AV yy86 (@T4.n AV yy87 te te te te) te te te) (@T4.n AV yy88 te te te te) (@T4.n AV yy89 te te te te) (@T4.n AV yy90 te te te te))
def z49 : T4 AV := (@T4.n AV yy91 (@T4.n AV yy92 te te te te) (@T4.n AV yy93 te te te te) (@T4.n AV yy94 te te te te) te)
def g3x1 := jn (fun d1 H2 => jn (fun d2 H3 => jn (fun d3 H4 => pickK t1 d3 (DV.v (AV.b false)) fun d4 => onV d4 fun v1 => isB v1 fun t2 => Kb1 (DV.v (AV.b t2)) H4) fun Kb2 => br t1 (c1 [d1, d2] H3 fun d3 H4 => onV d3 fun v1 => isB v1 fun t2 => Kb2 (DV.v (AV.b t2)) H4) (Kb2 DV.n H3)) fun Kb2 => br t1 (alB H2 z49 nn4 nn0 fun b1 H3 => Kb2 (DV.v (AV.s (AS.sl b1 nn0 nn4 nn4))) H3) (Kb2 DV.n H2)) fun Kb2 => br t1 (Kb2 (DV.v (AV.s s1)) H1) (Kb2 DV.n H1)
def g3x2 := jn (fun d2 H2 => pickK t1 d2 (DV.v (AV.b false)) fun d3 => onV d3 fun v2 => isB v2 fun t2 => jn (fun d4 H3 => jn (fun d5 H4 => pickK t2 d5 (DV.v (AV.b false)) fun d6 => onV d6 fun v3 => isB v3 fun t3 => g3x1 t3 s1 H4 c1 Kb1) fun Kb2 => br t2 (onV d4 fun v3 => ifA true true v3 AV.ni fun t3 => Kb2 (DV.v (AV.b t3)) H3) (Kb2 DV.n H3)) fun Kb2 => br t2 (Kb2 (DV.v v1) H2) (Kb2 DV.n H2)) fun Kb2 => br t1 (onV d1 fun v2 => isI .i64 v2 fun n1 => frcB (ieq n1 ii0) fun t2 => Kb2 (DV.v (AV.b t2)) H1) (Kb2 DV.n H1)
def g3x3 := jn (fun d2 H2 => pickK t1 d2 (DV.v (AV.b false)) fun d3 => onV d3 fun v2 => isB v2 fun t2 => jn (fun d4 H3 => jn (fun d5 H4 => g3x2 v1 d5 t2 s1 H4 c1 Kb1) fun Kb2 => br t2 (onV d4 fun v3 => isS v3 fun s3 => lenA s3 fun m1 => Kb2 (DV.v (AV.i .i64 (Int.ofNat m1))) H3) (Kb2 DV.n H3)) fun Kb2 => br t2 (Kb2 (DV.v (AV.s s2)) H2) (Kb2 DV.n H2)) fun Kb2 => br t1 (onV d1 fun v2 => ifA true true v2 AV.ni fun t2 => Kb2 (DV.v (AV.b t2)) H1) (Kb2 DV.n H1)
def g3x4 := jn (fun d2 H2 => jn (fun d3 H3 => pickK t1 d3 (DV.v (AV.b false)) fun d4 => onV d4 fun v3 => isB v3 fun t2 => jn (fun d5 H4 => g3x3 v1 d5 t2 s1 s2 H4 c1 Kb1) fun Kb2 => br t2 (Kb2 (DV.v v2) H3) (Kb2 DV.n H3)) fun Kb2 => br t1 (onV d2 fun v3 => isI .i64 v3 fun n1 => frcB (ieq n1 ii0) fun t2 => Kb2 (DV.v (AV.b t2)) H2) (Kb2 DV.n H2)) fun Kb2 => br t1 (onV d1 fun v3 => isS v3 fun s3 => lenA s3 fun m1 => Kb2 (DV.v (AV.i .i64 (Int.ofNat m1))) H1) (Kb2 DV.n H1)
def g3x5 := pickK t1 d1 (DV.v (AV.b false)) fun d2 => onV d2 fun v4 => isB v4 fun t2 => jn (fun d3 H2 => jn (fun d4 H3 => pickK t2 d4 (DV.v (AV.b false)) fun d5 => onV d5 fun v5 => isB v5 fun t3 => jn (fun d6 H4 => g3x4 v1 v2 d6 t3 s1 s2 H4 c1 Kb1) fun Kb2 => br t3 (Kb2 (DV.v (AV.s s3)) H3) (Kb2 DV.n H3)) fun Kb2 => br t2 (onV d3 fun v5 => ifA true true v5 AV.ni fun t3 => Kb2 (DV.v (AV.b t3)) H2) (Kb2 DV.n H2)) fun Kb2 => br t2 (Kb2 (DV.v v3) H1) (Kb2 DV.n H1)
def g3x6 := jn (fun d2 H2 => pickK t1 d2 (DV.v (AV.b false)) fun d3 => onV d3 fun v5 => isB v5 fun t2 => jn (fun d4 H3 => jn (fun d5 H4 => g3x5 v1 v2 v3 d5 t2 s1 s2 s3 H4 c1 Kb1) fun Kb2 => br t2 (c2 [d4, (DV.v (AV.i .i64 ii107))] H3 fun d5 H4 => onV d5 fun v6 => isB v6 fun t3 => Kb2 (DV.v (AV.b t3)) H4) (Kb2 DV.n H3)) fun Kb2 => br t2 (Kb2 (DV.v v4) H2) (Kb2 DV.n H2)) fun Kb2 => br t1 (c2 [d1, (DV.v (AV.i .i64 ii114))] H1 fun d2 H2 => onV d2 fun v5 => isB v5 fun t2 => Kb2 (DV.v (AV.b t2)) H2) (Kb2 DV.n H1)
def g3x7 := jn (fun d1 H2 => jn (fun d2 H3 => pickK t1 d2 (DV.v (AV.b false)) fun d3 => onV d3 fun v7 => isB v7 fun t2 => jn (fun d4 H4 => g3x6 v1 v2 v3 v4 d4 t2 s1 s2 s3 H4 c1 c2 Kb1) fun Kb2 => br t2 (Kb2 (DV.v v5) H3) (Kb2 DV.n H3)) fun Kb2 => br t1 (c2 [d1, (DV.v (AV.i .i64 ii113))] H2 fun d2 H3 => onV d2 fun v7 => isB v7 fun t2 => Kb2 (DV.v (AV.b t2)) H3) (Kb2 DV.n H2)) fun Kb2 => br t1 (Kb2 (DV.v v6) H1) (Kb2 DV.n H1)
def g3x8 := onC d1 fun d2 d3 => onV d2 fun v4 => onN d3 <| c1 [(DV.v (AV.p p1)), (DV.v (AV.g ss63))] H1 fun d4 H2 => onC d4 fun d5 d6 => onV d5 fun v5 => isS v5 fun s2 => onC d6 fun d7 d8 => onV d7 fun v6 => onN d8 <| c1 [(DV.v (AV.p p1)), (DV.v (AV.g ss1))] H2 fun d9 H3 => onC d9 fun d10 d11 => onV d10 fun v7 => isS v7 fun s3 => onC d11 fun d12 d13 => onV d12 fun v8 => onN d13 <| g3x7 v8 v6 v4 v1 v2 v3 t1 s3 s2 s1 H3 c2 c3 Kb1
def g3x9 := ixA (AS.sl b1 nn0 nn6 nn6) n1 (fun x => x) fun b2 m1 => rdK H1 b2 m1 fun v3 => isG v3 fun x1 => c1 [(DV.v (AV.p p1)), (DV.v (AV.g x1))] H1 fun d1 H2 => onC d1 fun d2 d3 => onV d2 fun v4 => isS v4 fun s1 => onC d3 fun d4 d5 => onV d4 fun v5 => onN d5 <| c1 [(DV.v (AV.p p1)), (DV.v (AV.g ss64))] H2 fun d6 H3 => onC d6 fun d7 d8 => onV d7 fun v6 => isS v6 fun s2 => g3x8 v5 v1 v2 d8 t1 p1 s2 H3 c1 c2 c3 Kb1
def g3x10 := ixA (AS.sl b1 nn0 nn8 nn8) n1 (fun x => x) fun b3 m1 => rdK H1 b3 m1 fun v2 => isG v2 fun x1 => c1 [(DV.v (AV.p p1)), (DV.v (AV.g x1))] H1 fun d2 H2 => onC d2 fun d3 d4 => onV d3 fun v3 => isS v3 fun s1 => onC d4 fun d5 d6 => onV d5 fun v4 => onN d6 <| lenA (AS.sl b2 nn0 nn6 nn6) fun m2 => c2 [d1, (DV.v (AV.i .i64 (Int.ofNat m2)))] H2 fun d7 H3 => onV d7 fun v5 => isI .i64 v5 fun n2 => g3x9 v4 v1 n2 t1 p1 b2 H3 c1 c3 c4 Kb1
def g3x11 := ixA (AS.sl b1 nn0 nn16 nn16) n1 (fun x => x) fun b4 m1 => rdK H1 b4 m1 fun v1 => isG v1 fun x1 => c1 [(DV.v (AV.p p1)), (DV.v (AV.g x1))] H1 fun d2 H2 => onC d2 fun d3 d4 => onV d3 fun v2 => isS v2 fun s1 => onC d4 fun d5 d6 => onV d5 fun v3 => onN d6 <| lenA (AS.sl b2 nn0 nn8 nn8) fun m2 => c2 [d1, (DV.v (AV.i .i64 (Int.ofNat m2)))] H2 fun d7 H3 => onV d7 fun v4 => isI .i64 v4 fun n2 => g3x10 v3 d1 n2 t1 p1 b2 b3 H3 c1 c2 c3 c4 Kb1
def g3x12 := c1 [] H1 fun d2 H2 => onV d2 fun v1 => isP v1 fun p1 => frcB (isNilA p1) fun t2 => br t2 (Kb1 (DV.v (AV.b false)) H2) (alB H2 z46 nn16 nn0 fun b1 H3 => alB H3 z47 nn8 nn0 fun b2 H4 => alB H4 z48 nn6 nn0 fun b3 H5 => lenA (AS.sl b1 nn0 nn16 nn16) fun m1 => c2 [d1, (DV.v (AV.i .i64 (Int.ofNat m1)))] H5 fun d3 H6 => onV d3 fun v2 => isI .i64 v2 fun n1 => g3x11 d1 n1 t1 p1 b1 b2 b3 H6 c3 c2 c4 c5 Kb1)
/-- muezzinlaw28.DeskErrors -/
def g3 : G DV := fun R1 H1 Kb1 => lc R1 fun d1 R2 => ln R2 <| c1 [] H1 fun d2 H2 => onV d2 fun v1 => isB v1 fun t1 => frcB (bnot t1) fun t2 => br t2 (Kb1 (DV.v (AV.b false)) H2) (g3x12 d1 t1 H2 c2 c4 c3 c6 c5 Kb1)
def G3 : G DV := g3 G4 G5 G6 gNumber.G G8 G9
end
end Go.Proofs.YtdkopdoicepgmaaGreatDoor
