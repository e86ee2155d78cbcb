/- A part of the proof: no condition. -/
import Derived.Test.YtgdnbfijkagodaaGreatDoorA4
import Derived.Test.YtgdnbfijkagodaaGreatDoorA2
import Derived.KernelRfl
set_option linter.unusedSectionVars false
set_option linter.unusedSimpArgs false
set_option linter.unusedVariables false
section
namespace Go.gl
noncomputable section
open Go.Ab
set_option maxRecDepth 100000
variable(Z:nQ)
section
variable(a b c d e f g i j m o p q r t u w x y z A B C D E F H I J K L M N O P Q R S T U V:ae)(s:ag)
def W9:fk:=fP (aE Z BU) (bA Z v3)
def Xa:f5:=ey 14
def Xb:fk:=fP (aE Z BS) (bA Z v3)
def Jh:fk:=dy 0 (Xb Z)
def rU:f5:=ey 0x3510d1a
def z5:fk:=ew rU (Z.cG (aE Z zY) rU) (Jh Z)
def Xc:fk:=fP (aE Z II) (z5 Z)
def Qw:fk:=dy 1 (Xc Z)
def B5:ah:=Z.aK .e IF .e s (W9 Z)
def B6:ah:=Z.aK .e IG .e s (Qw Z)
def B7:ah:=Z.aK rU IH (dr (dr (bq .e (bq (bK d) .e)) b .e) a (bq .e (bq (bq (bK c) .e) .e))) s (z5 Z)
def B8:ah:=Z.aK rU IJ (dr (dr (bq .e (bq (bK d) .e)) b .e) a (bq .e (bq (bq (bK c) .e) .e))) s (z5 Z)
def B9:ah:=Z.aK .e BR .e s (bA Z v3)
def rV:ah:=Z.cG (aE Z zY) rU (dr (dr (bq .e (bq (bK d) .e)) b .e) a (bq .e (bq (bq (bK c) .e) .e))) s (Jh Z)
def Ca:ah:=Z.aK Xa BT (dr (bK b) a .e) s (bA Z v3)
def f133(a b:ae)(s:ag):ah:=bI [a,b] 0 .e fun ao=>aE Z IK ao s (bA Z v3)
def Xd:fk:=fP (aE Z IP) (bA Z BV)
def Ji:fk:=dy 0 (Xd Z)
def rW:f5:=ey 0x30d5039a
def Jj:fk:=ew rW (Z.cG (aE Z zZ) rW) (Ji Z)
def Xe:f5:=ey 0x310d5
def Cb:ah:=Z.aK rW IL (dr (dr (bq (dr (bK e) d .e) .e) b .e) a (bq (bq (bq (bK f) .e) .e) (bK c))) s (Jj Z)
def Cc:ah:=Z.aK rW IM (dr (dr (bq (dr (bK e) d .e) .e) b .e) a (bq (bq (bq (bK f) .e) .e) (bK c))) s (Jj Z)
def Cd:ah:=Z.aK Xe IN (bq (bq (bq (bK b) .e) .e) (bq .e (bK a))) s (bA Z BV)
def rX:ah:=Z.cG (aE Z zZ) rW (dr (dr (bq (dr (bK e) d .e) .e) b .e) a (bq (bq (bq (bK f) .e) .e) (bK c))) s (Ji Z)
def f134(a b:ae)(s:ag):ah:=bI [a,b] 0 .e fun ao=>aE Z IQ ao s (bA Z BV)
def Xf:fk:=fP (aE Z IT) (bA Z BW)
def Jk:fk:=dy 0 (Xf Z)
def rY:f5:=ey 54
def Xg:fk:=ew rY (Z.cG (aE Z z0) rY) (Jk Z)
def Ce:ah:=Z.aK rY IR (dr (bq (bK b) .e) a .e) s (Xg Z)
def v7:ah:=Z.aK rY IS (dr (bq (bK b) .e) a .e) s (bA Z BW)
def rZ:ah:=Z.cG (aE Z z0) rY (dr (bq (bK b) .e) a .e) s (Jk Z)
def f135(a:ae)(s:ag):ah:=bI [a] 0 .e fun ao=>aE Z IU ao s (bA Z BW)
def f136(a:ae)(s:ag):ah:=bI [a] 0 .e fun ao=>aE Z IV ao s (bA Z Qe)
def Xh:fk:=fP (aE Z IZ) (bA Z BX)
def Jl:fk:=dy 0 (Xh Z)
def r0:f5:=ey 0xd50d8a
def Jm:fk:=ew r0 (Z.cG (aE Z z1) r0) (Jl Z)
def Xi:f5:=ey 197
def Cf:ah:=Z.aK r0 IW (dr (dr .e b (dr (bq (bK e) .e) c .e)) a (bq (bq (bq (bK d) .e) .e) .e)) s (Jm Z)
def Cg:ah:=Z.aK r0 IX (dr (dr .e b (dr (bq (bK e) .e) c .e)) a (bq (bq (bq (bK d) .e) .e) .e)) s (Jm Z)
def Ch:ah:=Z.aK Xi IY (bq (bq .e (bK a)) .e) s (bA Z BX)
def r1:ah:=Z.cG (aE Z z1) r0 (dr (dr .e b (dr (bq (bK e) .e) c .e)) a (bq (bq (bq (bK d) .e) .e) .e)) s (Jl Z)
def f137(a b:ae)(s:ag):ah:=bI [a,b] 0 .e fun ao=>aE Z I0 ao s (bA Z BX)
def Xj:fk:=fP (aE Z B2) (bA Z tG)
def Jn:fk:=dy 0 (Xj Z)
def r2:f5:=ey 0x39234d2a
def Jo:fk:=ew r2 (Z.cG (aE Z z2) r2) (Jn Z)
def Xk:f5:=ey 0xd237a
def Qx:f5:=ey 826
def Qy:fk:=fP (aE Z BZ) (bA Z tG)
def Ci:fk:=dy 2 (Qy Z)
def pz:f5:=ey 0xd15203467a
def Cj:fk:=ew pz (Z.cG (aE Z v5) pz) (Ci Z)
def Qz:f5:=ey 13178
def Ck:ah:=Z.aK r2 I1 (dr (dr (dr .e d (bq (bK i) .e)) b (bq (bK e) .e)) a (dr .e c (bq (dr (bK g) f .e) .e))) s (Jo Z)
def Cl:ah:=Z.aK r2 I2 (dr (dr (dr .e d (bq (bK i) .e)) b (bq (bK e) .e)) a (dr .e c (bq (dr (bK g) f .e) .e))) s (Jo Z)
def Cm:ah:=Z.aK pz I3 (dr (dr (bK d) b (bq (dr (bq .e (bq (bK f) .e)) e .e) .e)) a (dr .e c (bq (bq (bq .e (bq (bK g) .e)) .e) .e))) s (Cj Z)
def Cn:ah:=Z.aK pz I4 (dr (dr (bK d) b (bq (dr (bq .e (bq (bK f) .e)) e .e) .e)) a (dr .e c (bq (bq (bq .e (bq (bK g) .e)) .e) .e))) s (Cj Z)
def Co:ah:=Z.aK Qz BY (dr (dr (bK d) b (bq (bK e) .e)) a (bK c)) s (bA Z tG)
def r3:ah:=Z.cG (aE Z v5) pz (dr (dr (bK d) b (bq (dr (bq .e (bq (bK f) .e)) e .e) .e)) a (dr .e c (bq (bq (bq .e (bq (bK g) .e)) .e) .e))) s (Ci Z)
def v8:ah:=Z.aK Qx B0 (dr (dr (bK d) b .e) a (bK c)) s (bA Z tG)
def Cp:ah:=Z.aK Xk B1 (dr (dr (bK d) b (bq (bK e) .e)) a (dr .e c (bq (bK f) .e))) s (bA Z tG)
def pA:ah:=Z.cG (aE Z z2) r2 (dr (dr (dr .e d (bq (bK i) .e)) b (bq (bK e) .e)) a (dr .e c (bq (dr (bK g) f .e) .e))) s (Jn Z)
def f138(a b c d:ae)(s:ag):ah:=bI [a,b,c,d] 0 .e fun ao=>aE Z I5 ao s (bA Z tG)
def Xl:fk:=fP (aE Z I8) (bA Z B3)
def Jp:fk:=dy 0 (Xl Z)
def ux:f5:=ey 0xd234da
def Xm:fk:=ew ux (Z.cG (aE Z z3) ux) (Jp Z)
def Xn:f5:=ey 837
def v9:ah:=Z.aK Xn I7 (bq (bq .e (bq (bK a) .e)) .e) s (bA Z B3)
def wa:ah:=Z.aK ux I6 (dr (dr (bq (bK d) .e) b (bq (bK e) .e)) a (dr .e c (bq (bK f) .e))) s (Xm Z)
def r4:ah:=Z.cG (aE Z z3) ux (dr (dr (bq (bK d) .e) b (bq (bK e) .e)) a (dr .e c (bq (bK f) .e))) s (Jp Z)
def f139(a b c:ae)(s:ag):ah:=bI [a,b,c] 0 .e fun ao=>aE Z I9 ao s (bA Z B3)
def Xo:f5:=ey 798
def Xp:fk:=fP (aE Z Jf) (bA Z yK)
def Jq:fk:=dy 0 (Xp Z)
def r5:f5:=ey 0x334753444da
def z6:fk:=ew r5 (Z.cG (aE Z z4) r5) (Jq Z)
def Xq:fk:=fP (aE Z Jc) (z6 Z)
def Xr:fk:=dy 1 (Xq Z)
def QA:f5:=ey 0xe34753474da
def QB:f5:=ey 0x350d5
def Cq:ah:=Z.aK r5 Jb (dr (dr (bq (bK d) .e) b (bq .e (bq .e (bq (bK g) .e)))) a (bq (bq (bK e) (bq .e (bq (bK f) .e))) (bK c))) s (z6 Z)
def r6:ah:=Z.aK QA Ja (dr (dr (bq (bK d) .e) b (bq (bK f) (bq .e (bq (bK j) .e)))) a (bq (bq (bK e) (bq .e (bq (bK i) .e))) (dr (bK g) c .e))) s (Xr Z)
def Cr:ah:=Z.aK r5 Jd (dr (dr (bq (bK d) .e) b (bq .e (bq .e (bq (bK g) .e)))) a (bq (bq (bK e) (bq .e (bq (bK f) .e))) (bK c))) s (z6 Z)
def Cs:ah:=Z.aK QB Je (bq (bq (bq (bK a) .e) .e) (bq (bq (bK b) .e) .e)) s (bA Z yK)
def pB:ah:=Z.cG (aE Z z4) r5 (dr (dr (bq (bK d) .e) b (bq .e (bq .e (bq (bK g) .e)))) a (bq (bq (bK e) (bq .e (bq (bK f) .e))) (bK c))) s (Jq Z)
def Ct:ah:=Z.aK Xo B4 (dr (bK b) a (bq .e (bK c))) s (bA Z yK)
def f140(a b:ae)(s:ag):ah:=bI [a,b] 0 .e fun ao=>aE Z Jg ao s (bA Z yK)
def Jr:f5:=ey 50
def pC:ah:=Z.aK Jr Ie (dr .e a (bK b)) s (bA Z BO)
def nU:ah:=Z.aK Jr If (dr .e a (bK b)) s (bA Z BO)
def f111(a:ae)(s:ag):ah:=bI [a] 0 .e fun ao=>aE Z Ig ao s (bA Z BO)
def ac6:f5:=ey 57
def Js:ah:=Z.aK ac6 OT (bq (dr (bK b) a .e) .e) s (bA Z S6)
def f87(a:ae)(s:ag):ah:=bI [a] 0 .e fun ao=>aE Z OU ao s (bA Z S6)
def ac7:f5:=ey 3637
def ac8:fk:=fP (aE Z H3) (bA Z zU)
def QC:fk:=dy 0 (ac8 Z)
def s6:f5:=ey 0x3d0d5
def ac9:fk:=ew s6 (Z.cG (aE Z E7) s6) (QC Z)
def Xs:fk:=fP (aE Z O0) (bA Z zU)
def Jt:fk:=dy 2 (Xs Z)
def uy:f5:=ey 0xdd315
def Xt:fk:=ew uy (Z.cG (aE Z E8) uy) (Jt Z)
def Xu:f5:=ey 3537
def z7:ah:=Z.aK s6 OX (bq (bq (bq (bK c) .e) .e) (bq (bK a) (bK b))) s (ac9 Z)
def Ju:ah:=Z.aK uy OY (bq (bq (bq .e (bK c)) .e) (bq (bK a) (bq (bK b) .e))) s (Xt Z)
def Jv:ah:=Z.aK Xu OZ (bq .e (bq (bK a) (bq (bK b) .e))) s (bA Z zU)
def uz:ah:=Z.cG (aE Z E8) uy (bq (bq (bq .e (bK c)) .e) (bq (bK a) (bq (bK b) .e))) s (Jt Z)
def Jw:ah:=Z.aK s6 O1 (bq (bq (bq (bK c) .e) .e) (bq (bK a) (bK b))) s (bA Z zU)
def z8:ah:=Z.aK s6 H2 (bq (bq (bq (bK c) .e) .e) (bq (bK a) (bK b))) s (bA Z zU)
def uA:ah:=Z.cG (aE Z E7) s6 (bq (bq (bq (bK c) .e) .e) (bq (bK a) (bK b))) s (QC Z)
def Jx:ah:=Z.aK ac7 H4 (bq (bq (bK b) .e) (dr (bK c) a .e)) s (bA Z zU)
def f90(a b:ae)(s:ag):ah:=bI [a,b] 0 .e fun ao=>aE Z O2 ao s (bA Z zU)
def f113(a b:ae)(s:ag):ah:=bI [a,b] 0 .e fun ao=>aE Z Il ao s (bA Z P3)
def Jy:f5:=ey 14
def Xv:fk:=fP (aE Z Iq) (bA Z v0)
def Jz:fk:=dy 0 (Xv Z)
def r7:f5:=ey 0xd00d653703555
def JA:fk:=ew r7 (Z.cG (aE Z zW) r7) (Jz Z)
def QD:f5:=ey 0xd35315
def Cu:ah:=Z.aK r7 Im (bq (bq (bq (bq (bq (bq (bK e) .e) .e) .e) (bK d)) (bq (bK b) .e)) (bq (bq (dr (bq (bq (bK f) .e) .e) a .e) .e) (bq (bK c) .e))) s (JA Z)
def Cv:ah:=Z.aK r7 Io (bq (bq (bq (bq (bq (bq (bK e) .e) .e) .e) (bK d)) (bq (bK b) .e)) (bq (bq (dr (bq (bq (bK f) .e) .e) a .e) .e) (bq (bK c) .e))) s (JA Z)
def Cw:ah:=Z.aK QD Ip (bq (bq (bq .e (bK c)) .e) (bq (bq (bK a) .e) (bq (bK b) .e))) s (bA Z v0)
def r8:ah:=Z.cG (aE Z zW) r7 (bq (bq (bq (bq (bq (bq (bK e) .e) .e) .e) (bK d)) (bq (bK b) .e)) (bq (bq (dr (bq (bq (bK f) .e) .e) a .e) .e) (bq (bK c) .e))) s (Jz Z)
def Cx:ah:=Z.aK Jy Ir (dr (bK b) a .e) s (bA Z v0)
def Cy:ah:=Z.aK Jy BP (dr (bK b) a .e) s (bA Z v0)
def f114(a b:ae)(s:ag):ah:=bI [a,b] 0 .e fun ao=>aE Z Is ao s (bA Z v0)
def Xw:f5:=ey 222
def Cz:ah:=Z.aK Xw It (dr (bK b) a (bq (bK c) .e)) s (bA Z yJ)
def f115(a b:ae)(s:ag):ah:=bI [a,b] 0 .e fun ao=>aE Z Iu ao s (bA Z yJ)
def Xx:fk:=fP (aE Z Iy) (bA Z BQ)
def JB:fk:=dy 0 (Xx Z)
def r9:f5:=ey 0x310e6
def JC:fk:=ew r9 (Z.cG (aE Z zX) r9) (JB Z)
def Xy:f5:=ey 53
def CA:ah:=Z.aK r9 Iv (dr (bq (dr (bK d) b .e) .e) a (bq .e (bK c))) s (JC Z)
def CB:ah:=Z.aK r9 Iw (dr (bq (dr (bK d) b .e) .e) a (bq .e (bK c))) s (JC Z)
def CC:ah:=Z.aK Xy Ix (bq (bq (bK a) .e) .e) s (bA Z BQ)
def nV:ah:=Z.cG (aE Z zX) r9 (dr (bq (dr (bK d) b .e) .e) a (bq .e (bK c))) s (JB Z)
def f116(a:ae)(s:ag):ah:=bI [a] 0 .e fun ao=>aE Z Iz ao s (bA Z BQ)
def QE:f5:=ey 13
def JD:ah:=Z.aK QE Ox (bq (bK a) .e) s (bA Z E6)
def JE:ah:=Z.aK QE Oy (bq (bK a) .e) s (bA Z E6)
def f71(a:ae)(s:ag):ah:=bI [a] 0 .e fun ao=>aE Z Oz ao s (bA Z E6)
def f88(a:ae)(s:ag):ah:=bI [a] 0 .e fun ao=>aE Z OV ao s (bA Z acv)
def f89(a:ae)(s:ag):ah:=bI [a] 0 .e fun ao=>aE Z OW ao s (bA Z acw)
def ada:fk:=fP (aE Z HW) (bA Z Le)
def QF:fk:=dy 0 (ada Z)
def wb:f5:=ey 0x3350e6
def Fb:fk:=ew wb (Z.cG (aE Z E0) wb) (QF Z)
def adb:fk:=fP (aE Z Nw) (Fb Z)
def ade:fk:=dy 1 (adb Z)
def adf:f5:=ey 0x335ce6
def Xz:f5:=ey 54
def z9:ah:=Z.aK wb Nv (dr (bq (dr (bK d) b .e) .e) a (bq (bq (bK e) .e) (bK c))) s (Fb Z)
def JF:ah:=Z.aK adf Nu (dr (bq (dr (bK e) b .e) (bK c)) a (bq (bq (bK f) .e) (bK d))) s (ade Z)
def JG:ah:=Z.aK wb Nx (dr (bq (dr (bK d) b .e) .e) a (bq (bq (bK e) .e) (bK c))) s (Fb Z)
def JH:ah:=Z.aK .e Ny .e s (bA Z Le)
def Aa:ah:=Z.aK Xz HV (dr (bq (bK b) .e) a .e) s (bA Z Le)
def uB:ah:=Z.cG (aE Z E0) wb (dr (bq (dr (bK d) b .e) .e) a (bq (bq (bK e) .e) (bK c))) s (QF Z)
def f16(a:ae)(s:ag):ah:=bI [a] 0 .e fun ao=>aE Z Nz ao s (bA Z Le)
def adg:f5:=ey 56550
def adh:fk:=fP (aE Z HY) (bA Z BN)
def QG:fk:=dy 0 (adh Z)
def wc:f5:=ey 0x3453449cd1e6
def QH:fk:=ew wc (Z.cG (aE Z E3) wc) (QG Z)
def XA:f5:=ey 53478
def JI:f5:=ey 3382
def JJ:ah:=Z.aK wc N7 (dr (bq (dr (bK e) b (bq .e (bq (bK g) .e))) (bK d)) a (bq (dr .e c (bq .e (bq (bK i) .e))) (bq (bq .e (bq (bK f) .e)) .e))) s (QH Z)
def JK:ah:=Z.aK wc N8 (dr (bq (dr (bK e) b (bq .e (bq (bK g) .e))) (bK d)) a (bq (dr .e c (bq .e (bq (bK i) .e))) (bq (bq .e (bq (bK f) .e)) .e))) s (QH Z)
def Ac:ah:=Z.aK JI N9 (dr (bq (bK b) .e) a (bq (bK c) .e)) s (bA Z BN)
def Ad:ah:=Z.aK JI Oa (dr (bq (bK b) .e) a (bq (bK c) .e)) s (bA Z BN)
def Ae:ah:=Z.aK XA HX (dr (bq (dr (bK d) b .e) .e) a (bq (bK c) .e)) s (bA Z BN)
def uC:ah:=Z.cG (aE Z E3) wc (dr (bq (dr (bK e) b (bq .e (bq (bK g) .e))) (bK d)) a (bq (dr .e c (bq .e (bq (bK i) .e))) (bq (bq .e (bq (bK f) .e)) .e))) s (QG Z)
def JL:ah:=Z.aK adg HZ (dr (bq (dr (bK e) b .e) (bK d)) a (bq (bK c) .e)) s (bA Z BN)
def f42(a:ae)(s:ag):ah:=bI [a] 0 .e fun ao=>aE Z Ob ao s (bA Z BN)
def f43(a:ae)(s:ag):ah:=bI [a] 0 .e fun ao=>aE Z Oc ao s (bA Z abj)
def adi:fk:=fP (aE Z Og) (bA Z Oi)
def QI:fk:=dy 0 (adi Z)
def we:f5:=ey 0x3350e5
def QJ:fk:=ew we (Z.cG (aE Z E4) we) (QI Z)
def adj:f5:=ey 53
def sa:ah:=Z.aK we Od (bq (bq (dr (bK c) a .e) .e) (bq (bq (bK d) .e) (bK b))) s (QJ Z)
def JM:ah:=Z.aK we Oe (bq (bq (dr (bK c) a .e) .e) (bq (bq (bK d) .e) (bK b))) s (QJ Z)
def JN:ah:=Z.aK adj Of (bq (bq (bK a) .e) .e) s (bA Z Oi)
def uD:ah:=Z.cG (aE Z E4) we (bq (bq (dr (bK c) a .e) .e) (bq (bq (bK d) .e) (bK b))) s (QI Z)
def f44(a:ae)(s:ag):ah:=bI [a] 0 .e fun ao=>aE Z Oh ao s (bA Z Oi)
def adk:f5:=ey 14
def JO:ah:=Z.aK .e NU .e s (bA Z vY)
def Af:ah:=Z.aK adk NV (dr (bK b) a .e) s (bA Z vY)
def f37(a b:ae)(s:ag):ah:=bI [a,b] 0 .e fun ao=>aE Z NW ao s (bA Z vY)
def f48(a:ae)(s:ag):ah:=bI [a] 0 .e fun ao=>aE Z Ok ao s (bA Z abo)
def adl:fk:=fP (aE Z NL) (bA Z zS)
def QK:fk:=dy 0 (adl Z)
def adm:f5:=ey 0x345c5
def adn:f5:=ey 0x3111c5
def JP:ah:=Z.aK .e NK .e s (bA Z zS)
def Ag:ah:=Z.aK adn NI (bq (bq .e (bK a)) (bq .e (bq .e (bq .e (bK b))))) s (QK Z)
def Ah:ah:=Z.aK adm NJ (bq (bq .e (bK a)) (bq (bq .e (bq (bK b) .e)) .e)) s (QK Z)
def f34(a:ae)(s:ag):ah:=bI [a] 0 .e fun ao=>aE Z NM ao s (bA Z zS)
def f50(a b:ae)(s:ag):ah:=bI [a,b] 0 .e fun ao=>aE Z Ol ao s (bA Z abx)
def ado:fk:=fP (aE Z NF) (bA Z NH)
def QL:fk:=dy 0 (ado Z)
def adp:f5:=ey 0x345c5
def adq:f5:=ey 0x3111c5
def JQ:ah:=Z.aK .e NE .e s (bA Z NH)
def Ai:ah:=Z.aK adq NC (bq (bq .e (bK a)) (bq .e (bq .e (bq .e (bK b))))) s (QL Z)
def Aj:ah:=Z.aK adp ND (bq (bq .e (bK a)) (bq (bq .e (bq (bK b) .e)) .e)) s (QL Z)
def f21(a:ae)(s:ag):ah:=bI [a] 0 .e fun ao=>aE Z NG ao s (bA Z NH)
def f72(a:ae)(s:ag):ah:=bI [a] 0 .e fun ao=>aE Z OA ao s (bA Z abT)
def f73(a b:ae)(s:ag):ah:=bI [a,b] 0 .e fun ao=>aE Z OB ao s (bA Z abU)
def f74(a b:ae)(s:ag):ah:=bI [a,b] 0 .e fun ao=>aE Z OC ao s (bA Z OD)
def adr:fk:=fP (aE Z Oq) (bA Z Ou)
def QM:fk:=dy 0 (adr Z)
def wg:f5:=ey 0x350da
def QN:fk:=ew wg (Z.cG (aE Z E5) wg) (QM Z)
def JR:ah:=Z.aK wg Om (dr (dr (bq (bK c) .e) b .e) a (bq (bq (bK d) .e) .e)) s (QN Z)
def JS:ah:=Z.aK wg On (dr (dr (bq (bK c) .e) b .e) a (bq (bq (bK d) .e) .e)) s (QN Z)
def JT:ah:=Z.aK .e Oo .e s (bA Z Ou)
def uE:ah:=Z.cG (aE Z E5) wg (dr (dr (bq (bK c) .e) b .e) a (bq (bq (bK d) .e) .e)) s (QM Z)
def f62(a b:ae)(s:ag):ah:=bI [a,b] 0 .e fun ao=>aE Z Ot ao s (bA Z Ou)
def f19(a:ae)(s:ag):ah:=bI [a] 0 .e fun ao=>aE Z NA ao s (bA Z NB)
def f47(a:ae)(s:ag):ah:=bI [a] 0 .e fun ao=>aE Z Oj ao s (bA Z abn)
def Fc:fk:=fP (aE Z OI) (bA Z OK)
def ads:f5:=ey 3
def adt:f5:=ey 12742
def adu:f5:=ey 3285
def adv:f5:=ey 14
def JU:ah:=Z.aK adu OE (bq (bq (bq (bK b) .e) (bK a)) .e) s (Fc Z)
def Ak:ah:=Z.aK adt OF (dr (bq .e (bK b)) a (bq .e (bK c))) s (Fc Z)
def JV:ah:=Z.aK ads OG (bK a) s (Fc Z)
def XB:ah:=Z.aK adv OH (dr (bK b) a .e) s (bA Z OK)
def f77(a b:ae)(s:ag):ah:=bI [a,b] 0 .e fun ao=>aE Z OJ ao s (bA Z OK)
def adw:f5:=ey 3
def JW:ah:=Z.aK adw O3 (bK a) s (bA Z S9)
def f95(a:ae)(s:ag):ah:=bI [a] 0 .e fun ao=>aE Z O4 ao s (bA Z S9)
def f96(a:ae)(s:ag):ah:=bI [a] 0 .e fun ao=>aE Z O5 ao s (bA Z acP)
def adx:fk:=fP (aE Z Pa) (bA Z Fa)
def QO:fk:=dy 0 (adx Z)
def wh:f5:=ey 222
def ady:fk:=ew wh (Z.cG (aE Z E9) wh) (QO Z)
def QP:f5:=ey 3218
def XC:ah:=Z.aK wh O6 (dr (bK b) a (bq (bK c) .e)) s (ady Z)
def oz:ah:=Z.aK QP O7 (dr .e a (bq (dr .e b (bK c)) .e)) s (bA Z Fa)
def oA:ah:=Z.aK QP O8 (dr .e a (bq (dr .e b (bK c)) .e)) s (bA Z Fa)
def uF:ah:=Z.aK wh O9 (dr (bK b) a (bq (bK c) .e)) s (bA Z Fa)
def JX:ah:=Z.cG (aE Z E9) wh (dr (bK b) a (bq (bK c) .e)) s (QO Z)
def f97(a b:ae)(s:ag):ah:=bI [a,b] 0 .e fun ao=>aE Z Pb ao s (bA Z Fa)
def Al:f5:=ey 50
def sb:ah:=Z.aK Al Ih (dr .e a (bK b)) s (bA Z yI)
def sc:ah:=Z.aK Al Ii (dr .e a (bK b)) s (bA Z yI)
def wi:ah:=Z.aK Al Ij (dr .e a (bK b)) s (bA Z yI)
def f112(a:ae)(s:ag):ah:=bI [a] 0 .e fun ao=>aE Z Ik ao s (bA Z yI)
def f120(a:ae)(s:ag):ah:=bI [a] 0 .e fun ao=>aE Z IA ao s (bA Z Qc)
def CD:ah:=Z.aK .e IB .e s (bA Z ID)
def f121(a:ae)(s:ag):ah:=bI [a] 0 .e fun ao=>aE Z IC ao s (bA Z ID)
def adz:fk:=fP (aE Z HU) (bA Z Nh)
def QQ:fk:=dy 0 (adz Z)
def wj:f5:=ey 0x335cda
def Fe:fk:=ew wj (Z.cG (aE Z zR) wj) (QQ Z)
def adA:fk:=fP (aE Z HR) (Fe Z)
def qN:fk:=dy 1 (adA Z)
def adB:f5:=ey 0xe3538da
def XD:fk:=fP (aE Z HO) (qN Z)
def JY:fk:=dy 2 (XD Z)
def sd:f5:=ey 0x3e0e5fb39a
def JZ:fk:=ew sd (Z.cG (aE Z EY) sd) (JY Z)
def Am:f5:=ey 0xe35f839a
def XE:fk:=fP (aE Z HM) (qN Z)
def J0:fk:=dy 4 (XE Z)
def se:f5:=ey 0xe35ce839a
def J1:fk:=ew se (Z.cG (aE Z zQ) se) (J0 Z)
def XF:f5:=ey 0x3635cda
def XG:f5:=ey 197
def J2:ah:=Z.aK sd Nb (dr (dr (bq (dr (bK p) e .e) (bK j)) b (dr (bK g) c (bK m))) a (bq (bq (dr (bK q) f .e) .e) (dr (bK i) d (bK o)))) s (JZ Z)
def J3:ah:=Z.aK sd Nc (dr (dr (bq (dr (bK p) e .e) (bK j)) b (dr (bK g) c (bK m))) a (bq (bq (dr (bK q) f .e) .e) (dr (bK i) d (bK o)))) s (JZ Z)
def wk:ah:=Z.aK se Nd (dr (dr (bq (dr (bK m) e .e) .e) b (dr (dr (bK o) g .e) c (bK j))) a (bq (bq (bK f) .e) (dr (bK i) d .e))) s (J1 Z)
def J4:ah:=Z.aK se Nf (dr (dr (bq (dr (bK m) e .e) .e) b (dr (dr (bK o) g .e) c (bK j))) a (bq (bq (bK f) .e) (dr (bK i) d .e))) s (J1 Z)
def pD:ah:=Z.aK wj HQ (dr (dr (bq (bK e) .e) b (bK c)) a (bq (bq (bK f) .e) (bK d))) s (Fe Z)
def nW:ah:=Z.aK XF HJ (dr (dr (bq (bK e) .e) b (bK c)) a (bq (bq (bK f) .e) (dr (bq (bK g) .e) d .e))) s (qN Z)
def pE:ah:=Z.aK Am HK (dr (dr (bq (dr (bK m) e .e) .e) b (dr (bK g) c (bK j))) a (bq (bq (bK f) .e) (dr (bK i) d .e))) s (qN Z)
def sf:ah:=Z.aK Am HL (dr (dr (bq (dr (bK m) e .e) .e) b (dr (bK g) c (bK j))) a (bq (bq (bK f) .e) (dr (bK i) d .e))) s (qN Z)
def uG:ah:=Z.cG (aE Z zQ) se (dr (dr (bq (dr (bK m) e .e) .e) b (dr (dr (bK o) g .e) c (bK j))) a (bq (bq (bK f) .e) (dr (bK i) d .e))) s (J0 Z)
def An:ah:=Z.aK Am HN (dr (dr (bq (dr (bK m) e .e) .e) b (dr (bK g) c (bK j))) a (bq (bq (bK f) .e) (dr (bK i) d .e))) s (qN Z)
def uH:ah:=Z.cG (aE Z EY) sd (dr (dr (bq (dr (bK p) e .e) (bK j)) b (dr (bK g) c (bK m))) a (bq (bq (dr (bK q) f .e) .e) (dr (bK i) d (bK o)))) s (JY Z)
def sg:ah:=Z.aK adB HP (dr (dr (bq (bK e) .e) b (dr (bK g) c .e)) a (bq (bq (bK f) .e) (dr (bK i) d .e))) s (qN Z)
def J5:ah:=Z.aK wj HS (dr (dr (bq (bK e) .e) b (bK c)) a (bq (bq (bK f) .e) (bK d))) s (Fe Z)
def CE:ah:=Z.aK XG HT (bq (bq .e (bK a)) .e) s (bA Z Nh)
def kG:ah:=Z.cG (aE Z zR) wj (dr (dr (bq (bK e) .e) b (bK c)) a (bq (bq (bK f) .e) (bK d))) s (QQ Z)
def f10(a b:ae)(s:ag):ah:=bI [a,b] 0 .e fun ao=>aE Z Ng ao s (bA Z Nh)
def adC:f5:=ey 14
def Ao:ah:=Z.aK adC Ns (dr (bK b) a .e) s (bA Z yg)
def f14(a b:ae)(s:ag):ah:=bI [a,b] 0 .e fun ao=>aE Z Nt ao s (bA Z yg)
def adD:fk:=fP (aE Z NR) (bA Z Lf)
def QR:fk:=dy 0 (adD Z)
def wl:f5:=ey 0x360da
def QS:fk:=ew wl (Z.cG (aE Z E1) wl) (QR Z)
def QT:f5:=ey 12501
def sh:ah:=Z.aK wl NN (dr (dr (bq (bK d) .e) b .e) a (dr (bq (bK e) .e) c .e)) s (QS Z)
def J6:ah:=Z.aK wl NO (dr (dr (bq (bK d) .e) b .e) a (dr (bq (bK e) .e) c .e)) s (QS Z)
def J7:ah:=Z.aK QT NP (bq (bq (bq (bK b) .e) .e) (bK a)) s (bA Z Lf)
def Ap:ah:=Z.aK QT NQ (bq (bq (bq (bK b) .e) .e) (bK a)) s (bA Z Lf)
def uI:ah:=Z.cG (aE Z E1) wl (dr (dr (bq (bK d) .e) b .e) a (dr (bq (bK e) .e) c .e)) s (QR Z)
def f35(a b c:ae)(s:ag):ah:=bI [a,b,c] 0 .e fun ao=>aE Z NS ao s (bA Z Lf)
def f36(a:ae)(s:ag):ah:=bI [a] 0 .e fun ao=>aE Z NT ao s (bA Z aa7)
def f67(a:ae)(s:ag):ah:=bI [a] 0 .e fun ao=>aE Z Ov ao s (bA Z abB)
def f38(a:ae)(s:ag):ah:=bI [a] 0 .e fun ao=>aE Z NX ao s (bA Z aba)
def f39(a b:ae)(s:ag):ah:=bI [a,b] 0 .e fun ao=>aE Z NY ao s (bA Z abb)
def adE:fk:=fP (aE Z N4) (bA Z N6)
def QU:fk:=dy 0 (adE Z)
def wm:f5:=ey 0xd13b6
def Ff:fk:=ew wm (Z.cG (aE Z E2) wm) (QU Z)
def adF:fk:=fP (aE Z N1) (Ff Z)
def adG:fk:=dy 1 (adF Z)
def Aq:fk:=dy 2 (adG Z)
def adH:f5:=ey 0xe138366
def XH:f5:=ey 197
def uJ:ah:=Z.aK wm N0 (dr (bq (bK b) (dr (bK d) c .e)) a (bq .e (bq (bK e) .e))) s (Ff Z)
def J8:ah:=Z.aK XH N3 (bq (bq .e (bK a)) .e) s (bA Z N6)
def J9:ah:=Z.aK adH NZ (dr (bq (dr (bq (bK g) .e) b .e) (dr (bK e) c .e)) a (bq .e (dr (bK f) d .e))) s (Aq Z)
def Ka:ah:=Z.aK wm N2 (dr (bq (bK b) (dr (bK d) c .e)) a (bq .e (bq (bK e) .e))) s (Ff Z)
def uK:ah:=Z.cG (aE Z E2) wm (dr (bq (bK b) (dr (bK d) c .e)) a (bq .e (bq (bK e) .e))) s (QU Z)
def f40(a b:ae)(s:ag):ah:=bI [a,b] 0 .e fun ao=>aE Z N5 ao s (bA Z N6)
def Kb:fk:=dy 0 (bA Z Ib)
def si:f5:=ey 814
def Ar:fk:=ew si (Z.cG (aE Z vZ) si) (Kb Z)
def XI:fk:=fP (aE Z H8) (Ar Z)
def XJ:fk:=dy 1 (XI Z)
def Kc:fk:=dy 2 (XJ Z)
def sj:f5:=ey 0x320da
def Kd:fk:=ew sj (Z.cG (aE Z zV) sj) (Kc Z)
def CF:ah:=Z.aK sj H5 (dr (dr (bq (bK e) .e) b .e) a (dr .e c (bK d))) s (Kd Z)
def wo:ah:=Z.aK sj H6 (dr (dr (bq (bK e) .e) b .e) a (dr .e c (bK d))) s (Kd Z)
def CG:ah:=Z.aK si H7 (dr (bK b) a (dr .e c (bK d))) s (Ar Z)
def pF:ah:=Z.cG (aE Z zV) sj (dr (dr (bq (bK e) .e) b .e) a (dr .e c (bK d))) s (Kc Z)
def CH:ah:=Z.aK si H9 (dr (bK b) a (dr .e c (bK d))) s (Ar Z)
def pG:ah:=Z.cG (aE Z vZ) si (dr (bK b) a (dr .e c (bK d))) s (Kb Z)
def f102(a b c:ae)(s:ag):ah:=bI [a,b,c] 0 .e fun ao=>aE Z Ia ao s (bA Z Ib)
def f68(a:ae)(s:ag):ah:=bI [a] 0 .e fun ao=>aE Z Ow ao s (bA Z abC)
def adI:fk:=fP (aE Z ON) (bA Z OP)
def Fg:fk:=dy 0 (adI Z)
def adJ:f5:=ey 801
def adK:f5:=ey 49
def Ke:ah:=Z.aK adK OM (bq .e (bK a)) s (bA Z OP)
def Kf:ah:=Z.aK adJ OL (bq .e (dr .e a (bK b))) s (Fg Z)
def f84(a b:ae)(s:ag):ah:=bI [a,b] 0 .e fun ao=>aE Z OO ao s (bA Z OP)
def adL:f5:=ey 3
def Kg:ah:=Z.aK adL OR (bK a) s (bA Z S5)
def f86(a:ae)(s:ag):ah:=bI [a] 0 .e fun ao=>aE Z OS ao s (bA Z S5)
def f108(a b:ae)(s:ag):ah:=bI [a,b] 0 .e fun ao=>aE Z Ic ao s (bA Z PE)
def f132(a:ae)(s:ag):ah:=bI [a] 0 .e fun ao=>aE Z IE ao s (bA Z Qd)
def QV:fk:=dy 0 (bA Z S4)
def Fh:f5:=ey 0x3637a
def adM:fk:=ew Fh (Z.cG (aE Z zT) Fh) (QV Z)
def adN:fk:=dy 1 (adM Z)
def adO:f5:=ey 0xd3637a
def XK:ah:=Z.aK adO H0 (dr (dr (bK d) b (bq (bK f) .e)) a (dr (bq (bK e) .e) c (bq (bK g) .e))) s (adN Z)
def Kh:ah:=Z.cG (aE Z zT) Fh (dr (dr (bK d) b (bq (bK f) .e)) a (dr (bq (bK e) .e) c .e)) s (QV Z)
def f85(a b c d:ae)(s:ag):ah:=bI [a,b,c,d] 0 .e fun ao=>aE Z OQ ao s (bA Z S4)
def afn:f5:=ey 3
def afo:fk:=fP (aE Z M9) (bA Z lz)
def Zl:fk:=dy 0 (afo Z)
def CI:f5:=ey 3573
def QW:fk:=ew CI (Z.cG (aE Z EV) CI) (Zl Z)
def afp:fk:=fP (aE Z MY) (QW Z)
def CJ:fk:=dy 1 (afp Z)
def Fi:f5:=ey 15861
def adP:fk:=fP (aE Z MV) (CJ Z)
def QX:fk:=dy 2 (adP Z)
def wq:f5:=ey 0x339f5
def QY:fk:=ew wq (Z.cG (aE Z MN) wq) (QX Z)
def adQ:fk:=fP (aE Z MT) (CJ Z)
def QZ:fk:=dy 4 (adQ Z)
def wt:f5:=ey 0x3d3b5
def Fj:fk:=ew wt (Z.cG (aE Z EU) wt) (QZ Z)
def adR:fk:=fP (aE Z MQ) (Fj Z)
def Q0:fk:=dy 5 (adR Z)
def adS:f5:=ey 0xed3b5
def Q1:fk:=dy 6 (Q0 Z)
def wu:f5:=ey 0xed3b25
def Q2:fk:=ew wu (Z.cG (aE Z ET) wu) (Q1 Z)
def adT:f5:=ey 3381
def adU:fk:=fP (aE Z M7) (bA Z lz)
def Q3:fk:=dy 8 (adU Z)
def wv:f5:=ey 51509
def Fk:fk:=ew wv (Z.cG (aE Z EX) wv) (Q3 Z)
def adV:fk:=fP (aE Z M4) (Fk Z)
def Q4:fk:=dy 9 (adV Z)
def adW:f5:=ey 0xc9c75
def Q5:fk:=dy 10 (Q4 Z)
def ww:f5:=ey 0xc9c4365
def Q6:fk:=ew ww (Z.cG (aE Z EW) ww) (Q5 Z)
def Q7:ah:=Z.aK wq Zg (bq (bq (bK a) (bK c)) (bq (dr (bK e) b .e) (bK d))) s (QY Z)
def Q8:ah:=Z.aK wq Zh (bq (bq (bK a) (bK c)) (bq (dr (bK e) b .e) (bK d))) s (QY Z)
def Ki:ah:=Z.aK wu Zi (bq (bq (dr .e a (bK g)) (dr (bK e) c .e)) (bq (bK b) (dr (bK f) d .e))) s (Q2 Z)
def Kj:ah:=Z.aK wu Zj (bq (bq (dr .e a (bK g)) (dr (bK e) c .e)) (bq (bK b) (dr (bK f) d .e))) s (Q2 Z)
def As:ah:=Z.aK wt MP (bq (bq (bK a) (dr (bK e) c .e)) (bq (bK b) (bK d))) s (Fj Z)
def uL:ah:=Z.cG (aE Z ET) wu (bq (bq (dr .e a (bK g)) (dr (bK e) c .e)) (bq (bK b) (dr (bK f) d .e))) s (Q1 Z)
def Kk:ah:=Z.aK adS MO (bq (bq (bK a) (dr (bK e) c .e)) (bq (bK b) (dr (bK f) d .e))) s (Q0 Z)
def Kl:ah:=Z.aK wt MR (bq (bq (bK a) (dr (bK e) c .e)) (bq (bK b) (bK d))) s (Fj Z)
def Km:ah:=Z.aK CI MX (bq (bq (bK a) (bK c)) (bq (bK b) .e)) s (QW Z)
def At:ah:=Z.aK Fi MS (bq (bq (bK a) (bK c)) (bq (bK b) (bK d))) s (CJ Z)
def Au:ah:=Z.cG (aE Z EU) wt (bq (bq (bK a) (dr (bK e) c .e)) (bq (bK b) (bK d))) s (QZ Z)
def Fl:ah:=Z.aK Fi MU (bq (bq (bK a) (bK c)) (bq (bK b) (bK d))) s (CJ Z)
def Av:ah:=Z.cG (aE Z MN) wq (bq (bq (bK a) (bK c)) (bq (dr (bK e) b .e) (bK d))) s (QX Z)
def Q9:ah:=Z.aK Fi MW (bq (bq (bK a) (bK c)) (bq (bK b) (bK d))) s (CJ Z)
def Ra:ah:=Z.aK CI MZ (bq (bq (bK a) (bK c)) (bq (bK b) .e)) s (QW Z)
def Kn:ah:=Z.aK ww M0 (bq (bq (dr (bq (bK e) .e) a .e) (bq .e (bK d))) (bq (dr .e b (bK c)) .e)) s (Q6 Z)
def Ko:ah:=Z.aK ww M1 (bq (bq (dr (bq (bK e) .e) a .e) (bq .e (bK d))) (bq (dr .e b (bK c)) .e)) s (Q6 Z)
def Aw:ah:=Z.aK wv M3 (bq (bq (bK a) .e) (bq (dr .e b (bK c)) .e)) s (Fk Z)
def uM:ah:=Z.cG (aE Z EW) ww (bq (bq (dr (bq (bK e) .e) a .e) (bq .e (bK d))) (bq (dr .e b (bK c)) .e)) s (Q5 Z)
def Kp:ah:=Z.aK adW M2 (bq (bq (bK a) (bq .e (bK d))) (bq (dr .e b (bK c)) .e)) s (Q4 Z)
def Kq:ah:=Z.aK wv M5 (bq (bq (bK a) .e) (bq (dr .e b (bK c)) .e)) s (Fk Z)
def Kr:ah:=Z.aK .e M6 .e s (bA Z lz)
def uN:ah:=Z.cG (aE Z EX) wv (bq (bq (bK a) .e) (bq (dr .e b (bK c)) .e)) s (Q3 Z)
def Ks:ah:=Z.aK adT M8 (bq (bq (bK a) .e) (bq (bK b) .e)) s (bA Z lz)
def Ax:ah:=Z.cG (aE Z EV) CI (bq (bq (bK a) (bK c)) (bq (bK b) .e)) s (Zl Z)
def Rb:ah:=Z.aK afn Na (bK a) s (bA Z lz)
def f3(a:ae)(s:ag):ah:=bI [a] 0 .e fun ao=>aE Z Zk ao s (bA Z lz)
def adX:f5:=ey 14
def Kt:ah:=Z.aK adX Ni (dr (bK b) a .e) s (bA Z SB)
def f11(a b:ae)(s:ag):ah:=bI [a,b] 0 .e fun ao=>aE Z Nj ao s (bA Z SB)
def adY:fk:=fP (aE Z Nn) (bA Z Np)
def Rc:fk:=dy 0 (adY Z)
def wx:f5:=ey 202
def Rd:fk:=ew wx (Z.cG (aE Z EZ) wx) (Rc Z)
def Ku:ah:=Z.aK wx Nk (dr (dr .e b (bK c)) a .e) s (Rd Z)
def Kv:ah:=Z.aK wx Nl (dr (dr .e b (bK c)) a .e) s (Rd Z)
def Kw:ah:=Z.aK .e Nm .e s (bA Z Np)
def uO:ah:=Z.cG (aE Z EZ) wx (dr (dr .e b (bK c)) a .e) s (Rc Z)
def f12(a b:ae)(s:ag):ah:=bI [a,b] 0 .e fun ao=>aE Z No ao s (bA Z Np)
def adZ:f5:=ey 14
def Kx:ah:=Z.aK adZ Nq (dr (bK b) a .e) s (bA Z SC)
def f13(a b:ae)(s:ag):ah:=bI [a,b] 0 .e fun ao=>aE Z Nr ao s (bA Z SC)
end
variable{a b c d e f g i j m o p q r t u w x y z A B C D E F H I J K L M N O P Q R S T U V:ae}{s:ag}
section
variable{Z}[h:Inhabited Z.pR]
include h
theorem CK:B5 Z s=Z.a0 false [some (.int .i64 1)] s:=h.1.fA
theorem CL:B6 Z s=Z.a0 false [some (.int .i64 1)] s:=h.1.fA
theorem CM:B7 Z a b c d s=Z.aj s (fun e s=>rV Z a b c e s) (al .add d (.int .i64 1)):=h.1.fA
theorem CN:B8 Z a b e d s=Z.cW s (fun f s=>Z.aj s (fun g s=>Z.aj s (fun c s=>Z.cc s (fun i s=>Z.aw s (fun j s=>Z.cc s (fun m s=>Z.aw s (fun o s=>Z.aj s (fun p s=>Z.aP p (Z.cc s (fun q s=>Z.aw s (fun r s=>Z.cc s (fun t s=>Z.aw s (fun u s=>Z.aj s (fun w s=>Z.aP w (Z.a0 false [some (.int .i64 (-1))] s) (B6 Z s)) (al .lss r u)) none t) 1 b c) none q) 1 a c) (B7 Z a b e d s)) (al .neq j o)) none m) 1 b c) none i) 1 a c) (al .sub g d)) (al .sub f (.int .i64 1))) false a:=h.1.fA
theorem CO:B9 Z s=Z.a0 false [some (.int .i64 0)] s:=h.1.fA
theorem tH:rV Z c d a b s=Z.aj s (fun e s=>Z.aP e (B8 Z c d a b s) (B9 Z s)) (al .lss b a):=h.1.qp
theorem CP:Ca Z a b s=Z.cW s (fun c s=>rV Z a b c (.int .i64 0) s) false a:=h.1.fA
theorem CQ:Cb Z a b c d e f s=Z.aj s (fun g s=>rX Z a b c d e g s) (al .add f (.int .i64 1)):=h.1.fA
theorem CR:Cc Z a b c e f d s=Z.cW s (fun j s=>Z.aj s (fun m s=>Z.aj s (fun g s=>Z.aj s (fun o s=>Z.cc s (fun p s=>Z.aw s (fun q s=>Z.bY s (fun r s=>Z.aj s (fun i s=>Z.bY s (fun t s=>Z.aj s (fun u s=>Z.bY s (fun w s=>Z.cc s (fun x s=>Z.bX s (fun A s=>Z.bY s (fun y s=>Z.aj s (fun z s=>Cb Z a b c z f d s) (al .rem i y)) .u64 b) 1 x (ae.ap s.aa w)) 1 c g) .u32 u) (al .quo i t)) .u64 b) (al .or o r)) .u64 q) none p) 1 a g) (al .shl e (.int .u64 32))) (al .sub m d)) (al .sub j (.int .i64 1))) false a:=h.1.fA
theorem CS:Cd Z a b s=Z.bn s (fun c s=>Z.bY s (fun d s=>Z.a0 false [some c,some d] s) .u32 b) 135 [(ae.ap s.aa a)]:=h.1.fA
theorem tI:rX Z e f a b c d s=Z.aj s (fun g s=>Z.aP g (Cc Z e f a b c d s) (Cd Z a b s)) (al .lss d c):=h.1.qp
theorem CT:Ce Z a b s=Z.aj s (fun c s=>rZ Z a c s) (al .sub b (.int .i64 1)):=h.1.fA
theorem CU:v7 Z a b s=Z.ls 1 a none (some b) none s (fun c s=>Z.a0 false [some c] s):=h.1.fA
theorem tJ:rZ Z c b s=Z.aj s (fun a s=>Z.af a true (fun k=>k c s) s (fun d s=>Z.af a true (fun k=>k b s) s (fun e s=>Z.af a true (fun k=>Z.aj s k (al .sub e (.int .i64 1))) s (fun f s=>Z.af a true (fun k=>Z.cc s k 1 d f) s (fun g s=>Z.af a true (fun k=>Z.aw s k none g) s (fun i s=>Z.af a true (fun k=>Z.aj s k (al .eql i (.int .u32 0))) s (fun j s=>Z.bS s (fun m s=>Z.aP m (Ce Z c b s) (v7 Z c b s)) a j (.bool false)))))))) (al .gtr b (.int .i64 0)):=h.1.qp
theorem CV:Cf Z a b c d e s=Z.aj s (fun f s=>r1 Z a b c d f s) (al .add e (.int .i64 1)):=h.1.fA
theorem CW:Cg Z d a b e c s=Z.cc s (fun i s=>Z.aw s (fun j s=>Z.bY s (fun m s=>Z.aj s (fun o s=>Z.aj s (fun f s=>Z.aj s (fun p s=>Z.aj s (fun g s=>Z.cc s (fun q s=>Z.aw s (fun r s=>Z.bY s (fun t s=>Z.aj s (fun u s=>Z.cc s (fun w s=>Z.bX s (fun F s=>Z.aj s (fun x s=>Z.aj s (fun y s=>Z.aj s (fun z s=>Z.aj s (fun A s=>Z.bY s (fun B s=>Z.cc s (fun C s=>Z.bX s (fun F s=>Cf Z d a b e c s) 1 C (ae.ap s.aa B)) 1 b z) .u32 A) (al .shr f (.int .u64 32))) (al .add y (.int .i64 1))) (al .add c x)) (al .quo a (.int .i64 32))) 1 w (ae.ap s.aa u)) 1 b g) (al .or r t)) .u32 f) none q) 1 b g) (al .add c p)) (al .quo a (.int .i64 32))) (al .shl m o)) (al .rem a (.int .i64 32))) .u64 j) none i) 1 d c:=h.1.fA
theorem CX:Ch Z a s=Z.bn s (fun b s=>Z.a0 false [some b] s) 135 [(ae.ap s.aa a)]:=h.1.fA
theorem tK:r1 Z d e a b c s=Z.aj s (fun f s=>Z.aP f (Cg Z d e a b c s) (Ch Z a s)) (al .lss c b):=h.1.qp
theorem CY:Ck Z a b c d e f g i s=Z.aj s (fun j s=>pA Z a b c d e f g j s) (al .add i (.int .i64 1)):=h.1.fA
theorem CZ:Cl Z b c d e f g i a s=Z.cc s (fun o s=>Z.aw s (fun p s=>Z.bY s (fun q s=>Z.aj s (fun r s=>Z.aj s (fun j s=>Z.aj s (fun t s=>Z.aj s (fun u s=>Z.cc s (fun w s=>Z.aw s (fun x s=>Z.bY s (fun y s=>Z.aj s (fun z s=>Z.aj s (fun A s=>Z.aj s (fun m s=>Z.aj s (fun B s=>Z.bY s (fun C s=>Z.cc s (fun D s=>Z.bX s (fun F s=>Z.aj s (fun E s=>Ck Z b c d e t E i a s) (al .shr m (.int .u64 63))) 1 D (ae.ap s.aa C)) 1 b B) .u32 m) (al .add c a)) (al .sub A g)) (al .sub y z)) (al .and j (.int .u64 4294967295))) .u64 x) none w) 1 b u) (al .add c a)) (al .shr j (.int .u64 32))) (al .add r f)) (al .mul e q)) .u64 p) none o) 1 d a:=h.1.fA
theorem C0:Cm Z a b c d e f g s=Z.aj s (fun i s=>r3 Z a b c d e f i s) (al .add g (.int .i64 1)):=h.1.fA
theorem C1:Cn Z b c d e f g a s=Z.aj s (fun j s=>Z.cc s (fun m s=>Z.aw s (fun o s=>Z.bY s (fun p s=>Z.cc s (fun q s=>Z.aw s (fun r s=>Z.bY s (fun t s=>Z.aj s (fun u s=>Z.aj s (fun i s=>Z.aj s (fun w s=>Z.bY s (fun x s=>Z.cc s (fun y s=>Z.bX s (fun A s=>Z.aj s (fun z s=>Cm Z b c d e z g a s) (al .shr i (.int .u64 32))) 1 y (ae.ap s.aa x)) 1 b w) .u32 i) (al .add c a)) (al .add u f)) (al .add p t)) .u64 r) none q) 1 d a) .u64 o) none m) 1 b j) (al .add c a):=h.1.fA
theorem C2:Co Z a b c d e s=Z.cW s (fun g s=>Z.aj s (fun f s=>Z.cc s (fun i s=>Z.aw s (fun j s=>Z.bY s (fun m s=>Z.aj s (fun o s=>Z.cc s (fun p s=>Z.bX s (fun u s=>Z.aj s (fun q s=>Z.bY s (fun r s=>Z.a0 false [some r] s) .u32 q) (al .sub d (.int .u64 1))) 1 p (ae.ap s.aa o)) 1 a f) (al .add j m)) .u32 e) none i) 1 a f) (al .add b g)) false c:=h.1.fA
theorem tL:r3 Z a b c d e f g s=Z.aj s (fun i s=>Z.aP i (Cn Z a b c d e f g s) (Co Z a b c d e s)) (al .lss g f):=h.1.qp
theorem C3:v8 Z b c a d s=Z.cW s (fun e s=>r3 Z b c a d (.int .u64 0) e (.int .i64 0) s) false a:=h.1.fA
theorem C4:Cp Z a b c d e f s=Z.cW s (fun i s=>Z.aj s (fun j s=>Z.cc s (fun m s=>Z.aw s (fun o s=>Z.bY s (fun p s=>Z.aj s (fun q s=>Z.aj s (fun g s=>Z.cW s (fun r s=>Z.aj s (fun t s=>Z.bY s (fun u s=>Z.cc s (fun w s=>Z.bX s (fun A s=>Z.aj s (fun x s=>Z.aj s (fun y s=>Z.aP y (Z.bY s (fun z s=>Z.a0 false [some z] s) .u32 d) (v8 Z a b c d s)) (al .eql x (.int .u64 0))) (al .shr g (.int .u64 63))) 1 w (ae.ap s.aa u)) 1 a t) .u32 g) (al .add b r)) false c) (al .sub q f)) (al .sub p e)) .u64 o) none m) 1 a j) (al .add b i)) false c:=h.1.fA
theorem tM:pA Z a b c d e f g i s=Z.aj s (fun j s=>Z.aP j (Cl Z a b c d e f g i s) (Cp Z a b c d e f s)) (al .lss i g):=h.1.qp
theorem tN:v9 Z a s=Z.a0 false [some a] s:=h.1.fA
theorem C5:wa Z c d a b e f s=Z.aj s (fun g s=>Z.aj s (fun j s=>Z.cc s (fun m s=>Z.aw s (fun o s=>Z.bY s (fun p s=>Z.aj s (fun i s=>Z.aj s (fun q s=>Z.aP q (v9 Z g s) (r4 Z c d a b g i s)) (al .geq i (.int .u64 4294967296))) (al .add f p)) .u64 o) none m) 1 a j) (al .sub b (.int .i64 1))) (al .sub e (.int .u64 1)):=h.1.fA
theorem C6:r4 Z d e f c b g s=Z.aj s (fun a s=>Z.af a false (fun k=>k b s) s (fun i s=>Z.af a false (fun k=>k f s) s (fun j s=>Z.af a false (fun k=>k c s) s (fun m s=>Z.af a false (fun k=>Z.aj s k (al .sub m (.int .i64 2))) s (fun o s=>Z.af a false (fun k=>Z.cc s k 1 j o) s (fun p s=>Z.af a false (fun k=>Z.aw s k none p) s (fun q s=>Z.af a false (fun k=>Z.bY s k .u64 q) s (fun r s=>Z.af a false (fun k=>Z.aj s k (al .mul i r)) s (fun t s=>Z.af a false (fun k=>k g s) s (fun u s=>Z.af a false (fun k=>Z.aj s k (al .shl u (.int .u64 32))) s (fun w s=>Z.af a false (fun k=>k d s) s (fun x s=>Z.af a false (fun k=>k e s) s (fun y s=>Z.af a false (fun k=>k c s) s (fun z s=>Z.af a false (fun k=>Z.aj s k (al .add y z)) s (fun A s=>Z.af a false (fun k=>Z.aj s k (al .sub A (.int .i64 2))) s (fun B s=>Z.af a false (fun k=>Z.cc s k 1 x B) s (fun C s=>Z.af a false (fun k=>Z.aw s k none C) s (fun D s=>Z.af a false (fun k=>Z.bY s k .u64 D) s (fun E s=>Z.af a false (fun k=>Z.aj s k (al .or w E)) s (fun F s=>Z.af a false (fun k=>Z.aj s k (al .gtr t F)) s (fun H s=>Z.bS s (fun I s=>Z.aP I (wa Z d e f c b g s) (v9 Z b s)) a (.bool true) H))))))))))))))))))))) (al .geq b (.int .u64 4294967296)):=h.1.qp
theorem C7:Cq Z a b c d e f g s=Z.aj s (fun i s=>pB Z a b c d e f i s) (al .add g (.int .i64 1)):=h.1.fA
theorem C8:r6 Z c a d e b f g i j s=Z.aj s (fun m s=>Z.aj s (fun o s=>Z.bY s (fun p s=>Z.cc s (fun q s=>Z.bX s (fun r s=>Cq Z c a d e b i j s) 1 q (ae.ap s.aa p)) 1 b f) .u32 o) (al .shr g m)) (al .rem a (.int .i64 32)):=h.1.fA
theorem C9:Cr Z b d c e f g a s=Z.aj s (fun j s=>Z.cc s (fun m s=>Z.aw s (fun o s=>Z.bY s (fun i s=>Z.aj s (fun p s=>Z.aj s (fun q s=>Z.cW s (fun r s=>Z.aj s (fun t s=>Z.aP t (Z.aj s (fun u s=>Z.aj s (fun w s=>Z.cc s (fun x s=>Z.aw s (fun y s=>Z.bY s (fun z s=>Z.aj s (fun A s=>Z.aj s (fun B s=>r6 Z b d c e f a B g a s) (al .or i A)) (al .shl z (.int .u64 32))) .u64 y) none x) 1 b w) (al .add u (.int .i64 1))) (al .add a c)) (r6 Z b d c e f a i g a s)) (al .lss q r)) false b) (al .add p (.int .i64 1))) (al .add a c)) .u64 o) none m) 1 b j) (al .add a c):=h.1.fA
theorem Da:Cs Z a b s=Z.bn s (fun c s=>Z.a0 false [some c,some a] s) 135 [(ae.ap s.aa b)]:=h.1.fA
theorem tO:pB Z e f g a b c d s=Z.aj s (fun i s=>Z.aP i (Cr Z e f g a b c d s) (Cs Z a b s)) (al .lss d c):=h.1.qp
theorem Db:Ct Z b d c s=Z.ls 1 b none (some c) none s (fun g s=>Z.bn s (fun i s=>Z.cW s (fun j s=>Z.aj s (fun a s=>Z.af a false (fun k=>k b s) s (fun m s=>Z.af a false (fun k=>k c s) s (fun o s=>Z.af a false (fun k=>Z.cc s k 1 m o) s (fun p s=>Z.af a false (fun k=>Z.aw s k none p) s (fun q s=>Z.af a false (fun k=>k d s) s (fun r s=>Z.af a false (fun k=>Z.aj s k (al .rem r (.int .i64 32))) s (fun t s=>Z.af a false (fun k=>Z.aj s k (al .shl (.int .u32 1) t)) s (fun u s=>Z.af a false (fun k=>Z.aj s k (al .sub u (.int .u32 1))) s (fun w s=>Z.af a false (fun k=>Z.aj s k (al .and q w)) s (fun x s=>Z.af a false (fun k=>Z.aj s k (al .neq x (.int .u32 0))) s (fun y s=>Z.bS s (fun z s=>Z.cW s (fun A s=>Z.aj s (fun e s=>Z.lg s (fun f s=>Z.cW s (fun B s=>pB Z b d c z f B (.int .i64 0) s) false f) [.int .u32 0] 4 e e) (al .sub A c)) false b) a (.bool true) y))))))))))) (al .gtr j (.int .i64 0))) false i) 135 [(ae.ap s.aa g)]):=h.1.fA
theorem Dc:pC Z a b s=Z.bY s (fun c s=>Z.hz s (fun d s=>Z.bY s (fun e s=>Z.aj s (fun f s=>Z.a0 false [some f] s) (al .add b e)) .i64 d) (.str [0,1,2,2,3,3,3,3,4,4,4,4,4,4,4,4,5,5,5,5,5,5,5,5,5,5,5,5,5,5,5,5,6,6,6,6,6,6,6,6,6,6,6,6,6,6,6,6,6,6,6,6,6,6,6,6,6,6,6,6,6,6,6,6,7,7,7,7,7,7,7,7,7,7,7,7,7,7,7,7,7,7,7,7,7,7,7,7,7,7,7,7,7,7,7,7,7,7,7,7,7,7,7,7,7,7,7,7,7,7,7,7,7,7,7,7,7,7,7,7,7,7,7,7,7,7,7,7,8,8,8,8,8,8,8,8,8,8,8,8,8,8,8,8,8,8,8,8,8,8,8,8,8,8,8,8,8,8,8,8,8,8,8,8,8,8,8,8,8,8,8,8,8,8,8,8,8,8,8,8,8,8,8,8,8,8,8,8,8,8,8,8,8,8,8,8,8,8,8,8,8,8,8,8,8,8,8,8,8,8,8,8,8,8,8,8,8,8,8,8,8,8,8,8,8,8,8,8,8,8,8,8,8,8,8,8,8,8,8,8,8,8,8,8,8,8,8,8,8,8,8,8,8,8,8,8]) c) .u8 a:=h.1.fA
theorem Dd:nU Z a b s=Z.aj s (fun c s=>Z.aP c (Z.aj s (fun d s=>Z.aj s (fun e s=>pC Z d e s) (al .add b (.int .i64 8))) (al .shr a (.int .u64 8))) (pC Z a b s)) (al .geq a (.int .u32 256)):=h.1.fA
theorem wy:Js Z c b s=Z.aj s (fun a s=>Z.af a true (fun k=>Z.aS s k 1 c) s (fun d s=>Z.af a true (fun k=>Z.aw s k none d) s (fun e s=>Z.af a true (fun k=>k b s) s (fun f s=>Z.af a true (fun k=>Z.aj s k (al .sub f (.int .i64 1))) s (fun g s=>Z.af a true (fun k=>Z.cc s k 1 e g) s (fun i s=>Z.af a true (fun k=>Z.aw s k none i) s (fun j s=>Z.af a true (fun k=>Z.aj s k (al .neq j (.int .u32 0))) s (fun m s=>Z.bS s (fun o s=>Z.a0 false [some o] s) a m (.bool false))))))))) (al .leq b (.int .i64 128)):=h.1.fA
theorem Fm:z7 Z b c a s=Z.bn s (fun d s=>Z.ca s (fun f s=>Z.ca s (fun e s=>uA Z b a e s) 1 d) 0 d) 114 [(ae.ap s.aa c),(ae.ap s.aa a)]:=h.1.fA
theorem Fo:Ju Z b c a s=Z.aj s (fun d s=>uz Z b a d s) (al .rem c a):=h.1.fA
theorem Fp:Jv Z a b s=Z.bY s (fun d s=>Z.aj s (fun e s=>Z.bY s (fun f s=>Z.a9 s (fun g s=>Z.bn s (fun c s=>Z.ca s (fun i s=>Z.ca s (fun j s=>Z.bX s (fun r s=>Z.a0 false [k2 s a (some 2),some j] s) 2 a (ae.ap s.aa i)) 1 c) 0 c) 115 [(ae.ap s.aa (.bool false)),(ae.ap s.aa g)]) 1 [d,f]) .u32 e) (al .shr b (.int .u64 32))) .u32 b:=h.1.fA
theorem Fq:uz Z a b c s=Z.aj s (fun d s=>Z.aP d (Ju Z a b c s) (Jv Z a b s)) (al .gtr c (.int .u64 0)):=h.1.qp
theorem Fs:Jw Z a b c s=Z.bn s (fun d s=>Z.bn s (fun e s=>uz Z a d e s) 116 [(ae.ap s.aa c)]) 116 [(ae.ap s.aa b)]:=h.1.fA
theorem wz:z8 Z a b c s=Z.cW s (fun e s=>Z.aj s (fun f s=>Z.aP f (Z.bn s (fun d s=>Z.ca s (fun g s=>Z.ca s (fun i s=>Z.bX s (fun r s=>Z.a0 false [k2 s a (some 2),some i] s) 2 a (ae.ap s.aa g)) 1 d) 0 d) 115 [(ae.ap s.aa (.bool false)),(ae.ap s.aa b)]) (Jw Z a b c s)) (al .gtr e (.int .i64 2))) false b:=h.1.fA
theorem oB:uA Z e c b s=Z.cW s (fun f s=>Z.aj s (fun a s=>Z.af a true (fun k=>k c s) s (fun g s=>Z.af a true (fun k=>Z.cW s k false g) s (fun i s=>Z.af a true (fun k=>Z.aj s k (al .gtr i (.int .i64 2))) s (fun j s=>Z.af a true (fun k=>k j s) s (fun d s=>Z.af d false (fun k=>k b s) s (fun m s=>Z.af d false (fun k=>Z.cW s k false m) s (fun o s=>Z.af d false (fun k=>Z.aj s k (al .gtr o (.int .i64 2))) s (fun p s=>Z.af a true (fun k=>Z.bS s k d (.bool true) p) s (fun q s=>Z.bS s (fun r s=>Z.aP r (z7 Z e c b s) (z8 Z e c b s)) a q (.bool false)))))))))) (al .gtr f (.int .i64 0))) false b:=h.1.qp
theorem Ft:Jx Z a b c s=Z.aS s (fun d s=>Z.aw s (fun e s=>Z.aS s (fun f s=>Z.aw s (fun g s=>uA Z c e g s) none f) 1 b) none d) 1 a:=h.1.fA
theorem De:Cu Z a b c d e f s=Z.aj s (fun g s=>r8 Z a b c d e g s) (al .add f (.int .i64 1)):=h.1.fA
theorem Df:Cv Z f a b c g d s=Z.cW s (fun i s=>Z.aj s (fun j s=>Z.aj s (fun e s=>Z.bn s (fun m s=>Z.bn s (fun o s=>Z.cc s (fun p s=>Z.bX s (fun r s=>Cu Z f a b c g d s) 1 p (ae.ap s.aa o)) 1 c e) 138 [(ae.ap s.aa b),(ae.ap s.aa e),(ae.ap s.aa a),(ae.ap s.aa m)]) 139 [(ae.ap s.aa b),(ae.ap s.aa e),(ae.ap s.aa a)]) (al .sub j d)) (al .sub i (.int .i64 1))) false c:=h.1.fA
theorem Dg:Cw Z a b c s=Z.bn s (fun e s=>Z.bn s (fun d s=>Z.ca s (fun f s=>Z.ca s (fun i s=>Z.bn s (fun g s=>Z.a0 false [some g,some f] s) 135 [(ae.ap s.aa c)]) 1 d) 0 d) 140 [(ae.ap s.aa e),(ae.ap s.aa a)]) 135 [(ae.ap s.aa b)]:=h.1.fA
theorem tP:r8 Z a f b c d e s=Z.aj s (fun g s=>Z.aP g (Cv Z a f b c d e s) (Cw Z a b c s)) (al .lss e d):=h.1.qp
theorem Dh:Cx Z b a s=Z.cW s (fun i s=>Z.aj s (fun j s=>Z.cc s (fun m s=>Z.aw s (fun o s=>Z.bn s (fun c s=>Z.bn s (fun p s=>Z.cW s (fun q s=>Z.aj s (fun d s=>Z.lg s (fun e s=>Z.bn s (fun r s=>Z.rN s (fun y s=>Z.cW s (fun t s=>Z.cW s (fun u s=>Z.aj s (fun w s=>Z.aj s (fun f s=>Z.lg s (fun g s=>Z.cW s (fun x s=>r8 Z c p e g x (.int .i64 0) s) false g) [.int .u32 0] 4 f f) (al .add w (.int .i64 1))) (al .sub t u)) false a) false b) 1 e r) 137 [(ae.ap s.aa b),(ae.ap s.aa c)]) [.int .u32 0] 4 d d) (al .add q (.int .i64 1))) false b) 137 [(ae.ap s.aa a),(ae.ap s.aa c)]) 136 [(ae.ap s.aa o)]) none m) 1 a j) (al .sub i (.int .i64 1))) false a:=h.1.fA
theorem Di:Cy Z b a s=Z.cW s (fun d s=>Z.aj s (fun e s=>Z.aP e (Z.cc s (fun f s=>Z.aw s (fun g s=>Z.bn s (fun c s=>Z.ca s (fun i s=>Z.ca s (fun j s=>Z.a9 s (fun m s=>Z.bn s (fun o s=>Z.a0 false [some i,some o] s) 135 [(ae.ap s.aa m)]) 1 [j]) 1 c) 0 c) 134 [(ae.ap s.aa b),(ae.ap s.aa g)]) none f) 1 a (.int .i64 0)) (Cx Z b a s)) (al .eql d (.int .i64 1))) false a:=h.1.fA
theorem Dj:Cz Z a b c s=Z.cW s (fun d s=>Z.lg s (fun e s=>Z.rN s (fun o s=>Z.af a true (fun k=>k b s) s (fun f s=>Z.af a true (fun k=>Z.cW s k false f) s (fun g s=>Z.af a true (fun k=>Z.aj s k (al .gtr g (.int .i64 0))) s (fun i s=>Z.bS s (fun j s=>Z.ih [.bool false,.bW 1 [] .nil] [(0,1,j),(1,1,e)] s (fun m s=>Z.bX s (fun r s=>Z.a0 false [k2 s c (some 2),some (.int .i64 0)] s) 2 c (ae.ap s.aa m))) a i (.bool false))))) 1 e b) [.int .u32 0] 4 d d) false b:=h.1.fA
theorem Dk:CA Z a b c d s=Z.aj s (fun e s=>nV Z a b c e s) (al .add d (.int .i64 1)):=h.1.fA
theorem Dl:CB Z b c d a s=Z.cc s (fun e s=>Z.aw s (fun f s=>Z.bY s (fun g s=>Z.aj s (fun i s=>Z.aj s (fun j s=>Z.aj s (fun m s=>CA Z b m d a s) (al .or c j)) (al .shl g i)) (al .mul (.int .i64 32) a)) .u64 f) none e) 1 b a:=h.1.fA
theorem Dm:CC Z a s=Z.a0 false [some a] s:=h.1.fA
theorem tQ:nV Z d a b c s=Z.aj s (fun e s=>Z.aP e (CB Z d a b c s) (CC Z a s)) (al .lss c b):=h.1.qp
theorem Fu:JD Z a s=Z.aS s (fun d s=>Z.aw s (fun e s=>Z.aS s (fun f s=>Z.aw s (fun g s=>Z.bn s (fun b s=>Z.ca s (fun i s=>Z.ca s (fun o s=>Z.ig (.ref (.l s.own.length) 0) (s.new (.cells [.bool false,.bW 1 [] .nil])) (fun c s=>Z.bX s (fun r s=>Z.aw s (fun j s=>Z.bn s (fun m s=>Z.a0 false [some m] s) 89 [(ae.ap s.aa j)]) (some 2) c) 2 c (ae.ap s.aa i))) 1 b) 0 b) 90 [(ae.ap s.aa e),(ae.ap s.aa g)]) (some 2) f) 2 a) (some 2) d) 0 a:=h.1.fA
theorem Fv:JE Z a s=Z.aS s (fun b s=>Z.aw s (fun c s=>Z.bn s (fun d s=>Z.aP d (Z.a0 false [some (.bool true)] s) (JD Z a s)) 89 [(ae.ap s.aa c)]) (some 2) b) 2 a:=h.1.fA
theorem wA:z9 Z a b c d e s=Z.aj s (fun f s=>uB Z a b c d f s) (al .add e (.int .i64 1)):=h.1.fA
theorem Fw:JF Z a b f c d e s=Z.aw s (fun g s=>Z.bn s (fun i s=>Z.aP i (Z.aj s (fun j s=>z9 Z a j c d e s) (al .add b (.int .i64 1))) (z9 Z a b c d e s)) 43 [(ae.ap s.aa g)]) (some 12) f:=h.1.fA
theorem Fx:JG Z b d c e a s=Z.cc s (fun g s=>Z.aw s (fun i s=>Z.ig (.ref (.l s.own.length) 0) (s.new (.cells [.str [],.int .i64 0,.bW 1 [] .nil,.bool false,.bW 1 [] .nil,.bool false,.bW 1 [] .nil,.bool false,.bW 1 [] .nil,.bool false,.bW 1 [] .nil,.int .i64 0])) (fun f s=>Z.bX s (fun r s=>Z.aj s (fun j s=>Z.ls 12 b none (some j) none s (fun m s=>Z.bn s (fun o s=>Z.aj s (fun p s=>Z.aP p (Z.a0 false [some (.int .i64 120)] s) (JF Z b d f c e a s)) (kn .not o)) 42 [(ae.ap s.aa m)])) (al .add a (.int .i64 1))) 12 f (ae.ap s.aa i))) (some 12) g) 12 c a:=h.1.fA
theorem Fy:JH Z s=Z.a0 false [some (.int .i64 0)] s:=h.1.fA
theorem Fz:Aa Z b d s=Z.cW s (fun e s=>Z.aj s (fun c s=>Z.af c false (fun k=>k d s) s (fun f s=>Z.af c false (fun k=>Z.aj s k (al .gtr f (.int .i64 5))) s (fun g s=>Z.bS s (fun a s=>Z.af a false (fun k=>k b s) s (fun i s=>Z.af a false (fun k=>Z.bn s k 44 [(ae.ap s.aa i)]) s (fun j s=>Z.af a false (fun k=>Z.cW s k false j) s (fun m s=>Z.af a false (fun k=>Z.aj s k (al .gtr m (.int .i64 20))) s (fun o s=>Z.bS s (fun p s=>Z.aP p (Z.a0 false [some (.int .i64 111)] s) (JH Z s)) a (.bool true) o))))) c (.bool true) g))) (al .gtr e (.int .i64 40))) false b:=h.1.fA
theorem wB:uB Z a b e c d s=Z.aj s (fun f s=>Z.aP f (JG Z a b e c d s) (Aa Z a b s)) (al .lss d c):=h.1.qp
theorem FA:JJ Z a b c d e f g i s=Z.aj s (fun j s=>uC Z a b c d e f g j s) (al .add i (.int .i64 1)):=h.1.fA
theorem FB:JK Z d e j f m g o b s=Z.cc s (fun p s=>Z.aw s (fun i s=>Z.aj s (fun c s=>Z.af c false (fun k=>k i s) s (fun q s=>Z.af c false (fun k=>k e s) s (fun r s=>Z.af c false (fun k=>Z.aj s k (al .geq q r)) s (fun t s=>Z.bS s (fun a s=>Z.af a false (fun k=>k f s) s (fun u s=>Z.af a false (fun k=>k b s) s (fun w s=>Z.af a false (fun k=>Z.cc s k 1 u w) s (fun x s=>Z.af a false (fun k=>Z.aw s k none x) s (fun y s=>Z.af a false (fun k=>k d s) s (fun z s=>Z.af a false (fun k=>k i s) s (fun A s=>Z.af a false (fun k=>Z.cc s k 12 z A) s (fun B s=>Z.af a false (fun k=>Z.aw s k (some 12) B) s (fun C s=>Z.af a false (fun k=>Z.gR s k 48 [(ae.ap s.aa C)]) s (fun D s=>Z.af a false (fun k=>Z.bn s k 50 [(ae.ap s.aa y),(ae.ap s.aa D)]) s (fun E s=>Z.af a false (fun k=>Z.aj s k (kn .not E)) s (fun F s=>Z.bS s (fun H s=>Z.aP H (Z.a0 false [some (.bool false)] s) (JJ Z d e j f m g o b s)) a (.bool true) F)))))))))))) c (.bool true) t)))) (al .lss i (.int .i64 0))) none p) 1 g b:=h.1.fA
theorem FC:Ac Z a b c s=Z.ls 12 a none (some b) none s (fun d s=>Z.ig (.fn 74 [(ae.ap s.aa c)]) s (fun e s=>Z.bn s (fun f s=>Z.aj s (fun g s=>Z.a0 false [some g] s) (kn .not f)) 73 [(ae.ap s.aa d),(ae.ap s.aa e)])):=h.1.fA
theorem FD:Ad Z m o a s=Z.aS s (fun q s=>Z.aw s (fun r s=>Z.aj s (fun i s=>Z.af i false (fun k=>Z.aS s k 1 a) s (fun t s=>Z.af i false (fun k=>Z.aw s k none t) s (fun u s=>Z.af i false (fun k=>Z.aj s k (al .eql u (.int .i64 2))) s (fun w s=>Z.bS s (fun b s=>Z.aS s (fun x s=>Z.aw s (fun y s=>Z.aj s (fun p s=>Z.af b true (fun k=>Z.aS s k 3 a) s (fun z s=>Z.af b true (fun k=>Z.aw s k (some 4) z) s (fun A s=>Z.af b true (fun k=>Z.bn s k 71 [(ae.ap s.aa A)]) s (fun B s=>Z.af b true (fun k=>Z.aj s k (kn .not B)) s (fun C s=>Z.bS s (fun c s=>Z.af c false (fun k=>k b s) s (fun D s=>Z.af c false (fun k=>Z.aj s k (kn .not D)) s (fun E s=>Z.af c false (fun k=>k E s) s (fun d s=>Z.af d true (fun k=>Z.aS s k 3 a) s (fun F s=>Z.af d true (fun k=>Z.aw s k (some 4) F) s (fun H s=>Z.af d true (fun k=>Z.bn s k 72 [(ae.ap s.aa H)]) s (fun I s=>Z.af d true (fun k=>Z.aj s k (kn .not I)) s (fun J s=>Z.af c false (fun k=>Z.bS s k d J (.bool false)) s (fun K s=>Z.bS s (fun j s=>Z.af j false (fun k=>k p s) s (fun L s=>Z.af j false (fun k=>k L s) s (fun e s=>Z.af e true (fun k=>Z.aS s k 7 a) s (fun M s=>Z.af e true (fun k=>Z.aw s k (some 4) M) s (fun N s=>Z.af e true (fun k=>Z.bn s k 71 [(ae.ap s.aa N)]) s (fun O s=>Z.af e true (fun k=>Z.aj s k (kn .not O)) s (fun P s=>Z.af j false (fun k=>Z.bS s k e P (.bool false)) s (fun Q s=>Z.bS s (fun f s=>Z.af f false (fun k=>k p s) s (fun R s=>Z.af f false (fun k=>Z.aj s k (kn .not R)) s (fun S s=>Z.af f false (fun k=>k S s) s (fun g s=>Z.af g true (fun k=>Z.aS s k 7 a) s (fun T s=>Z.af g true (fun k=>Z.aw s k (some 4) T) s (fun U s=>Z.af g true (fun k=>Z.bn s k 72 [(ae.ap s.aa U)]) s (fun V s=>Z.af g true (fun k=>Z.aj s k (kn .not V)) s (fun W s=>Z.af f false (fun k=>Z.bS s k g W (.bool false)) s (fun Y s=>Z.bS s (fun ab s=>Z.aP ab (Z.a0 false [some (.bool false)] s) (Ac Z m o a s)) f (.bool true) Y))))))))) j (.bool true) Q)))))))) c (.bool true) K))))))))) b C (.bool false)))))) (al .eql y (.int .i64 1))) none x) 1 a) i (.bool true) w)))) (al .eql r (.int .i64 1))) none q) 1 a:=h.1.fA
theorem FE:Ae Z f g a e s=Z.aS s (fun i s=>Z.aw s (fun j s=>Z.aj s (fun c s=>Z.af c false (fun k=>Z.aS s k 11 a) s (fun m s=>Z.af c false (fun k=>Z.aw s k none m) s (fun o s=>Z.af c false (fun k=>Z.aj s k (al .eql o (.int .i64 2))) s (fun p s=>Z.bS s (fun q s=>Z.aj s (fun b s=>Z.af b false (fun k=>k e s) s (fun r s=>Z.af b false (fun k=>Z.aj s k (kn .not r)) s (fun t s=>Z.af b false (fun k=>k t s) s (fun d s=>Z.af d true (fun k=>Z.aS s k 11 a) s (fun u s=>Z.af d true (fun k=>Z.aw s k none u) s (fun w s=>Z.af d true (fun k=>Z.aj s k (al .neq w (.int .i64 0))) s (fun x s=>Z.af b false (fun k=>Z.bS s k d x (.bool false)) s (fun y s=>Z.bS s (fun z s=>Z.aP z (Z.a0 false [some (.bool false)] s) (Ad Z f g a s)) b (.bool true) y)))))))) ((o2 .bool e q).map fun b=>.bool (bif true then !b else b))) c (.bool true) p)))) (al .eql j (.int .i64 1))) none i) 11 a:=h.1.fA
theorem wC:uC Z a b c g d i e f s=Z.aj s (fun j s=>Z.aP j (JK Z a b c g d i e f s) (Ae Z a b c d s)) (al .lss f e):=h.1.qp
theorem FF:JL Z b c a d e s=Z.aS s (fun g s=>Z.aw s (fun f s=>Z.cW s (fun i s=>uC Z b c a d e f i (.int .i64 0) s) false f) none g) 2 a:=h.1.fA
theorem wD:sa Z a b c d s=Z.aj s (fun e s=>uD Z a b c e s) (al .add d (.int .i64 1)):=h.1.fA
theorem FG:JM Z c b d a s=Z.cc s (fun g s=>Z.aw s (fun i s=>Z.ig (.ref (.l s.own.length) 0) (s.new (.cells [.str [],.int .i64 0,.bW 1 [] .nil,.bool false,.bW 1 [] .nil,.bool false,.bW 1 [] .nil,.bool false,.bW 1 [] .nil,.bool false,.bW 1 [] .nil,.int .i64 0])) (fun e s=>Z.bX s (fun y s=>Z.aS s (fun j s=>Z.aw s (fun f s=>Z.aj s (fun m s=>Z.aP m (Z.ih [.int .i64 0,.int .i64 0] [(0,1,a),(1,1,(.int .i64 0))] s (fun o s=>Z.ih [.int .i64 0,.int .i64 0] [(0,1,a),(1,1,(.int .i64 1))] s (fun p s=>Z.a9 s (fun q s=>Z.fO s (fun r s=>sa Z r b d a s) 2 16 (some (.l 0)) c q) 2 [o,p]))) (Z.aj s (fun t s=>Z.aP t (Z.ih [.int .i64 0,.int .i64 0] [(0,1,a),(1,1,(.int .i64 0))] s (fun u s=>Z.a9 s (fun w s=>Z.fO s (fun x s=>sa Z x b d a s) 2 16 (some (.l 0)) c w) 2 [u])) (sa Z c b d a s)) (al .eql f (.int .i64 2)))) (al .eql f (.int .i64 1))) none j) 1 e) 12 e (ae.ap s.aa i))) (some 12) g) 12 b a:=h.1.fA
theorem FH:JN Z a s=Z.a0 false [some a] s:=h.1.fA
theorem wE:uD Z a d b c s=Z.aj s (fun e s=>Z.aP e (JM Z a d b c s) (JN Z a s)) (al .lss c b):=h.1.qp
theorem FI:JO Z s=Z.a0 false [some (.int .i64 0)] s:=h.1.fA
theorem FJ:Af Z c b s=Z.aj s (fun a s=>Z.af a false (fun k=>k b s) s (fun d s=>Z.af a false (fun k=>k c s) s (fun e s=>Z.af a false (fun k=>Z.cW s k false e) s (fun f s=>Z.af a false (fun k=>Z.aj s k (al .geq d f)) s (fun g s=>Z.bS s (fun i s=>Z.aP i (Z.a0 false [some (.int .i64 1)] s) (JO Z s)) a (.bool true) g))))) (al .lss b (.int .i64 0)):=h.1.fA
theorem FK:JP Z s=Z.a0 false [some (.bW 1 [] .nil),some (.int .i64 0),some (.bool false)] s:=h.1.fA
theorem FL:Ag Z a b s=Z.aP b (Z.a9 s (fun c s=>Z.a0 false [some c,some (.int .i64 2),some (.bool false)] s) 1 [(.int .i64 1),(.int .i64 2)]) (Z.aj s (fun d s=>Z.aP d (Z.a9 s (fun e s=>Z.a0 false [some e,some (.int .i64 1),some (.bool false)] s) 1 [(.int .i64 1),(.int .i64 1)]) (Z.aj s (fun f s=>Z.aP f (Z.a9 s (fun g s=>Z.a0 false [some g,some (.int .i64 1),some (.bool false)] s) 1 [(.int .i64 1),(.int .i64 2)]) (Z.aj s (fun i s=>Z.aP i (Z.a9 s (fun j s=>Z.a0 false [some j,some (.int .i64 2),some (.bool true)] s) 1 [(.int .i64 1),(.int .i64 1),(.int .i64 1)]) (Z.aj s (fun m s=>Z.aP m (Z.a9 s (fun o s=>Z.a0 false [some o,some (.int .i64 2),some (.bool true)] s) 1 [(.int .i64 1),(.int .i64 3)]) (Z.aj s (fun p s=>Z.aP p (Z.a9 s (fun q s=>Z.a0 false [some q,some (.int .i64 1),some (.bool false)] s) 1 [(.int .i64 3)]) (JP Z s)) (al .eql a (.int .i64 16)))) (al .eql a (.int .i64 15)))) (al .eql a (.int .i64 14)))) (al .eql a (.int .i64 13)))) (al .eql a (.int .i64 12))):=h.1.fA
theorem FM:Ah Z a b s=Z.aP b (Z.a9 s (fun d s=>Z.a0 false [some d,some (.int .i64 3),some (.bool false)] s) 1 [(.int .i64 1),(.int .i64 1),(.int .i64 1)]) (Z.aj s (fun e s=>Z.aP e (Z.a9 s (fun f s=>Z.a0 false [some f,some (.int .i64 1),some (.bool true)] s) 1 [(.int .i64 2),(.int .i64 3)]) (Z.aj s (fun g s=>Z.aP g (Z.a9 s (fun i s=>Z.a0 false [some i,some (.int .i64 1),some (.bool true)] s) 1 [(.int .i64 3),(.int .i64 3)]) (Z.aj s (fun c s=>Z.aP c (Ag Z a c s) (Z.aj s (fun j s=>Ag Z a j s) (al .eql a (.int .i64 11)))) (al .eql a (.int .i64 10)))) (al .eql a (.int .i64 9)))) (al .eql a (.int .i64 8))):=h.1.fA
theorem FN:JQ Z s=Z.a0 false [some (.bW 1 [] .nil),some (.int .i64 0),some (.bool false)] s:=h.1.fA
theorem FO:Ai Z a b s=Z.aP b (Z.a9 s (fun c s=>Z.a0 false [some c,some (.int .i64 2),some (.bool false)] s) 1 [(.int .i64 1),(.int .i64 2)]) (Z.aj s (fun d s=>Z.aP d (Z.a9 s (fun e s=>Z.a0 false [some e,some (.int .i64 1),some (.bool false)] s) 1 [(.int .i64 1),(.int .i64 1)]) (Z.aj s (fun f s=>Z.aP f (Z.a9 s (fun g s=>Z.a0 false [some g,some (.int .i64 1),some (.bool false)] s) 1 [(.int .i64 1),(.int .i64 2)]) (Z.aj s (fun i s=>Z.aP i (Z.a9 s (fun j s=>Z.a0 false [some j,some (.int .i64 2),some (.bool true)] s) 1 [(.int .i64 1),(.int .i64 1),(.int .i64 1)]) (Z.aj s (fun m s=>Z.aP m (Z.a9 s (fun o s=>Z.a0 false [some o,some (.int .i64 2),some (.bool true)] s) 1 [(.int .i64 1),(.int .i64 3)]) (Z.aj s (fun p s=>Z.aP p (Z.a9 s (fun q s=>Z.a0 false [some q,some (.int .i64 1),some (.bool false)] s) 1 [(.int .i64 3)]) (JQ Z s)) (al .eql a (.int .i64 16)))) (al .eql a (.int .i64 15)))) (al .eql a (.int .i64 14)))) (al .eql a (.int .i64 13)))) (al .eql a (.int .i64 12))):=h.1.fA
theorem FP:Aj Z a b s=Z.aP b (Z.a9 s (fun d s=>Z.a0 false [some d,some (.int .i64 3),some (.bool false)] s) 1 [(.int .i64 1),(.int .i64 1),(.int .i64 1)]) (Z.aj s (fun e s=>Z.aP e (Z.a9 s (fun f s=>Z.a0 false [some f,some (.int .i64 1),some (.bool true)] s) 1 [(.int .i64 2),(.int .i64 3)]) (Z.aj s (fun g s=>Z.aP g (Z.a9 s (fun i s=>Z.a0 false [some i,some (.int .i64 1),some (.bool true)] s) 1 [(.int .i64 3),(.int .i64 3)]) (Z.aj s (fun c s=>Z.aP c (Ai Z a c s) (Z.aj s (fun j s=>Ai Z a j s) (al .eql a (.int .i64 11)))) (al .eql a (.int .i64 10)))) (al .eql a (.int .i64 9)))) (al .eql a (.int .i64 8))):=h.1.fA
theorem FQ:JR Z a b c d s=Z.aj s (fun e s=>uE Z a b c e s) (al .add d (.int .i64 1)):=h.1.fA
theorem FR:JS Z b c d a s=Z.cc s (fun e s=>Z.aw s (fun f s=>Z.rM s (fun g s=>Z.aP g (Z.a0 false [some a] s) (JR Z b c d a s)) c [(ae.ap s.aa f)]) (some 12) e) 12 b a:=h.1.fA
theorem FT:JT Z s=Z.a0 false [some (.int .i64 (-1))] s:=h.1.fA
theorem wF:uE Z c d a b s=Z.aj s (fun e s=>Z.aP e (JS Z c d a b s) (JT Z s)) (al .lss b a):=h.1.qp
theorem FU:JU Z a b s=Z.aj s (fun c s=>Z.mh 1 24 a (some (.int .i64 1)) (some c) none s (fun d s=>Z.lf s (fun e s=>Z.a0 false [some e] s) d)) (al .add (.int .i64 1) b):=h.1.fA
theorem FV:Ak Z d a b s=Z.bn s (fun c s=>Z.aj s (fun e s=>Z.mh 1 24 a (some (.int .i64 1)) (some e) none s (fun f s=>Z.bn s (fun p s=>Z.aj s (fun g s=>Z.aP g (Z.mg s (fun i s=>Z.bX s (fun r s=>Z.aj s (fun j s=>Z.mh 1 24 a none (some j) none s (fun m s=>Z.lf s (fun o s=>Z.a0 false [some o] s) m)) (al .add (.int .i64 1) c)) 1 i (ae.ap s.aa (.int .u8 45))) 1 24 a (.int .i64 0)) (JU Z a c s)) (al .lss d (.int .i64 0))) 97 [(ae.ap s.aa f),(ae.ap s.aa b)])) (al .add (.int .i64 1) c)) 96 [(ae.ap s.aa b)]:=h.1.fA
theorem FW:JV Z a s=Z.ig (.ref (.l s.own.length) 0) (s.new (.cells [.int .u8 0,.int .u8 0,.int .u8 0,.int .u8 0,.int .u8 0,.int .u8 0,.int .u8 0,.int .u8 0,.int .u8 0,.int .u8 0,.int .u8 0,.int .u8 0,.int .u8 0,.int .u8 0,.int .u8 0,.int .u8 0,.int .u8 0,.int .u8 0,.int .u8 0,.int .u8 0,.int .u8 0,.int .u8 0,.int .u8 0,.int .u8 0])) (fun b s=>Z.bY s (fun c s=>Z.aj s (fun d s=>Z.aP d (Z.aj s (fun e s=>Ak Z a b e s) (kn .neg c)) (Ak Z a b c s)) (al .lss a (.int .i64 0))) .u64 a):=h.1.fA
theorem FX:JW Z a s=Z.aj s (fun b s=>Z.aj s (fun c s=>Z.aj s (fun d s=>Z.vM (.str [48,48,48,49,48,50,48,51,48,52,48,53,48,54,48,55,48,56,48,57,49,48,49,49,49,50,49,51,49,52,49,53,49,54,49,55,49,56,49,57,50,48,50,49,50,50,50,51,50,52,50,53,50,54,50,55,50,56,50,57,51,48,51,49,51,50,51,51,51,52,51,53,51,54,51,55,51,56,51,57,52,48,52,49,52,50,52,51,52,52,52,53,52,54,52,55,52,56,52,57,53,48,53,49,53,50,53,51,53,52,53,53,53,54,53,55,53,56,53,57,54,48,54,49,54,50,54,51,54,52,54,53,54,54,54,55,54,56,54,57,55,48,55,49,55,50,55,51,55,52,55,53,55,54,55,55,55,56,55,57,56,48,56,49,56,50,56,51,56,52,56,53,56,54,56,55,56,56,56,57,57,48,57,49,57,50,57,51,57,52,57,53,57,54,57,55,57,56,57,57]) (some b) (some d) s (fun e s=>Z.a0 false [some e] s)) (al .add c (.int .i64 2))) (al .mul a (.int .i64 2))) (al .mul a (.int .i64 2)):=h.1.fA
theorem wG:oz Z a b c s=Z.aj s (fun d s=>Z.aP d (Z.aj s (fun e s=>Z.bY s (fun f s=>Z.cc s (fun g s=>Z.bX s (fun r s=>Z.a0 false [] s) 1 g (ae.ap s.aa f)) 1 a (.int .i64 0)) .u8 e) (al .add (.int .u32 48) c)) (Z.a0 false [] s)) (al .gtr b (.int .i64 0)):=h.1.fA
theorem wH:oA Z b a c s=Z.aj s (fun e s=>Z.aP e (Z.aj s (fun f s=>Z.aj s (fun d s=>Z.aj s (fun g s=>Z.aj s (fun i s=>Z.aj s (fun j s=>Z.aj s (fun m s=>Z.hz s (fun o s=>Z.hz s (fun p s=>Z.cc s (fun q s=>Z.bX s (fun u s=>Z.cc s (fun r s=>Z.bX s (fun u s=>Z.aj s (fun t s=>oz Z b t g s) (al .sub a (.int .i64 2))) 1 r (ae.ap s.aa p)) 1 b j) 1 q (ae.ap s.aa o)) 1 b i) (.str [48,48,48,49,48,50,48,51,48,52,48,53,48,54,48,55,48,56,48,57,49,48,49,49,49,50,49,51,49,52,49,53,49,54,49,55,49,56,49,57,50,48,50,49,50,50,50,51,50,52,50,53,50,54,50,55,50,56,50,57,51,48,51,49,51,50,51,51,51,52,51,53,51,54,51,55,51,56,51,57,52,48,52,49,52,50,52,51,52,52,52,53,52,54,52,55,52,56,52,57,53,48,53,49,53,50,53,51,53,52,53,53,53,54,53,55,53,56,53,57,54,48,54,49,54,50,54,51,54,52,54,53,54,54,54,55,54,56,54,57,55,48,55,49,55,50,55,51,55,52,55,53,55,54,55,55,55,56,55,57,56,48,56,49,56,50,56,51,56,52,56,53,56,54,56,55,56,56,56,57,57,48,57,49,57,50,57,51,57,52,57,53,57,54,57,55,57,56,57,57]) d) (.str [48,48,48,49,48,50,48,51,48,52,48,53,48,54,48,55,48,56,48,57,49,48,49,49,49,50,49,51,49,52,49,53,49,54,49,55,49,56,49,57,50,48,50,49,50,50,50,51,50,52,50,53,50,54,50,55,50,56,50,57,51,48,51,49,51,50,51,51,51,52,51,53,51,54,51,55,51,56,51,57,52,48,52,49,52,50,52,51,52,52,52,53,52,54,52,55,52,56,52,57,53,48,53,49,53,50,53,51,53,52,53,53,53,54,53,55,53,56,53,57,54,48,54,49,54,50,54,51,54,52,54,53,54,54,54,55,54,56,54,57,55,48,55,49,55,50,55,51,55,52,55,53,55,54,55,55,55,56,55,57,56,48,56,49,56,50,56,51,56,52,56,53,56,54,56,55,56,56,56,57,57,48,57,49,57,50,57,51,57,52,57,53,57,54,57,55,57,56,57,57]) m) (al .add d (.int .u32 1))) (al .sub a (.int .i64 2))) (al .sub a (.int .i64 1))) (al .quo c (.int .u32 100))) (al .mul f (.int .u32 2))) (al .rem c (.int .u32 100))) (oz Z b a c s)) (al .geq a (.int .i64 2)):=h.1.fA
theorem wI:uF Z b d a s=Z.bY s (fun c s=>Z.aj s (fun i s=>Z.aP i (Z.aj s (fun e s=>Z.aj s (fun j s=>Z.aj s (fun m s=>Z.aj s (fun f s=>Z.aj s (fun o s=>Z.aj s (fun g s=>Z.aj s (fun p s=>Z.aj s (fun q s=>Z.aj s (fun r s=>Z.hz s (fun t s=>Z.hz s (fun u s=>Z.cc s (fun w s=>Z.bX s (fun H s=>Z.cc s (fun x s=>Z.bX s (fun H s=>Z.aj s (fun y s=>Z.aj s (fun z s=>Z.aj s (fun A s=>Z.hz s (fun B s=>Z.hz s (fun C s=>Z.cc s (fun D s=>Z.bX s (fun H s=>Z.cc s (fun E s=>Z.bX s (fun H s=>Z.aj s (fun F s=>oA Z b F j s) (al .sub a (.int .i64 4))) 1 E (ae.ap s.aa C)) 1 b z) 1 D (ae.ap s.aa B)) 1 b y) (.str [48,48,48,49,48,50,48,51,48,52,48,53,48,54,48,55,48,56,48,57,49,48,49,49,49,50,49,51,49,52,49,53,49,54,49,55,49,56,49,57,50,48,50,49,50,50,50,51,50,52,50,53,50,54,50,55,50,56,50,57,51,48,51,49,51,50,51,51,51,52,51,53,51,54,51,55,51,56,51,57,52,48,52,49,52,50,52,51,52,52,52,53,52,54,52,55,52,56,52,57,53,48,53,49,53,50,53,51,53,52,53,53,53,54,53,55,53,56,53,57,54,48,54,49,54,50,54,51,54,52,54,53,54,54,54,55,54,56,54,57,55,48,55,49,55,50,55,51,55,52,55,53,55,54,55,55,55,56,55,57,56,48,56,49,56,50,56,51,56,52,56,53,56,54,56,55,56,56,56,57,57,48,57,49,57,50,57,51,57,52,57,53,57,54,57,55,57,56,57,57]) f) (.str [48,48,48,49,48,50,48,51,48,52,48,53,48,54,48,55,48,56,48,57,49,48,49,49,49,50,49,51,49,52,49,53,49,54,49,55,49,56,49,57,50,48,50,49,50,50,50,51,50,52,50,53,50,54,50,55,50,56,50,57,51,48,51,49,51,50,51,51,51,52,51,53,51,54,51,55,51,56,51,57,52,48,52,49,52,50,52,51,52,52,52,53,52,54,52,55,52,56,52,57,53,48,53,49,53,50,53,51,53,52,53,53,53,54,53,55,53,56,53,57,54,48,54,49,54,50,54,51,54,52,54,53,54,54,54,55,54,56,54,57,55,48,55,49,55,50,55,51,55,52,55,53,55,54,55,55,55,56,55,57,56,48,56,49,56,50,56,51,56,52,56,53,56,54,56,55,56,56,56,57,57,48,57,49,57,50,57,51,57,52,57,53,57,54,57,55,57,56,57,57]) A) (al .add f (.int .u32 1))) (al .sub a (.int .i64 4))) (al .sub a (.int .i64 3))) 1 x (ae.ap s.aa u)) 1 b q) 1 w (ae.ap s.aa t)) 1 b p) (.str [48,48,48,49,48,50,48,51,48,52,48,53,48,54,48,55,48,56,48,57,49,48,49,49,49,50,49,51,49,52,49,53,49,54,49,55,49,56,49,57,50,48,50,49,50,50,50,51,50,52,50,53,50,54,50,55,50,56,50,57,51,48,51,49,51,50,51,51,51,52,51,53,51,54,51,55,51,56,51,57,52,48,52,49,52,50,52,51,52,52,52,53,52,54,52,55,52,56,52,57,53,48,53,49,53,50,53,51,53,52,53,53,53,54,53,55,53,56,53,57,54,48,54,49,54,50,54,51,54,52,54,53,54,54,54,55,54,56,54,57,55,48,55,49,55,50,55,51,55,52,55,53,55,54,55,55,55,56,55,57,56,48,56,49,56,50,56,51,56,52,56,53,56,54,56,55,56,56,56,57,57,48,57,49,57,50,57,51,57,52,57,53,57,54,57,55,57,56,57,57]) g) (.str [48,48,48,49,48,50,48,51,48,52,48,53,48,54,48,55,48,56,48,57,49,48,49,49,49,50,49,51,49,52,49,53,49,54,49,55,49,56,49,57,50,48,50,49,50,50,50,51,50,52,50,53,50,54,50,55,50,56,50,57,51,48,51,49,51,50,51,51,51,52,51,53,51,54,51,55,51,56,51,57,52,48,52,49,52,50,52,51,52,52,52,53,52,54,52,55,52,56,52,57,53,48,53,49,53,50,53,51,53,52,53,53,53,54,53,55,53,56,53,57,54,48,54,49,54,50,54,51,54,52,54,53,54,54,54,55,54,56,54,57,55,48,55,49,55,50,55,51,55,52,55,53,55,54,55,55,55,56,55,57,56,48,56,49,56,50,56,51,56,52,56,53,56,54,56,55,56,56,56,57,57,48,57,49,57,50,57,51,57,52,57,53,57,54,57,55,57,56,57,57]) r) (al .add g (.int .u32 1))) (al .sub a (.int .i64 2))) (al .sub a (.int .i64 1))) (al .mul o (.int .u32 2))) (al .rem e (.int .u32 100))) (al .mul m (.int .u32 2))) (al .quo e (.int .u32 100))) (al .quo c (.int .u32 10000))) (al .rem c (.int .u32 10000))) (oA Z b a c s)) (al .geq a (.int .i64 4))) .u32 d:=h.1.fA
theorem FY:JX Z b c a s=Z.aj s (fun d s=>Z.aP d (XC Z b c a s) (uF Z b c a s)) (al .geq a (.int .i64 8)):=h.1.qp
theorem Dn:sb Z a b s=Z.bY s (fun c s=>Z.hz s (fun d s=>Z.bY s (fun e s=>Z.aj s (fun f s=>Z.a0 false [some f] s) (al .add b e)) .i64 d) (.str [0,1,2,2,3,3,3,3,4,4,4,4,4,4,4,4,5,5,5,5,5,5,5,5,5,5,5,5,5,5,5,5,6,6,6,6,6,6,6,6,6,6,6,6,6,6,6,6,6,6,6,6,6,6,6,6,6,6,6,6,6,6,6,6,7,7,7,7,7,7,7,7,7,7,7,7,7,7,7,7,7,7,7,7,7,7,7,7,7,7,7,7,7,7,7,7,7,7,7,7,7,7,7,7,7,7,7,7,7,7,7,7,7,7,7,7,7,7,7,7,7,7,7,7,7,7,7,7,8,8,8,8,8,8,8,8,8,8,8,8,8,8,8,8,8,8,8,8,8,8,8,8,8,8,8,8,8,8,8,8,8,8,8,8,8,8,8,8,8,8,8,8,8,8,8,8,8,8,8,8,8,8,8,8,8,8,8,8,8,8,8,8,8,8,8,8,8,8,8,8,8,8,8,8,8,8,8,8,8,8,8,8,8,8,8,8,8,8,8,8,8,8,8,8,8,8,8,8,8,8,8,8,8,8,8,8,8,8,8,8,8,8,8,8,8,8,8,8,8,8,8,8,8,8,8,8]) c) .u8 a:=h.1.fA
theorem tR:sc Z a b s=Z.aj s (fun c s=>Z.aP c (Z.aj s (fun d s=>Z.aj s (fun e s=>sb Z d e s) (al .add b (.int .i64 8))) (al .shr a (.int .u64 8))) (sb Z a b s)) (al .geq a (.int .u64 256)):=h.1.fA
theorem Dp:wi Z a b s=Z.aj s (fun c s=>Z.aP c (Z.aj s (fun d s=>Z.aj s (fun e s=>sc Z d e s) (al .add b (.int .i64 16))) (al .shr a (.int .u64 16))) (sc Z a b s)) (al .geq a (.int .u64 65536)):=h.1.fA
theorem Dq:CD Z s=Z.a0 false [some (.int .i64 0)] s:=h.1.fA
theorem FZ:J2 Z a b c d e f g i j m o p q s=Z.aj s (fun r s=>uH Z a b c d e f g i j m o p r s) (al .add q (.int .i64 1)):=h.1.fA
theorem F0:J3 Z e f b g i j m o c p d q a s=Z.cc s (fun r s=>Z.aw s (fun t s=>Z.cc s (fun u s=>Z.aw s (fun w s=>Z.bn s (fun x s=>Z.a9 s (fun y s=>Z.fO s (fun z s=>J2 Z e f b g i j m o c p d z a s) 1 8 (some (.l 0)) q y) 1 [x]) 35 [(ae.ap s.aa b),(ae.ap s.aa t),(ae.ap s.aa w)]) none u) 1 d a) none r) 1 c a:=h.1.fA
theorem tS:wk Z a b c d e f g i j m o s=Z.aj s (fun p s=>uG Z a b c d e f g i j m p s) (al .add o (.int .i64 1)):=h.1.fA
theorem F1:J4 Z c d e f g i j o m a b s=Z.cc s (fun p s=>Z.aw s (fun q s=>Z.aj s (fun r s=>Z.aP r (wk Z c d e f g i j (.int .i64 1) m a b s) (wk Z c d e f g i j o m a b s)) (al .lss q (.int .i64 0))) none p) 1 a b:=h.1.fA
theorem tT:pD Z a b c d e f s=Z.aj s (fun g s=>kG Z a b c d e g s) (al .add f (.int .i64 1)):=h.1.fA
theorem Dr:nW Z a b c d e f g s=Z.aw s (fun i s=>Z.a9 s (fun j s=>Z.fO s (fun m s=>pD Z a b m d e f s) 12 184 (some (.l 0)) c j) 12 [i]) (some 12) g:=h.1.fA
theorem Ds:pE Z c d e f g b i j o m s=Z.gR s (fun p s=>Z.aj s (fun q s=>Z.ih [.str [],.int .i64 0,.bW 1 [] .nil,.bool false,.bW 1 [] .nil,.bool false,.bW 1 [] .nil,.bool false,.bW 1 [] .nil,.bool false,.bW 1 [] .nil,.int .i64 0] [(0,1,q),(1,1,j)] s (fun r s=>Z.ig (.ref (.l s.own.length) 0) (s.new (.cells [.str [],.int .i64 0,.bW 1 [] .nil,.bool false,.bW 1 [] .nil,.bool false,.bW 1 [] .nil,.bool false,.bW 1 [] .nil,.bool false,.bW 1 [] .nil,.int .i64 0])) (fun a s=>Z.bX s (fun U s=>Z.aj s (fun t s=>Z.aP t (Z.aS s (fun u s=>Z.aw s (fun w s=>Z.gR s (fun x s=>Z.aS s (fun y s=>Z.bX s (fun U s=>Z.aS s (fun z s=>Z.aw s (fun A s=>Z.gR s (fun B s=>Z.aS s (fun C s=>Z.bX s (fun U s=>Z.aj s (fun D s=>nW Z c d e D g b a s) (al .add f (.int .i64 2))) 4 C (ae.ap s.aa B)) 7 a) 36 [(ae.ap s.aa A)]) none z) 5 i) 4 y (ae.ap s.aa x)) 3 a) 36 [(ae.ap s.aa w)]) none u) 4 i) (Z.aj s (fun E s=>Z.aP E (Z.aS s (fun F s=>Z.bX s (fun U s=>Z.aS s (fun H s=>Z.aw s (fun I s=>Z.gR s (fun J s=>Z.aS s (fun K s=>Z.bX s (fun U s=>Z.aj s (fun L s=>nW Z c d e L g b a s) (al .add f (.int .i64 1))) 4 K (ae.ap s.aa J)) 3 a) 36 [(ae.ap s.aa I)]) none H) 4 i) 1 F (ae.ap s.aa (n6 m))) 2 a) (Z.aP o (Z.aS s (fun M s=>Z.bX s (fun U s=>Z.aS s (fun N s=>Z.aw s (fun O s=>Z.bn s (fun P s=>Z.aj s (fun Q s=>Z.aS s (fun R s=>Z.bX s (fun U s=>Z.aj s (fun S s=>nW Z c d e f S b a s) (al .add g (.int .i64 1))) 1 R (ae.ap s.aa Q)) 11 a) (al .add (.int .i64 1) P)) 14 [(ae.ap s.aa O),(ae.ap s.aa (.int .i64 2))]) none N) 6 i) 1 M (ae.ap s.aa (n6 m))) 2 a) (Z.aS s (fun T s=>Z.bX s (fun U s=>nW Z c d e f g b a s) 1 T (ae.ap s.aa (n6 m))) 2 a))) (al .eql j (.int .i64 2)))) (al .eql j (.int .i64 1))) 12 a (ae.ap s.aa r)))) (al .add (.str [115]) p)) 19 [(ae.ap s.aa b)]:=h.1.fA
theorem Dt:sf Z e f g c d i o j a p s=Z.af a true (fun k=>k d s) s (fun q s=>Z.af a true (fun k=>Z.aj s k (al .eql q (.int .i64 3))) s (fun r s=>Z.bS s (fun b s=>Z.af b false (fun k=>k j s) s (fun t s=>Z.af b false (fun k=>Z.aj s k (al .leq t (.int .i64 2))) s (fun u s=>Z.af b false (fun k=>k u s) s (fun m s=>Z.af m true (fun k=>k c s) s (fun w s=>Z.af m true (fun k=>Z.aj s k (al .gtr w (.int .i64 6))) s (fun x s=>Z.af b false (fun k=>Z.bS s k m x (.bool false)) s (fun y s=>Z.bS s (fun z s=>Z.aP z (pD Z e f g c d i s) (pE Z e f g c d i o j a p s)) b (.bool true) y))))))) a r (.bool false))):=h.1.fA
theorem wJ:uG Z b c d e f g i j m a o s=Z.cW s (fun p s=>Z.aj s (fun q s=>Z.aP q (J4 Z b c d e f g i j m a o s) (sf Z b c d e f g i j m a s)) (al .lss o p)) false a:=h.1.qp
theorem F2:An Z a b c d e f g i j m s=uG Z a b c d e f g i j m (.int .i64 0) s:=h.1.fA
theorem wK:uH Z a b c d e f g i j m q o p s=Z.cW s (fun r s=>Z.aj s (fun t s=>Z.aP t (J3 Z a b c d e f g i j m q o p s) (An Z a b c d e f g i m o s)) (al .lss p r)) false j:=h.1.qp
theorem F3:sg Z d e f g i j a b s=Z.bn s (fun c s=>Z.ca s (fun m s=>Z.ca s (fun y s=>Z.ca s (fun o s=>Z.aS s (fun p s=>Z.aw s (fun q s=>Z.aS s (fun r s=>Z.aw s (fun t s=>Z.aS s (fun u s=>Z.aw s (fun w s=>Z.a9 s (fun x s=>uH Z d e f g i j a b m o x (.bW 1 [] .nil) (.int .i64 0) s) 1 [q,t,w]) none u) 3 a) none r) 2 a) none p) 1 a) 2 c) 1 c) 0 c) 34 [(ae.ap s.aa b)]:=h.1.fA
theorem F4:J5 Z b d e f g a s=Z.cc s (fun i s=>Z.aw s (fun j s=>Z.ig (.ref (.l s.own.length) 0) (s.new (.cells [.int .i64 0,.int .i64 0,.int .i64 0,.int .i64 0,.int .i64 0,.int .i64 0,.int .i64 0])) (fun c s=>Z.bX s (fun u s=>Z.aS s (fun m s=>Z.aw s (fun o s=>Z.bn s (fun p s=>Z.aj s (fun q s=>Z.aj s (fun r s=>Z.aP r (sg Z b d e f g a c (.int .i64 1) s) (sg Z b d e f g a c q s)) (al .lss a (.int .i64 2))) (al .add (.int .i64 1) p)) 14 [(ae.ap s.aa o),(ae.ap s.aa (.int .i64 16))]) none m) 0 c) 7 c (ae.ap s.aa j))) (some 7) i) 7 b a:=h.1.fA
theorem tU:CE Z a s=Z.a0 false [some a] s:=h.1.fA
theorem qO:kG Z c d b f g e s=Z.cW s (fun i s=>Z.aj s (fun a s=>Z.af a true (fun k=>k b s) s (fun j s=>Z.af a true (fun k=>Z.cW s k false j) s (fun m s=>Z.af a true (fun k=>k d s) s (fun o s=>Z.af a true (fun k=>Z.aj s k (al .lss m o)) s (fun p s=>Z.bS s (fun q s=>Z.aP q (J5 Z c d b f g e s) (CE Z b s)) a p (.bool false)))))) (al .lss e i)) false c:=h.1.qp
theorem wL:Ao Z a b s=Z.aj s (fun c s=>Z.a0 false [some c] s) (al .rem a b):=h.1.fA
theorem wM:sh Z a b c d e s=Z.aj s (fun f s=>uI Z a b c d f s) (al .add e (.int .i64 1)):=h.1.fA
theorem F5:J6 Z d a e f b s=Z.cc s (fun m s=>Z.aS s (fun o s=>Z.aw s (fun p s=>Z.bn s (fun g s=>Z.ca s (fun A s=>Z.ca s (fun j s=>Z.ca s (fun B s=>Z.aj s (fun c s=>Z.af c false (fun k=>k a s) s (fun q s=>Z.af c false (fun k=>Z.aj s k (al .eql q (.int .i64 0))) s (fun r s=>Z.af c false (fun k=>k r s) s (fun i s=>Z.af i true (fun k=>k j s) s (fun t s=>Z.af i true (fun k=>Z.aj s k (al .neq t (.int .i64 1))) s (fun u s=>Z.af c false (fun k=>Z.bS s k i u (.bool false)) s (fun w s=>Z.bS s (fun x s=>Z.aP x (Z.a9 s (fun y s=>Z.fO s (fun z s=>sh Z d a e z b s) 1 8 (some (.l 0)) f y) 1 [b]) (sh Z d a e f b s)) c (.bool true) w))))))) (al .eql j a)) 2 g) 1 g) 0 g) 34 [(ae.ap s.aa p)]) none o) 1 m) 12 d b:=h.1.fA
theorem F6:J7 Z b a s=Z.cW s (fun c s=>Z.bn s (fun d s=>Z.cc s (fun e s=>Z.aw s (fun f s=>Z.a0 false [some f] s) none e) 1 a d) 14 [(ae.ap s.aa b),(ae.ap s.aa c)]) false a:=h.1.fA
theorem F7:Ap Z b a s=Z.cW s (fun c s=>Z.aj s (fun d s=>Z.aP d (Z.a0 false [some (.int .i64 (-1))] s) (J7 Z b a s)) (al .eql c (.int .i64 0))) false a:=h.1.fA
theorem wN:uI Z a e b c d s=Z.cW s (fun f s=>Z.aj s (fun g s=>Z.aP g (J6 Z a e b c d s) (Ap Z b c s)) (al .lss d f)) false a:=h.1.qp
theorem F8:uJ Z a b c d e s=Z.aj s (fun f s=>uK Z a b c d f s) (al .add e (.int .i64 1)):=h.1.fA
theorem F9:J8 Z a s=Z.aw s (fun b s=>Z.a0 false [some b] s) none a:=h.1.fA
theorem Ga:J9 Z e b a c f g d s=Z.ps 0 69 d (fun bT s k1=>Z.aw s (fun i s=>Z.aj s (fun j s=>Z.aP j (Z.aw s (fun m s=>Z.aw s (fun o s=>Z.a9 s (fun p s=>Z.fO s (fun q s=>Z.bX s (fun u s=>k1 (.exit 1) s) 1 a (ae.ap s.aa q)) 1 8 (some (.l 0)) m p) 1 [o]) none c) none a) (k1 .norm s)) (al .eql bT i)) none b) s (fun r s=>(Aq Z) r (.n (.n (.n (.n (.n .e d .e) .dead .e) b .e) .dead (.n (.n .e f .e) a .e)) e (.n .e .dead (.n (.n .e g .e) c .e))) s):=h.1.fA
theorem Gb:Ka Z a d e f b s=Z.ig (.ref (.l s.own.length) 0) (s.new (.cells [.int .i64 0])) (fun c s=>Z.bX s (fun r s=>Z.aw s (fun g s=>Z.bn s (fun i s=>J9 Z a d e c f b i s) 39 [(ae.ap s.aa a),(ae.ap s.aa g)]) none c) 1 c (ae.ap s.aa b)):=h.1.fA
theorem wO:uK Z d e a b c s=Z.aj s (fun f s=>Z.aP f (Ka Z d e a b c s) (J8 Z a s)) (al .lss c b):=h.1.qp
theorem ul:(Aq Z) .norm (.n (.n (.n (.n (.n .e g .e) .dead .e) b .e) .dead (.n (.n .e d .e) c .e)) a (.n .e .dead (.n (.n .e e .e) f .e))) s=uJ Z a b c d e s:=by kernel_rfl
theorem s7:(Aq Z) (.exit 1) (.n (.n (.n (.n (.n .e g .e) .dead .e) b .e) .dead (.n (.n .e d .e) c .e)) a (.n .e .dead (.n (.n .e e .e) f .e))) s=uJ Z a b c d e s:=by kernel_rfl
theorem Du:CF Z a b c d e s=Z.aj s (fun f s=>pF Z a b c d f s) (al .sub e (.int .i64 1)):=h.1.fA
theorem Dv:wo Z a c d e b s=Z.aj s (fun f s=>Z.aj s (fun g s=>Z.cc s (fun i s=>Z.aw s (fun j s=>Z.cc s (fun m s=>Z.aw s (fun o s=>Z.cc s (fun p s=>Z.bX s (fun r s=>Z.cc s (fun q s=>Z.bX s (fun r s=>CF Z a c d e b s) 1 q (ae.ap s.aa o)) 1 a f) 1 p (ae.ap s.aa j)) 1 a b) none m) 1 a b) none i) 1 a g) (al .sub b (.int .i64 1))) (al .sub b (.int .i64 1)):=h.1.fA
theorem Dw:CG Z a b c d s=Z.aj s (fun e s=>pG Z a b c e s) (al .add d (.int .i64 1)):=h.1.fA
theorem tV:pF Z b d e f c s=Z.aj s (fun a s=>Z.af a true (fun k=>k b s) s (fun g s=>Z.af a true (fun k=>k c s) s (fun i s=>Z.af a true (fun k=>Z.cc s k 1 g i) s (fun j s=>Z.af a true (fun k=>Z.aw s k none j) s (fun m s=>Z.af a true (fun k=>k b s) s (fun o s=>Z.af a true (fun k=>k c s) s (fun p s=>Z.af a true (fun k=>Z.aj s k (al .sub p (.int .i64 1))) s (fun q s=>Z.af a true (fun k=>Z.cc s k 1 o q) s (fun r s=>Z.af a true (fun k=>Z.aw s k none r) s (fun t s=>Z.af a true (fun k=>Z.bn s k 108 [(ae.ap s.aa m),(ae.ap s.aa t)]) s (fun u s=>Z.bS s (fun w s=>Z.aP w (wo Z b d e f c s) (CG Z b d e f s)) a u (.bool false)))))))))))) (al .gtr c d):=h.1.qp
theorem Dx:CH Z b c d a s=pF Z b c d a a s:=h.1.fA
theorem nf:pG Z c d a b s=Z.aj s (fun e s=>Z.aP e (CH Z c d a b s) (Z.a0 false [] s)) (al .lss b a):=h.1.qp
theorem Gc:Ke Z a s=Z.aw s (fun b s=>Z.a0 true [some b] s) none a:=h.1.fA
theorem Gd:Kf Z a b s=Z.ps 0 69 b (fun bT s k1=>Z.aw s (fun c s=>Z.a9 s (fun d s=>Z.mG s (fun e s=>Z.bX s (fun u s=>k1 .norm s) 1 a (ae.ap s.aa e)) 1 8 c d) 1 [bT]) none a) s (fun r s=>(Fg Z) r (.n .e .dead (.n .e a (.n .e b .e))) s):=h.1.fA
theorem um:(Fg Z) .norm (.n .e .dead (.n .e a (.n .e b .e))) s=Ke Z a s:=by kernel_rfl
theorem Ge:Kg Z a s=Z.bn s (fun b s=>Z.a0 false [some b] s) 112 [(ae.ap s.aa a)]:=h.1.fA
theorem wP:Kh Z c a b d e f s=Z.aj s (fun g s=>Z.aj s (fun i s=>Z.aP i (Z.bn s (fun j s=>Z.a0 false [] s) 102 [(ae.ap s.aa c),(ae.ap s.aa a),(ae.ap s.aa b)]) (XK Z c a b d e f g s)) (al .leq g (.int .i64 12))) (al .sub b a):=h.1.qp
theorem yL:Q7 Z a b c d e s=Z.aj s (fun f s=>Av Z a b c d f s) (al .add e (.int .i64 1)):=h.1.fA
theorem Lg:Q8 Z g i f d b s=Z.cc s (fun j s=>Z.aw s (fun m s=>Z.aj s (fun c s=>Z.af c false (fun k=>k d s) s (fun o s=>Z.af c false (fun k=>k b s) s (fun p s=>Z.af c false (fun k=>Z.cc s k 1 o p) s (fun q s=>Z.af c false (fun k=>Z.aw s k none q) s (fun r s=>Z.af c false (fun k=>k f s) s (fun t s=>Z.af c false (fun k=>Z.aj s k (al .geq r t)) s (fun u s=>Z.bS s (fun e s=>Z.af e false (fun k=>k b s) s (fun w s=>Z.af e false (fun k=>Z.aj s k (al .gtr w (.int .i64 0))) s (fun x s=>Z.af e false (fun k=>k x s) s (fun a s=>Z.af a true (fun k=>k d s) s (fun y s=>Z.af a true (fun k=>k b s) s (fun z s=>Z.af a true (fun k=>Z.cc s k 1 y z) s (fun A s=>Z.af a true (fun k=>Z.aw s k none A) s (fun B s=>Z.af a true (fun k=>k d s) s (fun C s=>Z.af a true (fun k=>k b s) s (fun D s=>Z.af a true (fun k=>Z.aj s k (al .sub D (.int .i64 1))) s (fun E s=>Z.af a true (fun k=>Z.cc s k 1 C E) s (fun F s=>Z.af a true (fun k=>Z.aw s k none F) s (fun H s=>Z.af a true (fun k=>Z.aj s k (al .leq B H)) s (fun I s=>Z.af e false (fun k=>Z.bS s k a I (.bool false)) s (fun J s=>Z.bS s (fun K s=>Z.aP K (Z.a0 false [some (.bool false)] s) (Q7 Z g i f d b s)) e (.bool true) J))))))))))))))) c (.bool true) u))))))) (al .lss m (.int .i64 0))) none j) 1 d b:=h.1.fA
theorem Gf:Ki Z a b c d e f g s=Z.aj s (fun i s=>uL Z a b c d e f i s) (al .add g (.int .i64 1)):=h.1.fA
theorem Gg:Kj Z e a f b g c d s=Z.cc s (fun i s=>Z.aw s (fun j s=>Z.cc s (fun m s=>Z.aw s (fun o s=>Z.bn s (fun p s=>Z.aj s (fun q s=>Z.aP q (Z.a0 false [some (.bool false)] s) (Ki Z e a f b g c d s)) (kn .not p)) 12 [(ae.ap s.aa b),(ae.ap s.aa o)]) none m) 1 j d) none i) 1 a c:=h.1.fA
theorem Gh:As Z a b c d e s=Z.aj s (fun f s=>Au Z a b c d f s) (al .add e (.int .i64 1)):=h.1.fA
theorem wQ:uL Z b a c d e f g s=Z.cc s (fun i s=>Z.aw s (fun j s=>Z.cW s (fun m s=>Z.aj s (fun o s=>Z.aP o (Kj Z b a c d e f g s) (As Z b a c d e s)) (al .lss g m)) false j) none i) 1 a f:=h.1.qp
theorem Gi:Kk Z a b c d e f s=uL Z a b c d e f (.int .i64 0) s:=h.1.fA
theorem Gj:Kl Z a e b c d s=Z.cc s (fun g s=>Z.aS s (fun i s=>Z.aw s (fun j s=>Z.cc s (fun m s=>Z.aw s (fun f s=>Z.bn s (fun o s=>Z.aj s (fun p s=>Z.aP p (Z.a0 false [some (.bool false)] s) (Kk Z a e b c d f s)) (kn .not o)) 12 [(ae.ap s.aa c),(ae.ap s.aa f)]) none m) 1 j d) none i) 2 g) 12 a b:=h.1.fA
theorem Gk:Km Z a b c s=Z.aj s (fun d s=>Ax Z a b d s) (al .add c (.int .i64 1)):=h.1.fA
theorem Gl:At Z a b c d s=Z.a9 s (fun e s=>Z.fO s (fun f s=>Km Z a f c s) 1 24 (some (.l 0)) b e) 1 [d]:=h.1.fA
theorem yM:Au Z a c b d e s=Z.cc s (fun f s=>Z.aS s (fun g s=>Z.aw s (fun i s=>Z.cW s (fun j s=>Z.aj s (fun m s=>Z.aP m (Kl Z a c b d e s) (At Z a c b d s)) (al .lss e j)) false i) none g) 2 f) 12 a b:=h.1.qp
theorem Lh:Fl Z a b c d s=Au Z a b c d (.int .i64 0) s:=h.1.fA
theorem yN:Av Z b c d a e s=Z.cW s (fun f s=>Z.aj s (fun g s=>Z.aP g (Q8 Z b c d a e s) (Fl Z b c d a s)) (al .lss e f)) false a:=h.1.qp
theorem Li:Q9 Z a b c d s=Av Z a b c d (.int .i64 0) s:=h.1.fA
theorem Lj:Ra Z a c b s=Z.bn s (fun d s=>Z.ca s (fun e s=>Z.ca s (fun f s=>Z.aj s (fun g s=>Z.aP g (Z.a0 false [some (.bool false)] s) (Q9 Z a c b e s)) (al .neq f (.int .i64 0))) 1 d) 0 d) 11 [(ae.ap s.aa a),(ae.ap s.aa b)]:=h.1.fA
theorem Gm:Kn Z a b c d e s=Z.aj s (fun f s=>uM Z a b c d f s) (al .add e (.int .i64 1)):=h.1.fA
theorem Gn:Ko Z e b c d a s=Z.gR s (fun f s=>Z.cc s (fun g s=>Z.aw s (fun i s=>Z.bn s (fun j s=>Z.aj s (fun m s=>Z.aP m (Z.a0 false [some (.bool false)] s) (Kn Z e b c d a s)) ((o2 .bool f j).map fun b=>.bool (bif true then !b else b))) 12 [(ae.ap s.aa i),(ae.ap s.aa c)]) none g) 1 b a) 12 [(ae.ap s.aa d),(ae.ap s.aa a)]:=h.1.fA
theorem Gp:Aw Z a b c s=Z.aj s (fun d s=>uN Z a b d s) (al .add c (.int .i64 1)):=h.1.fA
theorem wR:uM Z a b c e d s=Z.cW s (fun f s=>Z.aj s (fun g s=>Z.aP g (Ko Z a b c e d s) (Aw Z a b c s)) (al .lss d f)) false a:=h.1.qp
theorem Gq:Kp Z a b c d s=uM Z a b c d (.int .i64 0) s:=h.1.fA
theorem Gr:Kq Z a c b s=Z.bn s (fun d s=>Z.ca s (fun e s=>Z.ca s (fun f s=>Z.aj s (fun g s=>Z.aP g (Z.a0 false [some (.bool false)] s) (Kp Z a c b e s)) (al .neq f (.int .i64 0))) 1 d) 0 d) 13 [(ae.ap s.aa a),(ae.ap s.aa b)]:=h.1.fA
theorem Gs:Kr Z s=Z.a0 false [some (.bool true)] s:=h.1.fA
theorem wS:uN Z a c b s=Z.cW s (fun d s=>Z.aj s (fun e s=>Z.aP e (Kq Z a c b s) (Kr Z s)) (al .lss b d)) false a:=h.1.qp
theorem Gt:Ks Z a b s=uN Z a b (.int .i64 0) s:=h.1.fA
theorem yO:Ax Z a b c s=Z.cW s (fun d s=>Z.aj s (fun e s=>Z.aP e (Ra Z a b c s) (Ks Z a b s)) (al .lss c d)) false a:=h.1.qp
theorem Lk:Rb Z a s=Z.bn s (fun b s=>Ax Z b (.bW 1 [] .nil) (.int .i64 0) s) 10 [(ae.ap s.aa a),(ae.ap s.aa (.int .i64 12))]:=h.1.fA
theorem Gu:Kt Z a b s=Z.bn s (fun c s=>Z.bn s (fun d s=>Z.a0 false [some d,some (.int .i64 0)] s) 38 [(ae.ap s.aa c)]) 39 [(ae.ap s.aa a),(ae.ap s.aa b)]:=h.1.fA
theorem Gv:Ku Z a b c s=Z.aj s (fun d s=>uO Z a b d s) (al .add c (.int .i64 1)):=h.1.fA
theorem Gw:Kv Z a b c s=Z.cc s (fun d s=>Z.aw s (fun e s=>Z.aj s (fun f s=>Z.aP f (Z.a0 false [some (.bool true)] s) (Ku Z a b c s)) (al .eql e b)) none d) 1 a c:=h.1.fA
theorem Gx:Kw Z s=Z.a0 false [some (.bool false)] s:=h.1.fA
theorem wT:uO Z a c b s=Z.cW s (fun d s=>Z.aj s (fun e s=>Z.aP e (Kv Z a c b s) (Kw Z s)) (al .lss b d)) false a:=h.1.qp
theorem Gy:Kx Z a b s=Z.bn s (fun c s=>Z.a0 false [some c,some (.int .i64 0)] s) 40 [(ae.ap s.aa a),(ae.ap s.aa b)]:=h.1.fA
end
variable(G:Nat→ae)(X:Nat→List ae→ag→ah)
theorem Re:f133 Z a b s=Z.cW s (fun c s=>Z.cW s (fun d s=>Z.aj s (fun e s=>Z.aP e (Z.cW s (fun f s=>Z.cW s (fun g s=>Z.aj s (fun i s=>Z.aP i (Z.a0 false [some (.int .i64 (-1))] s) (B5 Z s)) (al .lss f g)) false b) false a) (Ca Z a b s)) (al .neq c d)) false b) false a:=by kernel_rfl
theorem Gz:aA aL G X 133 [a,b] s=f133 (aV aL G X) a b s.ai:=bR aL G X (fn:=v3)
theorem Rg:f134 Z a b s=Z.cW s (fun c s=>Z.lg s (fun d s=>Z.cW s (fun e s=>rX Z a b d (.int .u64 0) e (.int .i64 0) s) false a) [.int .u32 0] 4 c c) false a:=by kernel_rfl
theorem GA:aA aL G X 134 [a,b] s=f134 (aV aL G X) a b s.ai:=bR aL G X (fn:=BV)
theorem Rh:f135 Z a s=Z.cW s (fun b s=>rZ Z a b s) false a:=by kernel_rfl
theorem GB:aA aL G X 135 [a] s=f135 (aV aL G X) a s.ai:=bR aL G X (fn:=BW)
theorem Ri:f136 Z a s=Z.bn s (fun b s=>Z.aj s (fun c s=>Z.a0 false [some c] s) (al .sub (.int .i64 32) b)) 111 [(ae.ap s.aa a)]:=by kernel_rfl
theorem GC:aA aL G X 136 [a] s=f136 (aV aL G X) a s.ai:=bR aL G X (fn:=Qe)
theorem Rj:f137 Z a b s=Z.cW s (fun d s=>Z.aj s (fun e s=>Z.aj s (fun f s=>Z.aj s (fun c s=>Z.lg s (fun g s=>Z.cW s (fun i s=>r1 Z a b g i (.int .i64 0) s) false a) [.int .u32 0] 4 c c) (al .add f (.int .i64 1))) (al .add d e)) (al .quo b (.int .i64 32))) false a:=by kernel_rfl
theorem GD:aA aL G X 137 [a,b] s=f137 (aV aL G X) a b s.ai:=bR aL G X (fn:=BX)
theorem Rk:f138 Z b c a d s=Z.cW s (fun e s=>pA Z b c a d (.int .u64 0) (.int .u64 0) e (.int .i64 0) s) false a:=by kernel_rfl
theorem GF:aA aL G X 138 [a,b,c,d] s=f138 (aV aL G X) a b c d s.ai:=bR aL G X (fn:=tG)
theorem Rl:f139 Z c d a s=Z.cW s (fun b s=>Z.aj s (fun f s=>Z.cc s (fun g s=>Z.aw s (fun i s=>Z.bY s (fun j s=>Z.aj s (fun m s=>Z.aj s (fun o s=>Z.aj s (fun p s=>Z.cc s (fun q s=>Z.aw s (fun r s=>Z.bY s (fun t s=>Z.aj s (fun e s=>Z.aj s (fun u s=>Z.cc s (fun w s=>Z.aw s (fun x s=>Z.bY s (fun y s=>Z.aj s (fun z s=>Z.aj s (fun A s=>Z.cc s (fun B s=>Z.aw s (fun C s=>Z.bY s (fun D s=>Z.aj s (fun E s=>r4 Z c d a b z E s) (al .rem e D)) .u64 C) none B) 1 a A) (al .sub b (.int .i64 1))) (al .quo e y)) .u64 x) none w) 1 a u) (al .sub b (.int .i64 1))) (al .or m t)) .u64 r) none q) 1 c p) (al .sub o (.int .i64 1))) (al .add d b)) (al .shl j (.int .u64 32))) .u64 i) none g) 1 c f) (al .add d b)) false a:=by kernel_rfl
theorem GG:aA aL G X 139 [a,b,c] s=f139 (aV aL G X) a b c s.ai:=bR aL G X (fn:=B3)
theorem Rm:f140 Z a b s=Z.aj s (fun c s=>Z.cW s (fun d s=>Z.aj s (fun e s=>Z.aP e (Z.cW s (fun f s=>Z.aj s (fun g s=>Z.a0 false [some (.bW 1 [] .nil),some g] s) (al .gtr f (.int .i64 0))) false a) (Ct Z a b c s)) (al .geq c d)) false a) (al .quo b (.int .i64 32)):=by kernel_rfl
theorem GH:aA aL G X 140 [a,b] s=f140 (aV aL G X) a b s.ai:=bR aL G X (fn:=yK)
theorem Rn:f111 Z a s=Z.aj s (fun b s=>Z.aP b (Z.aj s (fun c s=>nU Z c (.int .i64 16) s) (al .shr a (.int .u64 16))) (nU Z a (.int .i64 0) s)) (al .geq a (.int .u32 65536)):=by kernel_rfl
theorem GI:aA aL G X 111 [a] s=f111 (aV aL G X) a s.ai:=bR aL G X (fn:=BO)
theorem XL:f87 Z b s=Z.e4 b s (fun a s=>Z.aS s (fun d s=>Z.aw s (fun e s=>Z.cW s (fun c s=>Z.aj s (fun f s=>Z.aP f (Z.aS s (fun g s=>Z.aw s (fun i s=>Z.aj s (fun j s=>Z.a0 false [some j] s) (kn .not i)) none g) 0 a) (Js Z a c s)) (al .eql c (.int .i64 0))) false e) none d) 1 a):=by kernel_rfl
theorem Ll:aA aL G X 87 [a] s=f87 (aV aL G X) a s.ai:=bR aL G X (fn:=S6)
theorem XM:f90 Z b c s=Z.e4 b s (fun d s=>Z.e4 c s (fun e s=>Z.ig (.ref (.l s.own.length) 0) (s.new (.cells [.bool false,.bW 1 [] .nil])) (fun a s=>Z.aw s (fun f s=>Z.aw s (fun g s=>Z.bn s (fun i s=>Z.aj s (fun j s=>Z.aP j (Z.ih [.bool false,.bW 1 [] .nil] [] s (fun m s=>Z.bX s (fun h s=>Z.a0 false [k2 s a (some 2),some (.int .i64 1)] s) 2 a (ae.ap s.aa m))) (Jx Z d e a s)) (kn .not i)) 113 [(ae.ap s.aa f),(ae.ap s.aa g)]) (some 2) e) (some 2) d))):=by kernel_rfl
theorem Lm:aA aL G X 90 [a,b] s=f90 (aV aL G X) a b s.ai:=bR aL G X (fn:=zU)
theorem Ro:f113 Z b c s=Z.e4 b s (fun d s=>Z.e4 c s (fun e s=>Z.aw s (fun f s=>Z.bn s (fun a s=>Z.af a true (fun k=>Z.aw s k (some 2) e) s (fun g s=>Z.af a true (fun k=>Z.bn s k 87 [(ae.ap s.aa g)]) s (fun i s=>Z.bS s (fun j s=>Z.a0 false [some j] s) a i (.bool false)))) 87 [(ae.ap s.aa f)]) (some 2) d)):=by kernel_rfl
theorem GJ:aA aL G X 113 [a,b] s=f113 (aV aL G X) a b s.ai:=bR aL G X (fn:=P3)
theorem Rp:f114 Z a b s=Z.bn s (fun c s=>Z.aj s (fun d s=>Z.aP d (Z.a0 false [some (.bW 1 [] .nil),some a] s) (Cy Z a b s)) (al .lss c (.int .i64 0))) 133 [(ae.ap s.aa a),(ae.ap s.aa b)]:=by kernel_rfl
theorem GK:aA aL G X 114 [a,b] s=f114 (aV aL G X) a b s.ai:=bR aL G X (fn:=v0)
theorem Rq:f115 Z b c s=Z.ig (.ref (.l s.own.length) 0) (s.new (.cells [.bool false,.bW 1 [] .nil])) (fun a s=>Z.bn s (fun d s=>Z.cW s (fun e s=>Z.aj s (fun f s=>Z.aP f (Z.ih [.bool false,.bW 1 [] .nil] [] s (fun g s=>Z.bX s (fun h s=>Z.a0 false [k2 s a (some 2),some (.int .i64 2)] s) 2 a (ae.ap s.aa g))) (Cz Z b d a s)) (al .gtr e (.int .i64 128))) false d) 135 [(ae.ap s.aa c)]):=by kernel_rfl
theorem GL:aA aL G X 115 [a,b] s=f115 (aV aL G X) a b s.ai:=bR aL G X (fn:=yJ)
theorem Rr:f116 Z a s=Z.cW s (fun b s=>nV Z a (.int .u64 0) b (.int .i64 0) s) false a:=by kernel_rfl
theorem GM:aA aL G X 116 [a] s=f116 (aV aL G X) a s.ai:=bR aL G X (fn:=BQ)
theorem XN:f71 Z e s=Z.e4 e s (fun a s=>Z.aS s (fun f s=>Z.aw s (fun g s=>Z.bn s (fun i s=>Z.aj s (fun b s=>Z.af b false (fun k=>Z.aS s k 2 a) s (fun j s=>Z.af b false (fun k=>Z.aw s k (some 2) j) s (fun m s=>Z.af b false (fun k=>Z.bn s k 87 [(ae.ap s.aa m)]) s (fun o s=>Z.af b false (fun k=>Z.aj s k (kn .not o)) s (fun p s=>Z.bS s (fun c s=>Z.af c false (fun k=>Z.aS s k 2 a) s (fun q s=>Z.af c false (fun k=>Z.aS s k 0 q) s (fun r s=>Z.af c false (fun k=>Z.aw s k none r) s (fun t s=>Z.bS s (fun d s=>Z.af d false (fun k=>Z.aS s k 2 a) s (fun u s=>Z.af d false (fun k=>Z.aw s k (some 2) u) s (fun w s=>Z.af d false (fun k=>Z.bn s k 88 [(ae.ap s.aa w)]) s (fun x s=>Z.bS s (fun y s=>Z.aP y (Z.a0 false [some (.bool false)] s) (JE Z a s)) d (.bool true) x)))) c (.bool true) t)))) b (.bool true) p))))) (kn .not i)) 87 [(ae.ap s.aa g)]) (some 2) f) 0 a):=by kernel_rfl
theorem Ln:aA aL G X 71 [a] s=f71 (aV aL G X) a s.ai:=bR aL G X (fn:=E6)
theorem XO:f88 Z a s=Z.e4 a s (fun b s=>Z.aS s (fun c s=>Z.aw s (fun d s=>Z.cW s (fun e s=>Z.aj s (fun f s=>Z.a0 false [some f] s) (al .eql e (.int .i64 0))) false d) none c) 1 b):=by kernel_rfl
theorem Lo:aA aL G X 88 [a] s=f88 (aV aL G X) a s.ai:=bR aL G X (fn:=acv)
theorem XP:f89 Z d s=Z.e4 d s (fun c s=>Z.aS s (fun e s=>Z.aw s (fun f s=>Z.aj s (fun b s=>Z.af b true (fun k=>Z.aS s k 1 c) s (fun g s=>Z.af b true (fun k=>Z.aw s k none g) s (fun i s=>Z.af b true (fun k=>Z.cW s k false i) s (fun j s=>Z.af b true (fun k=>Z.aj s k (al .eql j (.int .i64 1))) s (fun m s=>Z.bS s (fun a s=>Z.af a true (fun k=>Z.aS s k 1 c) s (fun o s=>Z.af a true (fun k=>Z.aw s k none o) s (fun p s=>Z.af a true (fun k=>Z.cc s k 1 p (.int .i64 0)) s (fun q s=>Z.af a true (fun k=>Z.aw s k none q) s (fun r s=>Z.af a true (fun k=>Z.aj s k (al .eql r (.int .u32 1))) s (fun t s=>Z.bS s (fun u s=>Z.a0 false [some u] s) a t (.bool false))))))) b m (.bool false)))))) (kn .not f)) none e) 0 c):=by kernel_rfl
theorem Lp:aA aL G X 89 [a] s=f89 (aV aL G X) a s.ai:=bR aL G X (fn:=acw)
theorem XQ:f16 Z a s=Z.cW s (fun b s=>uB Z a (.int .i64 0) a b (.int .i64 0) s) false a:=by kernel_rfl
theorem Lq:aA aL G X 16 [a] s=f16 (aV aL G X) a s.ai:=bR aL G X (fn:=Le)
theorem XR:f42 Z c s=Z.cW s (fun i s=>Z.aj s (fun f s=>Z.cc s (fun j s=>Z.aw s (fun m s=>Z.ig (.ref (.l s.own.length) 0) (s.new (.cells [.str [],.int .i64 0,.bW 1 [] .nil,.bool false,.bW 1 [] .nil,.bool false,.bW 1 [] .nil,.bool false,.bW 1 [] .nil,.bool false,.bW 1 [] .nil,.int .i64 0])) (fun b s=>Z.bX s (fun h s=>Z.aS s (fun o s=>Z.aw s (fun p s=>Z.bn s (fun e s=>Z.ca s (fun g s=>Z.ca s (fun q s=>Z.ca s (fun r s=>Z.aj s (fun a s=>Z.af a false (fun k=>k g s) s (fun t s=>Z.af a false (fun k=>Z.cW s k false t) s (fun u s=>Z.af a false (fun k=>Z.aS s k 2 b) s (fun w s=>Z.af a false (fun k=>Z.aw s k none w) s (fun x s=>Z.af a false (fun k=>Z.cW s k false x) s (fun y s=>Z.af a false (fun k=>Z.aj s k (al .neq u y)) s (fun z s=>Z.bS s (fun d s=>Z.af d false (fun k=>Z.aS s k 0 b) s (fun A s=>Z.af d false (fun k=>Z.aw s k none A) s (fun B s=>Z.af d false (fun k=>Z.aj s k (al .eql B (.str []))) s (fun C s=>Z.bS s (fun D s=>Z.aP D (Z.a0 false [some (.bool false)] s) (JL Z c f b g r s)) d (.bool true) C)))) a (.bool true) z))))))) (al .eql q (.int .i64 0))) 2 e) 1 e) 0 e) 21 [(ae.ap s.aa p)]) none o) 1 b) 12 b (ae.ap s.aa m))) (some 12) j) 12 c f) (al .sub i (.int .i64 1))) false c:=by kernel_rfl
theorem Lr:aA aL G X 42 [a] s=f42 (aV aL G X) a s.ai:=bR aL G X (fn:=BN)
theorem XS:f43 Z b s=Z.e4 b s (fun c s=>Z.aS s (fun d s=>Z.aw s (fun e s=>Z.bn s (fun a s=>Z.ca s (fun g s=>Z.ca s (fun i s=>Z.ca s (fun f s=>Z.a0 false [some f] s) 2 a) 1 a) 0 a) 21 [(ae.ap s.aa e)]) none d) 1 c):=by kernel_rfl
theorem Ls:aA aL G X 43 [a] s=f43 (aV aL G X) a s.ai:=bR aL G X (fn:=abj)
theorem XT:f44 Z a s=Z.cW s (fun b s=>uD Z (.bW 2 [] .nil) a b (.int .i64 0) s) false a:=by kernel_rfl
theorem Lt:aA aL G X 44 [a] s=f44 (aV aL G X) a s.ai:=bR aL G X (fn:=Oi)
theorem XU:f37 Z a b s=Z.bn s (fun c s=>Z.aj s (fun d s=>Z.aP d (Z.a0 false [some c] s) (Af Z a b s)) (al .neq c (.int .i64 0))) 16 [(ae.ap s.aa a)]:=by kernel_rfl
theorem Lu:aA aL G X 37 [a,b] s=f37 (aV aL G X) a b s.ai:=bR aL G X (fn:=vY)
theorem XV:f48 Z b s=Z.e4 b s (fun c s=>Z.aS s (fun d s=>Z.aw s (fun e s=>Z.bn s (fun a s=>Z.ca s (fun g s=>Z.ca s (fun f s=>Z.ca s (fun i s=>Z.a0 false [some f] s) 2 a) 1 a) 0 a) 21 [(ae.ap s.aa e)]) none d) 1 c):=by kernel_rfl
theorem Lv:aA aL G X 48 [a] s=f48 (aV aL G X) a s.ai:=bR aL G X (fn:=abo)
theorem XW:f34 Z a s=Z.aj s (fun c s=>Z.aP c (Z.a0 false [some (.bW 1 [] .nil),some (.int .i64 1),some (.bool false)] s) (Z.aj s (fun d s=>Z.aP d (Z.a9 s (fun e s=>Z.a0 false [some e,some (.int .i64 1),some (.bool false)] s) 1 [(.int .i64 0)]) (Z.aj s (fun f s=>Z.aP f (Z.a9 s (fun g s=>Z.a0 false [some g,some (.int .i64 2),some (.bool false)] s) 1 [(.int .i64 1),(.int .i64 1)]) (Z.aj s (fun i s=>Z.aP i (Z.a9 s (fun j s=>Z.a0 false [some j,some (.int .i64 1),some (.bool false)] s) 1 [(.int .i64 2),(.int .i64 2)]) (Z.aj s (fun m s=>Z.aP m (Z.a9 s (fun o s=>Z.a0 false [some o,some (.int .i64 3),some (.bool false)] s) 1 [(.int .i64 1),(.int .i64 1)]) (Z.aj s (fun b s=>Z.aP b (Ah Z a b s) (Z.aj s (fun p s=>Ah Z a p s) (al .eql a (.int .i64 7)))) (al .eql a (.int .i64 6)))) (al .eql a (.int .i64 5)))) (al .eql a (.int .i64 4)))) (al .eql a (.int .i64 3)))) (al .eql a (.int .i64 2)))) (al .eql a (.int .i64 1)):=by kernel_rfl
theorem Lw:aA aL G X 34 [a] s=f34 (aV aL G X) a s.ai:=bR aL G X (fn:=zS)
theorem XX:f50 Z d c s=Z.aj s (fun a s=>Z.af a false (fun k=>k d s) s (fun f s=>Z.af a false (fun k=>Z.aj s k (al .eql f (.int .i64 0))) s (fun g s=>Z.af a false (fun k=>k g s) s (fun b s=>Z.af b true (fun k=>k c s) s (fun i s=>Z.af b true (fun k=>Z.aj s k (al .eql i (.int .i64 2))) s (fun j s=>Z.af b true (fun k=>k j s) s (fun e s=>Z.af e false (fun k=>k c s) s (fun m s=>Z.af e false (fun k=>Z.aj s k (al .eql m (.int .i64 3))) s (fun o s=>Z.af b true (fun k=>Z.bS s k e (.bool true) o) s (fun p s=>Z.af a false (fun k=>Z.bS s k b p (.bool false)) s (fun q s=>Z.bS s (fun r s=>Z.a0 false [some r] s) a (.bool true) q))))))))))) (al .eql c d):=by kernel_rfl
theorem Lx:aA aL G X 50 [a,b] s=f50 (aV aL G X) a b s.ai:=bR aL G X (fn:=abx)
theorem XY:f21 Z a s=Z.aj s (fun c s=>Z.aP c (Z.a0 false [some (.bW 1 [] .nil),some (.int .i64 1),some (.bool false)] s) (Z.aj s (fun d s=>Z.aP d (Z.a9 s (fun e s=>Z.a0 false [some e,some (.int .i64 1),some (.bool false)] s) 1 [(.int .i64 0)]) (Z.aj s (fun f s=>Z.aP f (Z.a9 s (fun g s=>Z.a0 false [some g,some (.int .i64 2),some (.bool false)] s) 1 [(.int .i64 1),(.int .i64 1)]) (Z.aj s (fun i s=>Z.aP i (Z.a9 s (fun j s=>Z.a0 false [some j,some (.int .i64 1),some (.bool false)] s) 1 [(.int .i64 2),(.int .i64 2)]) (Z.aj s (fun m s=>Z.aP m (Z.a9 s (fun o s=>Z.a0 false [some o,some (.int .i64 3),some (.bool false)] s) 1 [(.int .i64 1),(.int .i64 1)]) (Z.aj s (fun b s=>Z.aP b (Aj Z a b s) (Z.aj s (fun p s=>Aj Z a p s) (al .eql a (.int .i64 7)))) (al .eql a (.int .i64 6)))) (al .eql a (.int .i64 5)))) (al .eql a (.int .i64 4)))) (al .eql a (.int .i64 3)))) (al .eql a (.int .i64 2)))) (al .eql a (.int .i64 1)):=by kernel_rfl
theorem Ly:aA aL G X 21 [a] s=f21 (aV aL G X) a s.ai:=bR aL G X (fn:=NH)
theorem XZ:f72 Z e s=Z.e4 e s (fun d s=>Z.aS s (fun f s=>Z.aS s (fun g s=>Z.aw s (fun i s=>Z.aj s (fun c s=>Z.af c true (fun k=>Z.aS s k 2 d) s (fun j s=>Z.af c true (fun k=>Z.aS s k 0 j) s (fun m s=>Z.af c true (fun k=>Z.aw s k none m) s (fun o s=>Z.af c true (fun k=>Z.aj s k (kn .not o)) s (fun p s=>Z.bS s (fun a s=>Z.af a true (fun k=>Z.aS s k 0 d) s (fun q s=>Z.af a true (fun k=>Z.aS s k 1 q) s (fun r s=>Z.af a true (fun k=>Z.aw s k none r) s (fun t s=>Z.af a true (fun k=>Z.cW s k false t) s (fun u s=>Z.af a true (fun k=>Z.aj s k (al .eql u (.int .i64 0))) s (fun w s=>Z.bS s (fun b s=>Z.af b true (fun k=>Z.aS s k 2 d) s (fun x s=>Z.af b true (fun k=>Z.aS s k 1 x) s (fun y s=>Z.af b true (fun k=>Z.aw s k none y) s (fun z s=>Z.af b true (fun k=>Z.cW s k false z) s (fun A s=>Z.af b true (fun k=>Z.aj s k (al .eql A (.int .i64 0))) s (fun B s=>Z.bS s (fun C s=>Z.a0 false [some C] s) b B (.bool false))))))) a w (.bool false))))))) c p (.bool false)))))) (kn .not i)) none g) 0 f) 0 d):=by kernel_rfl
theorem Lz:aA aL G X 72 [a] s=f72 (aV aL G X) a s.ai:=bR aL G X (fn:=abT)
theorem X0:f73 Z a b s=Z.bn s (fun c s=>Z.aj s (fun d s=>Z.a0 false [some d] s) (al .geq c (.int .i64 0))) 62 [(ae.ap s.aa a),(ae.ap s.aa b)]:=by kernel_rfl
theorem LA:aA aL G X 73 [a,b] s=f73 (aV aL G X) a b s.ai:=bR aL G X (fn:=abU)
theorem X1:f74 Z a b s=Z.e4 a s (fun c s=>Z.aS s (fun d s=>Z.aw s (fun e s=>Z.aS s (fun f s=>Z.aw s (fun g s=>Z.aj s (fun i s=>Z.a0 false [some i] s) (al .eql e g)) none f) 0 b) none d) 0 c):=by kernel_rfl
theorem LB:aA aL G X 74 [a,b] s=f74 (aV aL G X) a b s.ai:=bR aL G X (fn:=OD)
theorem X2:f62 Z a b s=Z.cW s (fun c s=>uE Z a b c (.int .i64 0) s) false a:=by kernel_rfl
theorem LC:aA aL G X 62 [a,b] s=f62 (aV aL G X) a b s.ai:=bR aL G X (fn:=Ou)
theorem X3:f19 Z a s=Z.bn s (fun b s=>Z.a0 false [some b] s) 47 [(ae.ap s.aa a)]:=by kernel_rfl
theorem LD:aA aL G X 19 [a] s=f19 (aV aL G X) a s.ai:=bR aL G X (fn:=NB)
theorem X4:f47 Z a s=Z.bn s (fun b s=>Z.a0 false [some b] s) 77 [(ae.ap s.aa a),(ae.ap s.aa (.int .i64 10))]:=by kernel_rfl
theorem LF:aA aL G X 47 [a] s=f47 (aV aL G X) a s.ai:=bR aL G X (fn:=abn)
theorem X5:f77 Z a b s=Z.aj s (fun d s=>Z.aP d (Z.aj s (fun c s=>Z.af c true (fun k=>k a s) s (fun e s=>Z.af c true (fun k=>Z.aj s k (al .lss e (.int .i64 100))) s (fun f s=>Z.bS s (fun g s=>Z.aP g (Z.bn s (fun i s=>Z.a0 false [some i] s) 95 [(ae.ap s.aa a)]) (JV Z a s)) c f (.bool false)))) (al .leq (.int .i64 0) a)) (XB Z a b s)) (al .eql b (.int .i64 10)):=by kernel_rfl
theorem LG:aA aL G X 77 [a,b] s=f77 (aV aL G X) a b s.ai:=bR aL G X (fn:=OK)
theorem X6:f95 Z a s=Z.aj s (fun b s=>Z.aP b (Z.aj s (fun c s=>Z.vM (.str [48,49,50,51,52,53,54,55,56,57,97,98,99,100,101,102,103,104,105,106,107,108,109,110,111,112,113,114,115,116,117,118,119,120,121,122]) (some a) (some c) s (fun d s=>Z.a0 false [some d] s)) (al .add a (.int .i64 1))) (JW Z a s)) (al .lss a (.int .i64 10)):=by kernel_rfl
theorem LH:aA aL G X 95 [a] s=f95 (aV aL G X) a s.ai:=bR aL G X (fn:=S9)
theorem X7:f96 Z a s=Z.bn s (fun c s=>Z.bn s (fun b s=>Z.mg s (fun d s=>Z.aw s (fun e s=>Z.aj s (fun f s=>Z.bn s (fun g s=>Z.aj s (fun i s=>Z.a0 false [some i] s) (al .add b g)) 121 [(ae.ap s.aa f)]) (al .geq a e)) none d) 1 20 (Z.bt 0) b) 120 [(ae.ap s.aa c)]) 112 [(ae.ap s.aa a)]:=by kernel_rfl
theorem LI:aA aL G X 96 [a] s=f96 (aV aL G X) a s.ai:=bR aL G X (fn:=acP)
theorem X8:f97 Z a b s=Z.cW s (fun c s=>JX Z a b c s) false a:=by kernel_rfl
theorem LJ:aA aL G X 97 [a,b] s=f97 (aV aL G X) a b s.ai:=bR aL G X (fn:=Fa)
theorem Rs:f112 Z a s=Z.aj s (fun b s=>Z.aP b (Z.aj s (fun c s=>wi Z c (.int .i64 32) s) (al .shr a (.int .u64 32))) (wi Z a (.int .i64 0) s)) (al .geq a (.int .u64 4294967296)):=by kernel_rfl
theorem GN:aA aL G X 112 [a] s=f112 (aV aL G X) a s.ai:=bR aL G X (fn:=yI)
theorem Ru:f120 Z a s=Z.aj s (fun b s=>Z.aj s (fun c s=>Z.a0 false [some c] s) (al .shr b (.int .u64 18))) (al .mul a (.int .i64 78913)):=by kernel_rfl
theorem GO:aA aL G X 120 [a] s=f120 (aV aL G X) a s.ai:=bR aL G X (fn:=Qc)
theorem Rv:f121 Z a s=Z.aP a (Z.a0 false [some (.int .i64 1)] s) (CD Z s):=by kernel_rfl
theorem GP:aA aL G X 121 [a] s=f121 (aV aL G X) a s.ai:=bR aL G X (fn:=ID)
theorem X9:f10 Z a b s=kG Z a b (.bW 12 [] .nil) (.int .i64 0) (.int .i64 0) (.int .i64 0) s:=by kernel_rfl
theorem LK:aA aL G X 10 [a,b] s=f10 (aV aL G X) a b s.ai:=bR aL G X (fn:=Nh)
theorem Ya:f14 Z a b s=Z.aj s (fun c s=>Z.aP c (Z.aj s (fun d s=>Z.aj s (fun e s=>Ao Z e b s) (kn .neg d)) (al .add a (.int .i64 1))) (Ao Z a b s)) (al .lss a (.int .i64 0)):=by kernel_rfl
theorem LL:aA aL G X 14 [a,b] s=f14 (aV aL G X) a b s.ai:=bR aL G X (fn:=yg)
theorem Yb:f35 Z a b c s=uI Z a b c (.bW 1 [] .nil) (.int .i64 0) s:=by kernel_rfl
theorem LM:aA aL G X 35 [a,b,c] s=f35 (aV aL G X) a b c s.ai:=bR aL G X (fn:=Lf)
theorem Yc:f36 Z a s=Z.ig (.ref (.l s.own.length) 0) (s.new (.cells [.bool false,.bW 1 [] .nil,.bool false,.bW 1 [] .nil])) (fun b s=>Z.bn s (fun e s=>Z.aj s (fun f s=>Z.bn s (fun g s=>Z.aj s (fun i s=>Z.gR s (fun c s=>Z.ca s (fun j s=>Z.ca s (fun o s=>Z.ig (.ref (.l s.own.length) 0) (s.new (.cells [.bool false,.bW 1 [] .nil,.bool false,.bW 1 [] .nil])) (fun d s=>Z.bX s (fun h s=>Z.aw s (fun m s=>Z.bX s (fun h s=>Z.a0 false [k2 s b (some 4)] s) 4 b (ae.ap s.aa m)) (some 4) d) 4 d (ae.ap s.aa j))) 1 c) 0 c) 46 [(ae.ap s.aa f),(ae.ap s.aa i)]) (al .add (.int .i64 1) g)) 14 [(ae.ap s.aa a),(ae.ap s.aa (.int .i64 4))]) (al .sub e (.int .i64 16))) 14 [(ae.ap s.aa a),(ae.ap s.aa (.int .i64 33))]):=by kernel_rfl
theorem LN:aA aL G X 36 [a] s=f36 (aV aL G X) a s.ai:=bR aL G X (fn:=aa7)
theorem Yd:f67 Z a s=Z.bn s (fun b s=>Z.a0 true [some b] s) 84 [(ae.ap s.aa (.bW 1 [] .nil)),(ae.ap s.aa a)]:=by kernel_rfl
theorem LO:aA aL G X 67 [a] s=f67 (aV aL G X) a s:=bR aL G X (fn:=abB)
theorem Ye:f38 Z a s=Z.bn s (fun b s=>Z.bn s (fun c s=>Z.a0 false [some b] s) 68 [(ae.ap s.aa b)]) 67 [(ae.ap s.aa a)]:=by kernel_rfl
theorem LP:aA aL G X 38 [a] s=f38 (aV aL G X) a s.ai:=bR aL G X (fn:=aba)
theorem Yf:f39 Z a b s=Z.e4 a s (fun c s=>Z.e4 b s (fun d s=>Z.ig (.fn 69 [(ae.ap s.aa d),(ae.ap s.aa c)]) s (fun e s=>Z.a0 false [some e] s))):=by kernel_rfl
theorem LQ:aA aL G X 39 [a,b] s=f39 (aV aL G X) a b s.ai:=bR aL G X (fn:=abb)
theorem Yg:f40 Z a b s=Z.e4 b s (fun c s=>Z.ig (.ref (.l s.own.length) 0) (s.new (.cells [.bW 1 [] .nil])) (fun d s=>Z.cW s (fun e s=>uK Z a c d e (.int .i64 0) s) false a)):=by kernel_rfl
theorem LR:aA aL G X 40 [a,b] s=f40 (aV aL G X) a b s.ai:=bR aL G X (fn:=N6)
theorem Dy:f102 Z b a c s=Z.aj s (fun d s=>pG Z b a c d s) (al .add a (.int .i64 1)):=by kernel_rfl
theorem wU:aA aL G X 102 [a,b,c] s=f102 (aV aL G X) a b c s.ai:=bR aL G X (fn:=Ib)
theorem Ky:f68 Z a s=Z.cW s (fun b s=>Z.bY s (fun c s=>Z.bn s (fun d s=>Z.bn s (fun e s=>Z.a0 false [] s) 85 [(ae.ap s.aa a),(ae.ap s.aa (.int .i64 0)),(ae.ap s.aa b),(ae.ap s.aa d)]) 86 [(ae.ap s.aa c)]) .u64 b) false a:=by kernel_rfl
theorem yP:aA aL G X 68 [a] s=f68 (aV aL G X) a s.ai:=bR aL G X (fn:=abC)
theorem Yh:f84 Z a b s=Z.pS a s (fun c s=>Kf Z c b s):=by kernel_rfl
theorem LS:aA aL G X 84 [a,b] s=f84 (aV aL G X) a b s:=bR aL G X (fn:=OP)
theorem Yi:f86 Z a s=Z.aP (.bool false) (Z.bY s (fun b s=>Z.bn s (fun c s=>Z.a0 false [some c] s) 111 [(ae.ap s.aa b)]) .u32 a) (Kg Z a s):=by kernel_rfl
theorem LU:aA aL G X 86 [a] s=f86 (aV aL G X) a s.ai:=bR aL G X (fn:=S5)
theorem Rw:f108 Z c d s=Z.bn s (fun a s=>Z.af a true (fun k=>k d s) s (fun e s=>Z.af a true (fun k=>Z.bn s k 132 [(ae.ap s.aa e)]) s (fun f s=>Z.af a true (fun k=>Z.aj s k (kn .not f)) s (fun g s=>Z.bS s (fun b s=>Z.af b false (fun k=>k c s) s (fun i s=>Z.af b false (fun k=>k d s) s (fun j s=>Z.af b false (fun k=>Z.aj s k (al .lss i j)) s (fun m s=>Z.bS s (fun o s=>Z.a0 false [some o] s) b (.bool true) m)))) a g (.bool false))))) 132 [(ae.ap s.aa c)]:=by kernel_rfl
theorem GQ:aA aL G X 108 [a,b] s=f108 (aV aL G X) a b s.ai:=bR aL G X (fn:=PE)
theorem Rx:f132 Z a s=Z.aj s (fun b s=>Z.a0 false [some b] s) (al .neq a a):=by kernel_rfl
theorem GR:aA aL G X 132 [a] s=f132 (aV aL G X) a s.ai:=bR aL G X (fn:=Qd)
theorem Kz:f85 Z a b c d s=Kh Z a b c d (.bool true) (.bool true) s:=by kernel_rfl
theorem yQ:aA aL G X 85 [a,b,c,d] s=f85 (aV aL G X) a b c d s.ai:=bR aL G X (fn:=S4)
theorem ad0:f3 Z a s=Z.gR s (fun b s=>Z.aj s (fun c s=>Z.aP c (Z.a0 false [some (.bool false)] s) (Rb Z a s)) (kn .not b)) 9 []:=by kernel_rfl
theorem Ry:aA aL G X 3 [a] s=f3 (aV aL G X) a s.ai:=bR aL G X (fn:=lz)
theorem Yj:f11 Z a b s=Z.bn s (fun c s=>Z.aj s (fun d s=>Z.aP d (Z.a0 false [some (.bW 1 [] .nil),some c] s) (Kt Z a b s)) (al .neq c (.int .i64 0))) 37 [(ae.ap s.aa a),(ae.ap s.aa b)]:=by kernel_rfl
theorem LV:aA aL G X 11 [a,b] s=f11 (aV aL G X) a b s.ai:=bR aL G X (fn:=SB)
theorem Yk:f12 Z a b s=uO Z a b (.int .i64 0) s:=by kernel_rfl
theorem LW:aA aL G X 12 [a,b] s=f12 (aV aL G X) a b s.ai:=bR aL G X (fn:=Np)
theorem Yl:f13 Z a b s=Z.bn s (fun c s=>Z.aj s (fun d s=>Z.aP d (Z.a0 false [some (.bW 1 [] .nil),some c] s) (Kx Z a b s)) (al .neq c (.int .i64 0))) 37 [(ae.ap s.aa a),(ae.ap s.aa b)]:=by kernel_rfl
theorem LX:aA aL G X 13 [a,b] s=f13 (aV aL G X) a b s.ai:=bR aL G X (fn:=SC)
end
end Go.gl
end
section
namespace Go.gl
end Go.gl
end
