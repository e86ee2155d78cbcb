/- A part of the proof: no condition. -/
import Derived.Test.YtgdnbfijkagodaaGreatDoorA4
import Derived.Test.YtgdnbfijkagodaaGreatDoorA2
import Derived.KernelRfl
set_option linter.unusedSectionVars false
set_option linter.unusedSimpArgs false
set_option linter.unusedVariables false
section
namespace Go.gl
noncomputable section
open Go.Ab
set_option maxRecDepth 100000
variable(Z:nQ)
section
variable(a b c d e f g i j m o p q r t u w x y z A B C D E F H I J K L M N O P Q R S T U V:ae)(s:ag)
def Xa:fk:=fP (aE Z BV) (bA Z v0)
def Xb:f5:=ey 14
def Xc:fk:=fP (aE Z BT) (bA Z v0)
def Ji:fk:=dy 0 (Xc Z)
def rT:f5:=ey 0x3510d1a
def z6:fk:=ew rT (Z.cG (aE Z zZ) rT) (Ji Z)
def Xd:fk:=fP (aE Z IJ) (z6 Z)
def Qx:fk:=dy 1 (Xd Z)
def B6:ah:=Z.aK .e IG .e s (Xa Z)
def B7:ah:=Z.aK .e IH .e s (Qx Z)
def B8:ah:=Z.aK rT II (dr (dr (bq .e (bq (bK d) .e)) b .e) a (bq .e (bq (bq (bK c) .e) .e))) s (z6 Z)
def B9:ah:=Z.aK rT IK (dr (dr (bq .e (bq (bK d) .e)) b .e) a (bq .e (bq (bq (bK c) .e) .e))) s (z6 Z)
def Ca:ah:=Z.aK .e BS .e s (bA Z v0)
def rU:ah:=Z.cG (aE Z zZ) rT (dr (dr (bq .e (bq (bK d) .e)) b .e) a (bq .e (bq (bq (bK c) .e) .e))) s (Ji Z)
def Cb:ah:=Z.aK Xb BU (dr (bK b) a .e) s (bA Z v0)
def f133(a b:ae)(s:ag):ah:=bI [a,b] 0 .e fun ao=>aE Z IL ao s (bA Z v0)
def Xe:fk:=fP (aE Z IQ) (bA Z BW)
def Jj:fk:=dy 0 (Xe Z)
def rV:f5:=ey 0x30d5039a
def Jk:fk:=ew rV (Z.cG (aE Z z0) rV) (Jj Z)
def Xf:f5:=ey 0x310d5
def Cc:ah:=Z.aK rV IM (dr (dr (bq (dr (bK e) d .e) .e) b .e) a (bq (bq (bq (bK f) .e) .e) (bK c))) s (Jk Z)
def Cd:ah:=Z.aK rV IN (dr (dr (bq (dr (bK e) d .e) .e) b .e) a (bq (bq (bq (bK f) .e) .e) (bK c))) s (Jk Z)
def Ce:ah:=Z.aK Xf IP (bq (bq (bq (bK b) .e) .e) (bq .e (bK a))) s (bA Z BW)
def rW:ah:=Z.cG (aE Z z0) rV (dr (dr (bq (dr (bK e) d .e) .e) b .e) a (bq (bq (bq (bK f) .e) .e) (bK c))) s (Jj Z)
def f134(a b:ae)(s:ag):ah:=bI [a,b] 0 .e fun ao=>aE Z IR ao s (bA Z BW)
def Xg:fk:=fP (aE Z IU) (bA Z BX)
def Jl:fk:=dy 0 (Xg Z)
def rX:f5:=ey 54
def Xh:fk:=ew rX (Z.cG (aE Z z1) rX) (Jl Z)
def Cf:ah:=Z.aK rX IS (dr (bq (bK b) .e) a .e) s (Xh Z)
def v5:ah:=Z.aK rX IT (dr (bq (bK b) .e) a .e) s (bA Z BX)
def rY:ah:=Z.cG (aE Z z1) rX (dr (bq (bK b) .e) a .e) s (Jl Z)
def f135(a:ae)(s:ag):ah:=bI [a] 0 .e fun ao=>aE Z IV ao s (bA Z BX)
def f136(a:ae)(s:ag):ah:=bI [a] 0 .e fun ao=>aE Z IW ao s (bA Z Qf)
def Xi:fk:=fP (aE Z I0) (bA Z BY)
def Jm:fk:=dy 0 (Xi Z)
def rZ:f5:=ey 0xd50d8a
def Jn:fk:=ew rZ (Z.cG (aE Z z2) rZ) (Jm Z)
def Xj:f5:=ey 197
def Cg:ah:=Z.aK rZ IX (dr (dr .e b (dr (bq (bK e) .e) c .e)) a (bq (bq (bq (bK d) .e) .e) .e)) s (Jn Z)
def Ch:ah:=Z.aK rZ IY (dr (dr .e b (dr (bq (bK e) .e) c .e)) a (bq (bq (bq (bK d) .e) .e) .e)) s (Jn Z)
def Ci:ah:=Z.aK Xj IZ (bq (bq .e (bK a)) .e) s (bA Z BY)
def r0:ah:=Z.cG (aE Z z2) rZ (dr (dr .e b (dr (bq (bK e) .e) c .e)) a (bq (bq (bq (bK d) .e) .e) .e)) s (Jm Z)
def f137(a b:ae)(s:ag):ah:=bI [a,b] 0 .e fun ao=>aE Z I1 ao s (bA Z BY)
def Xk:fk:=fP (aE Z B3) (bA Z tF)
def Jo:fk:=dy 0 (Xk Z)
def r1:f5:=ey 0x39234d2a
def Jp:fk:=ew r1 (Z.cG (aE Z z3) r1) (Jo Z)
def Xl:f5:=ey 0xd237a
def Qy:f5:=ey 826
def Qz:fk:=fP (aE Z B0) (bA Z tF)
def Cj:fk:=dy 2 (Qz Z)
def py:f5:=ey 0xd15203467a
def Ck:fk:=ew py (Z.cG (aE Z v3) py) (Cj Z)
def QA:f5:=ey 13178
def Cl:ah:=Z.aK r1 I2 (dr (dr (dr .e d (bq (bK i) .e)) b (bq (bK e) .e)) a (dr .e c (bq (dr (bK g) f .e) .e))) s (Jp Z)
def Cm:ah:=Z.aK r1 I3 (dr (dr (dr .e d (bq (bK i) .e)) b (bq (bK e) .e)) a (dr .e c (bq (dr (bK g) f .e) .e))) s (Jp Z)
def Cn:ah:=Z.aK py I4 (dr (dr (bK d) b (bq (dr (bq .e (bq (bK f) .e)) e .e) .e)) a (dr .e c (bq (bq (bq .e (bq (bK g) .e)) .e) .e))) s (Ck Z)
def Co:ah:=Z.aK py I5 (dr (dr (bK d) b (bq (dr (bq .e (bq (bK f) .e)) e .e) .e)) a (dr .e c (bq (bq (bq .e (bq (bK g) .e)) .e) .e))) s (Ck Z)
def Cp:ah:=Z.aK QA BZ (dr (dr (bK d) b (bq (bK e) .e)) a (bK c)) s (bA Z tF)
def r2:ah:=Z.cG (aE Z v3) py (dr (dr (bK d) b (bq (dr (bq .e (bq (bK f) .e)) e .e) .e)) a (dr .e c (bq (bq (bq .e (bq (bK g) .e)) .e) .e))) s (Cj Z)
def v7:ah:=Z.aK Qy B1 (dr (dr (bK d) b .e) a (bK c)) s (bA Z tF)
def Cq:ah:=Z.aK Xl B2 (dr (dr (bK d) b (bq (bK e) .e)) a (dr .e c (bq (bK f) .e))) s (bA Z tF)
def pz:ah:=Z.cG (aE Z z3) r1 (dr (dr (dr .e d (bq (bK i) .e)) b (bq (bK e) .e)) a (dr .e c (bq (dr (bK g) f .e) .e))) s (Jo Z)
def f138(a b c d:ae)(s:ag):ah:=bI [a,b,c,d] 0 .e fun ao=>aE Z I6 ao s (bA Z tF)
def Xm:fk:=fP (aE Z I9) (bA Z B4)
def Jq:fk:=dy 0 (Xm Z)
def uw:f5:=ey 0xd234da
def Xn:fk:=ew uw (Z.cG (aE Z z4) uw) (Jq Z)
def Xo:f5:=ey 837
def v8:ah:=Z.aK Xo I8 (bq (bq .e (bq (bK a) .e)) .e) s (bA Z B4)
def v9:ah:=Z.aK uw I7 (dr (dr (bq (bK d) .e) b (bq (bK e) .e)) a (dr .e c (bq (bK f) .e))) s (Xn Z)
def r3:ah:=Z.cG (aE Z z4) uw (dr (dr (bq (bK d) .e) b (bq (bK e) .e)) a (dr .e c (bq (bK f) .e))) s (Jq Z)
def f139(a b c:ae)(s:ag):ah:=bI [a,b,c] 0 .e fun ao=>aE Z Ja ao s (bA Z B4)
def Xp:f5:=ey 798
def Xq:fk:=fP (aE Z Jg) (bA Z yJ)
def Jr:fk:=dy 0 (Xq Z)
def r4:f5:=ey 0x334753444da
def z7:fk:=ew r4 (Z.cG (aE Z z5) r4) (Jr Z)
def Xr:fk:=fP (aE Z Jd) (z7 Z)
def Xs:fk:=dy 1 (Xr Z)
def QB:f5:=ey 0xe34753474da
def QC:f5:=ey 0x350d5
def Cr:ah:=Z.aK r4 Jc (dr (dr (bq (bK d) .e) b (bq .e (bq .e (bq (bK g) .e)))) a (bq (bq (bK e) (bq .e (bq (bK f) .e))) (bK c))) s (z7 Z)
def r5:ah:=Z.aK QB Jb (dr (dr (bq (bK d) .e) b (bq (bK f) (bq .e (bq (bK j) .e)))) a (bq (bq (bK e) (bq .e (bq (bK i) .e))) (dr (bK g) c .e))) s (Xs Z)
def Cs:ah:=Z.aK r4 Je (dr (dr (bq (bK d) .e) b (bq .e (bq .e (bq (bK g) .e)))) a (bq (bq (bK e) (bq .e (bq (bK f) .e))) (bK c))) s (z7 Z)
def Ct:ah:=Z.aK QC Jf (bq (bq (bq (bK a) .e) .e) (bq (bq (bK b) .e) .e)) s (bA Z yJ)
def pA:ah:=Z.cG (aE Z z5) r4 (dr (dr (bq (bK d) .e) b (bq .e (bq .e (bq (bK g) .e)))) a (bq (bq (bK e) (bq .e (bq (bK f) .e))) (bK c))) s (Jr Z)
def Cu:ah:=Z.aK Xp B5 (dr (bK b) a (bq .e (bK c))) s (bA Z yJ)
def f140(a b:ae)(s:ag):ah:=bI [a,b] 0 .e fun ao=>aE Z Jh ao s (bA Z yJ)
def Js:f5:=ey 50
def pB:ah:=Z.aK Js If (dr .e a (bK b)) s (bA Z BP)
def nU:ah:=Z.aK Js Ig (dr .e a (bK b)) s (bA Z BP)
def f111(a:ae)(s:ag):ah:=bI [a] 0 .e fun ao=>aE Z Ih ao s (bA Z BP)
def ac7:f5:=ey 57
def Jt:ah:=Z.aK ac7 OU (bq (dr (bK b) a .e) .e) s (bA Z S7)
def f87(a:ae)(s:ag):ah:=bI [a] 0 .e fun ao=>aE Z OV ao s (bA Z S7)
def ac8:f5:=ey 3637
def ac9:fk:=fP (aE Z H4) (bA Z zV)
def QD:fk:=dy 0 (ac9 Z)
def s5:f5:=ey 0x3d0d5
def ada:fk:=ew s5 (Z.cG (aE Z E8) s5) (QD Z)
def Xt:fk:=fP (aE Z O1) (bA Z zV)
def Ju:fk:=dy 2 (Xt Z)
def ux:f5:=ey 0xdd315
def Xu:fk:=ew ux (Z.cG (aE Z E9) ux) (Ju Z)
def Xv:f5:=ey 3537
def z8:ah:=Z.aK s5 OY (bq (bq (bq (bK c) .e) .e) (bq (bK a) (bK b))) s (ada Z)
def Jv:ah:=Z.aK ux OZ (bq (bq (bq .e (bK c)) .e) (bq (bK a) (bq (bK b) .e))) s (Xu Z)
def Jw:ah:=Z.aK Xv O0 (bq .e (bq (bK a) (bq (bK b) .e))) s (bA Z zV)
def uy:ah:=Z.cG (aE Z E9) ux (bq (bq (bq .e (bK c)) .e) (bq (bK a) (bq (bK b) .e))) s (Ju Z)
def Jx:ah:=Z.aK s5 O2 (bq (bq (bq (bK c) .e) .e) (bq (bK a) (bK b))) s (bA Z zV)
def z9:ah:=Z.aK s5 H3 (bq (bq (bq (bK c) .e) .e) (bq (bK a) (bK b))) s (bA Z zV)
def uz:ah:=Z.cG (aE Z E8) s5 (bq (bq (bq (bK c) .e) .e) (bq (bK a) (bK b))) s (QD Z)
def Jy:ah:=Z.aK ac8 H5 (bq (bq (bK b) .e) (dr (bK c) a .e)) s (bA Z zV)
def f90(a b:ae)(s:ag):ah:=bI [a,b] 0 .e fun ao=>aE Z O3 ao s (bA Z zV)
def f113(a b:ae)(s:ag):ah:=bI [a,b] 0 .e fun ao=>aE Z Im ao s (bA Z P4)
def Jz:f5:=ey 14
def Xw:fk:=fP (aE Z Ir) (bA Z vZ)
def JA:fk:=dy 0 (Xw Z)
def r6:f5:=ey 0xd00d653703555
def JB:fk:=ew r6 (Z.cG (aE Z zX) r6) (JA Z)
def QE:f5:=ey 0xd35315
def Cv:ah:=Z.aK r6 Io (bq (bq (bq (bq (bq (bq (bK e) .e) .e) .e) (bK d)) (bq (bK b) .e)) (bq (bq (dr (bq (bq (bK f) .e) .e) a .e) .e) (bq (bK c) .e))) s (JB Z)
def Cw:ah:=Z.aK r6 Ip (bq (bq (bq (bq (bq (bq (bK e) .e) .e) .e) (bK d)) (bq (bK b) .e)) (bq (bq (dr (bq (bq (bK f) .e) .e) a .e) .e) (bq (bK c) .e))) s (JB Z)
def Cx:ah:=Z.aK QE Iq (bq (bq (bq .e (bK c)) .e) (bq (bq (bK a) .e) (bq (bK b) .e))) s (bA Z vZ)
def r7:ah:=Z.cG (aE Z zX) r6 (bq (bq (bq (bq (bq (bq (bK e) .e) .e) .e) (bK d)) (bq (bK b) .e)) (bq (bq (dr (bq (bq (bK f) .e) .e) a .e) .e) (bq (bK c) .e))) s (JA Z)
def Cy:ah:=Z.aK Jz Is (dr (bK b) a .e) s (bA Z vZ)
def Cz:ah:=Z.aK Jz BQ (dr (bK b) a .e) s (bA Z vZ)
def f114(a b:ae)(s:ag):ah:=bI [a,b] 0 .e fun ao=>aE Z It ao s (bA Z vZ)
def Xx:f5:=ey 222
def CA:ah:=Z.aK Xx Iu (dr (bK b) a (bq (bK c) .e)) s (bA Z yI)
def f115(a b:ae)(s:ag):ah:=bI [a,b] 0 .e fun ao=>aE Z Iv ao s (bA Z yI)
def Xy:fk:=fP (aE Z Iz) (bA Z BR)
def JC:fk:=dy 0 (Xy Z)
def r8:f5:=ey 0x310e6
def JD:fk:=ew r8 (Z.cG (aE Z zY) r8) (JC Z)
def Xz:f5:=ey 53
def CB:ah:=Z.aK r8 Iw (dr (bq (dr (bK d) b .e) .e) a (bq .e (bK c))) s (JD Z)
def CC:ah:=Z.aK r8 Ix (dr (bq (dr (bK d) b .e) .e) a (bq .e (bK c))) s (JD Z)
def CD:ah:=Z.aK Xz Iy (bq (bq (bK a) .e) .e) s (bA Z BR)
def nV:ah:=Z.cG (aE Z zY) r8 (dr (bq (dr (bK d) b .e) .e) a (bq .e (bK c))) s (JC Z)
def f116(a:ae)(s:ag):ah:=bI [a] 0 .e fun ao=>aE Z IA ao s (bA Z BR)
def QF:f5:=ey 13
def JE:ah:=Z.aK QF Oy (bq (bK a) .e) s (bA Z E7)
def JF:ah:=Z.aK QF Oz (bq (bK a) .e) s (bA Z E7)
def f71(a:ae)(s:ag):ah:=bI [a] 0 .e fun ao=>aE Z OA ao s (bA Z E7)
def f88(a:ae)(s:ag):ah:=bI [a] 0 .e fun ao=>aE Z OW ao s (bA Z acw)
def f89(a:ae)(s:ag):ah:=bI [a] 0 .e fun ao=>aE Z OX ao s (bA Z acx)
def adb:fk:=fP (aE Z HX) (bA Z Lf)
def QG:fk:=dy 0 (adb Z)
def wa:f5:=ey 0x3350e6
def Fc:fk:=ew wa (Z.cG (aE Z E1) wa) (QG Z)
def ade:fk:=fP (aE Z Nx) (Fc Z)
def adf:fk:=dy 1 (ade Z)
def adg:f5:=ey 0x335ce6
def XA:f5:=ey 54
def Aa:ah:=Z.aK wa Nw (dr (bq (dr (bK d) b .e) .e) a (bq (bq (bK e) .e) (bK c))) s (Fc Z)
def JG:ah:=Z.aK adg Nv (dr (bq (dr (bK e) b .e) (bK c)) a (bq (bq (bK f) .e) (bK d))) s (adf Z)
def JH:ah:=Z.aK wa Ny (dr (bq (dr (bK d) b .e) .e) a (bq (bq (bK e) .e) (bK c))) s (Fc Z)
def JI:ah:=Z.aK .e Nz .e s (bA Z Lf)
def Ac:ah:=Z.aK XA HW (dr (bq (bK b) .e) a .e) s (bA Z Lf)
def uA:ah:=Z.cG (aE Z E1) wa (dr (bq (dr (bK d) b .e) .e) a (bq (bq (bK e) .e) (bK c))) s (QG Z)
def f16(a:ae)(s:ag):ah:=bI [a] 0 .e fun ao=>aE Z NA ao s (bA Z Lf)
def adh:f5:=ey 56550
def adi:fk:=fP (aE Z HZ) (bA Z BO)
def QH:fk:=dy 0 (adi Z)
def wb:f5:=ey 0x3453449cd1e6
def QI:fk:=ew wb (Z.cG (aE Z E4) wb) (QH Z)
def XB:f5:=ey 53478
def JJ:f5:=ey 3382
def JK:ah:=Z.aK wb N8 (dr (bq (dr (bK e) b (bq .e (bq (bK g) .e))) (bK d)) a (bq (dr .e c (bq .e (bq (bK i) .e))) (bq (bq .e (bq (bK f) .e)) .e))) s (QI Z)
def JL:ah:=Z.aK wb N9 (dr (bq (dr (bK e) b (bq .e (bq (bK g) .e))) (bK d)) a (bq (dr .e c (bq .e (bq (bK i) .e))) (bq (bq .e (bq (bK f) .e)) .e))) s (QI Z)
def Ad:ah:=Z.aK JJ Oa (dr (bq (bK b) .e) a (bq (bK c) .e)) s (bA Z BO)
def Ae:ah:=Z.aK JJ Ob (dr (bq (bK b) .e) a (bq (bK c) .e)) s (bA Z BO)
def Af:ah:=Z.aK XB HY (dr (bq (dr (bK d) b .e) .e) a (bq (bK c) .e)) s (bA Z BO)
def uB:ah:=Z.cG (aE Z E4) wb (dr (bq (dr (bK e) b (bq .e (bq (bK g) .e))) (bK d)) a (bq (dr .e c (bq .e (bq (bK i) .e))) (bq (bq .e (bq (bK f) .e)) .e))) s (QH Z)
def JM:ah:=Z.aK adh H0 (dr (bq (dr (bK e) b .e) (bK d)) a (bq (bK c) .e)) s (bA Z BO)
def f42(a:ae)(s:ag):ah:=bI [a] 0 .e fun ao=>aE Z Oc ao s (bA Z BO)
def f43(a:ae)(s:ag):ah:=bI [a] 0 .e fun ao=>aE Z Od ao s (bA Z abk)
def adj:fk:=fP (aE Z Oh) (bA Z Oj)
def QJ:fk:=dy 0 (adj Z)
def wc:f5:=ey 0x3350e5
def QK:fk:=ew wc (Z.cG (aE Z E5) wc) (QJ Z)
def adk:f5:=ey 53
def r9:ah:=Z.aK wc Oe (bq (bq (dr (bK c) a .e) .e) (bq (bq (bK d) .e) (bK b))) s (QK Z)
def JN:ah:=Z.aK wc Of (bq (bq (dr (bK c) a .e) .e) (bq (bq (bK d) .e) (bK b))) s (QK Z)
def JO:ah:=Z.aK adk Og (bq (bq (bK a) .e) .e) s (bA Z Oj)
def uC:ah:=Z.cG (aE Z E5) wc (bq (bq (dr (bK c) a .e) .e) (bq (bq (bK d) .e) (bK b))) s (QJ Z)
def f44(a:ae)(s:ag):ah:=bI [a] 0 .e fun ao=>aE Z Oi ao s (bA Z Oj)
def adl:f5:=ey 14
def JP:ah:=Z.aK .e NV .e s (bA Z vX)
def Ag:ah:=Z.aK adl NW (dr (bK b) a .e) s (bA Z vX)
def f37(a b:ae)(s:ag):ah:=bI [a,b] 0 .e fun ao=>aE Z NX ao s (bA Z vX)
def f48(a:ae)(s:ag):ah:=bI [a] 0 .e fun ao=>aE Z Ol ao s (bA Z abp)
def adm:fk:=fP (aE Z NM) (bA Z zT)
def QL:fk:=dy 0 (adm Z)
def adn:f5:=ey 0x345c5
def ado:f5:=ey 0x3111c5
def JQ:ah:=Z.aK .e NL .e s (bA Z zT)
def Ah:ah:=Z.aK ado NJ (bq (bq .e (bK a)) (bq .e (bq .e (bq .e (bK b))))) s (QL Z)
def Ai:ah:=Z.aK adn NK (bq (bq .e (bK a)) (bq (bq .e (bq (bK b) .e)) .e)) s (QL Z)
def f34(a:ae)(s:ag):ah:=bI [a] 0 .e fun ao=>aE Z NN ao s (bA Z zT)
def f50(a b:ae)(s:ag):ah:=bI [a,b] 0 .e fun ao=>aE Z Om ao s (bA Z aby)
def adp:fk:=fP (aE Z NG) (bA Z NI)
def QM:fk:=dy 0 (adp Z)
def adq:f5:=ey 0x345c5
def adr:f5:=ey 0x3111c5
def JR:ah:=Z.aK .e NF .e s (bA Z NI)
def Aj:ah:=Z.aK adr ND (bq (bq .e (bK a)) (bq .e (bq .e (bq .e (bK b))))) s (QM Z)
def Ak:ah:=Z.aK adq NE (bq (bq .e (bK a)) (bq (bq .e (bq (bK b) .e)) .e)) s (QM Z)
def f21(a:ae)(s:ag):ah:=bI [a] 0 .e fun ao=>aE Z NH ao s (bA Z NI)
def f72(a:ae)(s:ag):ah:=bI [a] 0 .e fun ao=>aE Z OB ao s (bA Z abU)
def f73(a b:ae)(s:ag):ah:=bI [a,b] 0 .e fun ao=>aE Z OC ao s (bA Z abV)
def f74(a b:ae)(s:ag):ah:=bI [a,b] 0 .e fun ao=>aE Z OD ao s (bA Z OE)
def ads:fk:=fP (aE Z Ot) (bA Z Ov)
def QN:fk:=dy 0 (ads Z)
def we:f5:=ey 0x350da
def QO:fk:=ew we (Z.cG (aE Z E6) we) (QN Z)
def JS:ah:=Z.aK we On (dr (dr (bq (bK c) .e) b .e) a (bq (bq (bK d) .e) .e)) s (QO Z)
def JT:ah:=Z.aK we Oo (dr (dr (bq (bK c) .e) b .e) a (bq (bq (bK d) .e) .e)) s (QO Z)
def JU:ah:=Z.aK .e Oq .e s (bA Z Ov)
def uD:ah:=Z.cG (aE Z E6) we (dr (dr (bq (bK c) .e) b .e) a (bq (bq (bK d) .e) .e)) s (QN Z)
def f62(a b:ae)(s:ag):ah:=bI [a,b] 0 .e fun ao=>aE Z Ou ao s (bA Z Ov)
def f19(a:ae)(s:ag):ah:=bI [a] 0 .e fun ao=>aE Z NB ao s (bA Z NC)
def f47(a:ae)(s:ag):ah:=bI [a] 0 .e fun ao=>aE Z Ok ao s (bA Z abo)
def Fe:fk:=fP (aE Z OJ) (bA Z OL)
def adt:f5:=ey 3
def adu:f5:=ey 12742
def adv:f5:=ey 3285
def adw:f5:=ey 14
def JV:ah:=Z.aK adv OF (bq (bq (bq (bK b) .e) (bK a)) .e) s (Fe Z)
def Al:ah:=Z.aK adu OG (dr (bq .e (bK b)) a (bq .e (bK c))) s (Fe Z)
def JW:ah:=Z.aK adt OH (bK a) s (Fe Z)
def XC:ah:=Z.aK adw OI (dr (bK b) a .e) s (bA Z OL)
def f77(a b:ae)(s:ag):ah:=bI [a,b] 0 .e fun ao=>aE Z OK ao s (bA Z OL)
def adx:f5:=ey 3
def JX:ah:=Z.aK adx O4 (bK a) s (bA Z Ta)
def f95(a:ae)(s:ag):ah:=bI [a] 0 .e fun ao=>aE Z O5 ao s (bA Z Ta)
def f96(a:ae)(s:ag):ah:=bI [a] 0 .e fun ao=>aE Z O6 ao s (bA Z acQ)
def ady:fk:=fP (aE Z Pb) (bA Z Fb)
def QP:fk:=dy 0 (ady Z)
def wg:f5:=ey 222
def adz:fk:=ew wg (Z.cG (aE Z Fa) wg) (QP Z)
def QQ:f5:=ey 3218
def XD:ah:=Z.aK wg O7 (dr (bK b) a (bq (bK c) .e)) s (adz Z)
def oy:ah:=Z.aK QQ O8 (dr .e a (bq (dr .e b (bK c)) .e)) s (bA Z Fb)
def oz:ah:=Z.aK QQ O9 (dr .e a (bq (dr .e b (bK c)) .e)) s (bA Z Fb)
def uE:ah:=Z.aK wg Pa (dr (bK b) a (bq (bK c) .e)) s (bA Z Fb)
def JY:ah:=Z.cG (aE Z Fa) wg (dr (bK b) a (bq (bK c) .e)) s (QP Z)
def f97(a b:ae)(s:ag):ah:=bI [a,b] 0 .e fun ao=>aE Z Pc ao s (bA Z Fb)
def Am:f5:=ey 50
def sa:ah:=Z.aK Am Ii (dr .e a (bK b)) s (bA Z yH)
def sb:ah:=Z.aK Am Ij (dr .e a (bK b)) s (bA Z yH)
def wh:ah:=Z.aK Am Ik (dr .e a (bK b)) s (bA Z yH)
def f112(a:ae)(s:ag):ah:=bI [a] 0 .e fun ao=>aE Z Il ao s (bA Z yH)
def f120(a:ae)(s:ag):ah:=bI [a] 0 .e fun ao=>aE Z IB ao s (bA Z Qd)
def CE:ah:=Z.aK .e IC .e s (bA Z IE)
def f121(a:ae)(s:ag):ah:=bI [a] 0 .e fun ao=>aE Z ID ao s (bA Z IE)
def adA:fk:=fP (aE Z HV) (bA Z Ni)
def QR:fk:=dy 0 (adA Z)
def wi:f5:=ey 0x335cda
def Ff:fk:=ew wi (Z.cG (aE Z zS) wi) (QR Z)
def adB:fk:=fP (aE Z HS) (Ff Z)
def qM:fk:=dy 1 (adB Z)
def adC:f5:=ey 0xe3538da
def XE:fk:=fP (aE Z HP) (qM Z)
def JZ:fk:=dy 2 (XE Z)
def sc:f5:=ey 0x3e0e5fb39a
def J0:fk:=ew sc (Z.cG (aE Z EZ) sc) (JZ Z)
def An:f5:=ey 0xe35f839a
def XF:fk:=fP (aE Z HN) (qM Z)
def J1:fk:=dy 4 (XF Z)
def sd:f5:=ey 0xe35ce839a
def J2:fk:=ew sd (Z.cG (aE Z zR) sd) (J1 Z)
def XG:f5:=ey 0x3635cda
def XH:f5:=ey 197
def J3:ah:=Z.aK sc Nc (dr (dr (bq (dr (bK p) e .e) (bK j)) b (dr (bK g) c (bK m))) a (bq (bq (dr (bK q) f .e) .e) (dr (bK i) d (bK o)))) s (J0 Z)
def J4:ah:=Z.aK sc Nd (dr (dr (bq (dr (bK p) e .e) (bK j)) b (dr (bK g) c (bK m))) a (bq (bq (dr (bK q) f .e) .e) (dr (bK i) d (bK o)))) s (J0 Z)
def wj:ah:=Z.aK sd Nf (dr (dr (bq (dr (bK m) e .e) .e) b (dr (dr (bK o) g .e) c (bK j))) a (bq (bq (bK f) .e) (dr (bK i) d .e))) s (J2 Z)
def J5:ah:=Z.aK sd Ng (dr (dr (bq (dr (bK m) e .e) .e) b (dr (dr (bK o) g .e) c (bK j))) a (bq (bq (bK f) .e) (dr (bK i) d .e))) s (J2 Z)
def pC:ah:=Z.aK wi HR (dr (dr (bq (bK e) .e) b (bK c)) a (bq (bq (bK f) .e) (bK d))) s (Ff Z)
def nW:ah:=Z.aK XG HK (dr (dr (bq (bK e) .e) b (bK c)) a (bq (bq (bK f) .e) (dr (bq (bK g) .e) d .e))) s (qM Z)
def pD:ah:=Z.aK An HL (dr (dr (bq (dr (bK m) e .e) .e) b (dr (bK g) c (bK j))) a (bq (bq (bK f) .e) (dr (bK i) d .e))) s (qM Z)
def se:ah:=Z.aK An HM (dr (dr (bq (dr (bK m) e .e) .e) b (dr (bK g) c (bK j))) a (bq (bq (bK f) .e) (dr (bK i) d .e))) s (qM Z)
def uF:ah:=Z.cG (aE Z zR) sd (dr (dr (bq (dr (bK m) e .e) .e) b (dr (dr (bK o) g .e) c (bK j))) a (bq (bq (bK f) .e) (dr (bK i) d .e))) s (J1 Z)
def Ao:ah:=Z.aK An HO (dr (dr (bq (dr (bK m) e .e) .e) b (dr (bK g) c (bK j))) a (bq (bq (bK f) .e) (dr (bK i) d .e))) s (qM Z)
def uG:ah:=Z.cG (aE Z EZ) sc (dr (dr (bq (dr (bK p) e .e) (bK j)) b (dr (bK g) c (bK m))) a (bq (bq (dr (bK q) f .e) .e) (dr (bK i) d (bK o)))) s (JZ Z)
def sf:ah:=Z.aK adC HQ (dr (dr (bq (bK e) .e) b (dr (bK g) c .e)) a (bq (bq (bK f) .e) (dr (bK i) d .e))) s (qM Z)
def J6:ah:=Z.aK wi HT (dr (dr (bq (bK e) .e) b (bK c)) a (bq (bq (bK f) .e) (bK d))) s (Ff Z)
def CF:ah:=Z.aK XH HU (bq (bq .e (bK a)) .e) s (bA Z Ni)
def kG:ah:=Z.cG (aE Z zS) wi (dr (dr (bq (bK e) .e) b (bK c)) a (bq (bq (bK f) .e) (bK d))) s (QR Z)
def f10(a b:ae)(s:ag):ah:=bI [a,b] 0 .e fun ao=>aE Z Nh ao s (bA Z Ni)
def adD:f5:=ey 14
def Ap:ah:=Z.aK adD Nt (dr (bK b) a .e) s (bA Z yf)
def f14(a b:ae)(s:ag):ah:=bI [a,b] 0 .e fun ao=>aE Z Nu ao s (bA Z yf)
def adE:fk:=fP (aE Z NS) (bA Z Lg)
def QS:fk:=dy 0 (adE Z)
def wk:f5:=ey 0x360da
def QT:fk:=ew wk (Z.cG (aE Z E2) wk) (QS Z)
def QU:f5:=ey 12501
def sg:ah:=Z.aK wk NO (dr (dr (bq (bK d) .e) b .e) a (dr (bq (bK e) .e) c .e)) s (QT Z)
def J7:ah:=Z.aK wk NP (dr (dr (bq (bK d) .e) b .e) a (dr (bq (bK e) .e) c .e)) s (QT Z)
def J8:ah:=Z.aK QU NQ (bq (bq (bq (bK b) .e) .e) (bK a)) s (bA Z Lg)
def Aq:ah:=Z.aK QU NR (bq (bq (bq (bK b) .e) .e) (bK a)) s (bA Z Lg)
def uH:ah:=Z.cG (aE Z E2) wk (dr (dr (bq (bK d) .e) b .e) a (dr (bq (bK e) .e) c .e)) s (QS Z)
def f35(a b c:ae)(s:ag):ah:=bI [a,b,c] 0 .e fun ao=>aE Z NT ao s (bA Z Lg)
def f36(a:ae)(s:ag):ah:=bI [a] 0 .e fun ao=>aE Z NU ao s (bA Z aa8)
def f67(a:ae)(s:ag):ah:=bI [a] 0 .e fun ao=>aE Z Ow ao s (bA Z abC)
def f38(a:ae)(s:ag):ah:=bI [a] 0 .e fun ao=>aE Z NY ao s (bA Z abb)
def f39(a b:ae)(s:ag):ah:=bI [a,b] 0 .e fun ao=>aE Z NZ ao s (bA Z abc)
def adF:fk:=fP (aE Z N5) (bA Z N7)
def QV:fk:=dy 0 (adF Z)
def wl:f5:=ey 0xd13b6
def Fg:fk:=ew wl (Z.cG (aE Z E3) wl) (QV Z)
def adG:fk:=fP (aE Z N2) (Fg Z)
def adH:fk:=dy 1 (adG Z)
def Ar:fk:=dy 2 (adH Z)
def adI:f5:=ey 0xe138366
def XI:f5:=ey 197
def uI:ah:=Z.aK wl N1 (dr (bq (bK b) (dr (bK d) c .e)) a (bq .e (bq (bK e) .e))) s (Fg Z)
def J9:ah:=Z.aK XI N4 (bq (bq .e (bK a)) .e) s (bA Z N7)
def Ka:ah:=Z.aK adI N0 (dr (bq (dr (bq (bK g) .e) b .e) (dr (bK e) c .e)) a (bq .e (dr (bK f) d .e))) s (Ar Z)
def Kb:ah:=Z.aK wl N3 (dr (bq (bK b) (dr (bK d) c .e)) a (bq .e (bq (bK e) .e))) s (Fg Z)
def uJ:ah:=Z.cG (aE Z E3) wl (dr (bq (bK b) (dr (bK d) c .e)) a (bq .e (bq (bK e) .e))) s (QV Z)
def f40(a b:ae)(s:ag):ah:=bI [a,b] 0 .e fun ao=>aE Z N6 ao s (bA Z N7)
def Kc:fk:=dy 0 (bA Z Ic)
def sh:f5:=ey 814
def As:fk:=ew sh (Z.cG (aE Z vY) sh) (Kc Z)
def XJ:fk:=fP (aE Z H9) (As Z)
def XK:fk:=dy 1 (XJ Z)
def Kd:fk:=dy 2 (XK Z)
def si:f5:=ey 0x320da
def Ke:fk:=ew si (Z.cG (aE Z zW) si) (Kd Z)
def CG:ah:=Z.aK si H6 (dr (dr (bq (bK e) .e) b .e) a (dr .e c (bK d))) s (Ke Z)
def wm:ah:=Z.aK si H7 (dr (dr (bq (bK e) .e) b .e) a (dr .e c (bK d))) s (Ke Z)
def CH:ah:=Z.aK sh H8 (dr (bK b) a (dr .e c (bK d))) s (As Z)
def pE:ah:=Z.cG (aE Z zW) si (dr (dr (bq (bK e) .e) b .e) a (dr .e c (bK d))) s (Kd Z)
def CI:ah:=Z.aK sh Ia (dr (bK b) a (dr .e c (bK d))) s (As Z)
def pF:ah:=Z.cG (aE Z vY) sh (dr (bK b) a (dr .e c (bK d))) s (Kc Z)
def f102(a b c:ae)(s:ag):ah:=bI [a,b,c] 0 .e fun ao=>aE Z Ib ao s (bA Z Ic)
def f68(a:ae)(s:ag):ah:=bI [a] 0 .e fun ao=>aE Z Ox ao s (bA Z abD)
def adJ:fk:=fP (aE Z OO) (bA Z OQ)
def Fh:fk:=dy 0 (adJ Z)
def adK:f5:=ey 801
def adL:f5:=ey 49
def Kf:ah:=Z.aK adL ON (bq .e (bK a)) s (bA Z OQ)
def Kg:ah:=Z.aK adK OM (bq .e (dr .e a (bK b))) s (Fh Z)
def f84(a b:ae)(s:ag):ah:=bI [a,b] 0 .e fun ao=>aE Z OP ao s (bA Z OQ)
def adM:f5:=ey 3
def Kh:ah:=Z.aK adM OS (bK a) s (bA Z S6)
def f86(a:ae)(s:ag):ah:=bI [a] 0 .e fun ao=>aE Z OT ao s (bA Z S6)
def f108(a b:ae)(s:ag):ah:=bI [a,b] 0 .e fun ao=>aE Z Ie ao s (bA Z PF)
def f132(a:ae)(s:ag):ah:=bI [a] 0 .e fun ao=>aE Z IF ao s (bA Z Qe)
def QW:fk:=dy 0 (bA Z S5)
def Fi:f5:=ey 0x3637a
def adN:fk:=ew Fi (Z.cG (aE Z zU) Fi) (QW Z)
def adO:fk:=dy 1 (adN Z)
def adP:f5:=ey 0xd3637a
def XL:ah:=Z.aK adP H2 (dr (dr (bK d) b (bq (bK f) .e)) a (dr (bq (bK e) .e) c (bq (bK g) .e))) s (adO Z)
def Ki:ah:=Z.cG (aE Z zU) Fi (dr (dr (bK d) b (bq (bK f) .e)) a (dr (bq (bK e) .e) c .e)) s (QW Z)
def f85(a b c d:ae)(s:ag):ah:=bI [a,b,c,d] 0 .e fun ao=>aE Z OR ao s (bA Z S5)
def afo:f5:=ey 3
def afp:fk:=fP (aE Z Na) (bA Z lz)
def Zm:fk:=dy 0 (afp Z)
def CJ:f5:=ey 3573
def QX:fk:=ew CJ (Z.cG (aE Z EW) CJ) (Zm Z)
def afq:fk:=fP (aE Z MZ) (QX Z)
def CK:fk:=dy 1 (afq Z)
def Fj:f5:=ey 15861
def adQ:fk:=fP (aE Z MW) (CK Z)
def QY:fk:=dy 2 (adQ Z)
def wo:f5:=ey 0x339f5
def QZ:fk:=ew wo (Z.cG (aE Z MO) wo) (QY Z)
def adR:fk:=fP (aE Z MU) (CK Z)
def Q0:fk:=dy 4 (adR Z)
def wq:f5:=ey 0x3d3b5
def Fk:fk:=ew wq (Z.cG (aE Z EV) wq) (Q0 Z)
def adS:fk:=fP (aE Z MR) (Fk Z)
def Q1:fk:=dy 5 (adS Z)
def adT:f5:=ey 0xed3b5
def Q2:fk:=dy 6 (Q1 Z)
def wt:f5:=ey 0xed3b25
def Q3:fk:=ew wt (Z.cG (aE Z EU) wt) (Q2 Z)
def adU:f5:=ey 3381
def adV:fk:=fP (aE Z M8) (bA Z lz)
def Q4:fk:=dy 8 (adV Z)
def wu:f5:=ey 51509
def Fl:fk:=ew wu (Z.cG (aE Z EY) wu) (Q4 Z)
def adW:fk:=fP (aE Z M5) (Fl Z)
def Q5:fk:=dy 9 (adW Z)
def adX:f5:=ey 0xc9c75
def Q6:fk:=dy 10 (Q5 Z)
def wv:f5:=ey 0xc9c4365
def Q7:fk:=ew wv (Z.cG (aE Z EX) wv) (Q6 Z)
def Q8:ah:=Z.aK wo Zh (bq (bq (bK a) (bK c)) (bq (dr (bK e) b .e) (bK d))) s (QZ Z)
def Q9:ah:=Z.aK wo Zi (bq (bq (bK a) (bK c)) (bq (dr (bK e) b .e) (bK d))) s (QZ Z)
def Kj:ah:=Z.aK wt Zj (bq (bq (dr .e a (bK g)) (dr (bK e) c .e)) (bq (bK b) (dr (bK f) d .e))) s (Q3 Z)
def Kk:ah:=Z.aK wt Zk (bq (bq (dr .e a (bK g)) (dr (bK e) c .e)) (bq (bK b) (dr (bK f) d .e))) s (Q3 Z)
def At:ah:=Z.aK wq MQ (bq (bq (bK a) (dr (bK e) c .e)) (bq (bK b) (bK d))) s (Fk Z)
def uK:ah:=Z.cG (aE Z EU) wt (bq (bq (dr .e a (bK g)) (dr (bK e) c .e)) (bq (bK b) (dr (bK f) d .e))) s (Q2 Z)
def Kl:ah:=Z.aK adT MP (bq (bq (bK a) (dr (bK e) c .e)) (bq (bK b) (dr (bK f) d .e))) s (Q1 Z)
def Km:ah:=Z.aK wq MS (bq (bq (bK a) (dr (bK e) c .e)) (bq (bK b) (bK d))) s (Fk Z)
def Kn:ah:=Z.aK CJ MY (bq (bq (bK a) (bK c)) (bq (bK b) .e)) s (QX Z)
def Au:ah:=Z.aK Fj MT (bq (bq (bK a) (bK c)) (bq (bK b) (bK d))) s (CK Z)
def Av:ah:=Z.cG (aE Z EV) wq (bq (bq (bK a) (dr (bK e) c .e)) (bq (bK b) (bK d))) s (Q0 Z)
def Fm:ah:=Z.aK Fj MV (bq (bq (bK a) (bK c)) (bq (bK b) (bK d))) s (CK Z)
def Aw:ah:=Z.cG (aE Z MO) wo (bq (bq (bK a) (bK c)) (bq (dr (bK e) b .e) (bK d))) s (QY Z)
def Ra:ah:=Z.aK Fj MX (bq (bq (bK a) (bK c)) (bq (bK b) (bK d))) s (CK Z)
def Rb:ah:=Z.aK CJ M0 (bq (bq (bK a) (bK c)) (bq (bK b) .e)) s (QX Z)
def Ko:ah:=Z.aK wv M1 (bq (bq (dr (bq (bK e) .e) a .e) (bq .e (bK d))) (bq (dr .e b (bK c)) .e)) s (Q7 Z)
def Kp:ah:=Z.aK wv M2 (bq (bq (dr (bq (bK e) .e) a .e) (bq .e (bK d))) (bq (dr .e b (bK c)) .e)) s (Q7 Z)
def Ax:ah:=Z.aK wu M4 (bq (bq (bK a) .e) (bq (dr .e b (bK c)) .e)) s (Fl Z)
def uL:ah:=Z.cG (aE Z EX) wv (bq (bq (dr (bq (bK e) .e) a .e) (bq .e (bK d))) (bq (dr .e b (bK c)) .e)) s (Q6 Z)
def Kq:ah:=Z.aK adX M3 (bq (bq (bK a) (bq .e (bK d))) (bq (dr .e b (bK c)) .e)) s (Q5 Z)
def Kr:ah:=Z.aK wu M6 (bq (bq (bK a) .e) (bq (dr .e b (bK c)) .e)) s (Fl Z)
def Ks:ah:=Z.aK .e M7 .e s (bA Z lz)
def uM:ah:=Z.cG (aE Z EY) wu (bq (bq (bK a) .e) (bq (dr .e b (bK c)) .e)) s (Q4 Z)
def Kt:ah:=Z.aK adU M9 (bq (bq (bK a) .e) (bq (bK b) .e)) s (bA Z lz)
def Ay:ah:=Z.cG (aE Z EW) CJ (bq (bq (bK a) (bK c)) (bq (bK b) .e)) s (Zm Z)
def Rc:ah:=Z.aK afo Nb (bK a) s (bA Z lz)
def f3(a:ae)(s:ag):ah:=bI [a] 0 .e fun ao=>aE Z Zl ao s (bA Z lz)
def adY:f5:=ey 14
def Ku:ah:=Z.aK adY Nj (dr (bK b) a .e) s (bA Z SC)
def f11(a b:ae)(s:ag):ah:=bI [a,b] 0 .e fun ao=>aE Z Nk ao s (bA Z SC)
def adZ:fk:=fP (aE Z No) (bA Z Nq)
def Rd:fk:=dy 0 (adZ Z)
def ww:f5:=ey 202
def Re:fk:=ew ww (Z.cG (aE Z E0) ww) (Rd Z)
def Kv:ah:=Z.aK ww Nl (dr (dr .e b (bK c)) a .e) s (Re Z)
def Kw:ah:=Z.aK ww Nm (dr (dr .e b (bK c)) a .e) s (Re Z)
def Kx:ah:=Z.aK .e Nn .e s (bA Z Nq)
def uN:ah:=Z.cG (aE Z E0) ww (dr (dr .e b (bK c)) a .e) s (Rd Z)
def f12(a b:ae)(s:ag):ah:=bI [a,b] 0 .e fun ao=>aE Z Np ao s (bA Z Nq)
def ad0:f5:=ey 14
def Ky:ah:=Z.aK ad0 Nr (dr (bK b) a .e) s (bA Z SD)
def f13(a b:ae)(s:ag):ah:=bI [a,b] 0 .e fun ao=>aE Z Ns ao s (bA Z SD)
end
variable{a b c d e f g i j m o p q r t u w x y z A B C D E F H I J K L M N O P Q R S T U V:ae}{s:ag}
section
variable{Z}[h:Inhabited Z.pQ]
include h
theorem CL:B6 Z s=Z.a0 false [some (.int .i64 1)] s:=h.1.fA
theorem CM:B7 Z s=Z.a0 false [some (.int .i64 1)] s:=h.1.fA
theorem CN:B8 Z a b c d s=Z.aj s (fun e s=>rU Z a b c e s) (al .add d (.int .i64 1)):=h.1.fA
theorem CO:B9 Z a b e d s=Z.cW s (fun f s=>Z.aj s (fun g s=>Z.aj s (fun c s=>Z.cc s (fun i s=>Z.aw s (fun j s=>Z.cc s (fun m s=>Z.aw s (fun o s=>Z.aj s (fun p s=>Z.aP p (Z.cc s (fun q s=>Z.aw s (fun r s=>Z.cc s (fun t s=>Z.aw s (fun u s=>Z.aj s (fun w s=>Z.aP w (Z.a0 false [some (.int .i64 (-1))] s) (B7 Z s)) (al .lss r u)) none t) 1 b c) none q) 1 a c) (B8 Z a b e d s)) (al .neq j o)) none m) 1 b c) none i) 1 a c) (al .sub g d)) (al .sub f (.int .i64 1))) false a:=h.1.fA
theorem CP:Ca Z s=Z.a0 false [some (.int .i64 0)] s:=h.1.fA
theorem tG:rU Z c d a b s=Z.aj s (fun e s=>Z.aP e (B9 Z c d a b s) (Ca Z s)) (al .lss b a):=h.1.qo
theorem CQ:Cb Z a b s=Z.cW s (fun c s=>rU Z a b c (.int .i64 0) s) false a:=h.1.fA
theorem CR:Cc Z a b c d e f s=Z.aj s (fun g s=>rW Z a b c d e g s) (al .add f (.int .i64 1)):=h.1.fA
theorem CS:Cd Z a b c e f d s=Z.cW s (fun j s=>Z.aj s (fun m s=>Z.aj s (fun g s=>Z.aj s (fun o s=>Z.cc s (fun p s=>Z.aw s (fun q s=>Z.bY s (fun r s=>Z.aj s (fun i s=>Z.bY s (fun t s=>Z.aj s (fun u s=>Z.bY s (fun w s=>Z.cc s (fun x s=>Z.bX s (fun A s=>Z.bY s (fun y s=>Z.aj s (fun z s=>Cc Z a b c z f d s) (al .rem i y)) .u64 b) 1 x (ae.ap s.aa w)) 1 c g) .u32 u) (al .quo i t)) .u64 b) (al .or o r)) .u64 q) none p) 1 a g) (al .shl e (.int .u64 32))) (al .sub m d)) (al .sub j (.int .i64 1))) false a:=h.1.fA
theorem CT:Ce Z a b s=Z.bn s (fun c s=>Z.bY s (fun d s=>Z.a0 false [some c,some d] s) .u32 b) 135 [(ae.ap s.aa a)]:=h.1.fA
theorem tH:rW Z e f a b c d s=Z.aj s (fun g s=>Z.aP g (Cd Z e f a b c d s) (Ce Z a b s)) (al .lss d c):=h.1.qo
theorem CU:Cf Z a b s=Z.aj s (fun c s=>rY Z a c s) (al .sub b (.int .i64 1)):=h.1.fA
theorem CV:v5 Z a b s=Z.ls 1 a none (some b) none s (fun c s=>Z.a0 false [some c] s):=h.1.fA
theorem tI:rY Z c b s=Z.aj s (fun a s=>Z.af a true (fun k=>k c s) s (fun d s=>Z.af a true (fun k=>k b s) s (fun e s=>Z.af a true (fun k=>Z.aj s k (al .sub e (.int .i64 1))) s (fun f s=>Z.af a true (fun k=>Z.cc s k 1 d f) s (fun g s=>Z.af a true (fun k=>Z.aw s k none g) s (fun i s=>Z.af a true (fun k=>Z.aj s k (al .eql i (.int .u32 0))) s (fun j s=>Z.bS s (fun m s=>Z.aP m (Cf Z c b s) (v5 Z c b s)) a j (.bool false)))))))) (al .gtr b (.int .i64 0)):=h.1.qo
theorem CW:Cg Z a b c d e s=Z.aj s (fun f s=>r0 Z a b c d f s) (al .add e (.int .i64 1)):=h.1.fA
theorem CX:Ch Z d a b e c s=Z.cc s (fun i s=>Z.aw s (fun j s=>Z.bY s (fun m s=>Z.aj s (fun o s=>Z.aj s (fun f s=>Z.aj s (fun p s=>Z.aj s (fun g s=>Z.cc s (fun q s=>Z.aw s (fun r s=>Z.bY s (fun t s=>Z.aj s (fun u s=>Z.cc s (fun w s=>Z.bX s (fun F s=>Z.aj s (fun x s=>Z.aj s (fun y s=>Z.aj s (fun z s=>Z.aj s (fun A s=>Z.bY s (fun B s=>Z.cc s (fun C s=>Z.bX s (fun F s=>Cg Z d a b e c s) 1 C (ae.ap s.aa B)) 1 b z) .u32 A) (al .shr f (.int .u64 32))) (al .add y (.int .i64 1))) (al .add c x)) (al .quo a (.int .i64 32))) 1 w (ae.ap s.aa u)) 1 b g) (al .or r t)) .u32 f) none q) 1 b g) (al .add c p)) (al .quo a (.int .i64 32))) (al .shl m o)) (al .rem a (.int .i64 32))) .u64 j) none i) 1 d c:=h.1.fA
theorem CY:Ci Z a s=Z.bn s (fun b s=>Z.a0 false [some b] s) 135 [(ae.ap s.aa a)]:=h.1.fA
theorem tJ:r0 Z d e a b c s=Z.aj s (fun f s=>Z.aP f (Ch Z d e a b c s) (Ci Z a s)) (al .lss c b):=h.1.qo
theorem CZ:Cl Z a b c d e f g i s=Z.aj s (fun j s=>pz Z a b c d e f g j s) (al .add i (.int .i64 1)):=h.1.fA
theorem C0:Cm Z b c d e f g i a s=Z.cc s (fun o s=>Z.aw s (fun p s=>Z.bY s (fun q s=>Z.aj s (fun r s=>Z.aj s (fun j s=>Z.aj s (fun t s=>Z.aj s (fun u s=>Z.cc s (fun w s=>Z.aw s (fun x s=>Z.bY s (fun y s=>Z.aj s (fun z s=>Z.aj s (fun A s=>Z.aj s (fun m s=>Z.aj s (fun B s=>Z.bY s (fun C s=>Z.cc s (fun D s=>Z.bX s (fun F s=>Z.aj s (fun E s=>Cl Z b c d e t E i a s) (al .shr m (.int .u64 63))) 1 D (ae.ap s.aa C)) 1 b B) .u32 m) (al .add c a)) (al .sub A g)) (al .sub y z)) (al .and j (.int .u64 4294967295))) .u64 x) none w) 1 b u) (al .add c a)) (al .shr j (.int .u64 32))) (al .add r f)) (al .mul e q)) .u64 p) none o) 1 d a:=h.1.fA
theorem C1:Cn Z a b c d e f g s=Z.aj s (fun i s=>r2 Z a b c d e f i s) (al .add g (.int .i64 1)):=h.1.fA
theorem C2:Co Z b c d e f g a s=Z.aj s (fun j s=>Z.cc s (fun m s=>Z.aw s (fun o s=>Z.bY s (fun p s=>Z.cc s (fun q s=>Z.aw s (fun r s=>Z.bY s (fun t s=>Z.aj s (fun u s=>Z.aj s (fun i s=>Z.aj s (fun w s=>Z.bY s (fun x s=>Z.cc s (fun y s=>Z.bX s (fun A s=>Z.aj s (fun z s=>Cn Z b c d e z g a s) (al .shr i (.int .u64 32))) 1 y (ae.ap s.aa x)) 1 b w) .u32 i) (al .add c a)) (al .add u f)) (al .add p t)) .u64 r) none q) 1 d a) .u64 o) none m) 1 b j) (al .add c a):=h.1.fA
theorem C3:Cp Z a b c d e s=Z.cW s (fun g s=>Z.aj s (fun f s=>Z.cc s (fun i s=>Z.aw s (fun j s=>Z.bY s (fun m s=>Z.aj s (fun o s=>Z.cc s (fun p s=>Z.bX s (fun u s=>Z.aj s (fun q s=>Z.bY s (fun r s=>Z.a0 false [some r] s) .u32 q) (al .sub d (.int .u64 1))) 1 p (ae.ap s.aa o)) 1 a f) (al .add j m)) .u32 e) none i) 1 a f) (al .add b g)) false c:=h.1.fA
theorem tK:r2 Z a b c d e f g s=Z.aj s (fun i s=>Z.aP i (Co Z a b c d e f g s) (Cp Z a b c d e s)) (al .lss g f):=h.1.qo
theorem C4:v7 Z b c a d s=Z.cW s (fun e s=>r2 Z b c a d (.int .u64 0) e (.int .i64 0) s) false a:=h.1.fA
theorem C5:Cq Z a b c d e f s=Z.cW s (fun i s=>Z.aj s (fun j s=>Z.cc s (fun m s=>Z.aw s (fun o s=>Z.bY s (fun p s=>Z.aj s (fun q s=>Z.aj s (fun g s=>Z.cW s (fun r s=>Z.aj s (fun t s=>Z.bY s (fun u s=>Z.cc s (fun w s=>Z.bX s (fun A s=>Z.aj s (fun x s=>Z.aj s (fun y s=>Z.aP y (Z.bY s (fun z s=>Z.a0 false [some z] s) .u32 d) (v7 Z a b c d s)) (al .eql x (.int .u64 0))) (al .shr g (.int .u64 63))) 1 w (ae.ap s.aa u)) 1 a t) .u32 g) (al .add b r)) false c) (al .sub q f)) (al .sub p e)) .u64 o) none m) 1 a j) (al .add b i)) false c:=h.1.fA
theorem tL:pz Z a b c d e f g i s=Z.aj s (fun j s=>Z.aP j (Cm Z a b c d e f g i s) (Cq Z a b c d e f s)) (al .lss i g):=h.1.qo
theorem tM:v8 Z a s=Z.a0 false [some a] s:=h.1.fA
theorem C6:v9 Z c d a b e f s=Z.aj s (fun g s=>Z.aj s (fun j s=>Z.cc s (fun m s=>Z.aw s (fun o s=>Z.bY s (fun p s=>Z.aj s (fun i s=>Z.aj s (fun q s=>Z.aP q (v8 Z g s) (r3 Z c d a b g i s)) (al .geq i (.int .u64 4294967296))) (al .add f p)) .u64 o) none m) 1 a j) (al .sub b (.int .i64 1))) (al .sub e (.int .u64 1)):=h.1.fA
theorem C7:r3 Z d e f c b g s=Z.aj s (fun a s=>Z.af a false (fun k=>k b s) s (fun i s=>Z.af a false (fun k=>k f s) s (fun j s=>Z.af a false (fun k=>k c s) s (fun m s=>Z.af a false (fun k=>Z.aj s k (al .sub m (.int .i64 2))) s (fun o s=>Z.af a false (fun k=>Z.cc s k 1 j o) s (fun p s=>Z.af a false (fun k=>Z.aw s k none p) s (fun q s=>Z.af a false (fun k=>Z.bY s k .u64 q) s (fun r s=>Z.af a false (fun k=>Z.aj s k (al .mul i r)) s (fun t s=>Z.af a false (fun k=>k g s) s (fun u s=>Z.af a false (fun k=>Z.aj s k (al .shl u (.int .u64 32))) s (fun w s=>Z.af a false (fun k=>k d s) s (fun x s=>Z.af a false (fun k=>k e s) s (fun y s=>Z.af a false (fun k=>k c s) s (fun z s=>Z.af a false (fun k=>Z.aj s k (al .add y z)) s (fun A s=>Z.af a false (fun k=>Z.aj s k (al .sub A (.int .i64 2))) s (fun B s=>Z.af a false (fun k=>Z.cc s k 1 x B) s (fun C s=>Z.af a false (fun k=>Z.aw s k none C) s (fun D s=>Z.af a false (fun k=>Z.bY s k .u64 D) s (fun E s=>Z.af a false (fun k=>Z.aj s k (al .or w E)) s (fun F s=>Z.af a false (fun k=>Z.aj s k (al .gtr t F)) s (fun H s=>Z.bS s (fun I s=>Z.aP I (v9 Z d e f c b g s) (v8 Z b s)) a (.bool true) H))))))))))))))))))))) (al .geq b (.int .u64 4294967296)):=h.1.qo
theorem C8:Cr Z a b c d e f g s=Z.aj s (fun i s=>pA Z a b c d e f i s) (al .add g (.int .i64 1)):=h.1.fA
theorem C9:r5 Z c a d e b f g i j s=Z.aj s (fun m s=>Z.aj s (fun o s=>Z.bY s (fun p s=>Z.cc s (fun q s=>Z.bX s (fun r s=>Cr Z c a d e b i j s) 1 q (ae.ap s.aa p)) 1 b f) .u32 o) (al .shr g m)) (al .rem a (.int .i64 32)):=h.1.fA
theorem Da:Cs Z b d c e f g a s=Z.aj s (fun j s=>Z.cc s (fun m s=>Z.aw s (fun o s=>Z.bY s (fun i s=>Z.aj s (fun p s=>Z.aj s (fun q s=>Z.cW s (fun r s=>Z.aj s (fun t s=>Z.aP t (Z.aj s (fun u s=>Z.aj s (fun w s=>Z.cc s (fun x s=>Z.aw s (fun y s=>Z.bY s (fun z s=>Z.aj s (fun A s=>Z.aj s (fun B s=>r5 Z b d c e f a B g a s) (al .or i A)) (al .shl z (.int .u64 32))) .u64 y) none x) 1 b w) (al .add u (.int .i64 1))) (al .add a c)) (r5 Z b d c e f a i g a s)) (al .lss q r)) false b) (al .add p (.int .i64 1))) (al .add a c)) .u64 o) none m) 1 b j) (al .add a c):=h.1.fA
theorem Db:Ct Z a b s=Z.bn s (fun c s=>Z.a0 false [some c,some a] s) 135 [(ae.ap s.aa b)]:=h.1.fA
theorem tN:pA Z e f g a b c d s=Z.aj s (fun i s=>Z.aP i (Cs Z e f g a b c d s) (Ct Z a b s)) (al .lss d c):=h.1.qo
theorem Dc:Cu Z b d c s=Z.ls 1 b none (some c) none s (fun g s=>Z.bn s (fun i s=>Z.cW s (fun j s=>Z.aj s (fun a s=>Z.af a false (fun k=>k b s) s (fun m s=>Z.af a false (fun k=>k c s) s (fun o s=>Z.af a false (fun k=>Z.cc s k 1 m o) s (fun p s=>Z.af a false (fun k=>Z.aw s k none p) s (fun q s=>Z.af a false (fun k=>k d s) s (fun r s=>Z.af a false (fun k=>Z.aj s k (al .rem r (.int .i64 32))) s (fun t s=>Z.af a false (fun k=>Z.aj s k (al .shl (.int .u32 1) t)) s (fun u s=>Z.af a false (fun k=>Z.aj s k (al .sub u (.int .u32 1))) s (fun w s=>Z.af a false (fun k=>Z.aj s k (al .and q w)) s (fun x s=>Z.af a false (fun k=>Z.aj s k (al .neq x (.int .u32 0))) s (fun y s=>Z.bS s (fun z s=>Z.cW s (fun A s=>Z.aj s (fun e s=>Z.lg s (fun f s=>Z.cW s (fun B s=>pA Z b d c z f B (.int .i64 0) s) false f) [.int .u32 0] 4 e e) (al .sub A c)) false b) a (.bool true) y))))))))))) (al .gtr j (.int .i64 0))) false i) 135 [(ae.ap s.aa g)]):=h.1.fA
theorem Dd:pB Z a b s=Z.bY s (fun c s=>Z.hz s (fun d s=>Z.bY s (fun e s=>Z.aj s (fun f s=>Z.a0 false [some f] s) (al .add b e)) .i64 d) (.str [0,1,2,2,3,3,3,3,4,4,4,4,4,4,4,4,5,5,5,5,5,5,5,5,5,5,5,5,5,5,5,5,6,6,6,6,6,6,6,6,6,6,6,6,6,6,6,6,6,6,6,6,6,6,6,6,6,6,6,6,6,6,6,6,7,7,7,7,7,7,7,7,7,7,7,7,7,7,7,7,7,7,7,7,7,7,7,7,7,7,7,7,7,7,7,7,7,7,7,7,7,7,7,7,7,7,7,7,7,7,7,7,7,7,7,7,7,7,7,7,7,7,7,7,7,7,7,7,8,8,8,8,8,8,8,8,8,8,8,8,8,8,8,8,8,8,8,8,8,8,8,8,8,8,8,8,8,8,8,8,8,8,8,8,8,8,8,8,8,8,8,8,8,8,8,8,8,8,8,8,8,8,8,8,8,8,8,8,8,8,8,8,8,8,8,8,8,8,8,8,8,8,8,8,8,8,8,8,8,8,8,8,8,8,8,8,8,8,8,8,8,8,8,8,8,8,8,8,8,8,8,8,8,8,8,8,8,8,8,8,8,8,8,8,8,8,8,8,8,8,8,8,8,8,8,8]) c) .u8 a:=h.1.fA
theorem De:nU Z a b s=Z.aj s (fun c s=>Z.aP c (Z.aj s (fun d s=>Z.aj s (fun e s=>pB Z d e s) (al .add b (.int .i64 8))) (al .shr a (.int .u64 8))) (pB Z a b s)) (al .geq a (.int .u32 256)):=h.1.fA
theorem wx:Jt Z c b s=Z.aj s (fun a s=>Z.af a true (fun k=>Z.aS s k 1 c) s (fun d s=>Z.af a true (fun k=>Z.aw s k none d) s (fun e s=>Z.af a true (fun k=>k b s) s (fun f s=>Z.af a true (fun k=>Z.aj s k (al .sub f (.int .i64 1))) s (fun g s=>Z.af a true (fun k=>Z.cc s k 1 e g) s (fun i s=>Z.af a true (fun k=>Z.aw s k none i) s (fun j s=>Z.af a true (fun k=>Z.aj s k (al .neq j (.int .u32 0))) s (fun m s=>Z.bS s (fun o s=>Z.a0 false [some o] s) a m (.bool false))))))))) (al .leq b (.int .i64 128)):=h.1.fA
theorem Fo:z8 Z b c a s=Z.bn s (fun d s=>Z.ca s (fun f s=>Z.ca s (fun e s=>uz Z b a e s) 1 d) 0 d) 114 [(ae.ap s.aa c),(ae.ap s.aa a)]:=h.1.fA
theorem Fp:Jv Z b c a s=Z.aj s (fun d s=>uy Z b a d s) (al .rem c a):=h.1.fA
theorem Fq:Jw Z a b s=Z.bY s (fun d s=>Z.aj s (fun e s=>Z.bY s (fun f s=>Z.a9 s (fun g s=>Z.bn s (fun c s=>Z.ca s (fun i s=>Z.ca s (fun j s=>Z.bX s (fun r s=>Z.a0 false [k2 s a (some 2),some j] s) 2 a (ae.ap s.aa i)) 1 c) 0 c) 115 [(ae.ap s.aa (.bool false)),(ae.ap s.aa g)]) 1 [d,f]) .u32 e) (al .shr b (.int .u64 32))) .u32 b:=h.1.fA
theorem Fs:uy Z a b c s=Z.aj s (fun d s=>Z.aP d (Jv Z a b c s) (Jw Z a b s)) (al .gtr c (.int .u64 0)):=h.1.qo
theorem Ft:Jx Z a b c s=Z.bn s (fun d s=>Z.bn s (fun e s=>uy Z a d e s) 116 [(ae.ap s.aa c)]) 116 [(ae.ap s.aa b)]:=h.1.fA
theorem wy:z9 Z a b c s=Z.cW s (fun e s=>Z.aj s (fun f s=>Z.aP f (Z.bn s (fun d s=>Z.ca s (fun g s=>Z.ca s (fun i s=>Z.bX s (fun r s=>Z.a0 false [k2 s a (some 2),some i] s) 2 a (ae.ap s.aa g)) 1 d) 0 d) 115 [(ae.ap s.aa (.bool false)),(ae.ap s.aa b)]) (Jx Z a b c s)) (al .gtr e (.int .i64 2))) false b:=h.1.fA
theorem oA:uz Z e c b s=Z.cW s (fun f s=>Z.aj s (fun a s=>Z.af a true (fun k=>k c s) s (fun g s=>Z.af a true (fun k=>Z.cW s k false g) s (fun i s=>Z.af a true (fun k=>Z.aj s k (al .gtr i (.int .i64 2))) s (fun j s=>Z.af a true (fun k=>k j s) s (fun d s=>Z.af d false (fun k=>k b s) s (fun m s=>Z.af d false (fun k=>Z.cW s k false m) s (fun o s=>Z.af d false (fun k=>Z.aj s k (al .gtr o (.int .i64 2))) s (fun p s=>Z.af a true (fun k=>Z.bS s k d (.bool true) p) s (fun q s=>Z.bS s (fun r s=>Z.aP r (z8 Z e c b s) (z9 Z e c b s)) a q (.bool false)))))))))) (al .gtr f (.int .i64 0))) false b:=h.1.qo
theorem Fu:Jy Z a b c s=Z.aS s (fun d s=>Z.aw s (fun e s=>Z.aS s (fun f s=>Z.aw s (fun g s=>uz Z c e g s) none f) 1 b) none d) 1 a:=h.1.fA
theorem Df:Cv Z a b c d e f s=Z.aj s (fun g s=>r7 Z a b c d e g s) (al .add f (.int .i64 1)):=h.1.fA
theorem Dg:Cw Z f a b c g d s=Z.cW s (fun i s=>Z.aj s (fun j s=>Z.aj s (fun e s=>Z.bn s (fun m s=>Z.bn s (fun o s=>Z.cc s (fun p s=>Z.bX s (fun r s=>Cv Z f a b c g d s) 1 p (ae.ap s.aa o)) 1 c e) 138 [(ae.ap s.aa b),(ae.ap s.aa e),(ae.ap s.aa a),(ae.ap s.aa m)]) 139 [(ae.ap s.aa b),(ae.ap s.aa e),(ae.ap s.aa a)]) (al .sub j d)) (al .sub i (.int .i64 1))) false c:=h.1.fA
theorem Dh:Cx Z a b c s=Z.bn s (fun e s=>Z.bn s (fun d s=>Z.ca s (fun f s=>Z.ca s (fun i s=>Z.bn s (fun g s=>Z.a0 false [some g,some f] s) 135 [(ae.ap s.aa c)]) 1 d) 0 d) 140 [(ae.ap s.aa e),(ae.ap s.aa a)]) 135 [(ae.ap s.aa b)]:=h.1.fA
theorem tO:r7 Z a f b c d e s=Z.aj s (fun g s=>Z.aP g (Cw Z a f b c d e s) (Cx Z a b c s)) (al .lss e d):=h.1.qo
theorem Di:Cy Z b a s=Z.cW s (fun i s=>Z.aj s (fun j s=>Z.cc s (fun m s=>Z.aw s (fun o s=>Z.bn s (fun c s=>Z.bn s (fun p s=>Z.cW s (fun q s=>Z.aj s (fun d s=>Z.lg s (fun e s=>Z.bn s (fun r s=>Z.rM s (fun y s=>Z.cW s (fun t s=>Z.cW s (fun u s=>Z.aj s (fun w s=>Z.aj s (fun f s=>Z.lg s (fun g s=>Z.cW s (fun x s=>r7 Z c p e g x (.int .i64 0) s) false g) [.int .u32 0] 4 f f) (al .add w (.int .i64 1))) (al .sub t u)) false a) false b) 1 e r) 137 [(ae.ap s.aa b),(ae.ap s.aa c)]) [.int .u32 0] 4 d d) (al .add q (.int .i64 1))) false b) 137 [(ae.ap s.aa a),(ae.ap s.aa c)]) 136 [(ae.ap s.aa o)]) none m) 1 a j) (al .sub i (.int .i64 1))) false a:=h.1.fA
theorem Dj:Cz Z b a s=Z.cW s (fun d s=>Z.aj s (fun e s=>Z.aP e (Z.cc s (fun f s=>Z.aw s (fun g s=>Z.bn s (fun c s=>Z.ca s (fun i s=>Z.ca s (fun j s=>Z.a9 s (fun m s=>Z.bn s (fun o s=>Z.a0 false [some i,some o] s) 135 [(ae.ap s.aa m)]) 1 [j]) 1 c) 0 c) 134 [(ae.ap s.aa b),(ae.ap s.aa g)]) none f) 1 a (.int .i64 0)) (Cy Z b a s)) (al .eql d (.int .i64 1))) false a:=h.1.fA
theorem Dk:CA Z a b c s=Z.cW s (fun d s=>Z.lg s (fun e s=>Z.rM s (fun o s=>Z.af a true (fun k=>k b s) s (fun f s=>Z.af a true (fun k=>Z.cW s k false f) s (fun g s=>Z.af a true (fun k=>Z.aj s k (al .gtr g (.int .i64 0))) s (fun i s=>Z.bS s (fun j s=>Z.ih [.bool false,.bW 1 [] .nil] [(0,1,j),(1,1,e)] s (fun m s=>Z.bX s (fun r s=>Z.a0 false [k2 s c (some 2),some (.int .i64 0)] s) 2 c (ae.ap s.aa m))) a i (.bool false))))) 1 e b) [.int .u32 0] 4 d d) false b:=h.1.fA
theorem Dl:CB Z a b c d s=Z.aj s (fun e s=>nV Z a b c e s) (al .add d (.int .i64 1)):=h.1.fA
theorem Dm:CC Z b c d a s=Z.cc s (fun e s=>Z.aw s (fun f s=>Z.bY s (fun g s=>Z.aj s (fun i s=>Z.aj s (fun j s=>Z.aj s (fun m s=>CB Z b m d a s) (al .or c j)) (al .shl g i)) (al .mul (.int .i64 32) a)) .u64 f) none e) 1 b a:=h.1.fA
theorem Dn:CD Z a s=Z.a0 false [some a] s:=h.1.fA
theorem tP:nV Z d a b c s=Z.aj s (fun e s=>Z.aP e (CC Z d a b c s) (CD Z a s)) (al .lss c b):=h.1.qo
theorem Fv:JE Z a s=Z.aS s (fun d s=>Z.aw s (fun e s=>Z.aS s (fun f s=>Z.aw s (fun g s=>Z.bn s (fun b s=>Z.ca s (fun i s=>Z.ca s (fun o s=>Z.ig (.ref (.l s.own.length) 0) (s.new (.cells [.bool false,.bW 1 [] .nil])) (fun c s=>Z.bX s (fun r s=>Z.aw s (fun j s=>Z.bn s (fun m s=>Z.a0 false [some m] s) 89 [(ae.ap s.aa j)]) (some 2) c) 2 c (ae.ap s.aa i))) 1 b) 0 b) 90 [(ae.ap s.aa e),(ae.ap s.aa g)]) (some 2) f) 2 a) (some 2) d) 0 a:=h.1.fA
theorem Fw:JF Z a s=Z.aS s (fun b s=>Z.aw s (fun c s=>Z.bn s (fun d s=>Z.aP d (Z.a0 false [some (.bool true)] s) (JE Z a s)) 89 [(ae.ap s.aa c)]) (some 2) b) 2 a:=h.1.fA
theorem wz:Aa Z a b c d e s=Z.aj s (fun f s=>uA Z a b c d f s) (al .add e (.int .i64 1)):=h.1.fA
theorem Fx:JG Z a b f c d e s=Z.aw s (fun g s=>Z.bn s (fun i s=>Z.aP i (Z.aj s (fun j s=>Aa Z a j c d e s) (al .add b (.int .i64 1))) (Aa Z a b c d e s)) 43 [(ae.ap s.aa g)]) (some 12) f:=h.1.fA
theorem Fy:JH Z b d c e a s=Z.cc s (fun g s=>Z.aw s (fun i s=>Z.ig (.ref (.l s.own.length) 0) (s.new (.cells [.str [],.int .i64 0,.bW 1 [] .nil,.bool false,.bW 1 [] .nil,.bool false,.bW 1 [] .nil,.bool false,.bW 1 [] .nil,.bool false,.bW 1 [] .nil,.int .i64 0])) (fun f s=>Z.bX s (fun r s=>Z.aj s (fun j s=>Z.ls 12 b none (some j) none s (fun m s=>Z.bn s (fun o s=>Z.aj s (fun p s=>Z.aP p (Z.a0 false [some (.int .i64 120)] s) (JG Z b d f c e a s)) (kn .not o)) 42 [(ae.ap s.aa m)])) (al .add a (.int .i64 1))) 12 f (ae.ap s.aa i))) (some 12) g) 12 c a:=h.1.fA
theorem Fz:JI Z s=Z.a0 false [some (.int .i64 0)] s:=h.1.fA
theorem FA:Ac Z b d s=Z.cW s (fun e s=>Z.aj s (fun c s=>Z.af c false (fun k=>k d s) s (fun f s=>Z.af c false (fun k=>Z.aj s k (al .gtr f (.int .i64 5))) s (fun g s=>Z.bS s (fun a s=>Z.af a false (fun k=>k b s) s (fun i s=>Z.af a false (fun k=>Z.bn s k 44 [(ae.ap s.aa i)]) s (fun j s=>Z.af a false (fun k=>Z.cW s k false j) s (fun m s=>Z.af a false (fun k=>Z.aj s k (al .gtr m (.int .i64 20))) s (fun o s=>Z.bS s (fun p s=>Z.aP p (Z.a0 false [some (.int .i64 111)] s) (JI Z s)) a (.bool true) o))))) c (.bool true) g))) (al .gtr e (.int .i64 40))) false b:=h.1.fA
theorem wA:uA Z a b e c d s=Z.aj s (fun f s=>Z.aP f (JH Z a b e c d s) (Ac Z a b s)) (al .lss d c):=h.1.qo
theorem FB:JK Z a b c d e f g i s=Z.aj s (fun j s=>uB Z a b c d e f g j s) (al .add i (.int .i64 1)):=h.1.fA
theorem FC:JL Z d e j f m g o b s=Z.cc s (fun p s=>Z.aw s (fun i s=>Z.aj s (fun c s=>Z.af c false (fun k=>k i s) s (fun q s=>Z.af c false (fun k=>k e s) s (fun r s=>Z.af c false (fun k=>Z.aj s k (al .geq q r)) s (fun t s=>Z.bS s (fun a s=>Z.af a false (fun k=>k f s) s (fun u s=>Z.af a false (fun k=>k b s) s (fun w s=>Z.af a false (fun k=>Z.cc s k 1 u w) s (fun x s=>Z.af a false (fun k=>Z.aw s k none x) s (fun y s=>Z.af a false (fun k=>k d s) s (fun z s=>Z.af a false (fun k=>k i s) s (fun A s=>Z.af a false (fun k=>Z.cc s k 12 z A) s (fun B s=>Z.af a false (fun k=>Z.aw s k (some 12) B) s (fun C s=>Z.af a false (fun k=>Z.gR s k 48 [(ae.ap s.aa C)]) s (fun D s=>Z.af a false (fun k=>Z.bn s k 50 [(ae.ap s.aa y),(ae.ap s.aa D)]) s (fun E s=>Z.af a false (fun k=>Z.aj s k (kn .not E)) s (fun F s=>Z.bS s (fun H s=>Z.aP H (Z.a0 false [some (.bool false)] s) (JK Z d e j f m g o b s)) a (.bool true) F)))))))))))) c (.bool true) t)))) (al .lss i (.int .i64 0))) none p) 1 g b:=h.1.fA
theorem FD:Ad Z a b c s=Z.ls 12 a none (some b) none s (fun d s=>Z.ig (.fn 74 [(ae.ap s.aa c)]) s (fun e s=>Z.bn s (fun f s=>Z.aj s (fun g s=>Z.a0 false [some g] s) (kn .not f)) 73 [(ae.ap s.aa d),(ae.ap s.aa e)])):=h.1.fA
theorem FE:Ae Z m o a s=Z.aS s (fun q s=>Z.aw s (fun r s=>Z.aj s (fun i s=>Z.af i false (fun k=>Z.aS s k 1 a) s (fun t s=>Z.af i false (fun k=>Z.aw s k none t) s (fun u s=>Z.af i false (fun k=>Z.aj s k (al .eql u (.int .i64 2))) s (fun w s=>Z.bS s (fun b s=>Z.aS s (fun x s=>Z.aw s (fun y s=>Z.aj s (fun p s=>Z.af b true (fun k=>Z.aS s k 3 a) s (fun z s=>Z.af b true (fun k=>Z.aw s k (some 4) z) s (fun A s=>Z.af b true (fun k=>Z.bn s k 71 [(ae.ap s.aa A)]) s (fun B s=>Z.af b true (fun k=>Z.aj s k (kn .not B)) s (fun C s=>Z.bS s (fun c s=>Z.af c false (fun k=>k b s) s (fun D s=>Z.af c false (fun k=>Z.aj s k (kn .not D)) s (fun E s=>Z.af c false (fun k=>k E s) s (fun d s=>Z.af d true (fun k=>Z.aS s k 3 a) s (fun F s=>Z.af d true (fun k=>Z.aw s k (some 4) F) s (fun H s=>Z.af d true (fun k=>Z.bn s k 72 [(ae.ap s.aa H)]) s (fun I s=>Z.af d true (fun k=>Z.aj s k (kn .not I)) s (fun J s=>Z.af c false (fun k=>Z.bS s k d J (.bool false)) s (fun K s=>Z.bS s (fun j s=>Z.af j false (fun k=>k p s) s (fun L s=>Z.af j false (fun k=>k L s) s (fun e s=>Z.af e true (fun k=>Z.aS s k 7 a) s (fun M s=>Z.af e true (fun k=>Z.aw s k (some 4) M) s (fun N s=>Z.af e true (fun k=>Z.bn s k 71 [(ae.ap s.aa N)]) s (fun O s=>Z.af e true (fun k=>Z.aj s k (kn .not O)) s (fun P s=>Z.af j false (fun k=>Z.bS s k e P (.bool false)) s (fun Q s=>Z.bS s (fun f s=>Z.af f false (fun k=>k p s) s (fun R s=>Z.af f false (fun k=>Z.aj s k (kn .not R)) s (fun S s=>Z.af f false (fun k=>k S s) s (fun g s=>Z.af g true (fun k=>Z.aS s k 7 a) s (fun T s=>Z.af g true (fun k=>Z.aw s k (some 4) T) s (fun U s=>Z.af g true (fun k=>Z.bn s k 72 [(ae.ap s.aa U)]) s (fun V s=>Z.af g true (fun k=>Z.aj s k (kn .not V)) s (fun W s=>Z.af f false (fun k=>Z.bS s k g W (.bool false)) s (fun Y s=>Z.bS s (fun ab s=>Z.aP ab (Z.a0 false [some (.bool false)] s) (Ad Z m o a s)) f (.bool true) Y))))))))) j (.bool true) Q)))))))) c (.bool true) K))))))))) b C (.bool false)))))) (al .eql y (.int .i64 1))) none x) 1 a) i (.bool true) w)))) (al .eql r (.int .i64 1))) none q) 1 a:=h.1.fA
theorem FF:Af Z f g a e s=Z.aS s (fun i s=>Z.aw s (fun j s=>Z.aj s (fun c s=>Z.af c false (fun k=>Z.aS s k 11 a) s (fun m s=>Z.af c false (fun k=>Z.aw s k none m) s (fun o s=>Z.af c false (fun k=>Z.aj s k (al .eql o (.int .i64 2))) s (fun p s=>Z.bS s (fun q s=>Z.aj s (fun b s=>Z.af b false (fun k=>k e s) s (fun r s=>Z.af b false (fun k=>Z.aj s k (kn .not r)) s (fun t s=>Z.af b false (fun k=>k t s) s (fun d s=>Z.af d true (fun k=>Z.aS s k 11 a) s (fun u s=>Z.af d true (fun k=>Z.aw s k none u) s (fun w s=>Z.af d true (fun k=>Z.aj s k (al .neq w (.int .i64 0))) s (fun x s=>Z.af b false (fun k=>Z.bS s k d x (.bool false)) s (fun y s=>Z.bS s (fun z s=>Z.aP z (Z.a0 false [some (.bool false)] s) (Ae Z f g a s)) b (.bool true) y)))))))) ((o1 .bool e q).map fun b=>.bool (bif true then !b else b))) c (.bool true) p)))) (al .eql j (.int .i64 1))) none i) 11 a:=h.1.fA
theorem wB:uB Z a b c g d i e f s=Z.aj s (fun j s=>Z.aP j (JL Z a b c g d i e f s) (Af Z a b c d s)) (al .lss f e):=h.1.qo
theorem FG:JM Z b c a d e s=Z.aS s (fun g s=>Z.aw s (fun f s=>Z.cW s (fun i s=>uB Z b c a d e f i (.int .i64 0) s) false f) none g) 2 a:=h.1.fA
theorem wC:r9 Z a b c d s=Z.aj s (fun e s=>uC Z a b c e s) (al .add d (.int .i64 1)):=h.1.fA
theorem FH:JN Z c b d a s=Z.cc s (fun g s=>Z.aw s (fun i s=>Z.ig (.ref (.l s.own.length) 0) (s.new (.cells [.str [],.int .i64 0,.bW 1 [] .nil,.bool false,.bW 1 [] .nil,.bool false,.bW 1 [] .nil,.bool false,.bW 1 [] .nil,.bool false,.bW 1 [] .nil,.int .i64 0])) (fun e s=>Z.bX s (fun y s=>Z.aS s (fun j s=>Z.aw s (fun f s=>Z.aj s (fun m s=>Z.aP m (Z.ih [.int .i64 0,.int .i64 0] [(0,1,a),(1,1,(.int .i64 0))] s (fun o s=>Z.ih [.int .i64 0,.int .i64 0] [(0,1,a),(1,1,(.int .i64 1))] s (fun p s=>Z.a9 s (fun q s=>Z.fO s (fun r s=>r9 Z r b d a s) 2 16 (some (.l 0)) c q) 2 [o,p]))) (Z.aj s (fun t s=>Z.aP t (Z.ih [.int .i64 0,.int .i64 0] [(0,1,a),(1,1,(.int .i64 0))] s (fun u s=>Z.a9 s (fun w s=>Z.fO s (fun x s=>r9 Z x b d a s) 2 16 (some (.l 0)) c w) 2 [u])) (r9 Z c b d a s)) (al .eql f (.int .i64 2)))) (al .eql f (.int .i64 1))) none j) 1 e) 12 e (ae.ap s.aa i))) (some 12) g) 12 b a:=h.1.fA
theorem FI:JO Z a s=Z.a0 false [some a] s:=h.1.fA
theorem wD:uC Z a d b c s=Z.aj s (fun e s=>Z.aP e (JN Z a d b c s) (JO Z a s)) (al .lss c b):=h.1.qo
theorem FJ:JP Z s=Z.a0 false [some (.int .i64 0)] s:=h.1.fA
theorem FK:Ag Z c b s=Z.aj s (fun a s=>Z.af a false (fun k=>k b s) s (fun d s=>Z.af a false (fun k=>k c s) s (fun e s=>Z.af a false (fun k=>Z.cW s k false e) s (fun f s=>Z.af a false (fun k=>Z.aj s k (al .geq d f)) s (fun g s=>Z.bS s (fun i s=>Z.aP i (Z.a0 false [some (.int .i64 1)] s) (JP Z s)) a (.bool true) g))))) (al .lss b (.int .i64 0)):=h.1.fA
theorem FL:JQ Z s=Z.a0 false [some (.bW 1 [] .nil),some (.int .i64 0),some (.bool false)] s:=h.1.fA
theorem FM:Ah Z a b s=Z.aP b (Z.a9 s (fun c s=>Z.a0 false [some c,some (.int .i64 2),some (.bool false)] s) 1 [(.int .i64 1),(.int .i64 2)]) (Z.aj s (fun d s=>Z.aP d (Z.a9 s (fun e s=>Z.a0 false [some e,some (.int .i64 1),some (.bool false)] s) 1 [(.int .i64 1),(.int .i64 1)]) (Z.aj s (fun f s=>Z.aP f (Z.a9 s (fun g s=>Z.a0 false [some g,some (.int .i64 1),some (.bool false)] s) 1 [(.int .i64 1),(.int .i64 2)]) (Z.aj s (fun i s=>Z.aP i (Z.a9 s (fun j s=>Z.a0 false [some j,some (.int .i64 2),some (.bool true)] s) 1 [(.int .i64 1),(.int .i64 1),(.int .i64 1)]) (Z.aj s (fun m s=>Z.aP m (Z.a9 s (fun o s=>Z.a0 false [some o,some (.int .i64 2),some (.bool true)] s) 1 [(.int .i64 1),(.int .i64 3)]) (Z.aj s (fun p s=>Z.aP p (Z.a9 s (fun q s=>Z.a0 false [some q,some (.int .i64 1),some (.bool false)] s) 1 [(.int .i64 3)]) (JQ Z s)) (al .eql a (.int .i64 16)))) (al .eql a (.int .i64 15)))) (al .eql a (.int .i64 14)))) (al .eql a (.int .i64 13)))) (al .eql a (.int .i64 12))):=h.1.fA
theorem FN:Ai Z a b s=Z.aP b (Z.a9 s (fun d s=>Z.a0 false [some d,some (.int .i64 3),some (.bool false)] s) 1 [(.int .i64 1),(.int .i64 1),(.int .i64 1)]) (Z.aj s (fun e s=>Z.aP e (Z.a9 s (fun f s=>Z.a0 false [some f,some (.int .i64 1),some (.bool true)] s) 1 [(.int .i64 2),(.int .i64 3)]) (Z.aj s (fun g s=>Z.aP g (Z.a9 s (fun i s=>Z.a0 false [some i,some (.int .i64 1),some (.bool true)] s) 1 [(.int .i64 3),(.int .i64 3)]) (Z.aj s (fun c s=>Z.aP c (Ah Z a c s) (Z.aj s (fun j s=>Ah Z a j s) (al .eql a (.int .i64 11)))) (al .eql a (.int .i64 10)))) (al .eql a (.int .i64 9)))) (al .eql a (.int .i64 8))):=h.1.fA
theorem FO:JR Z s=Z.a0 false [some (.bW 1 [] .nil),some (.int .i64 0),some (.bool false)] s:=h.1.fA
theorem FP:Aj Z a b s=Z.aP b (Z.a9 s (fun c s=>Z.a0 false [some c,some (.int .i64 2),some (.bool false)] s) 1 [(.int .i64 1),(.int .i64 2)]) (Z.aj s (fun d s=>Z.aP d (Z.a9 s (fun e s=>Z.a0 false [some e,some (.int .i64 1),some (.bool false)] s) 1 [(.int .i64 1),(.int .i64 1)]) (Z.aj s (fun f s=>Z.aP f (Z.a9 s (fun g s=>Z.a0 false [some g,some (.int .i64 1),some (.bool false)] s) 1 [(.int .i64 1),(.int .i64 2)]) (Z.aj s (fun i s=>Z.aP i (Z.a9 s (fun j s=>Z.a0 false [some j,some (.int .i64 2),some (.bool true)] s) 1 [(.int .i64 1),(.int .i64 1),(.int .i64 1)]) (Z.aj s (fun m s=>Z.aP m (Z.a9 s (fun o s=>Z.a0 false [some o,some (.int .i64 2),some (.bool true)] s) 1 [(.int .i64 1),(.int .i64 3)]) (Z.aj s (fun p s=>Z.aP p (Z.a9 s (fun q s=>Z.a0 false [some q,some (.int .i64 1),some (.bool false)] s) 1 [(.int .i64 3)]) (JR Z s)) (al .eql a (.int .i64 16)))) (al .eql a (.int .i64 15)))) (al .eql a (.int .i64 14)))) (al .eql a (.int .i64 13)))) (al .eql a (.int .i64 12))):=h.1.fA
theorem FQ:Ak Z a b s=Z.aP b (Z.a9 s (fun d s=>Z.a0 false [some d,some (.int .i64 3),some (.bool false)] s) 1 [(.int .i64 1),(.int .i64 1),(.int .i64 1)]) (Z.aj s (fun e s=>Z.aP e (Z.a9 s (fun f s=>Z.a0 false [some f,some (.int .i64 1),some (.bool true)] s) 1 [(.int .i64 2),(.int .i64 3)]) (Z.aj s (fun g s=>Z.aP g (Z.a9 s (fun i s=>Z.a0 false [some i,some (.int .i64 1),some (.bool true)] s) 1 [(.int .i64 3),(.int .i64 3)]) (Z.aj s (fun c s=>Z.aP c (Aj Z a c s) (Z.aj s (fun j s=>Aj Z a j s) (al .eql a (.int .i64 11)))) (al .eql a (.int .i64 10)))) (al .eql a (.int .i64 9)))) (al .eql a (.int .i64 8))):=h.1.fA
theorem FR:JS Z a b c d s=Z.aj s (fun e s=>uD Z a b c e s) (al .add d (.int .i64 1)):=h.1.fA
theorem FT:JT Z b c d a s=Z.cc s (fun e s=>Z.aw s (fun f s=>Z.rL s (fun g s=>Z.aP g (Z.a0 false [some a] s) (JS Z b c d a s)) c [(ae.ap s.aa f)]) (some 12) e) 12 b a:=h.1.fA
theorem FU:JU Z s=Z.a0 false [some (.int .i64 (-1))] s:=h.1.fA
theorem wE:uD Z c d a b s=Z.aj s (fun e s=>Z.aP e (JT Z c d a b s) (JU Z s)) (al .lss b a):=h.1.qo
theorem FV:JV Z a b s=Z.aj s (fun c s=>Z.mh 1 24 a (some (.int .i64 1)) (some c) none s (fun d s=>Z.lf s (fun e s=>Z.a0 false [some e] s) d)) (al .add (.int .i64 1) b):=h.1.fA
theorem FW:Al Z d a b s=Z.bn s (fun c s=>Z.aj s (fun e s=>Z.mh 1 24 a (some (.int .i64 1)) (some e) none s (fun f s=>Z.bn s (fun p s=>Z.aj s (fun g s=>Z.aP g (Z.mg s (fun i s=>Z.bX s (fun r s=>Z.aj s (fun j s=>Z.mh 1 24 a none (some j) none s (fun m s=>Z.lf s (fun o s=>Z.a0 false [some o] s) m)) (al .add (.int .i64 1) c)) 1 i (ae.ap s.aa (.int .u8 45))) 1 24 a (.int .i64 0)) (JV Z a c s)) (al .lss d (.int .i64 0))) 97 [(ae.ap s.aa f),(ae.ap s.aa b)])) (al .add (.int .i64 1) c)) 96 [(ae.ap s.aa b)]:=h.1.fA
theorem FX:JW Z a s=Z.ig (.ref (.l s.own.length) 0) (s.new (.cells [.int .u8 0,.int .u8 0,.int .u8 0,.int .u8 0,.int .u8 0,.int .u8 0,.int .u8 0,.int .u8 0,.int .u8 0,.int .u8 0,.int .u8 0,.int .u8 0,.int .u8 0,.int .u8 0,.int .u8 0,.int .u8 0,.int .u8 0,.int .u8 0,.int .u8 0,.int .u8 0,.int .u8 0,.int .u8 0,.int .u8 0,.int .u8 0])) (fun b s=>Z.bY s (fun c s=>Z.aj s (fun d s=>Z.aP d (Z.aj s (fun e s=>Al Z a b e s) (kn .neg c)) (Al Z a b c s)) (al .lss a (.int .i64 0))) .u64 a):=h.1.fA
theorem FY:JX Z a s=Z.aj s (fun b s=>Z.aj s (fun c s=>Z.aj s (fun d s=>Z.vL (.str [48,48,48,49,48,50,48,51,48,52,48,53,48,54,48,55,48,56,48,57,49,48,49,49,49,50,49,51,49,52,49,53,49,54,49,55,49,56,49,57,50,48,50,49,50,50,50,51,50,52,50,53,50,54,50,55,50,56,50,57,51,48,51,49,51,50,51,51,51,52,51,53,51,54,51,55,51,56,51,57,52,48,52,49,52,50,52,51,52,52,52,53,52,54,52,55,52,56,52,57,53,48,53,49,53,50,53,51,53,52,53,53,53,54,53,55,53,56,53,57,54,48,54,49,54,50,54,51,54,52,54,53,54,54,54,55,54,56,54,57,55,48,55,49,55,50,55,51,55,52,55,53,55,54,55,55,55,56,55,57,56,48,56,49,56,50,56,51,56,52,56,53,56,54,56,55,56,56,56,57,57,48,57,49,57,50,57,51,57,52,57,53,57,54,57,55,57,56,57,57]) (some b) (some d) s (fun e s=>Z.a0 false [some e] s)) (al .add c (.int .i64 2))) (al .mul a (.int .i64 2))) (al .mul a (.int .i64 2)):=h.1.fA
theorem wF:oy Z a b c s=Z.aj s (fun d s=>Z.aP d (Z.aj s (fun e s=>Z.bY s (fun f s=>Z.cc s (fun g s=>Z.bX s (fun r s=>Z.a0 false [] s) 1 g (ae.ap s.aa f)) 1 a (.int .i64 0)) .u8 e) (al .add (.int .u32 48) c)) (Z.a0 false [] s)) (al .gtr b (.int .i64 0)):=h.1.fA
theorem wG:oz Z b a c s=Z.aj s (fun e s=>Z.aP e (Z.aj s (fun f s=>Z.aj s (fun d s=>Z.aj s (fun g s=>Z.aj s (fun i s=>Z.aj s (fun j s=>Z.aj s (fun m s=>Z.hz s (fun o s=>Z.hz s (fun p s=>Z.cc s (fun q s=>Z.bX s (fun u s=>Z.cc s (fun r s=>Z.bX s (fun u s=>Z.aj s (fun t s=>oy Z b t g s) (al .sub a (.int .i64 2))) 1 r (ae.ap s.aa p)) 1 b j) 1 q (ae.ap s.aa o)) 1 b i) (.str [48,48,48,49,48,50,48,51,48,52,48,53,48,54,48,55,48,56,48,57,49,48,49,49,49,50,49,51,49,52,49,53,49,54,49,55,49,56,49,57,50,48,50,49,50,50,50,51,50,52,50,53,50,54,50,55,50,56,50,57,51,48,51,49,51,50,51,51,51,52,51,53,51,54,51,55,51,56,51,57,52,48,52,49,52,50,52,51,52,52,52,53,52,54,52,55,52,56,52,57,53,48,53,49,53,50,53,51,53,52,53,53,53,54,53,55,53,56,53,57,54,48,54,49,54,50,54,51,54,52,54,53,54,54,54,55,54,56,54,57,55,48,55,49,55,50,55,51,55,52,55,53,55,54,55,55,55,56,55,57,56,48,56,49,56,50,56,51,56,52,56,53,56,54,56,55,56,56,56,57,57,48,57,49,57,50,57,51,57,52,57,53,57,54,57,55,57,56,57,57]) d) (.str [48,48,48,49,48,50,48,51,48,52,48,53,48,54,48,55,48,56,48,57,49,48,49,49,49,50,49,51,49,52,49,53,49,54,49,55,49,56,49,57,50,48,50,49,50,50,50,51,50,52,50,53,50,54,50,55,50,56,50,57,51,48,51,49,51,50,51,51,51,52,51,53,51,54,51,55,51,56,51,57,52,48,52,49,52,50,52,51,52,52,52,53,52,54,52,55,52,56,52,57,53,48,53,49,53,50,53,51,53,52,53,53,53,54,53,55,53,56,53,57,54,48,54,49,54,50,54,51,54,52,54,53,54,54,54,55,54,56,54,57,55,48,55,49,55,50,55,51,55,52,55,53,55,54,55,55,55,56,55,57,56,48,56,49,56,50,56,51,56,52,56,53,56,54,56,55,56,56,56,57,57,48,57,49,57,50,57,51,57,52,57,53,57,54,57,55,57,56,57,57]) m) (al .add d (.int .u32 1))) (al .sub a (.int .i64 2))) (al .sub a (.int .i64 1))) (al .quo c (.int .u32 100))) (al .mul f (.int .u32 2))) (al .rem c (.int .u32 100))) (oy Z b a c s)) (al .geq a (.int .i64 2)):=h.1.fA
theorem wH:uE Z b d a s=Z.bY s (fun c s=>Z.aj s (fun i s=>Z.aP i (Z.aj s (fun e s=>Z.aj s (fun j s=>Z.aj s (fun m s=>Z.aj s (fun f s=>Z.aj s (fun o s=>Z.aj s (fun g s=>Z.aj s (fun p s=>Z.aj s (fun q s=>Z.aj s (fun r s=>Z.hz s (fun t s=>Z.hz s (fun u s=>Z.cc s (fun w s=>Z.bX s (fun H s=>Z.cc s (fun x s=>Z.bX s (fun H s=>Z.aj s (fun y s=>Z.aj s (fun z s=>Z.aj s (fun A s=>Z.hz s (fun B s=>Z.hz s (fun C s=>Z.cc s (fun D s=>Z.bX s (fun H s=>Z.cc s (fun E s=>Z.bX s (fun H s=>Z.aj s (fun F s=>oz Z b F j s) (al .sub a (.int .i64 4))) 1 E (ae.ap s.aa C)) 1 b z) 1 D (ae.ap s.aa B)) 1 b y) (.str [48,48,48,49,48,50,48,51,48,52,48,53,48,54,48,55,48,56,48,57,49,48,49,49,49,50,49,51,49,52,49,53,49,54,49,55,49,56,49,57,50,48,50,49,50,50,50,51,50,52,50,53,50,54,50,55,50,56,50,57,51,48,51,49,51,50,51,51,51,52,51,53,51,54,51,55,51,56,51,57,52,48,52,49,52,50,52,51,52,52,52,53,52,54,52,55,52,56,52,57,53,48,53,49,53,50,53,51,53,52,53,53,53,54,53,55,53,56,53,57,54,48,54,49,54,50,54,51,54,52,54,53,54,54,54,55,54,56,54,57,55,48,55,49,55,50,55,51,55,52,55,53,55,54,55,55,55,56,55,57,56,48,56,49,56,50,56,51,56,52,56,53,56,54,56,55,56,56,56,57,57,48,57,49,57,50,57,51,57,52,57,53,57,54,57,55,57,56,57,57]) f) (.str [48,48,48,49,48,50,48,51,48,52,48,53,48,54,48,55,48,56,48,57,49,48,49,49,49,50,49,51,49,52,49,53,49,54,49,55,49,56,49,57,50,48,50,49,50,50,50,51,50,52,50,53,50,54,50,55,50,56,50,57,51,48,51,49,51,50,51,51,51,52,51,53,51,54,51,55,51,56,51,57,52,48,52,49,52,50,52,51,52,52,52,53,52,54,52,55,52,56,52,57,53,48,53,49,53,50,53,51,53,52,53,53,53,54,53,55,53,56,53,57,54,48,54,49,54,50,54,51,54,52,54,53,54,54,54,55,54,56,54,57,55,48,55,49,55,50,55,51,55,52,55,53,55,54,55,55,55,56,55,57,56,48,56,49,56,50,56,51,56,52,56,53,56,54,56,55,56,56,56,57,57,48,57,49,57,50,57,51,57,52,57,53,57,54,57,55,57,56,57,57]) A) (al .add f (.int .u32 1))) (al .sub a (.int .i64 4))) (al .sub a (.int .i64 3))) 1 x (ae.ap s.aa u)) 1 b q) 1 w (ae.ap s.aa t)) 1 b p) (.str [48,48,48,49,48,50,48,51,48,52,48,53,48,54,48,55,48,56,48,57,49,48,49,49,49,50,49,51,49,52,49,53,49,54,49,55,49,56,49,57,50,48,50,49,50,50,50,51,50,52,50,53,50,54,50,55,50,56,50,57,51,48,51,49,51,50,51,51,51,52,51,53,51,54,51,55,51,56,51,57,52,48,52,49,52,50,52,51,52,52,52,53,52,54,52,55,52,56,52,57,53,48,53,49,53,50,53,51,53,52,53,53,53,54,53,55,53,56,53,57,54,48,54,49,54,50,54,51,54,52,54,53,54,54,54,55,54,56,54,57,55,48,55,49,55,50,55,51,55,52,55,53,55,54,55,55,55,56,55,57,56,48,56,49,56,50,56,51,56,52,56,53,56,54,56,55,56,56,56,57,57,48,57,49,57,50,57,51,57,52,57,53,57,54,57,55,57,56,57,57]) g) (.str [48,48,48,49,48,50,48,51,48,52,48,53,48,54,48,55,48,56,48,57,49,48,49,49,49,50,49,51,49,52,49,53,49,54,49,55,49,56,49,57,50,48,50,49,50,50,50,51,50,52,50,53,50,54,50,55,50,56,50,57,51,48,51,49,51,50,51,51,51,52,51,53,51,54,51,55,51,56,51,57,52,48,52,49,52,50,52,51,52,52,52,53,52,54,52,55,52,56,52,57,53,48,53,49,53,50,53,51,53,52,53,53,53,54,53,55,53,56,53,57,54,48,54,49,54,50,54,51,54,52,54,53,54,54,54,55,54,56,54,57,55,48,55,49,55,50,55,51,55,52,55,53,55,54,55,55,55,56,55,57,56,48,56,49,56,50,56,51,56,52,56,53,56,54,56,55,56,56,56,57,57,48,57,49,57,50,57,51,57,52,57,53,57,54,57,55,57,56,57,57]) r) (al .add g (.int .u32 1))) (al .sub a (.int .i64 2))) (al .sub a (.int .i64 1))) (al .mul o (.int .u32 2))) (al .rem e (.int .u32 100))) (al .mul m (.int .u32 2))) (al .quo e (.int .u32 100))) (al .quo c (.int .u32 10000))) (al .rem c (.int .u32 10000))) (oz Z b a c s)) (al .geq a (.int .i64 4))) .u32 d:=h.1.fA
theorem FZ:JY Z b c a s=Z.aj s (fun d s=>Z.aP d (XD Z b c a s) (uE Z b c a s)) (al .geq a (.int .i64 8)):=h.1.qo
theorem Dp:sa Z a b s=Z.bY s (fun c s=>Z.hz s (fun d s=>Z.bY s (fun e s=>Z.aj s (fun f s=>Z.a0 false [some f] s) (al .add b e)) .i64 d) (.str [0,1,2,2,3,3,3,3,4,4,4,4,4,4,4,4,5,5,5,5,5,5,5,5,5,5,5,5,5,5,5,5,6,6,6,6,6,6,6,6,6,6,6,6,6,6,6,6,6,6,6,6,6,6,6,6,6,6,6,6,6,6,6,6,7,7,7,7,7,7,7,7,7,7,7,7,7,7,7,7,7,7,7,7,7,7,7,7,7,7,7,7,7,7,7,7,7,7,7,7,7,7,7,7,7,7,7,7,7,7,7,7,7,7,7,7,7,7,7,7,7,7,7,7,7,7,7,7,8,8,8,8,8,8,8,8,8,8,8,8,8,8,8,8,8,8,8,8,8,8,8,8,8,8,8,8,8,8,8,8,8,8,8,8,8,8,8,8,8,8,8,8,8,8,8,8,8,8,8,8,8,8,8,8,8,8,8,8,8,8,8,8,8,8,8,8,8,8,8,8,8,8,8,8,8,8,8,8,8,8,8,8,8,8,8,8,8,8,8,8,8,8,8,8,8,8,8,8,8,8,8,8,8,8,8,8,8,8,8,8,8,8,8,8,8,8,8,8,8,8,8,8,8,8,8,8]) c) .u8 a:=h.1.fA
theorem tQ:sb Z a b s=Z.aj s (fun c s=>Z.aP c (Z.aj s (fun d s=>Z.aj s (fun e s=>sa Z d e s) (al .add b (.int .i64 8))) (al .shr a (.int .u64 8))) (sa Z a b s)) (al .geq a (.int .u64 256)):=h.1.fA
theorem Dq:wh Z a b s=Z.aj s (fun c s=>Z.aP c (Z.aj s (fun d s=>Z.aj s (fun e s=>sb Z d e s) (al .add b (.int .i64 16))) (al .shr a (.int .u64 16))) (sb Z a b s)) (al .geq a (.int .u64 65536)):=h.1.fA
theorem Dr:CE Z s=Z.a0 false [some (.int .i64 0)] s:=h.1.fA
theorem F0:J3 Z a b c d e f g i j m o p q s=Z.aj s (fun r s=>uG Z a b c d e f g i j m o p r s) (al .add q (.int .i64 1)):=h.1.fA
theorem F1:J4 Z e f b g i j m o c p d q a s=Z.cc s (fun r s=>Z.aw s (fun t s=>Z.cc s (fun u s=>Z.aw s (fun w s=>Z.bn s (fun x s=>Z.a9 s (fun y s=>Z.fO s (fun z s=>J3 Z e f b g i j m o c p d z a s) 1 8 (some (.l 0)) q y) 1 [x]) 35 [(ae.ap s.aa b),(ae.ap s.aa t),(ae.ap s.aa w)]) none u) 1 d a) none r) 1 c a:=h.1.fA
theorem tR:wj Z a b c d e f g i j m o s=Z.aj s (fun p s=>uF Z a b c d e f g i j m p s) (al .add o (.int .i64 1)):=h.1.fA
theorem F2:J5 Z c d e f g i j o m a b s=Z.cc s (fun p s=>Z.aw s (fun q s=>Z.aj s (fun r s=>Z.aP r (wj Z c d e f g i j (.int .i64 1) m a b s) (wj Z c d e f g i j o m a b s)) (al .lss q (.int .i64 0))) none p) 1 a b:=h.1.fA
theorem tS:pC Z a b c d e f s=Z.aj s (fun g s=>kG Z a b c d e g s) (al .add f (.int .i64 1)):=h.1.fA
theorem Ds:nW Z a b c d e f g s=Z.aw s (fun i s=>Z.a9 s (fun j s=>Z.fO s (fun m s=>pC Z a b m d e f s) 12 184 (some (.l 0)) c j) 12 [i]) (some 12) g:=h.1.fA
theorem Dt:pD Z c d e f g b i j o m s=Z.gR s (fun p s=>Z.aj s (fun q s=>Z.ih [.str [],.int .i64 0,.bW 1 [] .nil,.bool false,.bW 1 [] .nil,.bool false,.bW 1 [] .nil,.bool false,.bW 1 [] .nil,.bool false,.bW 1 [] .nil,.int .i64 0] [(0,1,q),(1,1,j)] s (fun r s=>Z.ig (.ref (.l s.own.length) 0) (s.new (.cells [.str [],.int .i64 0,.bW 1 [] .nil,.bool false,.bW 1 [] .nil,.bool false,.bW 1 [] .nil,.bool false,.bW 1 [] .nil,.bool false,.bW 1 [] .nil,.int .i64 0])) (fun a s=>Z.bX s (fun U s=>Z.aj s (fun t s=>Z.aP t (Z.aS s (fun u s=>Z.aw s (fun w s=>Z.gR s (fun x s=>Z.aS s (fun y s=>Z.bX s (fun U s=>Z.aS s (fun z s=>Z.aw s (fun A s=>Z.gR s (fun B s=>Z.aS s (fun C s=>Z.bX s (fun U s=>Z.aj s (fun D s=>nW Z c d e D g b a s) (al .add f (.int .i64 2))) 4 C (ae.ap s.aa B)) 7 a) 36 [(ae.ap s.aa A)]) none z) 5 i) 4 y (ae.ap s.aa x)) 3 a) 36 [(ae.ap s.aa w)]) none u) 4 i) (Z.aj s (fun E s=>Z.aP E (Z.aS s (fun F s=>Z.bX s (fun U s=>Z.aS s (fun H s=>Z.aw s (fun I s=>Z.gR s (fun J s=>Z.aS s (fun K s=>Z.bX s (fun U s=>Z.aj s (fun L s=>nW Z c d e L g b a s) (al .add f (.int .i64 1))) 4 K (ae.ap s.aa J)) 3 a) 36 [(ae.ap s.aa I)]) none H) 4 i) 1 F (ae.ap s.aa (n5 m))) 2 a) (Z.aP o (Z.aS s (fun M s=>Z.bX s (fun U s=>Z.aS s (fun N s=>Z.aw s (fun O s=>Z.bn s (fun P s=>Z.aj s (fun Q s=>Z.aS s (fun R s=>Z.bX s (fun U s=>Z.aj s (fun S s=>nW Z c d e f S b a s) (al .add g (.int .i64 1))) 1 R (ae.ap s.aa Q)) 11 a) (al .add (.int .i64 1) P)) 14 [(ae.ap s.aa O),(ae.ap s.aa (.int .i64 2))]) none N) 6 i) 1 M (ae.ap s.aa (n5 m))) 2 a) (Z.aS s (fun T s=>Z.bX s (fun U s=>nW Z c d e f g b a s) 1 T (ae.ap s.aa (n5 m))) 2 a))) (al .eql j (.int .i64 2)))) (al .eql j (.int .i64 1))) 12 a (ae.ap s.aa r)))) (al .add (.str [115]) p)) 19 [(ae.ap s.aa b)]:=h.1.fA
theorem Du:se Z e f g c d i o j a p s=Z.af a true (fun k=>k d s) s (fun q s=>Z.af a true (fun k=>Z.aj s k (al .eql q (.int .i64 3))) s (fun r s=>Z.bS s (fun b s=>Z.af b false (fun k=>k j s) s (fun t s=>Z.af b false (fun k=>Z.aj s k (al .leq t (.int .i64 2))) s (fun u s=>Z.af b false (fun k=>k u s) s (fun m s=>Z.af m true (fun k=>k c s) s (fun w s=>Z.af m true (fun k=>Z.aj s k (al .gtr w (.int .i64 6))) s (fun x s=>Z.af b false (fun k=>Z.bS s k m x (.bool false)) s (fun y s=>Z.bS s (fun z s=>Z.aP z (pC Z e f g c d i s) (pD Z e f g c d i o j a p s)) b (.bool true) y))))))) a r (.bool false))):=h.1.fA
theorem wI:uF Z b c d e f g i j m a o s=Z.cW s (fun p s=>Z.aj s (fun q s=>Z.aP q (J5 Z b c d e f g i j m a o s) (se Z b c d e f g i j m a s)) (al .lss o p)) false a:=h.1.qo
theorem F3:Ao Z a b c d e f g i j m s=uF Z a b c d e f g i j m (.int .i64 0) s:=h.1.fA
theorem wJ:uG Z a b c d e f g i j m q o p s=Z.cW s (fun r s=>Z.aj s (fun t s=>Z.aP t (J4 Z a b c d e f g i j m q o p s) (Ao Z a b c d e f g i m o s)) (al .lss p r)) false j:=h.1.qo
theorem F4:sf Z d e f g i j a b s=Z.bn s (fun c s=>Z.ca s (fun m s=>Z.ca s (fun y s=>Z.ca s (fun o s=>Z.aS s (fun p s=>Z.aw s (fun q s=>Z.aS s (fun r s=>Z.aw s (fun t s=>Z.aS s (fun u s=>Z.aw s (fun w s=>Z.a9 s (fun x s=>uG Z d e f g i j a b m o x (.bW 1 [] .nil) (.int .i64 0) s) 1 [q,t,w]) none u) 3 a) none r) 2 a) none p) 1 a) 2 c) 1 c) 0 c) 34 [(ae.ap s.aa b)]:=h.1.fA
theorem F5:J6 Z b d e f g a s=Z.cc s (fun i s=>Z.aw s (fun j s=>Z.ig (.ref (.l s.own.length) 0) (s.new (.cells [.int .i64 0,.int .i64 0,.int .i64 0,.int .i64 0,.int .i64 0,.int .i64 0,.int .i64 0])) (fun c s=>Z.bX s (fun u s=>Z.aS s (fun m s=>Z.aw s (fun o s=>Z.bn s (fun p s=>Z.aj s (fun q s=>Z.aj s (fun r s=>Z.aP r (sf Z b d e f g a c (.int .i64 1) s) (sf Z b d e f g a c q s)) (al .lss a (.int .i64 2))) (al .add (.int .i64 1) p)) 14 [(ae.ap s.aa o),(ae.ap s.aa (.int .i64 16))]) none m) 0 c) 7 c (ae.ap s.aa j))) (some 7) i) 7 b a:=h.1.fA
theorem tT:CF Z a s=Z.a0 false [some a] s:=h.1.fA
theorem qN:kG Z c d b f g e s=Z.cW s (fun i s=>Z.aj s (fun a s=>Z.af a true (fun k=>k b s) s (fun j s=>Z.af a true (fun k=>Z.cW s k false j) s (fun m s=>Z.af a true (fun k=>k d s) s (fun o s=>Z.af a true (fun k=>Z.aj s k (al .lss m o)) s (fun p s=>Z.bS s (fun q s=>Z.aP q (J6 Z c d b f g e s) (CF Z b s)) a p (.bool false)))))) (al .lss e i)) false c:=h.1.qo
theorem wK:Ap Z a b s=Z.aj s (fun c s=>Z.a0 false [some c] s) (al .rem a b):=h.1.fA
theorem wL:sg Z a b c d e s=Z.aj s (fun f s=>uH Z a b c d f s) (al .add e (.int .i64 1)):=h.1.fA
theorem F6:J7 Z d a e f b s=Z.cc s (fun m s=>Z.aS s (fun o s=>Z.aw s (fun p s=>Z.bn s (fun g s=>Z.ca s (fun A s=>Z.ca s (fun j s=>Z.ca s (fun B s=>Z.aj s (fun c s=>Z.af c false (fun k=>k a s) s (fun q s=>Z.af c false (fun k=>Z.aj s k (al .eql q (.int .i64 0))) s (fun r s=>Z.af c false (fun k=>k r s) s (fun i s=>Z.af i true (fun k=>k j s) s (fun t s=>Z.af i true (fun k=>Z.aj s k (al .neq t (.int .i64 1))) s (fun u s=>Z.af c false (fun k=>Z.bS s k i u (.bool false)) s (fun w s=>Z.bS s (fun x s=>Z.aP x (Z.a9 s (fun y s=>Z.fO s (fun z s=>sg Z d a e z b s) 1 8 (some (.l 0)) f y) 1 [b]) (sg Z d a e f b s)) c (.bool true) w))))))) (al .eql j a)) 2 g) 1 g) 0 g) 34 [(ae.ap s.aa p)]) none o) 1 m) 12 d b:=h.1.fA
theorem F7:J8 Z b a s=Z.cW s (fun c s=>Z.bn s (fun d s=>Z.cc s (fun e s=>Z.aw s (fun f s=>Z.a0 false [some f] s) none e) 1 a d) 14 [(ae.ap s.aa b),(ae.ap s.aa c)]) false a:=h.1.fA
theorem F8:Aq Z b a s=Z.cW s (fun c s=>Z.aj s (fun d s=>Z.aP d (Z.a0 false [some (.int .i64 (-1))] s) (J8 Z b a s)) (al .eql c (.int .i64 0))) false a:=h.1.fA
theorem wM:uH Z a e b c d s=Z.cW s (fun f s=>Z.aj s (fun g s=>Z.aP g (J7 Z a e b c d s) (Aq Z b c s)) (al .lss d f)) false a:=h.1.qo
theorem F9:uI Z a b c d e s=Z.aj s (fun f s=>uJ Z a b c d f s) (al .add e (.int .i64 1)):=h.1.fA
theorem Ga:J9 Z a s=Z.aw s (fun b s=>Z.a0 false [some b] s) none a:=h.1.fA
theorem Gb:Ka Z e b a c f g d s=Z.pr 0 69 d (fun bT s k1=>Z.aw s (fun i s=>Z.aj s (fun j s=>Z.aP j (Z.aw s (fun m s=>Z.aw s (fun o s=>Z.a9 s (fun p s=>Z.fO s (fun q s=>Z.bX s (fun u s=>k1 (.exit 1) s) 1 a (ae.ap s.aa q)) 1 8 (some (.l 0)) m p) 1 [o]) none c) none a) (k1 .norm s)) (al .eql bT i)) none b) s (fun r s=>(Ar Z) r (.n (.n (.n (.n (.n .e d .e) .dead .e) b .e) .dead (.n (.n .e f .e) a .e)) e (.n .e .dead (.n (.n .e g .e) c .e))) s):=h.1.fA
theorem Gc:Kb Z a d e f b s=Z.ig (.ref (.l s.own.length) 0) (s.new (.cells [.int .i64 0])) (fun c s=>Z.bX s (fun r s=>Z.aw s (fun g s=>Z.bn s (fun i s=>Ka Z a d e c f b i s) 39 [(ae.ap s.aa a),(ae.ap s.aa g)]) none c) 1 c (ae.ap s.aa b)):=h.1.fA
theorem wN:uJ Z d e a b c s=Z.aj s (fun f s=>Z.aP f (Kb Z d e a b c s) (J9 Z a s)) (al .lss c b):=h.1.qo
theorem uk:(Ar Z) .norm (.n (.n (.n (.n (.n .e g .e) .dead .e) b .e) .dead (.n (.n .e d .e) c .e)) a (.n .e .dead (.n (.n .e e .e) f .e))) s=uI Z a b c d e s:=by kernel_rfl
theorem s6:(Ar Z) (.exit 1) (.n (.n (.n (.n (.n .e g .e) .dead .e) b .e) .dead (.n (.n .e d .e) c .e)) a (.n .e .dead (.n (.n .e e .e) f .e))) s=uI Z a b c d e s:=by kernel_rfl
theorem Dv:CG Z a b c d e s=Z.aj s (fun f s=>pE Z a b c d f s) (al .sub e (.int .i64 1)):=h.1.fA
theorem Dw:wm Z a c d e b s=Z.aj s (fun f s=>Z.aj s (fun g s=>Z.cc s (fun i s=>Z.aw s (fun j s=>Z.cc s (fun m s=>Z.aw s (fun o s=>Z.cc s (fun p s=>Z.bX s (fun r s=>Z.cc s (fun q s=>Z.bX s (fun r s=>CG Z a c d e b s) 1 q (ae.ap s.aa o)) 1 a f) 1 p (ae.ap s.aa j)) 1 a b) none m) 1 a b) none i) 1 a g) (al .sub b (.int .i64 1))) (al .sub b (.int .i64 1)):=h.1.fA
theorem Dx:CH Z a b c d s=Z.aj s (fun e s=>pF Z a b c e s) (al .add d (.int .i64 1)):=h.1.fA
theorem tU:pE Z b d e f c s=Z.aj s (fun a s=>Z.af a true (fun k=>k b s) s (fun g s=>Z.af a true (fun k=>k c s) s (fun i s=>Z.af a true (fun k=>Z.cc s k 1 g i) s (fun j s=>Z.af a true (fun k=>Z.aw s k none j) s (fun m s=>Z.af a true (fun k=>k b s) s (fun o s=>Z.af a true (fun k=>k c s) s (fun p s=>Z.af a true (fun k=>Z.aj s k (al .sub p (.int .i64 1))) s (fun q s=>Z.af a true (fun k=>Z.cc s k 1 o q) s (fun r s=>Z.af a true (fun k=>Z.aw s k none r) s (fun t s=>Z.af a true (fun k=>Z.bn s k 108 [(ae.ap s.aa m),(ae.ap s.aa t)]) s (fun u s=>Z.bS s (fun w s=>Z.aP w (wm Z b d e f c s) (CH Z b d e f s)) a u (.bool false)))))))))))) (al .gtr c d):=h.1.qo
theorem Dy:CI Z b c d a s=pE Z b c d a a s:=h.1.fA
theorem nf:pF Z c d a b s=Z.aj s (fun e s=>Z.aP e (CI Z c d a b s) (Z.a0 false [] s)) (al .lss b a):=h.1.qo
theorem Gd:Kf Z a s=Z.aw s (fun b s=>Z.a0 true [some b] s) none a:=h.1.fA
theorem Ge:Kg Z a b s=Z.pr 0 69 b (fun bT s k1=>Z.aw s (fun c s=>Z.a9 s (fun d s=>Z.mG s (fun e s=>Z.bX s (fun u s=>k1 .norm s) 1 a (ae.ap s.aa e)) 1 8 c d) 1 [bT]) none a) s (fun r s=>(Fh Z) r (.n .e .dead (.n .e a (.n .e b .e))) s):=h.1.fA
theorem ul:(Fh Z) .norm (.n .e .dead (.n .e a (.n .e b .e))) s=Kf Z a s:=by kernel_rfl
theorem Gf:Kh Z a s=Z.bn s (fun b s=>Z.a0 false [some b] s) 112 [(ae.ap s.aa a)]:=h.1.fA
theorem wO:Ki Z c a b d e f s=Z.aj s (fun g s=>Z.aj s (fun i s=>Z.aP i (Z.bn s (fun j s=>Z.a0 false [] s) 102 [(ae.ap s.aa c),(ae.ap s.aa a),(ae.ap s.aa b)]) (XL Z c a b d e f g s)) (al .leq g (.int .i64 12))) (al .sub b a):=h.1.qo
theorem yK:Q8 Z a b c d e s=Z.aj s (fun f s=>Aw Z a b c d f s) (al .add e (.int .i64 1)):=h.1.fA
theorem Lh:Q9 Z g i f d b s=Z.cc s (fun j s=>Z.aw s (fun m s=>Z.aj s (fun c s=>Z.af c false (fun k=>k d s) s (fun o s=>Z.af c false (fun k=>k b s) s (fun p s=>Z.af c false (fun k=>Z.cc s k 1 o p) s (fun q s=>Z.af c false (fun k=>Z.aw s k none q) s (fun r s=>Z.af c false (fun k=>k f s) s (fun t s=>Z.af c false (fun k=>Z.aj s k (al .geq r t)) s (fun u s=>Z.bS s (fun e s=>Z.af e false (fun k=>k b s) s (fun w s=>Z.af e false (fun k=>Z.aj s k (al .gtr w (.int .i64 0))) s (fun x s=>Z.af e false (fun k=>k x s) s (fun a s=>Z.af a true (fun k=>k d s) s (fun y s=>Z.af a true (fun k=>k b s) s (fun z s=>Z.af a true (fun k=>Z.cc s k 1 y z) s (fun A s=>Z.af a true (fun k=>Z.aw s k none A) s (fun B s=>Z.af a true (fun k=>k d s) s (fun C s=>Z.af a true (fun k=>k b s) s (fun D s=>Z.af a true (fun k=>Z.aj s k (al .sub D (.int .i64 1))) s (fun E s=>Z.af a true (fun k=>Z.cc s k 1 C E) s (fun F s=>Z.af a true (fun k=>Z.aw s k none F) s (fun H s=>Z.af a true (fun k=>Z.aj s k (al .leq B H)) s (fun I s=>Z.af e false (fun k=>Z.bS s k a I (.bool false)) s (fun J s=>Z.bS s (fun K s=>Z.aP K (Z.a0 false [some (.bool false)] s) (Q8 Z g i f d b s)) e (.bool true) J))))))))))))))) c (.bool true) u))))))) (al .lss m (.int .i64 0))) none j) 1 d b:=h.1.fA
theorem Gg:Kj Z a b c d e f g s=Z.aj s (fun i s=>uK Z a b c d e f i s) (al .add g (.int .i64 1)):=h.1.fA
theorem Gh:Kk Z e a f b g c d s=Z.cc s (fun i s=>Z.aw s (fun j s=>Z.cc s (fun m s=>Z.aw s (fun o s=>Z.bn s (fun p s=>Z.aj s (fun q s=>Z.aP q (Z.a0 false [some (.bool false)] s) (Kj Z e a f b g c d s)) (kn .not p)) 12 [(ae.ap s.aa b),(ae.ap s.aa o)]) none m) 1 j d) none i) 1 a c:=h.1.fA
theorem Gi:At Z a b c d e s=Z.aj s (fun f s=>Av Z a b c d f s) (al .add e (.int .i64 1)):=h.1.fA
theorem wP:uK Z b a c d e f g s=Z.cc s (fun i s=>Z.aw s (fun j s=>Z.cW s (fun m s=>Z.aj s (fun o s=>Z.aP o (Kk Z b a c d e f g s) (At Z b a c d e s)) (al .lss g m)) false j) none i) 1 a f:=h.1.qo
theorem Gj:Kl Z a b c d e f s=uK Z a b c d e f (.int .i64 0) s:=h.1.fA
theorem Gk:Km Z a e b c d s=Z.cc s (fun g s=>Z.aS s (fun i s=>Z.aw s (fun j s=>Z.cc s (fun m s=>Z.aw s (fun f s=>Z.bn s (fun o s=>Z.aj s (fun p s=>Z.aP p (Z.a0 false [some (.bool false)] s) (Kl Z a e b c d f s)) (kn .not o)) 12 [(ae.ap s.aa c),(ae.ap s.aa f)]) none m) 1 j d) none i) 2 g) 12 a b:=h.1.fA
theorem Gl:Kn Z a b c s=Z.aj s (fun d s=>Ay Z a b d s) (al .add c (.int .i64 1)):=h.1.fA
theorem Gm:Au Z a b c d s=Z.a9 s (fun e s=>Z.fO s (fun f s=>Kn Z a f c s) 1 24 (some (.l 0)) b e) 1 [d]:=h.1.fA
theorem yL:Av Z a c b d e s=Z.cc s (fun f s=>Z.aS s (fun g s=>Z.aw s (fun i s=>Z.cW s (fun j s=>Z.aj s (fun m s=>Z.aP m (Km Z a c b d e s) (Au Z a c b d s)) (al .lss e j)) false i) none g) 2 f) 12 a b:=h.1.qo
theorem Li:Fm Z a b c d s=Av Z a b c d (.int .i64 0) s:=h.1.fA
theorem yM:Aw Z b c d a e s=Z.cW s (fun f s=>Z.aj s (fun g s=>Z.aP g (Q9 Z b c d a e s) (Fm Z b c d a s)) (al .lss e f)) false a:=h.1.qo
theorem Lj:Ra Z a b c d s=Aw Z a b c d (.int .i64 0) s:=h.1.fA
theorem Lk:Rb Z a c b s=Z.bn s (fun d s=>Z.ca s (fun e s=>Z.ca s (fun f s=>Z.aj s (fun g s=>Z.aP g (Z.a0 false [some (.bool false)] s) (Ra Z a c b e s)) (al .neq f (.int .i64 0))) 1 d) 0 d) 11 [(ae.ap s.aa a),(ae.ap s.aa b)]:=h.1.fA
theorem Gn:Ko Z a b c d e s=Z.aj s (fun f s=>uL Z a b c d f s) (al .add e (.int .i64 1)):=h.1.fA
theorem Gp:Kp Z e b c d a s=Z.gR s (fun f s=>Z.cc s (fun g s=>Z.aw s (fun i s=>Z.bn s (fun j s=>Z.aj s (fun m s=>Z.aP m (Z.a0 false [some (.bool false)] s) (Ko Z e b c d a s)) ((o1 .bool f j).map fun b=>.bool (bif true then !b else b))) 12 [(ae.ap s.aa i),(ae.ap s.aa c)]) none g) 1 b a) 12 [(ae.ap s.aa d),(ae.ap s.aa a)]:=h.1.fA
theorem Gq:Ax Z a b c s=Z.aj s (fun d s=>uM Z a b d s) (al .add c (.int .i64 1)):=h.1.fA
theorem wQ:uL Z a b c e d s=Z.cW s (fun f s=>Z.aj s (fun g s=>Z.aP g (Kp Z a b c e d s) (Ax Z a b c s)) (al .lss d f)) false a:=h.1.qo
theorem Gr:Kq Z a b c d s=uL Z a b c d (.int .i64 0) s:=h.1.fA
theorem Gs:Kr Z a c b s=Z.bn s (fun d s=>Z.ca s (fun e s=>Z.ca s (fun f s=>Z.aj s (fun g s=>Z.aP g (Z.a0 false [some (.bool false)] s) (Kq Z a c b e s)) (al .neq f (.int .i64 0))) 1 d) 0 d) 13 [(ae.ap s.aa a),(ae.ap s.aa b)]:=h.1.fA
theorem Gt:Ks Z s=Z.a0 false [some (.bool true)] s:=h.1.fA
theorem wR:uM Z a c b s=Z.cW s (fun d s=>Z.aj s (fun e s=>Z.aP e (Kr Z a c b s) (Ks Z s)) (al .lss b d)) false a:=h.1.qo
theorem Gu:Kt Z a b s=uM Z a b (.int .i64 0) s:=h.1.fA
theorem yN:Ay Z a b c s=Z.cW s (fun d s=>Z.aj s (fun e s=>Z.aP e (Rb Z a b c s) (Kt Z a b s)) (al .lss c d)) false a:=h.1.qo
theorem Ll:Rc Z a s=Z.bn s (fun b s=>Ay Z b (.bW 1 [] .nil) (.int .i64 0) s) 10 [(ae.ap s.aa a),(ae.ap s.aa (.int .i64 12))]:=h.1.fA
theorem Gv:Ku Z a b s=Z.bn s (fun c s=>Z.bn s (fun d s=>Z.a0 false [some d,some (.int .i64 0)] s) 38 [(ae.ap s.aa c)]) 39 [(ae.ap s.aa a),(ae.ap s.aa b)]:=h.1.fA
theorem Gw:Kv Z a b c s=Z.aj s (fun d s=>uN Z a b d s) (al .add c (.int .i64 1)):=h.1.fA
theorem Gx:Kw Z a b c s=Z.cc s (fun d s=>Z.aw s (fun e s=>Z.aj s (fun f s=>Z.aP f (Z.a0 false [some (.bool true)] s) (Kv Z a b c s)) (al .eql e b)) none d) 1 a c:=h.1.fA
theorem Gy:Kx Z s=Z.a0 false [some (.bool false)] s:=h.1.fA
theorem wS:uN Z a c b s=Z.cW s (fun d s=>Z.aj s (fun e s=>Z.aP e (Kw Z a c b s) (Kx Z s)) (al .lss b d)) false a:=h.1.qo
theorem Gz:Ky Z a b s=Z.bn s (fun c s=>Z.a0 false [some c,some (.int .i64 0)] s) 40 [(ae.ap s.aa a),(ae.ap s.aa b)]:=h.1.fA
end
variable(G:Nat→ae)(X:Nat→List ae→ag→ah)
theorem Rg:f133 Z a b s=Z.cW s (fun c s=>Z.cW s (fun d s=>Z.aj s (fun e s=>Z.aP e (Z.cW s (fun f s=>Z.cW s (fun g s=>Z.aj s (fun i s=>Z.aP i (Z.a0 false [some (.int .i64 (-1))] s) (B6 Z s)) (al .lss f g)) false b) false a) (Cb Z a b s)) (al .neq c d)) false b) false a:=by kernel_rfl
theorem GA:aA aL G X 133 [a,b] s=f133 (aV aL G X) a b s.ai:=bR aL G X (fn:=v0)
theorem Rh:f134 Z a b s=Z.cW s (fun c s=>Z.lg s (fun d s=>Z.cW s (fun e s=>rW Z a b d (.int .u64 0) e (.int .i64 0) s) false a) [.int .u32 0] 4 c c) false a:=by kernel_rfl
theorem GB:aA aL G X 134 [a,b] s=f134 (aV aL G X) a b s.ai:=bR aL G X (fn:=BW)
theorem Ri:f135 Z a s=Z.cW s (fun b s=>rY Z a b s) false a:=by kernel_rfl
theorem GC:aA aL G X 135 [a] s=f135 (aV aL G X) a s.ai:=bR aL G X (fn:=BX)
theorem Rj:f136 Z a s=Z.bn s (fun b s=>Z.aj s (fun c s=>Z.a0 false [some c] s) (al .sub (.int .i64 32) b)) 111 [(ae.ap s.aa a)]:=by kernel_rfl
theorem GD:aA aL G X 136 [a] s=f136 (aV aL G X) a s.ai:=bR aL G X (fn:=Qf)
theorem Rk:f137 Z a b s=Z.cW s (fun d s=>Z.aj s (fun e s=>Z.aj s (fun f s=>Z.aj s (fun c s=>Z.lg s (fun g s=>Z.cW s (fun i s=>r0 Z a b g i (.int .i64 0) s) false a) [.int .u32 0] 4 c c) (al .add f (.int .i64 1))) (al .add d e)) (al .quo b (.int .i64 32))) false a:=by kernel_rfl
theorem GF:aA aL G X 137 [a,b] s=f137 (aV aL G X) a b s.ai:=bR aL G X (fn:=BY)
theorem Rl:f138 Z b c a d s=Z.cW s (fun e s=>pz Z b c a d (.int .u64 0) (.int .u64 0) e (.int .i64 0) s) false a:=by kernel_rfl
theorem GG:aA aL G X 138 [a,b,c,d] s=f138 (aV aL G X) a b c d s.ai:=bR aL G X (fn:=tF)
theorem Rm:f139 Z c d a s=Z.cW s (fun b s=>Z.aj s (fun f s=>Z.cc s (fun g s=>Z.aw s (fun i s=>Z.bY s (fun j s=>Z.aj s (fun m s=>Z.aj s (fun o s=>Z.aj s (fun p s=>Z.cc s (fun q s=>Z.aw s (fun r s=>Z.bY s (fun t s=>Z.aj s (fun e s=>Z.aj s (fun u s=>Z.cc s (fun w s=>Z.aw s (fun x s=>Z.bY s (fun y s=>Z.aj s (fun z s=>Z.aj s (fun A s=>Z.cc s (fun B s=>Z.aw s (fun C s=>Z.bY s (fun D s=>Z.aj s (fun E s=>r3 Z c d a b z E s) (al .rem e D)) .u64 C) none B) 1 a A) (al .sub b (.int .i64 1))) (al .quo e y)) .u64 x) none w) 1 a u) (al .sub b (.int .i64 1))) (al .or m t)) .u64 r) none q) 1 c p) (al .sub o (.int .i64 1))) (al .add d b)) (al .shl j (.int .u64 32))) .u64 i) none g) 1 c f) (al .add d b)) false a:=by kernel_rfl
theorem GH:aA aL G X 139 [a,b,c] s=f139 (aV aL G X) a b c s.ai:=bR aL G X (fn:=B4)
theorem Rn:f140 Z a b s=Z.aj s (fun c s=>Z.cW s (fun d s=>Z.aj s (fun e s=>Z.aP e (Z.cW s (fun f s=>Z.aj s (fun g s=>Z.a0 false [some (.bW 1 [] .nil),some g] s) (al .gtr f (.int .i64 0))) false a) (Cu Z a b c s)) (al .geq c d)) false a) (al .quo b (.int .i64 32)):=by kernel_rfl
theorem GI:aA aL G X 140 [a,b] s=f140 (aV aL G X) a b s.ai:=bR aL G X (fn:=yJ)
theorem Ro:f111 Z a s=Z.aj s (fun b s=>Z.aP b (Z.aj s (fun c s=>nU Z c (.int .i64 16) s) (al .shr a (.int .u64 16))) (nU Z a (.int .i64 0) s)) (al .geq a (.int .u32 65536)):=by kernel_rfl
theorem GJ:aA aL G X 111 [a] s=f111 (aV aL G X) a s.ai:=bR aL G X (fn:=BP)
theorem XM:f87 Z b s=Z.e4 b s (fun a s=>Z.aS s (fun d s=>Z.aw s (fun e s=>Z.cW s (fun c s=>Z.aj s (fun f s=>Z.aP f (Z.aS s (fun g s=>Z.aw s (fun i s=>Z.aj s (fun j s=>Z.a0 false [some j] s) (kn .not i)) none g) 0 a) (Jt Z a c s)) (al .eql c (.int .i64 0))) false e) none d) 1 a):=by kernel_rfl
theorem Lm:aA aL G X 87 [a] s=f87 (aV aL G X) a s.ai:=bR aL G X (fn:=S7)
theorem XN:f90 Z b c s=Z.e4 b s (fun d s=>Z.e4 c s (fun e s=>Z.ig (.ref (.l s.own.length) 0) (s.new (.cells [.bool false,.bW 1 [] .nil])) (fun a s=>Z.aw s (fun f s=>Z.aw s (fun g s=>Z.bn s (fun i s=>Z.aj s (fun j s=>Z.aP j (Z.ih [.bool false,.bW 1 [] .nil] [] s (fun m s=>Z.bX s (fun h s=>Z.a0 false [k2 s a (some 2),some (.int .i64 1)] s) 2 a (ae.ap s.aa m))) (Jy Z d e a s)) (kn .not i)) 113 [(ae.ap s.aa f),(ae.ap s.aa g)]) (some 2) e) (some 2) d))):=by kernel_rfl
theorem Ln:aA aL G X 90 [a,b] s=f90 (aV aL G X) a b s.ai:=bR aL G X (fn:=zV)
theorem Rp:f113 Z b c s=Z.e4 b s (fun d s=>Z.e4 c s (fun e s=>Z.aw s (fun f s=>Z.bn s (fun a s=>Z.af a true (fun k=>Z.aw s k (some 2) e) s (fun g s=>Z.af a true (fun k=>Z.bn s k 87 [(ae.ap s.aa g)]) s (fun i s=>Z.bS s (fun j s=>Z.a0 false [some j] s) a i (.bool false)))) 87 [(ae.ap s.aa f)]) (some 2) d)):=by kernel_rfl
theorem GK:aA aL G X 113 [a,b] s=f113 (aV aL G X) a b s.ai:=bR aL G X (fn:=P4)
theorem Rq:f114 Z a b s=Z.bn s (fun c s=>Z.aj s (fun d s=>Z.aP d (Z.a0 false [some (.bW 1 [] .nil),some a] s) (Cz Z a b s)) (al .lss c (.int .i64 0))) 133 [(ae.ap s.aa a),(ae.ap s.aa b)]:=by kernel_rfl
theorem GL:aA aL G X 114 [a,b] s=f114 (aV aL G X) a b s.ai:=bR aL G X (fn:=vZ)
theorem Rr:f115 Z b c s=Z.ig (.ref (.l s.own.length) 0) (s.new (.cells [.bool false,.bW 1 [] .nil])) (fun a s=>Z.bn s (fun d s=>Z.cW s (fun e s=>Z.aj s (fun f s=>Z.aP f (Z.ih [.bool false,.bW 1 [] .nil] [] s (fun g s=>Z.bX s (fun h s=>Z.a0 false [k2 s a (some 2),some (.int .i64 2)] s) 2 a (ae.ap s.aa g))) (CA Z b d a s)) (al .gtr e (.int .i64 128))) false d) 135 [(ae.ap s.aa c)]):=by kernel_rfl
theorem GM:aA aL G X 115 [a,b] s=f115 (aV aL G X) a b s.ai:=bR aL G X (fn:=yI)
theorem Rs:f116 Z a s=Z.cW s (fun b s=>nV Z a (.int .u64 0) b (.int .i64 0) s) false a:=by kernel_rfl
theorem GN:aA aL G X 116 [a] s=f116 (aV aL G X) a s.ai:=bR aL G X (fn:=BR)
theorem XO:f71 Z e s=Z.e4 e s (fun a s=>Z.aS s (fun f s=>Z.aw s (fun g s=>Z.bn s (fun i s=>Z.aj s (fun b s=>Z.af b false (fun k=>Z.aS s k 2 a) s (fun j s=>Z.af b false (fun k=>Z.aw s k (some 2) j) s (fun m s=>Z.af b false (fun k=>Z.bn s k 87 [(ae.ap s.aa m)]) s (fun o s=>Z.af b false (fun k=>Z.aj s k (kn .not o)) s (fun p s=>Z.bS s (fun c s=>Z.af c false (fun k=>Z.aS s k 2 a) s (fun q s=>Z.af c false (fun k=>Z.aS s k 0 q) s (fun r s=>Z.af c false (fun k=>Z.aw s k none r) s (fun t s=>Z.bS s (fun d s=>Z.af d false (fun k=>Z.aS s k 2 a) s (fun u s=>Z.af d false (fun k=>Z.aw s k (some 2) u) s (fun w s=>Z.af d false (fun k=>Z.bn s k 88 [(ae.ap s.aa w)]) s (fun x s=>Z.bS s (fun y s=>Z.aP y (Z.a0 false [some (.bool false)] s) (JF Z a s)) d (.bool true) x)))) c (.bool true) t)))) b (.bool true) p))))) (kn .not i)) 87 [(ae.ap s.aa g)]) (some 2) f) 0 a):=by kernel_rfl
theorem Lo:aA aL G X 71 [a] s=f71 (aV aL G X) a s.ai:=bR aL G X (fn:=E7)
theorem XP:f88 Z a s=Z.e4 a s (fun b s=>Z.aS s (fun c s=>Z.aw s (fun d s=>Z.cW s (fun e s=>Z.aj s (fun f s=>Z.a0 false [some f] s) (al .eql e (.int .i64 0))) false d) none c) 1 b):=by kernel_rfl
theorem Lp:aA aL G X 88 [a] s=f88 (aV aL G X) a s.ai:=bR aL G X (fn:=acw)
theorem XQ:f89 Z d s=Z.e4 d s (fun c s=>Z.aS s (fun e s=>Z.aw s (fun f s=>Z.aj s (fun b s=>Z.af b true (fun k=>Z.aS s k 1 c) s (fun g s=>Z.af b true (fun k=>Z.aw s k none g) s (fun i s=>Z.af b true (fun k=>Z.cW s k false i) s (fun j s=>Z.af b true (fun k=>Z.aj s k (al .eql j (.int .i64 1))) s (fun m s=>Z.bS s (fun a s=>Z.af a true (fun k=>Z.aS s k 1 c) s (fun o s=>Z.af a true (fun k=>Z.aw s k none o) s (fun p s=>Z.af a true (fun k=>Z.cc s k 1 p (.int .i64 0)) s (fun q s=>Z.af a true (fun k=>Z.aw s k none q) s (fun r s=>Z.af a true (fun k=>Z.aj s k (al .eql r (.int .u32 1))) s (fun t s=>Z.bS s (fun u s=>Z.a0 false [some u] s) a t (.bool false))))))) b m (.bool false)))))) (kn .not f)) none e) 0 c):=by kernel_rfl
theorem Lq:aA aL G X 89 [a] s=f89 (aV aL G X) a s.ai:=bR aL G X (fn:=acx)
theorem XR:f16 Z a s=Z.cW s (fun b s=>uA Z a (.int .i64 0) a b (.int .i64 0) s) false a:=by kernel_rfl
theorem Lr:aA aL G X 16 [a] s=f16 (aV aL G X) a s.ai:=bR aL G X (fn:=Lf)
theorem XS:f42 Z c s=Z.cW s (fun i s=>Z.aj s (fun f s=>Z.cc s (fun j s=>Z.aw s (fun m s=>Z.ig (.ref (.l s.own.length) 0) (s.new (.cells [.str [],.int .i64 0,.bW 1 [] .nil,.bool false,.bW 1 [] .nil,.bool false,.bW 1 [] .nil,.bool false,.bW 1 [] .nil,.bool false,.bW 1 [] .nil,.int .i64 0])) (fun b s=>Z.bX s (fun h s=>Z.aS s (fun o s=>Z.aw s (fun p s=>Z.bn s (fun e s=>Z.ca s (fun g s=>Z.ca s (fun q s=>Z.ca s (fun r s=>Z.aj s (fun a s=>Z.af a false (fun k=>k g s) s (fun t s=>Z.af a false (fun k=>Z.cW s k false t) s (fun u s=>Z.af a false (fun k=>Z.aS s k 2 b) s (fun w s=>Z.af a false (fun k=>Z.aw s k none w) s (fun x s=>Z.af a false (fun k=>Z.cW s k false x) s (fun y s=>Z.af a false (fun k=>Z.aj s k (al .neq u y)) s (fun z s=>Z.bS s (fun d s=>Z.af d false (fun k=>Z.aS s k 0 b) s (fun A s=>Z.af d false (fun k=>Z.aw s k none A) s (fun B s=>Z.af d false (fun k=>Z.aj s k (al .eql B (.str []))) s (fun C s=>Z.bS s (fun D s=>Z.aP D (Z.a0 false [some (.bool false)] s) (JM Z c f b g r s)) d (.bool true) C)))) a (.bool true) z))))))) (al .eql q (.int .i64 0))) 2 e) 1 e) 0 e) 21 [(ae.ap s.aa p)]) none o) 1 b) 12 b (ae.ap s.aa m))) (some 12) j) 12 c f) (al .sub i (.int .i64 1))) false c:=by kernel_rfl
theorem Ls:aA aL G X 42 [a] s=f42 (aV aL G X) a s.ai:=bR aL G X (fn:=BO)
theorem XT:f43 Z b s=Z.e4 b s (fun c s=>Z.aS s (fun d s=>Z.aw s (fun e s=>Z.bn s (fun a s=>Z.ca s (fun g s=>Z.ca s (fun i s=>Z.ca s (fun f s=>Z.a0 false [some f] s) 2 a) 1 a) 0 a) 21 [(ae.ap s.aa e)]) none d) 1 c):=by kernel_rfl
theorem Lt:aA aL G X 43 [a] s=f43 (aV aL G X) a s.ai:=bR aL G X (fn:=abk)
theorem XU:f44 Z a s=Z.cW s (fun b s=>uC Z (.bW 2 [] .nil) a b (.int .i64 0) s) false a:=by kernel_rfl
theorem Lu:aA aL G X 44 [a] s=f44 (aV aL G X) a s.ai:=bR aL G X (fn:=Oj)
theorem XV:f37 Z a b s=Z.bn s (fun c s=>Z.aj s (fun d s=>Z.aP d (Z.a0 false [some c] s) (Ag Z a b s)) (al .neq c (.int .i64 0))) 16 [(ae.ap s.aa a)]:=by kernel_rfl
theorem Lv:aA aL G X 37 [a,b] s=f37 (aV aL G X) a b s.ai:=bR aL G X (fn:=vX)
theorem XW:f48 Z b s=Z.e4 b s (fun c s=>Z.aS s (fun d s=>Z.aw s (fun e s=>Z.bn s (fun a s=>Z.ca s (fun g s=>Z.ca s (fun f s=>Z.ca s (fun i s=>Z.a0 false [some f] s) 2 a) 1 a) 0 a) 21 [(ae.ap s.aa e)]) none d) 1 c):=by kernel_rfl
theorem Lw:aA aL G X 48 [a] s=f48 (aV aL G X) a s.ai:=bR aL G X (fn:=abp)
theorem XX:f34 Z a s=Z.aj s (fun c s=>Z.aP c (Z.a0 false [some (.bW 1 [] .nil),some (.int .i64 1),some (.bool false)] s) (Z.aj s (fun d s=>Z.aP d (Z.a9 s (fun e s=>Z.a0 false [some e,some (.int .i64 1),some (.bool false)] s) 1 [(.int .i64 0)]) (Z.aj s (fun f s=>Z.aP f (Z.a9 s (fun g s=>Z.a0 false [some g,some (.int .i64 2),some (.bool false)] s) 1 [(.int .i64 1),(.int .i64 1)]) (Z.aj s (fun i s=>Z.aP i (Z.a9 s (fun j s=>Z.a0 false [some j,some (.int .i64 1),some (.bool false)] s) 1 [(.int .i64 2),(.int .i64 2)]) (Z.aj s (fun m s=>Z.aP m (Z.a9 s (fun o s=>Z.a0 false [some o,some (.int .i64 3),some (.bool false)] s) 1 [(.int .i64 1),(.int .i64 1)]) (Z.aj s (fun b s=>Z.aP b (Ai Z a b s) (Z.aj s (fun p s=>Ai Z a p s) (al .eql a (.int .i64 7)))) (al .eql a (.int .i64 6)))) (al .eql a (.int .i64 5)))) (al .eql a (.int .i64 4)))) (al .eql a (.int .i64 3)))) (al .eql a (.int .i64 2)))) (al .eql a (.int .i64 1)):=by kernel_rfl
theorem Lx:aA aL G X 34 [a] s=f34 (aV aL G X) a s.ai:=bR aL G X (fn:=zT)
theorem XY:f50 Z d c s=Z.aj s (fun a s=>Z.af a false (fun k=>k d s) s (fun f s=>Z.af a false (fun k=>Z.aj s k (al .eql f (.int .i64 0))) s (fun g s=>Z.af a false (fun k=>k g s) s (fun b s=>Z.af b true (fun k=>k c s) s (fun i s=>Z.af b true (fun k=>Z.aj s k (al .eql i (.int .i64 2))) s (fun j s=>Z.af b true (fun k=>k j s) s (fun e s=>Z.af e false (fun k=>k c s) s (fun m s=>Z.af e false (fun k=>Z.aj s k (al .eql m (.int .i64 3))) s (fun o s=>Z.af b true (fun k=>Z.bS s k e (.bool true) o) s (fun p s=>Z.af a false (fun k=>Z.bS s k b p (.bool false)) s (fun q s=>Z.bS s (fun r s=>Z.a0 false [some r] s) a (.bool true) q))))))))))) (al .eql c d):=by kernel_rfl
theorem Ly:aA aL G X 50 [a,b] s=f50 (aV aL G X) a b s.ai:=bR aL G X (fn:=aby)
theorem XZ:f21 Z a s=Z.aj s (fun c s=>Z.aP c (Z.a0 false [some (.bW 1 [] .nil),some (.int .i64 1),some (.bool false)] s) (Z.aj s (fun d s=>Z.aP d (Z.a9 s (fun e s=>Z.a0 false [some e,some (.int .i64 1),some (.bool false)] s) 1 [(.int .i64 0)]) (Z.aj s (fun f s=>Z.aP f (Z.a9 s (fun g s=>Z.a0 false [some g,some (.int .i64 2),some (.bool false)] s) 1 [(.int .i64 1),(.int .i64 1)]) (Z.aj s (fun i s=>Z.aP i (Z.a9 s (fun j s=>Z.a0 false [some j,some (.int .i64 1),some (.bool false)] s) 1 [(.int .i64 2),(.int .i64 2)]) (Z.aj s (fun m s=>Z.aP m (Z.a9 s (fun o s=>Z.a0 false [some o,some (.int .i64 3),some (.bool false)] s) 1 [(.int .i64 1),(.int .i64 1)]) (Z.aj s (fun b s=>Z.aP b (Ak Z a b s) (Z.aj s (fun p s=>Ak Z a p s) (al .eql a (.int .i64 7)))) (al .eql a (.int .i64 6)))) (al .eql a (.int .i64 5)))) (al .eql a (.int .i64 4)))) (al .eql a (.int .i64 3)))) (al .eql a (.int .i64 2)))) (al .eql a (.int .i64 1)):=by kernel_rfl
theorem Lz:aA aL G X 21 [a] s=f21 (aV aL G X) a s.ai:=bR aL G X (fn:=NI)
theorem X0:f72 Z e s=Z.e4 e s (fun d s=>Z.aS s (fun f s=>Z.aS s (fun g s=>Z.aw s (fun i s=>Z.aj s (fun c s=>Z.af c true (fun k=>Z.aS s k 2 d) s (fun j s=>Z.af c true (fun k=>Z.aS s k 0 j) s (fun m s=>Z.af c true (fun k=>Z.aw s k none m) s (fun o s=>Z.af c true (fun k=>Z.aj s k (kn .not o)) s (fun p s=>Z.bS s (fun a s=>Z.af a true (fun k=>Z.aS s k 0 d) s (fun q s=>Z.af a true (fun k=>Z.aS s k 1 q) s (fun r s=>Z.af a true (fun k=>Z.aw s k none r) s (fun t s=>Z.af a true (fun k=>Z.cW s k false t) s (fun u s=>Z.af a true (fun k=>Z.aj s k (al .eql u (.int .i64 0))) s (fun w s=>Z.bS s (fun b s=>Z.af b true (fun k=>Z.aS s k 2 d) s (fun x s=>Z.af b true (fun k=>Z.aS s k 1 x) s (fun y s=>Z.af b true (fun k=>Z.aw s k none y) s (fun z s=>Z.af b true (fun k=>Z.cW s k false z) s (fun A s=>Z.af b true (fun k=>Z.aj s k (al .eql A (.int .i64 0))) s (fun B s=>Z.bS s (fun C s=>Z.a0 false [some C] s) b B (.bool false))))))) a w (.bool false))))))) c p (.bool false)))))) (kn .not i)) none g) 0 f) 0 d):=by kernel_rfl
theorem LA:aA aL G X 72 [a] s=f72 (aV aL G X) a s.ai:=bR aL G X (fn:=abU)
theorem X1:f73 Z a b s=Z.bn s (fun c s=>Z.aj s (fun d s=>Z.a0 false [some d] s) (al .geq c (.int .i64 0))) 62 [(ae.ap s.aa a),(ae.ap s.aa b)]:=by kernel_rfl
theorem LB:aA aL G X 73 [a,b] s=f73 (aV aL G X) a b s.ai:=bR aL G X (fn:=abV)
theorem X2:f74 Z a b s=Z.e4 a s (fun c s=>Z.aS s (fun d s=>Z.aw s (fun e s=>Z.aS s (fun f s=>Z.aw s (fun g s=>Z.aj s (fun i s=>Z.a0 false [some i] s) (al .eql e g)) none f) 0 b) none d) 0 c):=by kernel_rfl
theorem LC:aA aL G X 74 [a,b] s=f74 (aV aL G X) a b s.ai:=bR aL G X (fn:=OE)
theorem X3:f62 Z a b s=Z.cW s (fun c s=>uD Z a b c (.int .i64 0) s) false a:=by kernel_rfl
theorem LD:aA aL G X 62 [a,b] s=f62 (aV aL G X) a b s.ai:=bR aL G X (fn:=Ov)
theorem X4:f19 Z a s=Z.bn s (fun b s=>Z.a0 false [some b] s) 47 [(ae.ap s.aa a)]:=by kernel_rfl
theorem LF:aA aL G X 19 [a] s=f19 (aV aL G X) a s.ai:=bR aL G X (fn:=NC)
theorem X5:f47 Z a s=Z.bn s (fun b s=>Z.a0 false [some b] s) 77 [(ae.ap s.aa a),(ae.ap s.aa (.int .i64 10))]:=by kernel_rfl
theorem LG:aA aL G X 47 [a] s=f47 (aV aL G X) a s.ai:=bR aL G X (fn:=abo)
theorem X6:f77 Z a b s=Z.aj s (fun d s=>Z.aP d (Z.aj s (fun c s=>Z.af c true (fun k=>k a s) s (fun e s=>Z.af c true (fun k=>Z.aj s k (al .lss e (.int .i64 100))) s (fun f s=>Z.bS s (fun g s=>Z.aP g (Z.bn s (fun i s=>Z.a0 false [some i] s) 95 [(ae.ap s.aa a)]) (JW Z a s)) c f (.bool false)))) (al .leq (.int .i64 0) a)) (XC Z a b s)) (al .eql b (.int .i64 10)):=by kernel_rfl
theorem LH:aA aL G X 77 [a,b] s=f77 (aV aL G X) a b s.ai:=bR aL G X (fn:=OL)
theorem X7:f95 Z a s=Z.aj s (fun b s=>Z.aP b (Z.aj s (fun c s=>Z.vL (.str [48,49,50,51,52,53,54,55,56,57,97,98,99,100,101,102,103,104,105,106,107,108,109,110,111,112,113,114,115,116,117,118,119,120,121,122]) (some a) (some c) s (fun d s=>Z.a0 false [some d] s)) (al .add a (.int .i64 1))) (JX Z a s)) (al .lss a (.int .i64 10)):=by kernel_rfl
theorem LI:aA aL G X 95 [a] s=f95 (aV aL G X) a s.ai:=bR aL G X (fn:=Ta)
theorem X8:f96 Z a s=Z.bn s (fun c s=>Z.bn s (fun b s=>Z.mg s (fun d s=>Z.aw s (fun e s=>Z.aj s (fun f s=>Z.bn s (fun g s=>Z.aj s (fun i s=>Z.a0 false [some i] s) (al .add b g)) 121 [(ae.ap s.aa f)]) (al .geq a e)) none d) 1 20 (Z.bt 0) b) 120 [(ae.ap s.aa c)]) 112 [(ae.ap s.aa a)]:=by kernel_rfl
theorem LJ:aA aL G X 96 [a] s=f96 (aV aL G X) a s.ai:=bR aL G X (fn:=acQ)
theorem X9:f97 Z a b s=Z.cW s (fun c s=>JY Z a b c s) false a:=by kernel_rfl
theorem LK:aA aL G X 97 [a,b] s=f97 (aV aL G X) a b s.ai:=bR aL G X (fn:=Fb)
theorem Ru:f112 Z a s=Z.aj s (fun b s=>Z.aP b (Z.aj s (fun c s=>wh Z c (.int .i64 32) s) (al .shr a (.int .u64 32))) (wh Z a (.int .i64 0) s)) (al .geq a (.int .u64 4294967296)):=by kernel_rfl
theorem GO:aA aL G X 112 [a] s=f112 (aV aL G X) a s.ai:=bR aL G X (fn:=yH)
theorem Rv:f120 Z a s=Z.aj s (fun b s=>Z.aj s (fun c s=>Z.a0 false [some c] s) (al .shr b (.int .u64 18))) (al .mul a (.int .i64 78913)):=by kernel_rfl
theorem GP:aA aL G X 120 [a] s=f120 (aV aL G X) a s.ai:=bR aL G X (fn:=Qd)
theorem Rw:f121 Z a s=Z.aP a (Z.a0 false [some (.int .i64 1)] s) (CE Z s):=by kernel_rfl
theorem GQ:aA aL G X 121 [a] s=f121 (aV aL G X) a s.ai:=bR aL G X (fn:=IE)
theorem Ya:f10 Z a b s=kG Z a b (.bW 12 [] .nil) (.int .i64 0) (.int .i64 0) (.int .i64 0) s:=by kernel_rfl
theorem LL:aA aL G X 10 [a,b] s=f10 (aV aL G X) a b s.ai:=bR aL G X (fn:=Ni)
theorem Yb:f14 Z a b s=Z.aj s (fun c s=>Z.aP c (Z.aj s (fun d s=>Z.aj s (fun e s=>Ap Z e b s) (kn .neg d)) (al .add a (.int .i64 1))) (Ap Z a b s)) (al .lss a (.int .i64 0)):=by kernel_rfl
theorem LM:aA aL G X 14 [a,b] s=f14 (aV aL G X) a b s.ai:=bR aL G X (fn:=yf)
theorem Yc:f35 Z a b c s=uH Z a b c (.bW 1 [] .nil) (.int .i64 0) s:=by kernel_rfl
theorem LN:aA aL G X 35 [a,b,c] s=f35 (aV aL G X) a b c s.ai:=bR aL G X (fn:=Lg)
theorem Yd:f36 Z a s=Z.ig (.ref (.l s.own.length) 0) (s.new (.cells [.bool false,.bW 1 [] .nil,.bool false,.bW 1 [] .nil])) (fun b s=>Z.bn s (fun e s=>Z.aj s (fun f s=>Z.bn s (fun g s=>Z.aj s (fun i s=>Z.gR s (fun c s=>Z.ca s (fun j s=>Z.ca s (fun o s=>Z.ig (.ref (.l s.own.length) 0) (s.new (.cells [.bool false,.bW 1 [] .nil,.bool false,.bW 1 [] .nil])) (fun d s=>Z.bX s (fun h s=>Z.aw s (fun m s=>Z.bX s (fun h s=>Z.a0 false [k2 s b (some 4)] s) 4 b (ae.ap s.aa m)) (some 4) d) 4 d (ae.ap s.aa j))) 1 c) 0 c) 46 [(ae.ap s.aa f),(ae.ap s.aa i)]) (al .add (.int .i64 1) g)) 14 [(ae.ap s.aa a),(ae.ap s.aa (.int .i64 4))]) (al .sub e (.int .i64 16))) 14 [(ae.ap s.aa a),(ae.ap s.aa (.int .i64 33))]):=by kernel_rfl
theorem LO:aA aL G X 36 [a] s=f36 (aV aL G X) a s.ai:=bR aL G X (fn:=aa8)
theorem Ye:f67 Z a s=Z.bn s (fun b s=>Z.a0 true [some b] s) 84 [(ae.ap s.aa (.bW 1 [] .nil)),(ae.ap s.aa a)]:=by kernel_rfl
theorem LP:aA aL G X 67 [a] s=f67 (aV aL G X) a s:=bR aL G X (fn:=abC)
theorem Yf:f38 Z a s=Z.bn s (fun b s=>Z.bn s (fun c s=>Z.a0 false [some b] s) 68 [(ae.ap s.aa b)]) 67 [(ae.ap s.aa a)]:=by kernel_rfl
theorem LQ:aA aL G X 38 [a] s=f38 (aV aL G X) a s.ai:=bR aL G X (fn:=abb)
theorem Yg:f39 Z a b s=Z.e4 a s (fun c s=>Z.e4 b s (fun d s=>Z.ig (.fn 69 [(ae.ap s.aa d),(ae.ap s.aa c)]) s (fun e s=>Z.a0 false [some e] s))):=by kernel_rfl
theorem LR:aA aL G X 39 [a,b] s=f39 (aV aL G X) a b s.ai:=bR aL G X (fn:=abc)
theorem Yh:f40 Z a b s=Z.e4 b s (fun c s=>Z.ig (.ref (.l s.own.length) 0) (s.new (.cells [.bW 1 [] .nil])) (fun d s=>Z.cW s (fun e s=>uJ Z a c d e (.int .i64 0) s) false a)):=by kernel_rfl
theorem LS:aA aL G X 40 [a,b] s=f40 (aV aL G X) a b s.ai:=bR aL G X (fn:=N7)
theorem Dz:f102 Z b a c s=Z.aj s (fun d s=>pF Z b a c d s) (al .add a (.int .i64 1)):=by kernel_rfl
theorem wT:aA aL G X 102 [a,b,c] s=f102 (aV aL G X) a b c s.ai:=bR aL G X (fn:=Ic)
theorem Kz:f68 Z a s=Z.cW s (fun b s=>Z.bY s (fun c s=>Z.bn s (fun d s=>Z.bn s (fun e s=>Z.a0 false [] s) 85 [(ae.ap s.aa a),(ae.ap s.aa (.int .i64 0)),(ae.ap s.aa b),(ae.ap s.aa d)]) 86 [(ae.ap s.aa c)]) .u64 b) false a:=by kernel_rfl
theorem yO:aA aL G X 68 [a] s=f68 (aV aL G X) a s.ai:=bR aL G X (fn:=abD)
theorem Yi:f84 Z a b s=Z.pR a s (fun c s=>Kg Z c b s):=by kernel_rfl
theorem LU:aA aL G X 84 [a,b] s=f84 (aV aL G X) a b s:=bR aL G X (fn:=OQ)
theorem Yj:f86 Z a s=Z.aP (.bool false) (Z.bY s (fun b s=>Z.bn s (fun c s=>Z.a0 false [some c] s) 111 [(ae.ap s.aa b)]) .u32 a) (Kh Z a s):=by kernel_rfl
theorem LV:aA aL G X 86 [a] s=f86 (aV aL G X) a s.ai:=bR aL G X (fn:=S6)
theorem Rx:f108 Z c d s=Z.bn s (fun a s=>Z.af a true (fun k=>k d s) s (fun e s=>Z.af a true (fun k=>Z.bn s k 132 [(ae.ap s.aa e)]) s (fun f s=>Z.af a true (fun k=>Z.aj s k (kn .not f)) s (fun g s=>Z.bS s (fun b s=>Z.af b false (fun k=>k c s) s (fun i s=>Z.af b false (fun k=>k d s) s (fun j s=>Z.af b false (fun k=>Z.aj s k (al .lss i j)) s (fun m s=>Z.bS s (fun o s=>Z.a0 false [some o] s) b (.bool true) m)))) a g (.bool false))))) 132 [(ae.ap s.aa c)]:=by kernel_rfl
theorem GR:aA aL G X 108 [a,b] s=f108 (aV aL G X) a b s.ai:=bR aL G X (fn:=PF)
theorem Ry:f132 Z a s=Z.aj s (fun b s=>Z.a0 false [some b] s) (al .neq a a):=by kernel_rfl
theorem GS:aA aL G X 132 [a] s=f132 (aV aL G X) a s.ai:=bR aL G X (fn:=Qe)
theorem KA:f85 Z a b c d s=Ki Z a b c d (.bool true) (.bool true) s:=by kernel_rfl
theorem yP:aA aL G X 85 [a,b,c,d] s=f85 (aV aL G X) a b c d s.ai:=bR aL G X (fn:=S5)
theorem ad1:f3 Z a s=Z.gR s (fun b s=>Z.aj s (fun c s=>Z.aP c (Z.a0 false [some (.bool false)] s) (Rc Z a s)) (kn .not b)) 9 []:=by kernel_rfl
theorem Rz:aA aL G X 3 [a] s=f3 (aV aL G X) a s.ai:=bR aL G X (fn:=lz)
theorem Yk:f11 Z a b s=Z.bn s (fun c s=>Z.aj s (fun d s=>Z.aP d (Z.a0 false [some (.bW 1 [] .nil),some c] s) (Ku Z a b s)) (al .neq c (.int .i64 0))) 37 [(ae.ap s.aa a),(ae.ap s.aa b)]:=by kernel_rfl
theorem LW:aA aL G X 11 [a,b] s=f11 (aV aL G X) a b s.ai:=bR aL G X (fn:=SC)
theorem Yl:f12 Z a b s=uN Z a b (.int .i64 0) s:=by kernel_rfl
theorem LX:aA aL G X 12 [a,b] s=f12 (aV aL G X) a b s.ai:=bR aL G X (fn:=Nq)
theorem Ym:f13 Z a b s=Z.bn s (fun c s=>Z.aj s (fun d s=>Z.aP d (Z.a0 false [some (.bW 1 [] .nil),some c] s) (Ky Z a b s)) (al .neq c (.int .i64 0))) 37 [(ae.ap s.aa a),(ae.ap s.aa b)]:=by kernel_rfl
theorem LY:aA aL G X 13 [a,b] s=f13 (aV aL G X) a b s.ai:=bR aL G X (fn:=SD)
end
end Go.gl
end
section
namespace Go.gl
end Go.gl
end
