/- A part of the proof: no condition. -/
import Derived.Test.YtgdnbfijkagodaaGreatDoorA4
import Derived.Test.YtgdnbfijkagodaaGreatDoorA2
import Derived.KernelRfl
set_option linter.unusedSectionVars false
set_option linter.unusedSimpArgs false
set_option linter.unusedVariables false
section
namespace Go.gw
noncomputable section
open Go.Ab
set_option maxRecDepth 100000
variable(Z:nF)
section
variable(a b c d e f g i j m o p q r t u w x y z A B C D E F H I J K L M N O P Q R S T U V:af)(s:ag)
def Ut:f9:=ga (aP Z AK) (bH Z vt)
def Uu:gf:=eN 14
def Uv:f9:=ga (aP Z AI) (bH Z vt)
def Hg:f9:=ek 0 (Uv Z)
def rC:gf:=eN 0x3510d1a
def y8:f9:=eU rC (Z.dm (aP Z y1) rC) (Hg Z)
def Uw:f9:=ga (aP Z GH) (y8 Z)
def N1:f9:=ek 1 (Uw Z)
def AV:ah:=Z.aQ .e GD .e s (Ut Z)
def AW:ah:=Z.aQ .e GF .e s (N1 Z)
def AX:ah:=Z.aQ rC GG (dN (dN (bk .e (bk (bR d) .e)) b .e) a (bk .e (bk (bk (bR c) .e) .e))) s (y8 Z)
def AY:ah:=Z.aQ rC GI (dN (dN (bk .e (bk (bR d) .e)) b .e) a (bk .e (bk (bk (bR c) .e) .e))) s (y8 Z)
def AZ:ah:=Z.aQ .e AH .e s (bH Z vt)
def rD:ah:=Z.dm (aP Z y1) rC (dN (dN (bk .e (bk (bR d) .e)) b .e) a (bk .e (bk (bk (bR c) .e) .e))) s (Hg Z)
def Ba:ah:=Z.aQ Uu AJ (dN (bR b) a .e) s (bH Z vt)
def f133(a b:af)(s:ag):ah:=b0 [a,b] 0 .e fun ao=>aP Z GJ ao s (bH Z vt)
def Ux:f9:=ga (aP Z GN) (bH Z AL)
def Hh:f9:=ek 0 (Ux Z)
def rE:gf:=eN 0x30d5039a
def Hi:f9:=eU rE (Z.dm (aP Z y2) rE) (Hh Z)
def Uy:gf:=eN 0x310d5
def Bb:ah:=Z.aQ rE GK (dN (dN (bk (dN (bR e) d .e) .e) b .e) a (bk (bk (bk (bR f) .e) .e) (bR c))) s (Hi Z)
def Bc:ah:=Z.aQ rE GL (dN (dN (bk (dN (bR e) d .e) .e) b .e) a (bk (bk (bk (bR f) .e) .e) (bR c))) s (Hi Z)
def Bd:ah:=Z.aQ Uy GM (bk (bk (bk (bR b) .e) .e) (bk .e (bR a))) s (bH Z AL)
def rF:ah:=Z.dm (aP Z y2) rE (dN (dN (bk (dN (bR e) d .e) .e) b .e) a (bk (bk (bk (bR f) .e) .e) (bR c))) s (Hh Z)
def f134(a b:af)(s:ag):ah:=b0 [a,b] 0 .e fun ao=>aP Z GO ao s (bH Z AL)
def Uz:f9:=ga (aP Z GR) (bH Z AM)
def Hj:f9:=ek 0 (Uz Z)
def rG:gf:=eN 54
def UA:f9:=eU rG (Z.dm (aP Z y3) rG) (Hj Z)
def Be:ah:=Z.aQ rG GP (dN (bk (bR b) .e) a .e) s (UA Z)
def vv:ah:=Z.aQ rG GQ (dN (bk (bR b) .e) a .e) s (bH Z AM)
def rH:ah:=Z.dm (aP Z y3) rG (dN (bk (bR b) .e) a .e) s (Hj Z)
def f135(a:af)(s:ag):ah:=b0 [a] 0 .e fun ao=>aP Z GS ao s (bH Z AM)
def f136(a:af)(s:ag):ah:=b0 [a] 0 .e fun ao=>aP Z GU ao s (bH Z NJ)
def UB:f9:=ga (aP Z GY) (bH Z AN)
def Hk:f9:=ek 0 (UB Z)
def rI:gf:=eN 0xd50d8a
def Hl:f9:=eU rI (Z.dm (aP Z y4) rI) (Hk Z)
def UC:gf:=eN 197
def Bf:ah:=Z.aQ rI GV (dN (dN .e b (dN (bk (bR e) .e) c .e)) a (bk (bk (bk (bR d) .e) .e) .e)) s (Hl Z)
def Bg:ah:=Z.aQ rI GW (dN (dN .e b (dN (bk (bR e) .e) c .e)) a (bk (bk (bk (bR d) .e) .e) .e)) s (Hl Z)
def Bh:ah:=Z.aQ UC GX (bk (bk .e (bR a)) .e) s (bH Z AN)
def rJ:ah:=Z.dm (aP Z y4) rI (dN (dN .e b (dN (bk (bR e) .e) c .e)) a (bk (bk (bk (bR d) .e) .e) .e)) s (Hk Z)
def f137(a b:af)(s:ag):ah:=b0 [a,b] 0 .e fun ao=>aP Z GZ ao s (bH Z AN)
def UD:f9:=ga (aP Z AS) (bH Z te)
def Hm:f9:=ek 0 (UD Z)
def rK:gf:=eN 0x39234d2a
def Hn:f9:=eU rK (Z.dm (aP Z y5) rK) (Hm Z)
def UE:gf:=eN 0xd237a
def N2:gf:=eN 826
def N3:f9:=ga (aP Z AP) (bH Z te)
def Bi:f9:=ek 2 (N3 Z)
def pe:gf:=eN 0xd15203467a
def Bj:f9:=eU pe (Z.dm (aP Z vu) pe) (Bi Z)
def N4:gf:=eN 13178
def Bk:ah:=Z.aQ rK G0 (dN (dN (dN .e d (bk (bR i) .e)) b (bk (bR e) .e)) a (dN .e c (bk (dN (bR g) f .e) .e))) s (Hn Z)
def Bl:ah:=Z.aQ rK G1 (dN (dN (dN .e d (bk (bR i) .e)) b (bk (bR e) .e)) a (dN .e c (bk (dN (bR g) f .e) .e))) s (Hn Z)
def Bm:ah:=Z.aQ pe G2 (dN (dN (bR d) b (bk (dN (bk .e (bk (bR f) .e)) e .e) .e)) a (dN .e c (bk (bk (bk .e (bk (bR g) .e)) .e) .e))) s (Bj Z)
def Bn:ah:=Z.aQ pe G3 (dN (dN (bR d) b (bk (dN (bk .e (bk (bR f) .e)) e .e) .e)) a (dN .e c (bk (bk (bk .e (bk (bR g) .e)) .e) .e))) s (Bj Z)
def Bo:ah:=Z.aQ N4 AO (dN (dN (bR d) b (bk (bR e) .e)) a (bR c)) s (bH Z te)
def rL:ah:=Z.dm (aP Z vu) pe (dN (dN (bR d) b (bk (dN (bk .e (bk (bR f) .e)) e .e) .e)) a (dN .e c (bk (bk (bk .e (bk (bR g) .e)) .e) .e))) s (Bi Z)
def vw:ah:=Z.aQ N2 AQ (dN (dN (bR d) b .e) a (bR c)) s (bH Z te)
def Bp:ah:=Z.aQ UE AR (dN (dN (bR d) b (bk (bR e) .e)) a (dN .e c (bk (bR f) .e))) s (bH Z te)
def pf:ah:=Z.dm (aP Z y5) rK (dN (dN (dN .e d (bk (bR i) .e)) b (bk (bR e) .e)) a (dN .e c (bk (dN (bR g) f .e) .e))) s (Hm Z)
def f138(a b c d:af)(s:ag):ah:=b0 [a,b,c,d] 0 .e fun ao=>aP Z G4 ao s (bH Z te)
def UF:f9:=ga (aP Z G7) (bH Z AT)
def Ho:f9:=ek 0 (UF Z)
def tR:gf:=eN 0xd234da
def UG:f9:=eU tR (Z.dm (aP Z y6) tR) (Ho Z)
def UH:gf:=eN 837
def vx:ah:=Z.aQ UH G6 (bk (bk .e (bk (bR a) .e)) .e) s (bH Z AT)
def vy:ah:=Z.aQ tR G5 (dN (dN (bk (bR d) .e) b (bk (bR e) .e)) a (dN .e c (bk (bR f) .e))) s (UG Z)
def rM:ah:=Z.dm (aP Z y6) tR (dN (dN (bk (bR d) .e) b (bk (bR e) .e)) a (dN .e c (bk (bR f) .e))) s (Ho Z)
def f139(a b c:af)(s:ag):ah:=b0 [a,b,c] 0 .e fun ao=>aP Z G8 ao s (bH Z AT)
def UI:gf:=eN 798
def UJ:f9:=ga (aP Z He) (bH Z xU)
def Hp:f9:=ek 0 (UJ Z)
def rN:gf:=eN 0x334753444da
def y9:f9:=eU rN (Z.dm (aP Z y7) rN) (Hp Z)
def UK:f9:=ga (aP Z Hb) (y9 Z)
def UL:f9:=ek 1 (UK Z)
def N5:gf:=eN 0xe34753474da
def N6:gf:=eN 0x350d5
def Bq:ah:=Z.aQ rN Ha (dN (dN (bk (bR d) .e) b (bk .e (bk .e (bk (bR g) .e)))) a (bk (bk (bR e) (bk .e (bk (bR f) .e))) (bR c))) s (y9 Z)
def rO:ah:=Z.aQ N5 G9 (dN (dN (bk (bR d) .e) b (bk (bR f) (bk .e (bk (bR j) .e)))) a (bk (bk (bR e) (bk .e (bk (bR i) .e))) (dN (bR g) c .e))) s (UL Z)
def Br:ah:=Z.aQ rN Hc (dN (dN (bk (bR d) .e) b (bk .e (bk .e (bk (bR g) .e)))) a (bk (bk (bR e) (bk .e (bk (bR f) .e))) (bR c))) s (y9 Z)
def Bs:ah:=Z.aQ N6 Hd (bk (bk (bk (bR a) .e) .e) (bk (bk (bR b) .e) .e)) s (bH Z xU)
def pg:ah:=Z.dm (aP Z y7) rN (dN (dN (bk (bR d) .e) b (bk .e (bk .e (bk (bR g) .e)))) a (bk (bk (bR e) (bk .e (bk (bR f) .e))) (bR c))) s (Hp Z)
def Bt:ah:=Z.aQ UI AU (dN (bR b) a (bk .e (bR c))) s (bH Z xU)
def f140(a b:af)(s:ag):ah:=b0 [a,b] 0 .e fun ao=>aP Z Hf ao s (bH Z xU)
def Hq:gf:=eN 50
def ph:ah:=Z.aQ Hq Gd (dN .e a (bR b)) s (bH Z AE)
def nJ:ah:=Z.aQ Hq Ge (dN .e a (bR b)) s (bH Z AE)
def f111(a:af)(s:ag):ah:=b0 [a] 0 .e fun ao=>aP Z Gf ao s (bH Z AE)
def aag:gf:=eN 57
def Hr:ah:=Z.aQ aag Mp (bk (dN (bR b) a .e) .e) s (bH Z Qi)
def f87(a:af)(s:ag):ah:=b0 [a] 0 .e fun ao=>aP Z Mq ao s (bH Z Qi)
def aah:gf:=eN 3637
def aai:f9:=ga (aP Z Gb) (bH Z yY)
def N7:f9:=ek 0 (aai Z)
def sC:gf:=eN 0x3d0d5
def aaj:f9:=eU sC (Z.dm (aP Z DM) sC) (N7 Z)
def UM:f9:=ga (aP Z Mw) (bH Z yY)
def Hs:f9:=ek 2 (UM Z)
def tS:gf:=eN 0xdd315
def UN:f9:=eU tS (Z.dm (aP Z DN) tS) (Hs Z)
def UO:gf:=eN 3537
def za:ah:=Z.aQ sC Mt (bk (bk (bk (bR c) .e) .e) (bk (bR a) (bR b))) s (aaj Z)
def Ht:ah:=Z.aQ tS Mu (bk (bk (bk .e (bR c)) .e) (bk (bR a) (bk (bR b) .e))) s (UN Z)
def Hu:ah:=Z.aQ UO Mv (bk .e (bk (bR a) (bk (bR b) .e))) s (bH Z yY)
def tT:ah:=Z.dm (aP Z DN) tS (bk (bk (bk .e (bR c)) .e) (bk (bR a) (bk (bR b) .e))) s (Hs Z)
def Hv:ah:=Z.aQ sC Mx (bk (bk (bk (bR c) .e) .e) (bk (bR a) (bR b))) s (bH Z yY)
def zb:ah:=Z.aQ sC Ga (bk (bk (bk (bR c) .e) .e) (bk (bR a) (bR b))) s (bH Z yY)
def tU:ah:=Z.dm (aP Z DM) sC (bk (bk (bk (bR c) .e) .e) (bk (bR a) (bR b))) s (N7 Z)
def Hw:ah:=Z.aQ aah Gc (bk (bk (bR b) .e) (dN (bR c) a .e)) s (bH Z yY)
def f90(a b:af)(s:ag):ah:=b0 [a,b] 0 .e fun ao=>aP Z My ao s (bH Z yY)
def f113(a b:af)(s:ag):ah:=b0 [a,b] 0 .e fun ao=>aP Z Gk ao s (bH Z Nz)
def Hx:gf:=eN 14
def UP:f9:=ga (aP Z Gp) (bH Z vr)
def Hy:f9:=ek 0 (UP Z)
def rP:gf:=eN 0xd00d653703555
def Hz:f9:=eU rP (Z.dm (aP Z yZ) rP) (Hy Z)
def N8:gf:=eN 0xd35315
def Bu:ah:=Z.aQ rP Gl (bk (bk (bk (bk (bk (bk (bR e) .e) .e) .e) (bR d)) (bk (bR b) .e)) (bk (bk (dN (bk (bk (bR f) .e) .e) a .e) .e) (bk (bR c) .e))) s (Hz Z)
def Bv:ah:=Z.aQ rP Gm (bk (bk (bk (bk (bk (bk (bR e) .e) .e) .e) (bR d)) (bk (bR b) .e)) (bk (bk (dN (bk (bk (bR f) .e) .e) a .e) .e) (bk (bR c) .e))) s (Hz Z)
def Bw:ah:=Z.aQ N8 Gn (bk (bk (bk .e (bR c)) .e) (bk (bk (bR a) .e) (bk (bR b) .e))) s (bH Z vr)
def rQ:ah:=Z.dm (aP Z yZ) rP (bk (bk (bk (bk (bk (bk (bR e) .e) .e) .e) (bR d)) (bk (bR b) .e)) (bk (bk (dN (bk (bk (bR f) .e) .e) a .e) .e) (bk (bR c) .e))) s (Hy Z)
def Bx:ah:=Z.aQ Hx Gq (dN (bR b) a .e) s (bH Z vr)
def By:ah:=Z.aQ Hx AF (dN (bR b) a .e) s (bH Z vr)
def f114(a b:af)(s:ag):ah:=b0 [a,b] 0 .e fun ao=>aP Z Gr ao s (bH Z vr)
def UQ:gf:=eN 222
def Bz:ah:=Z.aQ UQ Gs (dN (bR b) a (bk (bR c) .e)) s (bH Z xT)
def f115(a b:af)(s:ag):ah:=b0 [a,b] 0 .e fun ao=>aP Z Gt ao s (bH Z xT)
def UR:f9:=ga (aP Z Gx) (bH Z AG)
def HA:f9:=ek 0 (UR Z)
def rR:gf:=eN 0x310e6
def HB:f9:=eU rR (Z.dm (aP Z y0) rR) (HA Z)
def US:gf:=eN 53
def BA:ah:=Z.aQ rR Gu (dN (bk (dN (bR d) b .e) .e) a (bk .e (bR c))) s (HB Z)
def BB:ah:=Z.aQ rR Gv (dN (bk (dN (bR d) b .e) .e) a (bk .e (bR c))) s (HB Z)
def BC:ah:=Z.aQ US Gw (bk (bk (bR a) .e) .e) s (bH Z AG)
def nK:ah:=Z.dm (aP Z y0) rR (dN (bk (dN (bR d) b .e) .e) a (bk .e (bR c))) s (HA Z)
def f116(a:af)(s:ag):ah:=b0 [a] 0 .e fun ao=>aP Z Gy ao s (bH Z AG)
def N9:gf:=eN 13
def HC:ah:=Z.aQ N9 Mb (bk (bR a) .e) s (bH Z DL)
def HD:ah:=Z.aQ N9 Mc (bk (bR a) .e) s (bH Z DL)
def f71(a:af)(s:ag):ah:=b0 [a] 0 .e fun ao=>aP Z Md ao s (bH Z DL)
def f88(a:af)(s:ag):ah:=b0 [a] 0 .e fun ao=>aP Z Mr ao s (bH Z ZF)
def f89(a:af)(s:ag):ah:=b0 [a] 0 .e fun ao=>aP Z Ms ao s (bH Z ZG)
def aak:f9:=ga (aP Z F6) (bH Z I5)
def Oa:f9:=ek 0 (aak Z)
def vz:gf:=eN 0x3350e6
def DQ:f9:=eU vz (Z.dm (aP Z DB) vz) (Oa Z)
def aal:f9:=ga (aP Z KU) (DQ Z)
def aam:f9:=ek 1 (aal Z)
def aan:gf:=eN 0x335ce6
def UT:gf:=eN 54
def zc:ah:=Z.aQ vz KT (dN (bk (dN (bR d) b .e) .e) a (bk (bk (bR e) .e) (bR c))) s (DQ Z)
def HE:ah:=Z.aQ aan KS (dN (bk (dN (bR e) b .e) (bR c)) a (bk (bk (bR f) .e) (bR d))) s (aam Z)
def HF:ah:=Z.aQ vz KV (dN (bk (dN (bR d) b .e) .e) a (bk (bk (bR e) .e) (bR c))) s (DQ Z)
def HG:ah:=Z.aQ .e KW .e s (bH Z I5)
def zd:ah:=Z.aQ UT F5 (dN (bk (bR b) .e) a .e) s (bH Z I5)
def tV:ah:=Z.dm (aP Z DB) vz (dN (bk (dN (bR d) b .e) .e) a (bk (bk (bR e) .e) (bR c))) s (Oa Z)
def f16(a:af)(s:ag):ah:=b0 [a] 0 .e fun ao=>aP Z KX ao s (bH Z I5)
def aao:gf:=eN 56550
def aap:f9:=ga (aP Z F8) (bH Z AD)
def Ob:f9:=ek 0 (aap Z)
def vA:gf:=eN 0x3453449cd1e6
def Oc:f9:=eU vA (Z.dm (aP Z DH) vA) (Ob Z)
def UU:gf:=eN 53478
def HH:gf:=eN 3382
def HI:ah:=Z.aQ vA LG (dN (bk (dN (bR e) b (bk .e (bk (bR g) .e))) (bR d)) a (bk (dN .e c (bk .e (bk (bR i) .e))) (bk (bk .e (bk (bR f) .e)) .e))) s (Oc Z)
def HJ:ah:=Z.aQ vA LH (dN (bk (dN (bR e) b (bk .e (bk (bR g) .e))) (bR d)) a (bk (dN .e c (bk .e (bk (bR i) .e))) (bk (bk .e (bk (bR f) .e)) .e))) s (Oc Z)
def ze:ah:=Z.aQ HH LI (dN (bk (bR b) .e) a (bk (bR c) .e)) s (bH Z AD)
def zf:ah:=Z.aQ HH LJ (dN (bk (bR b) .e) a (bk (bR c) .e)) s (bH Z AD)
def zg:ah:=Z.aQ UU F7 (dN (bk (dN (bR d) b .e) .e) a (bk (bR c) .e)) s (bH Z AD)
def tW:ah:=Z.dm (aP Z DH) vA (dN (bk (dN (bR e) b (bk .e (bk (bR g) .e))) (bR d)) a (bk (dN .e c (bk .e (bk (bR i) .e))) (bk (bk .e (bk (bR f) .e)) .e))) s (Ob Z)
def HK:ah:=Z.aQ aao F9 (dN (bk (dN (bR e) b .e) (bR d)) a (bk (bR c) .e)) s (bH Z AD)
def f42(a:af)(s:ag):ah:=b0 [a] 0 .e fun ao=>aP Z LK ao s (bH Z AD)
def f43(a:af)(s:ag):ah:=b0 [a] 0 .e fun ao=>aP Z LL ao s (bH Z LM)
def aaq:f9:=ga (aP Z LQ) (bH Z LS)
def Od:f9:=ek 0 (aaq Z)
def vB:gf:=eN 0x3350e5
def Oe:f9:=eU vB (Z.dm (aP Z DI) vB) (Od Z)
def aar:gf:=eN 53
def rS:ah:=Z.aQ vB LN (bk (bk (dN (bR c) a .e) .e) (bk (bk (bR d) .e) (bR b))) s (Oe Z)
def HL:ah:=Z.aQ vB LO (bk (bk (dN (bR c) a .e) .e) (bk (bk (bR d) .e) (bR b))) s (Oe Z)
def HM:ah:=Z.aQ aar LP (bk (bk (bR a) .e) .e) s (bH Z LS)
def tX:ah:=Z.dm (aP Z DI) vB (bk (bk (dN (bR c) a .e) .e) (bk (bk (bR d) .e) (bR b))) s (Od Z)
def f44(a:af)(s:ag):ah:=b0 [a] 0 .e fun ao=>aP Z LR ao s (bH Z LS)
def f48(a:af)(s:ag):ah:=b0 [a] 0 .e fun ao=>aP Z L1 ao s (bH Z Yy)
def aas:f9:=ga (aP Z Lu) (bH Z yX)
def Of:f9:=ek 0 (aas Z)
def aat:gf:=eN 0x345c5
def aau:gf:=eN 0x3111c5
def HN:ah:=Z.aQ .e Lt .e s (bH Z yX)
def zh:ah:=Z.aQ aau Lr (bk (bk .e (bR a)) (bk .e (bk .e (bk .e (bR b))))) s (Of Z)
def zi:ah:=Z.aQ aat Ls (bk (bk .e (bR a)) (bk (bk .e (bk (bR b) .e)) .e)) s (Of Z)
def f34(a:af)(s:ag):ah:=b0 [a] 0 .e fun ao=>aP Z Lv ao s (bH Z yX)
def f50(a b:af)(s:ag):ah:=b0 [a,b] 0 .e fun ao=>aP Z L2 ao s (bH Z YG)
def aav:f9:=ga (aP Z K4) (bH Z K6)
def Og:f9:=ek 0 (aav Z)
def aaw:gf:=eN 0x345c5
def aax:gf:=eN 0x3111c5
def HO:ah:=Z.aQ .e K3 .e s (bH Z K6)
def zj:ah:=Z.aQ aax K1 (bk (bk .e (bR a)) (bk .e (bk .e (bk .e (bR b))))) s (Og Z)
def zk:ah:=Z.aQ aaw K2 (bk (bk .e (bR a)) (bk (bk .e (bk (bR b) .e)) .e)) s (Og Z)
def f21(a:af)(s:ag):ah:=b0 [a] 0 .e fun ao=>aP Z K5 ao s (bH Z K6)
def f72(a:af)(s:ag):ah:=b0 [a] 0 .e fun ao=>aP Z Me ao s (bH Z YZ)
def f73(a b:af)(s:ag):ah:=b0 [a,b] 0 .e fun ao=>aP Z Mf ao s (bH Z Y0)
def f74(a b:af)(s:ag):ah:=b0 [a,b] 0 .e fun ao=>aP Z Mg ao s (bH Z Mh)
def f17(a b:af)(s:ag):ah:=b0 [a,b] 0 .e fun ao=>aP Z KY ao s (bH Z Xr)
def aay:f9:=ga (aP Z L6) (bH Z L8)
def Oh:f9:=ek 0 (aay Z)
def vC:gf:=eN 0x350da
def Oi:f9:=eU vC (Z.dm (aP Z DK) vC) (Oh Z)
def HP:ah:=Z.aQ vC L3 (dN (dN (bk (bR c) .e) b .e) a (bk (bk (bR d) .e) .e)) s (Oi Z)
def HQ:ah:=Z.aQ vC L4 (dN (dN (bk (bR c) .e) b .e) a (bk (bk (bR d) .e) .e)) s (Oi Z)
def HR:ah:=Z.aQ .e L5 .e s (bH Z L8)
def tY:ah:=Z.dm (aP Z DK) vC (dN (dN (bk (bR c) .e) b .e) a (bk (bk (bR d) .e) .e)) s (Oh Z)
def f62(a b:af)(s:ag):ah:=b0 [a,b] 0 .e fun ao=>aP Z L7 ao s (bH Z L8)
def aaz:gf:=eN 821
def aaA:f9:=ga (aP Z LX) (bH Z I7)
def Oj:f9:=ek 0 (aaA Z)
def vD:gf:=eN 1013
def Ok:f9:=eU vD (Z.dm (aP Z DJ) vD) (Oj Z)
def HS:ah:=Z.aQ vD LU (bk (bk (bR b) (bR c)) (bR a)) s (Ok Z)
def HT:ah:=Z.aQ vD LV (bk (bk (bR b) (bR c)) (bR a)) s (Ok Z)
def HU:ah:=Z.aQ .e LW .e s (bH Z I7)
def tZ:ah:=Z.dm (aP Z DJ) vD (bk (bk (bR b) (bR c)) (bR a)) s (Oj Z)
def HV:ah:=Z.aQ aaz LY (bk (bk (bR b) .e) (bR a)) s (bH Z I7)
def f45(a b:af)(s:ag):ah:=b0 [a,b] 0 .e fun ao=>aP Z LZ ao s (bH Z I7)
def f19(a:af)(s:ag):ah:=b0 [a] 0 .e fun ao=>aP Z KZ ao s (bH Z K0)
def f47(a:af)(s:ag):ah:=b0 [a] 0 .e fun ao=>aP Z L0 ao s (bH Z Yx)
def DR:f9:=ga (aP Z Mm) (bH Z Mo)
def aaB:gf:=eN 3
def aaC:gf:=eN 12742
def aaD:gf:=eN 3285
def aaE:gf:=eN 14
def HW:ah:=Z.aQ aaD Mi (bk (bk (bk (bR b) .e) (bR a)) .e) s (DR Z)
def zl:ah:=Z.aQ aaC Mj (dN (bk .e (bR b)) a (bk .e (bR c))) s (DR Z)
def HX:ah:=Z.aQ aaB Mk (bR a) s (DR Z)
def UW:ah:=Z.aQ aaE Ml (dN (bR b) a .e) s (bH Z Mo)
def f77(a b:af)(s:ag):ah:=b0 [a,b] 0 .e fun ao=>aP Z Mn ao s (bH Z Mo)
def aaF:gf:=eN 3
def HY:ah:=Z.aQ aaF Mz (bR a) s (bH Z Ql)
def f95(a:af)(s:ag):ah:=b0 [a] 0 .e fun ao=>aP Z MA ao s (bH Z Ql)
def f96(a:af)(s:ag):ah:=b0 [a] 0 .e fun ao=>aP Z MB ao s (bH Z ZZ)
def aaG:f9:=ga (aP Z MG) (bH Z DP)
def Ol:f9:=ek 0 (aaG Z)
def vE:gf:=eN 222
def aaH:f9:=eU vE (Z.dm (aP Z DO) vE) (Ol Z)
def Om:gf:=eN 3218
def UX:ah:=Z.aQ vE MC (dN (bR b) a (bk (bR c) .e)) s (aaH Z)
def oj:ah:=Z.aQ Om MD (dN .e a (bk (dN .e b (bR c)) .e)) s (bH Z DP)
def ol:ah:=Z.aQ Om ME (dN .e a (bk (dN .e b (bR c)) .e)) s (bH Z DP)
def t0:ah:=Z.aQ vE MF (dN (bR b) a (bk (bR c) .e)) s (bH Z DP)
def HZ:ah:=Z.dm (aP Z DO) vE (dN (bR b) a (bk (bR c) .e)) s (Ol Z)
def f97(a b:af)(s:ag):ah:=b0 [a,b] 0 .e fun ao=>aP Z MH ao s (bH Z DP)
def zm:gf:=eN 50
def rT:ah:=Z.aQ zm Gg (dN .e a (bR b)) s (bH Z xS)
def rU:ah:=Z.aQ zm Gh (dN .e a (bR b)) s (bH Z xS)
def vF:ah:=Z.aQ zm Gi (dN .e a (bR b)) s (bH Z xS)
def f112(a:af)(s:ag):ah:=b0 [a] 0 .e fun ao=>aP Z Gj ao s (bH Z xS)
def f120(a:af)(s:ag):ah:=b0 [a] 0 .e fun ao=>aP Z Gz ao s (bH Z NI)
def BD:ah:=Z.aQ .e GA .e s (bH Z GC)
def f121(a:af)(s:ag):ah:=b0 [a] 0 .e fun ao=>aP Z GB ao s (bH Z GC)
def aaI:f9:=ga (aP Z F4) (bH Z KP)
def On:f9:=ek 0 (aaI Z)
def vG:gf:=eN 0x335cda
def DS:f9:=eU vG (Z.dm (aP Z yU) vG) (On Z)
def aaJ:f9:=ga (aP Z F1) (DS Z)
def qt:f9:=ek 1 (aaJ Z)
def aaK:gf:=eN 0xe3538da
def UY:f9:=ga (aP Z FY) (qt Z)
def H0:f9:=ek 2 (UY Z)
def rV:gf:=eN 0x3e0e5fb39a
def H2:f9:=eU rV (Z.dm (aP Z DA) rV) (H0 Z)
def zn:gf:=eN 0xe35f839a
def UZ:f9:=ga (aP Z FW) (qt Z)
def H3:f9:=ek 4 (UZ Z)
def rW:gf:=eN 0xe35ce839a
def H4:f9:=eU rW (Z.dm (aP Z yT) rW) (H3 Z)
def U1:gf:=eN 0x3635cda
def U2:gf:=eN 197
def H5:ah:=Z.aQ rV KK (dN (dN (bk (dN (bR p) e .e) (bR j)) b (dN (bR g) c (bR m))) a (bk (bk (dN (bR q) f .e) .e) (dN (bR i) d (bR o)))) s (H2 Z)
def H6:ah:=Z.aQ rV KL (dN (dN (bk (dN (bR p) e .e) (bR j)) b (dN (bR g) c (bR m))) a (bk (bk (dN (bR q) f .e) .e) (dN (bR i) d (bR o)))) s (H2 Z)
def vH:ah:=Z.aQ rW KM (dN (dN (bk (dN (bR m) e .e) .e) b (dN (dN (bR o) g .e) c (bR j))) a (bk (bk (bR f) .e) (dN (bR i) d .e))) s (H4 Z)
def H7:ah:=Z.aQ rW KN (dN (dN (bk (dN (bR m) e .e) .e) b (dN (dN (bR o) g .e) c (bR j))) a (bk (bk (bR f) .e) (dN (bR i) d .e))) s (H4 Z)
def pi:ah:=Z.aQ vG F0 (dN (dN (bk (bR e) .e) b (bR c)) a (bk (bk (bR f) .e) (bR d))) s (DS Z)
def nL:ah:=Z.aQ U1 FT (dN (dN (bk (bR e) .e) b (bR c)) a (bk (bk (bR f) .e) (dN (bk (bR g) .e) d .e))) s (qt Z)
def pj:ah:=Z.aQ zn FU (dN (dN (bk (dN (bR m) e .e) .e) b (dN (bR g) c (bR j))) a (bk (bk (bR f) .e) (dN (bR i) d .e))) s (qt Z)
def rX:ah:=Z.aQ zn FV (dN (dN (bk (dN (bR m) e .e) .e) b (dN (bR g) c (bR j))) a (bk (bk (bR f) .e) (dN (bR i) d .e))) s (qt Z)
def t8:ah:=Z.dm (aP Z yT) rW (dN (dN (bk (dN (bR m) e .e) .e) b (dN (dN (bR o) g .e) c (bR j))) a (bk (bk (bR f) .e) (dN (bR i) d .e))) s (H3 Z)
def zo:ah:=Z.aQ zn FX (dN (dN (bk (dN (bR m) e .e) .e) b (dN (bR g) c (bR j))) a (bk (bk (bR f) .e) (dN (bR i) d .e))) s (qt Z)
def t9:ah:=Z.dm (aP Z DA) rV (dN (dN (bk (dN (bR p) e .e) (bR j)) b (dN (bR g) c (bR m))) a (bk (bk (dN (bR q) f .e) .e) (dN (bR i) d (bR o)))) s (H0 Z)
def rY:ah:=Z.aQ aaK FZ (dN (dN (bk (bR e) .e) b (dN (bR g) c .e)) a (bk (bk (bR f) .e) (dN (bR i) d .e))) s (qt Z)
def H8:ah:=Z.aQ vG F2 (dN (dN (bk (bR e) .e) b (bR c)) a (bk (bk (bR f) .e) (bR d))) s (DS Z)
def BE:ah:=Z.aQ U2 F3 (bk (bk .e (bR a)) .e) s (bH Z KP)
def kD:ah:=Z.dm (aP Z yU) vG (dN (dN (bk (bR e) .e) b (bR c)) a (bk (bk (bR f) .e) (bR d))) s (On Z)
def f10(a b:af)(s:ag):ah:=b0 [a,b] 0 .e fun ao=>aP Z KO ao s (bH Z KP)
def aaL:gf:=eN 14
def zp:ah:=Z.aQ aaL KQ (dN (bR b) a .e) s (bH Z xr)
def f14(a b:af)(s:ag):ah:=b0 [a,b] 0 .e fun ao=>aP Z KR ao s (bH Z xr)
def aaM:f9:=ga (aP Z LA) (bH Z I6)
def Oo:f9:=ek 0 (aaM Z)
def vI:gf:=eN 0x360da
def Oq:f9:=eU vI (Z.dm (aP Z DG) vI) (Oo Z)
def Ot:gf:=eN 12501
def rZ:ah:=Z.aQ vI Lw (dN (dN (bk (bR d) .e) b .e) a (dN (bk (bR e) .e) c .e)) s (Oq Z)
def H9:ah:=Z.aQ vI Lx (dN (dN (bk (bR d) .e) b .e) a (dN (bk (bR e) .e) c .e)) s (Oq Z)
def Ia:ah:=Z.aQ Ot Ly (bk (bk (bk (bR b) .e) .e) (bR a)) s (bH Z I6)
def zq:ah:=Z.aQ Ot Lz (bk (bk (bk (bR b) .e) .e) (bR a)) s (bH Z I6)
def ua:ah:=Z.dm (aP Z DG) vI (dN (dN (bk (bR d) .e) b .e) a (dN (bk (bR e) .e) c .e)) s (Oo Z)
def f35(a b c:af)(s:ag):ah:=b0 [a,b,c] 0 .e fun ao=>aP Z LB ao s (bH Z I6)
def f36(a:af)(s:ag):ah:=b0 [a] 0 .e fun ao=>aP Z LC ao s (bH Z X5)
def acp:gf:=eN 3
def acq:gf:=eN 0xe3935
def acr:f9:=ga (aP Z KH) (bH Z Dn)
def Ww:f9:=ek 0 (acr Z)
def p4:gf:=eN 0x3ef9c75
def Ou:f9:=eU p4 (Z.dm (aP Z Dz) p4) (Ww Z)
def aaN:f9:=ga (aP Z KE) (Ou Z)
def vJ:f9:=ek 1 (aaN Z)
def aaO:f9:=ga (aP Z KC) (vJ Z)
def aaP:f9:=ga (aP Z Wt) (vJ Z)
def aaQ:gf:=eN 0xf9c45
def zr:ah:=Z.aQ p4 KD (bk (bk (bR a) (bk .e (bR g))) (bk (dN (bR d) b (bR f)) (dN (bR e) c (bR i)))) s (Ou Z)
def Ov:ah:=Z.aQ p4 Wr (bk (bk (bR a) (bk .e (bR g))) (bk (dN (bR d) b (bR f)) (dN (bR e) c (bR i)))) s (vJ Z)
def zs:ah:=Z.aQ p4 Ws (bk (bk (bR a) (bk .e (bR g))) (bk (dN (bR d) b (bR f)) (dN (bR e) c (bR i)))) s (vJ Z)
def Ow:ah:=Z.aQ p4 Wq (bk (bk (bR a) (bk .e (bR g))) (bk (dN (bR d) b (bR f)) (dN (bR e) c (bR i)))) s (aaP Z)
def zt:ah:=Z.aQ p4 Wu (bk (bk (bR a) (bk .e (bR g))) (bk (dN (bR d) b (bR f)) (dN (bR e) c (bR i)))) s (vJ Z)
def DT:ah:=Z.aQ p4 Wp (bk (bk (bR a) (bk .e (bR g))) (bk (dN (bR d) b (bR f)) (dN (bR e) c (bR i)))) s (aaO Z)
def Ox:ah:=Z.aQ p4 KF (bk (bk (bR a) (bk .e (bR g))) (bk (dN (bR d) b (bR f)) (dN (bR e) c (bR i)))) s (Ou Z)
def Ib:ah:=Z.aQ aaQ KG (bk (bk .e (bk .e (bR d))) (bk (dN (bR b) a (bR c)) .e)) s (bH Z Dn)
def zu:ah:=Z.dm (aP Z Dz) p4 (bk (bk (bR a) (bk .e (bR g))) (bk (dN (bR d) b (bR f)) (dN (bR e) c (bR i)))) s (Ww Z)
def Oy:ah:=Z.aQ acq KI (bk (bk (bR a) .e) (bk (dN (bR d) b .e) (dN (bR e) c .e))) s (bH Z Dn)
def Oz:ah:=Z.aQ acp KJ (bR a) s (bH Z Dn)
def f7(a:af)(s:ag):ah:=b0 [a] 0 .e fun ao=>aP Z Wv ao s (bH Z Dn)
def aaR:gf:=eN 3
def Ic:ah:=Z.aQ aaR K7 (bR a) s (bH Z DC)
def f23(a:af)(s:ag):ah:=b0 [a] 0 .e fun ao=>aP Z K8 ao s (bH Z DC)
def aaS:gf:=eN 3
def aaT:f9:=ga (aP Z Lc) (bH Z yV)
def OA:f9:=ek 0 (aaT Z)
def vK:gf:=eN 0x310d5c356
def OB:f9:=eU vK (Z.dm (aP Z DD) vK) (OA Z)
def U3:gf:=eN 197
def Ie:ah:=Z.aQ vK K9 (dN (bk (bk (bk (bR d) .e) .e) (bR b)) a (bk (bk (bk (bR e) .e) .e) (bk .e (bR c)))) s (OB Z)
def If:ah:=Z.aQ vK La (dN (bk (bk (bk (bR d) .e) .e) (bR b)) a (bk (bk (bk (bR e) .e) .e) (bk .e (bR c)))) s (OB Z)
def Ig:ah:=Z.aQ U3 Lb (bk (bk .e (bR a)) .e) s (bH Z yV)
def ub:ah:=Z.dm (aP Z DD) vK (dN (bk (bk (bk (bR d) .e) .e) (bR b)) a (bk (bk (bk (bR e) .e) .e) (bk .e (bR c)))) s (OA Z)
def Ih:ah:=Z.aQ aaS Ld (bR a) s (bH Z yV)
def f24(a:af)(s:ag):ah:=b0 [a] 0 .e fun ao=>aP Z Le ao s (bH Z yV)
def aaU:gf:=eN 3
def aaV:f9:=ga (aP Z Li) (bH Z vq)
def OC:f9:=ek 0 (aaV Z)
def vL:gf:=eN 0x311c8355
def OD:f9:=eU vL (Z.dm (aP Z DE) vL) (OC Z)
def U4:gf:=eN 197
def zv:ah:=Z.aQ vL Lf (bk (bk (bk (bk (bR d) .e) .e) (dN .e a (bR b))) (bk .e (bk .e (bR c)))) s (OD Z)
def Ii:ah:=Z.aQ vL Lg (bk (bk (bk (bk (bR d) .e) .e) (dN .e a (bR b))) (bk .e (bk .e (bR c)))) s (OD Z)
def Ij:ah:=Z.aQ U4 Lh (bk (bk .e (bR a)) .e) s (bH Z vq)
def uc:ah:=Z.dm (aP Z DE) vL (bk (bk (bk (bk (bR d) .e) .e) (dN .e a (bR b))) (bk .e (bk .e (bR c)))) s (OC Z)
def Ik:ah:=Z.aQ aaU Lj (bR a) s (bH Z vq)
def f25(a:af)(s:ag):ah:=b0 [a] 0 .e fun ao=>aP Z Lk ao s (bH Z vq)
def aaW:gf:=eN 210
def aaX:f9:=ga (aP Z Lo) (bH Z yW)
def OE:f9:=ek 0 (aaX Z)
def vM:gf:=eN 0xd23453446
def OF:f9:=eU vM (Z.dm (aP Z DF) vM) (OE Z)
def U5:gf:=eN 785
def zw:ah:=Z.aQ vM Ll (dN (bk .e (bk .e (bk (bR d) .e))) a (bk (bk .e (bk (bR c) .e)) (dN .e b (bk (bR e) .e)))) s (OF Z)
def Il:ah:=Z.aQ vM Lm (dN (bk .e (bk .e (bk (bR d) .e))) a (bk (bk .e (bk (bR c) .e)) (dN .e b (bk (bR e) .e)))) s (OF Z)
def Im:ah:=Z.aQ U5 Ln (bk .e (bk .e (bR a))) s (bH Z yW)
def ud:ah:=Z.dm (aP Z DF) vM (dN (bk .e (bk .e (bk (bR d) .e))) a (bk (bk .e (bk (bR c) .e)) (dN .e b (bk (bR e) .e)))) s (OE Z)
def Io:ah:=Z.aQ aaW Lp (dN .e a (bk (bR b) .e)) s (bH Z yW)
def f26(a:af)(s:ag):ah:=b0 [a] 0 .e fun ao=>aP Z Lq ao s (bH Z yW)
def f41(a:af)(s:ag):ah:=b0 [a] 0 .e fun ao=>aP Z LD ao s (bH Z LF)
def aaY:gf:=eN 3
def Ip:ah:=Z.aQ aaY L9 (bR a) s (bH Z I8)
def f70(a:af)(s:ag):ah:=b0 [a] 0 .e fun ao=>aP Z Ma ao s (bH Z I8)
end
variable{a b c d e f g i j m o p q r t u w x y z A B C D E F H I J K L M N O P Q R S T U V:af}{s:ag}
section
variable{Z}[h:Inhabited Z.pw]
include h
theorem BF:AV Z s=Z.a5 false [some (.int .i64 1)] s:=h.1.fW
theorem BG:AW Z s=Z.a5 false [some (.int .i64 1)] s:=h.1.fW
theorem BH:AX Z a b c d s=Z.ai s (fun e s=>rD Z a b c e s) (an .add d (.int .i64 1)):=h.1.fW
theorem BI:AY Z a b e d s=Z.cI s (fun f s=>Z.ai s (fun g s=>Z.ai s (fun c s=>Z.bT s (fun i s=>Z.ar s (fun j s=>Z.bT s (fun m s=>Z.ar s (fun o s=>Z.ai s (fun p s=>Z.aR p (Z.bT s (fun q s=>Z.ar s (fun r s=>Z.bT s (fun t s=>Z.ar s (fun u s=>Z.ai s (fun w s=>Z.aR w (Z.a5 false [some (.int .i64 (-1))] s) (AW Z s)) (an .lss r u)) none t) 1 b c) none q) 1 a c) (AX Z a b e d s)) (an .neq j o)) none m) 1 b c) none i) 1 a c) (an .sub g d)) (an .sub f (.int .i64 1))) false a:=h.1.fW
theorem BJ:AZ Z s=Z.a5 false [some (.int .i64 0)] s:=h.1.fW
theorem tf:rD Z c d a b s=Z.ai s (fun e s=>Z.aR e (AY Z c d a b s) (AZ Z s)) (an .lss b a):=h.1.s7
theorem BK:Ba Z a b s=Z.cI s (fun c s=>rD Z a b c (.int .i64 0) s) false a:=h.1.fW
theorem BL:Bb Z a b c d e f s=Z.ai s (fun g s=>rF Z a b c d e g s) (an .add f (.int .i64 1)):=h.1.fW
theorem BM:Bc Z a b c e f d s=Z.cI s (fun j s=>Z.ai s (fun m s=>Z.ai s (fun g s=>Z.ai s (fun o s=>Z.bT s (fun p s=>Z.ar s (fun q s=>Z.b9 s (fun r s=>Z.ai s (fun i s=>Z.b9 s (fun t s=>Z.ai s (fun u s=>Z.b9 s (fun w s=>Z.bT s (fun x s=>Z.b8 s (fun A s=>Z.b9 s (fun y s=>Z.ai s (fun z s=>Bb Z a b c z f d s) (an .rem i y)) .u64 b) 1 x (af.ap s.aa w)) 1 c g) .u32 u) (an .quo i t)) .u64 b) (an .or o r)) .u64 q) none p) 1 a g) (an .shl e (.int .u64 32))) (an .sub m d)) (an .sub j (.int .i64 1))) false a:=h.1.fW
theorem BN:Bd Z a b s=Z.bt s (fun c s=>Z.b9 s (fun d s=>Z.a5 false [some c,some d] s) .u32 b) 135 [(af.ap s.aa a)]:=h.1.fW
theorem tg:rF Z e f a b c d s=Z.ai s (fun g s=>Z.aR g (Bc Z e f a b c d s) (Bd Z a b s)) (an .lss d c):=h.1.s7
theorem BO:Be Z a b s=Z.ai s (fun c s=>rH Z a c s) (an .sub b (.int .i64 1)):=h.1.fW
theorem BP:vv Z a b s=Z.lr 1 a none (some b) none s (fun c s=>Z.a5 false [some c] s):=h.1.fW
theorem th:rH Z c b s=Z.ai s (fun a s=>Z.ae a true (fun k=>k c s) s (fun d s=>Z.ae a true (fun k=>k b s) s (fun e s=>Z.ae a true (fun k=>Z.ai s k (an .sub e (.int .i64 1))) s (fun f s=>Z.ae a true (fun k=>Z.bT s k 1 d f) s (fun g s=>Z.ae a true (fun k=>Z.ar s k none g) s (fun i s=>Z.ae a true (fun k=>Z.ai s k (an .eql i (.int .u32 0))) s (fun j s=>Z.bs s (fun m s=>Z.aR m (Be Z c b s) (vv Z c b s)) a j (.bool false)))))))) (an .gtr b (.int .i64 0)):=h.1.s7
theorem BQ:Bf Z a b c d e s=Z.ai s (fun f s=>rJ Z a b c d f s) (an .add e (.int .i64 1)):=h.1.fW
theorem BR:Bg Z d a b e c s=Z.bT s (fun i s=>Z.ar s (fun j s=>Z.b9 s (fun m s=>Z.ai s (fun o s=>Z.ai s (fun f s=>Z.ai s (fun p s=>Z.ai s (fun g s=>Z.bT s (fun q s=>Z.ar s (fun r s=>Z.b9 s (fun t s=>Z.ai s (fun u s=>Z.bT s (fun w s=>Z.b8 s (fun F s=>Z.ai s (fun x s=>Z.ai s (fun y s=>Z.ai s (fun z s=>Z.ai s (fun A s=>Z.b9 s (fun B s=>Z.bT s (fun C s=>Z.b8 s (fun F s=>Bf Z d a b e c s) 1 C (af.ap s.aa B)) 1 b z) .u32 A) (an .shr f (.int .u64 32))) (an .add y (.int .i64 1))) (an .add c x)) (an .quo a (.int .i64 32))) 1 w (af.ap s.aa u)) 1 b g) (an .or r t)) .u32 f) none q) 1 b g) (an .add c p)) (an .quo a (.int .i64 32))) (an .shl m o)) (an .rem a (.int .i64 32))) .u64 j) none i) 1 d c:=h.1.fW
theorem BS:Bh Z a s=Z.bt s (fun b s=>Z.a5 false [some b] s) 135 [(af.ap s.aa a)]:=h.1.fW
theorem ti:rJ Z d e a b c s=Z.ai s (fun f s=>Z.aR f (Bg Z d e a b c s) (Bh Z a s)) (an .lss c b):=h.1.s7
theorem BT:Bk Z a b c d e f g i s=Z.ai s (fun j s=>pf Z a b c d e f g j s) (an .add i (.int .i64 1)):=h.1.fW
theorem BU:Bl Z b c d e f g i a s=Z.bT s (fun o s=>Z.ar s (fun p s=>Z.b9 s (fun q s=>Z.ai s (fun r s=>Z.ai s (fun j s=>Z.ai s (fun t s=>Z.ai s (fun u s=>Z.bT s (fun w s=>Z.ar s (fun x s=>Z.b9 s (fun y s=>Z.ai s (fun z s=>Z.ai s (fun A s=>Z.ai s (fun m s=>Z.ai s (fun B s=>Z.b9 s (fun C s=>Z.bT s (fun D s=>Z.b8 s (fun F s=>Z.ai s (fun E s=>Bk Z b c d e t E i a s) (an .shr m (.int .u64 63))) 1 D (af.ap s.aa C)) 1 b B) .u32 m) (an .add c a)) (an .sub A g)) (an .sub y z)) (an .and j (.int .u64 4294967295))) .u64 x) none w) 1 b u) (an .add c a)) (an .shr j (.int .u64 32))) (an .add r f)) (an .mul e q)) .u64 p) none o) 1 d a:=h.1.fW
theorem BV:Bm Z a b c d e f g s=Z.ai s (fun i s=>rL Z a b c d e f i s) (an .add g (.int .i64 1)):=h.1.fW
theorem BW:Bn Z b c d e f g a s=Z.ai s (fun j s=>Z.bT s (fun m s=>Z.ar s (fun o s=>Z.b9 s (fun p s=>Z.bT s (fun q s=>Z.ar s (fun r s=>Z.b9 s (fun t s=>Z.ai s (fun u s=>Z.ai s (fun i s=>Z.ai s (fun w s=>Z.b9 s (fun x s=>Z.bT s (fun y s=>Z.b8 s (fun A s=>Z.ai s (fun z s=>Bm Z b c d e z g a s) (an .shr i (.int .u64 32))) 1 y (af.ap s.aa x)) 1 b w) .u32 i) (an .add c a)) (an .add u f)) (an .add p t)) .u64 r) none q) 1 d a) .u64 o) none m) 1 b j) (an .add c a):=h.1.fW
theorem BX:Bo Z a b c d e s=Z.cI s (fun g s=>Z.ai s (fun f s=>Z.bT s (fun i s=>Z.ar s (fun j s=>Z.b9 s (fun m s=>Z.ai s (fun o s=>Z.bT s (fun p s=>Z.b8 s (fun u s=>Z.ai s (fun q s=>Z.b9 s (fun r s=>Z.a5 false [some r] s) .u32 q) (an .sub d (.int .u64 1))) 1 p (af.ap s.aa o)) 1 a f) (an .add j m)) .u32 e) none i) 1 a f) (an .add b g)) false c:=h.1.fW
theorem tj:rL Z a b c d e f g s=Z.ai s (fun i s=>Z.aR i (Bn Z a b c d e f g s) (Bo Z a b c d e s)) (an .lss g f):=h.1.s7
theorem BY:vw Z b c a d s=Z.cI s (fun e s=>rL Z b c a d (.int .u64 0) e (.int .i64 0) s) false a:=h.1.fW
theorem BZ:Bp Z a b c d e f s=Z.cI s (fun i s=>Z.ai s (fun j s=>Z.bT s (fun m s=>Z.ar s (fun o s=>Z.b9 s (fun p s=>Z.ai s (fun q s=>Z.ai s (fun g s=>Z.cI s (fun r s=>Z.ai s (fun t s=>Z.b9 s (fun u s=>Z.bT s (fun w s=>Z.b8 s (fun A s=>Z.ai s (fun x s=>Z.ai s (fun y s=>Z.aR y (Z.b9 s (fun z s=>Z.a5 false [some z] s) .u32 d) (vw Z a b c d s)) (an .eql x (.int .u64 0))) (an .shr g (.int .u64 63))) 1 w (af.ap s.aa u)) 1 a t) .u32 g) (an .add b r)) false c) (an .sub q f)) (an .sub p e)) .u64 o) none m) 1 a j) (an .add b i)) false c:=h.1.fW
theorem tk:pf Z a b c d e f g i s=Z.ai s (fun j s=>Z.aR j (Bl Z a b c d e f g i s) (Bp Z a b c d e f s)) (an .lss i g):=h.1.s7
theorem tl:vx Z a s=Z.a5 false [some a] s:=h.1.fW
theorem B0:vy Z c d a b e f s=Z.ai s (fun g s=>Z.ai s (fun j s=>Z.bT s (fun m s=>Z.ar s (fun o s=>Z.b9 s (fun p s=>Z.ai s (fun i s=>Z.ai s (fun q s=>Z.aR q (vx Z g s) (rM Z c d a b g i s)) (an .geq i (.int .u64 4294967296))) (an .add f p)) .u64 o) none m) 1 a j) (an .sub b (.int .i64 1))) (an .sub e (.int .u64 1)):=h.1.fW
theorem B1:rM Z d e f c b g s=Z.ai s (fun a s=>Z.ae a false (fun k=>k b s) s (fun i s=>Z.ae a false (fun k=>k f s) s (fun j s=>Z.ae a false (fun k=>k c s) s (fun m s=>Z.ae a false (fun k=>Z.ai s k (an .sub m (.int .i64 2))) s (fun o s=>Z.ae a false (fun k=>Z.bT s k 1 j o) s (fun p s=>Z.ae a false (fun k=>Z.ar s k none p) s (fun q s=>Z.ae a false (fun k=>Z.b9 s k .u64 q) s (fun r s=>Z.ae a false (fun k=>Z.ai s k (an .mul i r)) s (fun t s=>Z.ae a false (fun k=>k g s) s (fun u s=>Z.ae a false (fun k=>Z.ai s k (an .shl u (.int .u64 32))) s (fun w s=>Z.ae a false (fun k=>k d s) s (fun x s=>Z.ae a false (fun k=>k e s) s (fun y s=>Z.ae a false (fun k=>k c s) s (fun z s=>Z.ae a false (fun k=>Z.ai s k (an .add y z)) s (fun A s=>Z.ae a false (fun k=>Z.ai s k (an .sub A (.int .i64 2))) s (fun B s=>Z.ae a false (fun k=>Z.bT s k 1 x B) s (fun C s=>Z.ae a false (fun k=>Z.ar s k none C) s (fun D s=>Z.ae a false (fun k=>Z.b9 s k .u64 D) s (fun E s=>Z.ae a false (fun k=>Z.ai s k (an .or w E)) s (fun F s=>Z.ae a false (fun k=>Z.ai s k (an .gtr t F)) s (fun H s=>Z.bs s (fun I s=>Z.aR I (vy Z d e f c b g s) (vx Z b s)) a (.bool true) H))))))))))))))))))))) (an .geq b (.int .u64 4294967296)):=h.1.s7
theorem B2:Bq Z a b c d e f g s=Z.ai s (fun i s=>pg Z a b c d e f i s) (an .add g (.int .i64 1)):=h.1.fW
theorem B3:rO Z c a d e b f g i j s=Z.ai s (fun m s=>Z.ai s (fun o s=>Z.b9 s (fun p s=>Z.bT s (fun q s=>Z.b8 s (fun r s=>Bq Z c a d e b i j s) 1 q (af.ap s.aa p)) 1 b f) .u32 o) (an .shr g m)) (an .rem a (.int .i64 32)):=h.1.fW
theorem B4:Br Z b d c e f g a s=Z.ai s (fun j s=>Z.bT s (fun m s=>Z.ar s (fun o s=>Z.b9 s (fun i s=>Z.ai s (fun p s=>Z.ai s (fun q s=>Z.cI s (fun r s=>Z.ai s (fun t s=>Z.aR t (Z.ai s (fun u s=>Z.ai s (fun w s=>Z.bT s (fun x s=>Z.ar s (fun y s=>Z.b9 s (fun z s=>Z.ai s (fun A s=>Z.ai s (fun B s=>rO Z b d c e f a B g a s) (an .or i A)) (an .shl z (.int .u64 32))) .u64 y) none x) 1 b w) (an .add u (.int .i64 1))) (an .add a c)) (rO Z b d c e f a i g a s)) (an .lss q r)) false b) (an .add p (.int .i64 1))) (an .add a c)) .u64 o) none m) 1 b j) (an .add a c):=h.1.fW
theorem B5:Bs Z a b s=Z.bt s (fun c s=>Z.a5 false [some c,some a] s) 135 [(af.ap s.aa b)]:=h.1.fW
theorem tm:pg Z e f g a b c d s=Z.ai s (fun i s=>Z.aR i (Br Z e f g a b c d s) (Bs Z a b s)) (an .lss d c):=h.1.s7
theorem B6:Bt Z b d c s=Z.lr 1 b none (some c) none s (fun g s=>Z.bt s (fun i s=>Z.cI s (fun j s=>Z.ai s (fun a s=>Z.ae a false (fun k=>k b s) s (fun m s=>Z.ae a false (fun k=>k c s) s (fun o s=>Z.ae a false (fun k=>Z.bT s k 1 m o) s (fun p s=>Z.ae a false (fun k=>Z.ar s k none p) s (fun q s=>Z.ae a false (fun k=>k d s) s (fun r s=>Z.ae a false (fun k=>Z.ai s k (an .rem r (.int .i64 32))) s (fun t s=>Z.ae a false (fun k=>Z.ai s k (an .shl (.int .u32 1) t)) s (fun u s=>Z.ae a false (fun k=>Z.ai s k (an .sub u (.int .u32 1))) s (fun w s=>Z.ae a false (fun k=>Z.ai s k (an .and q w)) s (fun x s=>Z.ae a false (fun k=>Z.ai s k (an .neq x (.int .u32 0))) s (fun y s=>Z.bs s (fun z s=>Z.cI s (fun A s=>Z.ai s (fun e s=>Z.kz s (fun f s=>Z.cI s (fun B s=>pg Z b d c z f B (.int .i64 0) s) false f) [.int .u32 0] 4 e e) (an .sub A c)) false b) a (.bool true) y))))))))))) (an .gtr j (.int .i64 0))) false i) 135 [(af.ap s.aa g)]):=h.1.fW
theorem B7:ph Z a b s=Z.b9 s (fun c s=>Z.hx s (fun d s=>Z.b9 s (fun e s=>Z.ai s (fun f s=>Z.a5 false [some f] s) (an .add b e)) .i64 d) (.str [0,1,2,2,3,3,3,3,4,4,4,4,4,4,4,4,5,5,5,5,5,5,5,5,5,5,5,5,5,5,5,5,6,6,6,6,6,6,6,6,6,6,6,6,6,6,6,6,6,6,6,6,6,6,6,6,6,6,6,6,6,6,6,6,7,7,7,7,7,7,7,7,7,7,7,7,7,7,7,7,7,7,7,7,7,7,7,7,7,7,7,7,7,7,7,7,7,7,7,7,7,7,7,7,7,7,7,7,7,7,7,7,7,7,7,7,7,7,7,7,7,7,7,7,7,7,7,7,8,8,8,8,8,8,8,8,8,8,8,8,8,8,8,8,8,8,8,8,8,8,8,8,8,8,8,8,8,8,8,8,8,8,8,8,8,8,8,8,8,8,8,8,8,8,8,8,8,8,8,8,8,8,8,8,8,8,8,8,8,8,8,8,8,8,8,8,8,8,8,8,8,8,8,8,8,8,8,8,8,8,8,8,8,8,8,8,8,8,8,8,8,8,8,8,8,8,8,8,8,8,8,8,8,8,8,8,8,8,8,8,8,8,8,8,8,8,8,8,8,8,8,8,8,8,8,8]) c) .u8 a:=h.1.fW
theorem B8:nJ Z a b s=Z.ai s (fun c s=>Z.aR c (Z.ai s (fun d s=>Z.ai s (fun e s=>ph Z d e s) (an .add b (.int .i64 8))) (an .shr a (.int .u64 8))) (ph Z a b s)) (an .geq a (.int .u32 256)):=h.1.fW
theorem vN:Hr Z c b s=Z.ai s (fun a s=>Z.ae a true (fun k=>Z.av s k 1 c) s (fun d s=>Z.ae a true (fun k=>Z.ar s k none d) s (fun e s=>Z.ae a true (fun k=>k b s) s (fun f s=>Z.ae a true (fun k=>Z.ai s k (an .sub f (.int .i64 1))) s (fun g s=>Z.ae a true (fun k=>Z.bT s k 1 e g) s (fun i s=>Z.ae a true (fun k=>Z.ar s k none i) s (fun j s=>Z.ae a true (fun k=>Z.ai s k (an .neq j (.int .u32 0))) s (fun m s=>Z.bs s (fun o s=>Z.a5 false [some o] s) a m (.bool false))))))))) (an .leq b (.int .i64 128)):=h.1.fW
theorem DU:za Z b c a s=Z.bt s (fun d s=>Z.bJ s (fun f s=>Z.bJ s (fun e s=>tU Z b a e s) 1 d) 0 d) 114 [(af.ap s.aa c),(af.ap s.aa a)]:=h.1.fW
theorem DV:Ht Z b c a s=Z.ai s (fun d s=>tT Z b a d s) (an .rem c a):=h.1.fW
theorem DW:Hu Z a b s=Z.b9 s (fun d s=>Z.ai s (fun e s=>Z.b9 s (fun f s=>Z.be s (fun g s=>Z.bt s (fun c s=>Z.bJ s (fun i s=>Z.bJ s (fun j s=>Z.b8 s (fun q s=>Z.a5 false [ky s a (some 2),some j] s) 2 a (af.ap s.aa i)) 1 c) 0 c) 115 [(af.ap s.aa (.bool false)),(af.ap s.aa g)]) 1 [d,f]) .u32 e) (an .shr b (.int .u64 32))) .u32 b:=h.1.fW
theorem DX:tT Z a b c s=Z.ai s (fun d s=>Z.aR d (Ht Z a b c s) (Hu Z a b s)) (an .gtr c (.int .u64 0)):=h.1.s7
theorem DY:Hv Z a b c s=Z.bt s (fun d s=>Z.bt s (fun e s=>tT Z a d e s) 116 [(af.ap s.aa c)]) 116 [(af.ap s.aa b)]:=h.1.fW
theorem vO:zb Z a b c s=Z.cI s (fun e s=>Z.ai s (fun f s=>Z.aR f (Z.bt s (fun d s=>Z.bJ s (fun g s=>Z.bJ s (fun i s=>Z.b8 s (fun q s=>Z.a5 false [ky s a (some 2),some i] s) 2 a (af.ap s.aa g)) 1 d) 0 d) 115 [(af.ap s.aa (.bool false)),(af.ap s.aa b)]) (Hv Z a b c s)) (an .gtr e (.int .i64 2))) false b:=h.1.fW
theorem om:tU Z e c b s=Z.cI s (fun f s=>Z.ai s (fun a s=>Z.ae a true (fun k=>k c s) s (fun g s=>Z.ae a true (fun k=>Z.cI s k false g) s (fun i s=>Z.ae a true (fun k=>Z.ai s k (an .gtr i (.int .i64 2))) s (fun j s=>Z.ae a true (fun k=>k j s) s (fun d s=>Z.ae d false (fun k=>k b s) s (fun m s=>Z.ae d false (fun k=>Z.cI s k false m) s (fun o s=>Z.ae d false (fun k=>Z.ai s k (an .gtr o (.int .i64 2))) s (fun p s=>Z.ae a true (fun k=>Z.bs s k d (.bool true) p) s (fun q s=>Z.bs s (fun r s=>Z.aR r (za Z e c b s) (zb Z e c b s)) a q (.bool false)))))))))) (an .gtr f (.int .i64 0))) false b:=h.1.s7
theorem DZ:Hw Z a b c s=Z.av s (fun d s=>Z.ar s (fun e s=>Z.av s (fun f s=>Z.ar s (fun g s=>tU Z c e g s) none f) 1 b) none d) 1 a:=h.1.fW
theorem B9:Bu Z a b c d e f s=Z.ai s (fun g s=>rQ Z a b c d e g s) (an .add f (.int .i64 1)):=h.1.fW
theorem Ca:Bv Z f a b c g d s=Z.cI s (fun i s=>Z.ai s (fun j s=>Z.ai s (fun e s=>Z.bt s (fun m s=>Z.bt s (fun o s=>Z.bT s (fun p s=>Z.b8 s (fun q s=>Bu Z f a b c g d s) 1 p (af.ap s.aa o)) 1 c e) 138 [(af.ap s.aa b),(af.ap s.aa e),(af.ap s.aa a),(af.ap s.aa m)]) 139 [(af.ap s.aa b),(af.ap s.aa e),(af.ap s.aa a)]) (an .sub j d)) (an .sub i (.int .i64 1))) false c:=h.1.fW
theorem Cb:Bw Z a b c s=Z.bt s (fun e s=>Z.bt s (fun d s=>Z.bJ s (fun f s=>Z.bJ s (fun i s=>Z.bt s (fun g s=>Z.a5 false [some g,some f] s) 135 [(af.ap s.aa c)]) 1 d) 0 d) 140 [(af.ap s.aa e),(af.ap s.aa a)]) 135 [(af.ap s.aa b)]:=h.1.fW
theorem tn:rQ Z a f b c d e s=Z.ai s (fun g s=>Z.aR g (Bv Z a f b c d e s) (Bw Z a b c s)) (an .lss e d):=h.1.s7
theorem Cc:Bx Z b a s=Z.cI s (fun i s=>Z.ai s (fun j s=>Z.bT s (fun m s=>Z.ar s (fun o s=>Z.bt s (fun c s=>Z.bt s (fun p s=>Z.cI s (fun q s=>Z.ai s (fun d s=>Z.kz s (fun e s=>Z.bt s (fun r s=>Z.rs s (fun y s=>Z.cI s (fun t s=>Z.cI s (fun u s=>Z.ai s (fun w s=>Z.ai s (fun f s=>Z.kz s (fun g s=>Z.cI s (fun x s=>rQ Z c p e g x (.int .i64 0) s) false g) [.int .u32 0] 4 f f) (an .add w (.int .i64 1))) (an .sub t u)) false a) false b) 1 e r) 137 [(af.ap s.aa b),(af.ap s.aa c)]) [.int .u32 0] 4 d d) (an .add q (.int .i64 1))) false b) 137 [(af.ap s.aa a),(af.ap s.aa c)]) 136 [(af.ap s.aa o)]) none m) 1 a j) (an .sub i (.int .i64 1))) false a:=h.1.fW
theorem Cd:By Z b a s=Z.cI s (fun d s=>Z.ai s (fun e s=>Z.aR e (Z.bT s (fun f s=>Z.ar s (fun g s=>Z.bt s (fun c s=>Z.bJ s (fun i s=>Z.bJ s (fun j s=>Z.be s (fun m s=>Z.bt s (fun o s=>Z.a5 false [some i,some o] s) 135 [(af.ap s.aa m)]) 1 [j]) 1 c) 0 c) 134 [(af.ap s.aa b),(af.ap s.aa g)]) none f) 1 a (.int .i64 0)) (Bx Z b a s)) (an .eql d (.int .i64 1))) false a:=h.1.fW
theorem Ce:Bz Z a b c s=Z.cI s (fun d s=>Z.kz s (fun e s=>Z.rs s (fun o s=>Z.ae a true (fun k=>k b s) s (fun f s=>Z.ae a true (fun k=>Z.cI s k false f) s (fun g s=>Z.ae a true (fun k=>Z.ai s k (an .gtr g (.int .i64 0))) s (fun i s=>Z.bs s (fun j s=>Z.f4 [.bool false,.bG 1 [] .nil] [(0,1,j),(1,1,e)] s (fun m s=>Z.b8 s (fun q s=>Z.a5 false [ky s c (some 2),some (.int .i64 0)] s) 2 c (af.ap s.aa m))) a i (.bool false))))) 1 e b) [.int .u32 0] 4 d d) false b:=h.1.fW
theorem Cf:BA Z a b c d s=Z.ai s (fun e s=>nK Z a b c e s) (an .add d (.int .i64 1)):=h.1.fW
theorem Cg:BB Z b c d a s=Z.bT s (fun e s=>Z.ar s (fun f s=>Z.b9 s (fun g s=>Z.ai s (fun i s=>Z.ai s (fun j s=>Z.ai s (fun m s=>BA Z b m d a s) (an .or c j)) (an .shl g i)) (an .mul (.int .i64 32) a)) .u64 f) none e) 1 b a:=h.1.fW
theorem Ch:BC Z a s=Z.a5 false [some a] s:=h.1.fW
theorem to:nK Z d a b c s=Z.ai s (fun e s=>Z.aR e (BB Z d a b c s) (BC Z a s)) (an .lss c b):=h.1.s7
theorem D0:HC Z a s=Z.av s (fun d s=>Z.ar s (fun e s=>Z.av s (fun f s=>Z.ar s (fun g s=>Z.bt s (fun b s=>Z.bJ s (fun i s=>Z.bJ s (fun o s=>Z.ii (.ref (.l s.own.length) 0) (s.new (.cells [.bool false,.bG 1 [] .nil])) (fun c s=>Z.b8 s (fun q s=>Z.ar s (fun j s=>Z.bt s (fun m s=>Z.a5 false [some m] s) 89 [(af.ap s.aa j)]) (some 2) c) 2 c (af.ap s.aa i))) 1 b) 0 b) 90 [(af.ap s.aa e),(af.ap s.aa g)]) (some 2) f) 2 a) (some 2) d) 0 a:=h.1.fW
theorem D1:HD Z a s=Z.av s (fun b s=>Z.ar s (fun c s=>Z.bt s (fun d s=>Z.aR d (Z.a5 false [some (.bool true)] s) (HC Z a s)) 89 [(af.ap s.aa c)]) (some 2) b) 2 a:=h.1.fW
theorem vP:zc Z a b c d e s=Z.ai s (fun f s=>tV Z a b c d f s) (an .add e (.int .i64 1)):=h.1.fW
theorem D2:HE Z a b f c d e s=Z.ar s (fun g s=>Z.bt s (fun i s=>Z.aR i (Z.ai s (fun j s=>zc Z a j c d e s) (an .add b (.int .i64 1))) (zc Z a b c d e s)) 43 [(af.ap s.aa g)]) (some 12) f:=h.1.fW
theorem D3:HF Z b d c e a s=Z.bT s (fun g s=>Z.ar s (fun i s=>Z.ii (.ref (.l s.own.length) 0) (s.new (.cells [.str [],.int .i64 0,.bG 1 [] .nil,.bool false,.bG 1 [] .nil,.bool false,.bG 1 [] .nil,.bool false,.bG 1 [] .nil,.bool false,.bG 1 [] .nil,.int .i64 0])) (fun f s=>Z.b8 s (fun q s=>Z.ai s (fun j s=>Z.lr 12 b none (some j) none s (fun m s=>Z.bt s (fun o s=>Z.ai s (fun p s=>Z.aR p (Z.a5 false [some (.int .i64 120)] s) (HE Z b d f c e a s)) (kl .not o)) 42 [(af.ap s.aa m)])) (an .add a (.int .i64 1))) 12 f (af.ap s.aa i))) (some 12) g) 12 c a:=h.1.fW
theorem D4:HG Z s=Z.a5 false [some (.int .i64 0)] s:=h.1.fW
theorem D5:zd Z b d s=Z.cI s (fun e s=>Z.ai s (fun c s=>Z.ae c false (fun k=>k d s) s (fun f s=>Z.ae c false (fun k=>Z.ai s k (an .gtr f (.int .i64 5))) s (fun g s=>Z.bs s (fun a s=>Z.ae a false (fun k=>k b s) s (fun i s=>Z.ae a false (fun k=>Z.bt s k 44 [(af.ap s.aa i)]) s (fun j s=>Z.ae a false (fun k=>Z.cI s k false j) s (fun m s=>Z.ae a false (fun k=>Z.ai s k (an .gtr m (.int .i64 20))) s (fun o s=>Z.bs s (fun p s=>Z.aR p (Z.a5 false [some (.int .i64 111)] s) (HG Z s)) a (.bool true) o))))) c (.bool true) g))) (an .gtr e (.int .i64 40))) false b:=h.1.fW
theorem vQ:tV Z a b e c d s=Z.ai s (fun f s=>Z.aR f (HF Z a b e c d s) (zd Z a b s)) (an .lss d c):=h.1.s7
theorem D6:HI Z a b c d e f g i s=Z.ai s (fun j s=>tW Z a b c d e f g j s) (an .add i (.int .i64 1)):=h.1.fW
theorem D7:HJ Z d e j f m g o b s=Z.bT s (fun p s=>Z.ar s (fun i s=>Z.ai s (fun c s=>Z.ae c false (fun k=>k i s) s (fun q s=>Z.ae c false (fun k=>k e s) s (fun r s=>Z.ae c false (fun k=>Z.ai s k (an .geq q r)) s (fun t s=>Z.bs s (fun a s=>Z.ae a false (fun k=>k f s) s (fun u s=>Z.ae a false (fun k=>k b s) s (fun w s=>Z.ae a false (fun k=>Z.bT s k 1 u w) s (fun x s=>Z.ae a false (fun k=>Z.ar s k none x) s (fun y s=>Z.ae a false (fun k=>k d s) s (fun z s=>Z.ae a false (fun k=>k i s) s (fun A s=>Z.ae a false (fun k=>Z.bT s k 12 z A) s (fun B s=>Z.ae a false (fun k=>Z.ar s k (some 12) B) s (fun C s=>Z.ae a false (fun k=>Z.hd s k 48 [(af.ap s.aa C)]) s (fun D s=>Z.ae a false (fun k=>Z.bt s k 50 [(af.ap s.aa y),(af.ap s.aa D)]) s (fun E s=>Z.ae a false (fun k=>Z.ai s k (kl .not E)) s (fun F s=>Z.bs s (fun H s=>Z.aR H (Z.a5 false [some (.bool false)] s) (HI Z d e j f m g o b s)) a (.bool true) F)))))))))))) c (.bool true) t)))) (an .lss i (.int .i64 0))) none p) 1 g b:=h.1.fW
theorem D8:ze Z a b c s=Z.lr 12 a none (some b) none s (fun d s=>Z.ii (.fn 74 [(af.ap s.aa c)]) s (fun e s=>Z.bt s (fun f s=>Z.ai s (fun g s=>Z.a5 false [some g] s) (kl .not f)) 73 [(af.ap s.aa d),(af.ap s.aa e)])):=h.1.fW
theorem D9:zf Z m o a s=Z.av s (fun q s=>Z.ar s (fun r s=>Z.ai s (fun i s=>Z.ae i false (fun k=>Z.av s k 1 a) s (fun t s=>Z.ae i false (fun k=>Z.ar s k none t) s (fun u s=>Z.ae i false (fun k=>Z.ai s k (an .eql u (.int .i64 2))) s (fun w s=>Z.bs s (fun b s=>Z.av s (fun x s=>Z.ar s (fun y s=>Z.ai s (fun p s=>Z.ae b true (fun k=>Z.av s k 3 a) s (fun z s=>Z.ae b true (fun k=>Z.ar s k (some 4) z) s (fun A s=>Z.ae b true (fun k=>Z.bt s k 71 [(af.ap s.aa A)]) s (fun B s=>Z.ae b true (fun k=>Z.ai s k (kl .not B)) s (fun C s=>Z.bs s (fun c s=>Z.ae c false (fun k=>k b s) s (fun D s=>Z.ae c false (fun k=>Z.ai s k (kl .not D)) s (fun E s=>Z.ae c false (fun k=>k E s) s (fun d s=>Z.ae d true (fun k=>Z.av s k 3 a) s (fun F s=>Z.ae d true (fun k=>Z.ar s k (some 4) F) s (fun H s=>Z.ae d true (fun k=>Z.bt s k 72 [(af.ap s.aa H)]) s (fun I s=>Z.ae d true (fun k=>Z.ai s k (kl .not I)) s (fun J s=>Z.ae c false (fun k=>Z.bs s k d J (.bool false)) s (fun K s=>Z.bs s (fun j s=>Z.ae j false (fun k=>k p s) s (fun L s=>Z.ae j false (fun k=>k L s) s (fun e s=>Z.ae e true (fun k=>Z.av s k 7 a) s (fun M s=>Z.ae e true (fun k=>Z.ar s k (some 4) M) s (fun N s=>Z.ae e true (fun k=>Z.bt s k 71 [(af.ap s.aa N)]) s (fun O s=>Z.ae e true (fun k=>Z.ai s k (kl .not O)) s (fun P s=>Z.ae j false (fun k=>Z.bs s k e P (.bool false)) s (fun Q s=>Z.bs s (fun f s=>Z.ae f false (fun k=>k p s) s (fun R s=>Z.ae f false (fun k=>Z.ai s k (kl .not R)) s (fun S s=>Z.ae f false (fun k=>k S s) s (fun g s=>Z.ae g true (fun k=>Z.av s k 7 a) s (fun T s=>Z.ae g true (fun k=>Z.ar s k (some 4) T) s (fun U s=>Z.ae g true (fun k=>Z.bt s k 72 [(af.ap s.aa U)]) s (fun V s=>Z.ae g true (fun k=>Z.ai s k (kl .not V)) s (fun W s=>Z.ae f false (fun k=>Z.bs s k g W (.bool false)) s (fun Y s=>Z.bs s (fun ab s=>Z.aR ab (Z.a5 false [some (.bool false)] s) (ze Z m o a s)) f (.bool true) Y))))))))) j (.bool true) Q)))))))) c (.bool true) K))))))))) b C (.bool false)))))) (an .eql y (.int .i64 1))) none x) 1 a) i (.bool true) w)))) (an .eql r (.int .i64 1))) none q) 1 a:=h.1.fW
theorem Ea:zg Z f g a e s=Z.av s (fun i s=>Z.ar s (fun j s=>Z.ai s (fun c s=>Z.ae c false (fun k=>Z.av s k 11 a) s (fun m s=>Z.ae c false (fun k=>Z.ar s k none m) s (fun o s=>Z.ae c false (fun k=>Z.ai s k (an .eql o (.int .i64 2))) s (fun p s=>Z.bs s (fun q s=>Z.ai s (fun b s=>Z.ae b false (fun k=>k e s) s (fun r s=>Z.ae b false (fun k=>Z.ai s k (kl .not r)) s (fun t s=>Z.ae b false (fun k=>k t s) s (fun d s=>Z.ae d true (fun k=>Z.av s k 11 a) s (fun u s=>Z.ae d true (fun k=>Z.ar s k none u) s (fun w s=>Z.ae d true (fun k=>Z.ai s k (an .neq w (.int .i64 0))) s (fun x s=>Z.ae b false (fun k=>Z.bs s k d x (.bool false)) s (fun y s=>Z.bs s (fun z s=>Z.aR z (Z.a5 false [some (.bool false)] s) (zf Z f g a s)) b (.bool true) y)))))))) ((lB .bool e q).map fun b=>.bool (bif true then !b else b))) c (.bool true) p)))) (an .eql j (.int .i64 1))) none i) 11 a:=h.1.fW
theorem vR:tW Z a b c g d i e f s=Z.ai s (fun j s=>Z.aR j (HJ Z a b c g d i e f s) (zg Z a b c d s)) (an .lss f e):=h.1.s7
theorem Eb:HK Z b c a d e s=Z.av s (fun g s=>Z.ar s (fun f s=>Z.cI s (fun i s=>tW Z b c a d e f i (.int .i64 0) s) false f) none g) 2 a:=h.1.fW
theorem vS:rS Z a b c d s=Z.ai s (fun e s=>tX Z a b c e s) (an .add d (.int .i64 1)):=h.1.fW
theorem Ec:HL Z c b d a s=Z.bT s (fun g s=>Z.ar s (fun i s=>Z.ii (.ref (.l s.own.length) 0) (s.new (.cells [.str [],.int .i64 0,.bG 1 [] .nil,.bool false,.bG 1 [] .nil,.bool false,.bG 1 [] .nil,.bool false,.bG 1 [] .nil,.bool false,.bG 1 [] .nil,.int .i64 0])) (fun e s=>Z.b8 s (fun y s=>Z.av s (fun j s=>Z.ar s (fun f s=>Z.ai s (fun m s=>Z.aR m (Z.f4 [.int .i64 0,.int .i64 0] [(0,1,a),(1,1,(.int .i64 0))] s (fun o s=>Z.f4 [.int .i64 0,.int .i64 0] [(0,1,a),(1,1,(.int .i64 1))] s (fun p s=>Z.be s (fun q s=>Z.gd s (fun r s=>rS Z r b d a s) 2 16 (some (.l 0)) c q) 2 [o,p]))) (Z.ai s (fun t s=>Z.aR t (Z.f4 [.int .i64 0,.int .i64 0] [(0,1,a),(1,1,(.int .i64 0))] s (fun u s=>Z.be s (fun w s=>Z.gd s (fun x s=>rS Z x b d a s) 2 16 (some (.l 0)) c w) 2 [u])) (rS Z c b d a s)) (an .eql f (.int .i64 2)))) (an .eql f (.int .i64 1))) none j) 1 e) 12 e (af.ap s.aa i))) (some 12) g) 12 b a:=h.1.fW
theorem Ed:HM Z a s=Z.a5 false [some a] s:=h.1.fW
theorem vT:tX Z a d b c s=Z.ai s (fun e s=>Z.aR e (HL Z a d b c s) (HM Z a s)) (an .lss c b):=h.1.s7
theorem Ee:HN Z s=Z.a5 false [some (.bG 1 [] .nil),some (.int .i64 0),some (.bool false)] s:=h.1.fW
theorem Ef:zh Z a b s=Z.aR b (Z.be s (fun c s=>Z.a5 false [some c,some (.int .i64 2),some (.bool false)] s) 1 [(.int .i64 1),(.int .i64 2)]) (Z.ai s (fun d s=>Z.aR d (Z.be s (fun e s=>Z.a5 false [some e,some (.int .i64 1),some (.bool false)] s) 1 [(.int .i64 1),(.int .i64 1)]) (Z.ai s (fun f s=>Z.aR f (Z.be s (fun g s=>Z.a5 false [some g,some (.int .i64 1),some (.bool false)] s) 1 [(.int .i64 1),(.int .i64 2)]) (Z.ai s (fun i s=>Z.aR i (Z.be s (fun j s=>Z.a5 false [some j,some (.int .i64 2),some (.bool true)] s) 1 [(.int .i64 1),(.int .i64 1),(.int .i64 1)]) (Z.ai s (fun m s=>Z.aR m (Z.be s (fun o s=>Z.a5 false [some o,some (.int .i64 2),some (.bool true)] s) 1 [(.int .i64 1),(.int .i64 3)]) (Z.ai s (fun p s=>Z.aR p (Z.be s (fun q s=>Z.a5 false [some q,some (.int .i64 1),some (.bool false)] s) 1 [(.int .i64 3)]) (HN Z s)) (an .eql a (.int .i64 16)))) (an .eql a (.int .i64 15)))) (an .eql a (.int .i64 14)))) (an .eql a (.int .i64 13)))) (an .eql a (.int .i64 12))):=h.1.fW
theorem Eg:zi Z a b s=Z.aR b (Z.be s (fun d s=>Z.a5 false [some d,some (.int .i64 3),some (.bool false)] s) 1 [(.int .i64 1),(.int .i64 1),(.int .i64 1)]) (Z.ai s (fun e s=>Z.aR e (Z.be s (fun f s=>Z.a5 false [some f,some (.int .i64 1),some (.bool true)] s) 1 [(.int .i64 2),(.int .i64 3)]) (Z.ai s (fun g s=>Z.aR g (Z.be s (fun i s=>Z.a5 false [some i,some (.int .i64 1),some (.bool true)] s) 1 [(.int .i64 3),(.int .i64 3)]) (Z.ai s (fun c s=>Z.aR c (zh Z a c s) (Z.ai s (fun j s=>zh Z a j s) (an .eql a (.int .i64 11)))) (an .eql a (.int .i64 10)))) (an .eql a (.int .i64 9)))) (an .eql a (.int .i64 8))):=h.1.fW
theorem Eh:HO Z s=Z.a5 false [some (.bG 1 [] .nil),some (.int .i64 0),some (.bool false)] s:=h.1.fW
theorem Ei:zj Z a b s=Z.aR b (Z.be s (fun c s=>Z.a5 false [some c,some (.int .i64 2),some (.bool false)] s) 1 [(.int .i64 1),(.int .i64 2)]) (Z.ai s (fun d s=>Z.aR d (Z.be s (fun e s=>Z.a5 false [some e,some (.int .i64 1),some (.bool false)] s) 1 [(.int .i64 1),(.int .i64 1)]) (Z.ai s (fun f s=>Z.aR f (Z.be s (fun g s=>Z.a5 false [some g,some (.int .i64 1),some (.bool false)] s) 1 [(.int .i64 1),(.int .i64 2)]) (Z.ai s (fun i s=>Z.aR i (Z.be s (fun j s=>Z.a5 false [some j,some (.int .i64 2),some (.bool true)] s) 1 [(.int .i64 1),(.int .i64 1),(.int .i64 1)]) (Z.ai s (fun m s=>Z.aR m (Z.be s (fun o s=>Z.a5 false [some o,some (.int .i64 2),some (.bool true)] s) 1 [(.int .i64 1),(.int .i64 3)]) (Z.ai s (fun p s=>Z.aR p (Z.be s (fun q s=>Z.a5 false [some q,some (.int .i64 1),some (.bool false)] s) 1 [(.int .i64 3)]) (HO Z s)) (an .eql a (.int .i64 16)))) (an .eql a (.int .i64 15)))) (an .eql a (.int .i64 14)))) (an .eql a (.int .i64 13)))) (an .eql a (.int .i64 12))):=h.1.fW
theorem Ej:zk Z a b s=Z.aR b (Z.be s (fun d s=>Z.a5 false [some d,some (.int .i64 3),some (.bool false)] s) 1 [(.int .i64 1),(.int .i64 1),(.int .i64 1)]) (Z.ai s (fun e s=>Z.aR e (Z.be s (fun f s=>Z.a5 false [some f,some (.int .i64 1),some (.bool true)] s) 1 [(.int .i64 2),(.int .i64 3)]) (Z.ai s (fun g s=>Z.aR g (Z.be s (fun i s=>Z.a5 false [some i,some (.int .i64 1),some (.bool true)] s) 1 [(.int .i64 3),(.int .i64 3)]) (Z.ai s (fun c s=>Z.aR c (zj Z a c s) (Z.ai s (fun j s=>zj Z a j s) (an .eql a (.int .i64 11)))) (an .eql a (.int .i64 10)))) (an .eql a (.int .i64 9)))) (an .eql a (.int .i64 8))):=h.1.fW
theorem Ek:HP Z a b c d s=Z.ai s (fun e s=>tY Z a b c e s) (an .add d (.int .i64 1)):=h.1.fW
theorem El:HQ Z b c d a s=Z.bT s (fun e s=>Z.ar s (fun f s=>Z.rr s (fun g s=>Z.aR g (Z.a5 false [some a] s) (HP Z b c d a s)) c [(af.ap s.aa f)]) (some 12) e) 12 b a:=h.1.fW
theorem Em:HR Z s=Z.a5 false [some (.int .i64 (-1))] s:=h.1.fW
theorem vU:tY Z c d a b s=Z.ai s (fun e s=>Z.aR e (HQ Z c d a b s) (HR Z s)) (an .lss b a):=h.1.s7
theorem En:HS Z a b c s=Z.ai s (fun d s=>tZ Z a b d s) (an .add c (.int .i64 1)):=h.1.fW
theorem Eo:HT Z b c a s=Z.av s (fun d s=>Z.ar s (fun e s=>Z.bT s (fun f s=>Z.ar s (fun g s=>Z.av s (fun i s=>Z.ar s (fun j s=>Z.bT s (fun m s=>Z.ar s (fun o s=>Z.ai s (fun p s=>Z.aR p (Z.a5 false [some (.bool false)] s) (HS Z b c a s)) (an .neq g o)) none m) 1 j a) none i) 1 c) none f) 1 e a) none d) 1 b:=h.1.fW
theorem Ep:HU Z s=Z.a5 false [some (.bool true)] s:=h.1.fW
theorem vV:tZ Z a c b s=Z.av s (fun d s=>Z.ar s (fun e s=>Z.cI s (fun f s=>Z.ai s (fun g s=>Z.aR g (HT Z a c b s) (HU Z s)) (an .lss b f)) false e) none d) 1 a:=h.1.s7
theorem Er:HV Z a b s=tZ Z a b (.int .i64 0) s:=h.1.fW
theorem Es:HW Z a b s=Z.ai s (fun c s=>Z.mf 1 24 a (some (.int .i64 1)) (some c) none s (fun d s=>Z.lg s (fun e s=>Z.a5 false [some e] s) d)) (an .add (.int .i64 1) b):=h.1.fW
theorem Et:zl Z d a b s=Z.bt s (fun c s=>Z.ai s (fun e s=>Z.mf 1 24 a (some (.int .i64 1)) (some e) none s (fun f s=>Z.bt s (fun p s=>Z.ai s (fun g s=>Z.aR g (Z.hv s (fun i s=>Z.b8 s (fun q s=>Z.ai s (fun j s=>Z.mf 1 24 a none (some j) none s (fun m s=>Z.lg s (fun o s=>Z.a5 false [some o] s) m)) (an .add (.int .i64 1) c)) 1 i (af.ap s.aa (.int .u8 45))) 1 24 a (.int .i64 0)) (HW Z a c s)) (an .lss d (.int .i64 0))) 97 [(af.ap s.aa f),(af.ap s.aa b)])) (an .add (.int .i64 1) c)) 96 [(af.ap s.aa b)]:=h.1.fW
theorem Eu:HX Z a s=Z.ii (.ref (.l s.own.length) 0) (s.new (.cells [.int .u8 0,.int .u8 0,.int .u8 0,.int .u8 0,.int .u8 0,.int .u8 0,.int .u8 0,.int .u8 0,.int .u8 0,.int .u8 0,.int .u8 0,.int .u8 0,.int .u8 0,.int .u8 0,.int .u8 0,.int .u8 0,.int .u8 0,.int .u8 0,.int .u8 0,.int .u8 0,.int .u8 0,.int .u8 0,.int .u8 0,.int .u8 0])) (fun b s=>Z.b9 s (fun c s=>Z.ai s (fun d s=>Z.aR d (Z.ai s (fun e s=>zl Z a b e s) (kl .neg c)) (zl Z a b c s)) (an .lss a (.int .i64 0))) .u64 a):=h.1.fW
theorem Ev:HY Z a s=Z.ai s (fun b s=>Z.ai s (fun c s=>Z.ai s (fun d s=>Z.vd (.str [48,48,48,49,48,50,48,51,48,52,48,53,48,54,48,55,48,56,48,57,49,48,49,49,49,50,49,51,49,52,49,53,49,54,49,55,49,56,49,57,50,48,50,49,50,50,50,51,50,52,50,53,50,54,50,55,50,56,50,57,51,48,51,49,51,50,51,51,51,52,51,53,51,54,51,55,51,56,51,57,52,48,52,49,52,50,52,51,52,52,52,53,52,54,52,55,52,56,52,57,53,48,53,49,53,50,53,51,53,52,53,53,53,54,53,55,53,56,53,57,54,48,54,49,54,50,54,51,54,52,54,53,54,54,54,55,54,56,54,57,55,48,55,49,55,50,55,51,55,52,55,53,55,54,55,55,55,56,55,57,56,48,56,49,56,50,56,51,56,52,56,53,56,54,56,55,56,56,56,57,57,48,57,49,57,50,57,51,57,52,57,53,57,54,57,55,57,56,57,57]) (some b) (some d) s (fun e s=>Z.a5 false [some e] s)) (an .add c (.int .i64 2))) (an .mul a (.int .i64 2))) (an .mul a (.int .i64 2)):=h.1.fW
theorem vW:oj Z a b c s=Z.ai s (fun d s=>Z.aR d (Z.ai s (fun e s=>Z.b9 s (fun f s=>Z.bT s (fun g s=>Z.b8 s (fun q s=>Z.a5 false [] s) 1 g (af.ap s.aa f)) 1 a (.int .i64 0)) .u8 e) (an .add (.int .u32 48) c)) (Z.a5 false [] s)) (an .gtr b (.int .i64 0)):=h.1.fW
theorem vX:ol Z b a c s=Z.ai s (fun e s=>Z.aR e (Z.ai s (fun f s=>Z.ai s (fun d s=>Z.ai s (fun g s=>Z.ai s (fun i s=>Z.ai s (fun j s=>Z.ai s (fun m s=>Z.hx s (fun o s=>Z.hx s (fun p s=>Z.bT s (fun q s=>Z.b8 s (fun u s=>Z.bT s (fun r s=>Z.b8 s (fun u s=>Z.ai s (fun t s=>oj Z b t g s) (an .sub a (.int .i64 2))) 1 r (af.ap s.aa p)) 1 b j) 1 q (af.ap s.aa o)) 1 b i) (.str [48,48,48,49,48,50,48,51,48,52,48,53,48,54,48,55,48,56,48,57,49,48,49,49,49,50,49,51,49,52,49,53,49,54,49,55,49,56,49,57,50,48,50,49,50,50,50,51,50,52,50,53,50,54,50,55,50,56,50,57,51,48,51,49,51,50,51,51,51,52,51,53,51,54,51,55,51,56,51,57,52,48,52,49,52,50,52,51,52,52,52,53,52,54,52,55,52,56,52,57,53,48,53,49,53,50,53,51,53,52,53,53,53,54,53,55,53,56,53,57,54,48,54,49,54,50,54,51,54,52,54,53,54,54,54,55,54,56,54,57,55,48,55,49,55,50,55,51,55,52,55,53,55,54,55,55,55,56,55,57,56,48,56,49,56,50,56,51,56,52,56,53,56,54,56,55,56,56,56,57,57,48,57,49,57,50,57,51,57,52,57,53,57,54,57,55,57,56,57,57]) d) (.str [48,48,48,49,48,50,48,51,48,52,48,53,48,54,48,55,48,56,48,57,49,48,49,49,49,50,49,51,49,52,49,53,49,54,49,55,49,56,49,57,50,48,50,49,50,50,50,51,50,52,50,53,50,54,50,55,50,56,50,57,51,48,51,49,51,50,51,51,51,52,51,53,51,54,51,55,51,56,51,57,52,48,52,49,52,50,52,51,52,52,52,53,52,54,52,55,52,56,52,57,53,48,53,49,53,50,53,51,53,52,53,53,53,54,53,55,53,56,53,57,54,48,54,49,54,50,54,51,54,52,54,53,54,54,54,55,54,56,54,57,55,48,55,49,55,50,55,51,55,52,55,53,55,54,55,55,55,56,55,57,56,48,56,49,56,50,56,51,56,52,56,53,56,54,56,55,56,56,56,57,57,48,57,49,57,50,57,51,57,52,57,53,57,54,57,55,57,56,57,57]) m) (an .add d (.int .u32 1))) (an .sub a (.int .i64 2))) (an .sub a (.int .i64 1))) (an .quo c (.int .u32 100))) (an .mul f (.int .u32 2))) (an .rem c (.int .u32 100))) (oj Z b a c s)) (an .geq a (.int .i64 2)):=h.1.fW
theorem vY:t0 Z b d a s=Z.b9 s (fun c s=>Z.ai s (fun i s=>Z.aR i (Z.ai s (fun e s=>Z.ai s (fun j s=>Z.ai s (fun m s=>Z.ai s (fun f s=>Z.ai s (fun o s=>Z.ai s (fun g s=>Z.ai s (fun p s=>Z.ai s (fun q s=>Z.ai s (fun r s=>Z.hx s (fun t s=>Z.hx s (fun u s=>Z.bT s (fun w s=>Z.b8 s (fun H s=>Z.bT s (fun x s=>Z.b8 s (fun H s=>Z.ai s (fun y s=>Z.ai s (fun z s=>Z.ai s (fun A s=>Z.hx s (fun B s=>Z.hx s (fun C s=>Z.bT s (fun D s=>Z.b8 s (fun H s=>Z.bT s (fun E s=>Z.b8 s (fun H s=>Z.ai s (fun F s=>ol Z b F j s) (an .sub a (.int .i64 4))) 1 E (af.ap s.aa C)) 1 b z) 1 D (af.ap s.aa B)) 1 b y) (.str [48,48,48,49,48,50,48,51,48,52,48,53,48,54,48,55,48,56,48,57,49,48,49,49,49,50,49,51,49,52,49,53,49,54,49,55,49,56,49,57,50,48,50,49,50,50,50,51,50,52,50,53,50,54,50,55,50,56,50,57,51,48,51,49,51,50,51,51,51,52,51,53,51,54,51,55,51,56,51,57,52,48,52,49,52,50,52,51,52,52,52,53,52,54,52,55,52,56,52,57,53,48,53,49,53,50,53,51,53,52,53,53,53,54,53,55,53,56,53,57,54,48,54,49,54,50,54,51,54,52,54,53,54,54,54,55,54,56,54,57,55,48,55,49,55,50,55,51,55,52,55,53,55,54,55,55,55,56,55,57,56,48,56,49,56,50,56,51,56,52,56,53,56,54,56,55,56,56,56,57,57,48,57,49,57,50,57,51,57,52,57,53,57,54,57,55,57,56,57,57]) f) (.str [48,48,48,49,48,50,48,51,48,52,48,53,48,54,48,55,48,56,48,57,49,48,49,49,49,50,49,51,49,52,49,53,49,54,49,55,49,56,49,57,50,48,50,49,50,50,50,51,50,52,50,53,50,54,50,55,50,56,50,57,51,48,51,49,51,50,51,51,51,52,51,53,51,54,51,55,51,56,51,57,52,48,52,49,52,50,52,51,52,52,52,53,52,54,52,55,52,56,52,57,53,48,53,49,53,50,53,51,53,52,53,53,53,54,53,55,53,56,53,57,54,48,54,49,54,50,54,51,54,52,54,53,54,54,54,55,54,56,54,57,55,48,55,49,55,50,55,51,55,52,55,53,55,54,55,55,55,56,55,57,56,48,56,49,56,50,56,51,56,52,56,53,56,54,56,55,56,56,56,57,57,48,57,49,57,50,57,51,57,52,57,53,57,54,57,55,57,56,57,57]) A) (an .add f (.int .u32 1))) (an .sub a (.int .i64 4))) (an .sub a (.int .i64 3))) 1 x (af.ap s.aa u)) 1 b q) 1 w (af.ap s.aa t)) 1 b p) (.str [48,48,48,49,48,50,48,51,48,52,48,53,48,54,48,55,48,56,48,57,49,48,49,49,49,50,49,51,49,52,49,53,49,54,49,55,49,56,49,57,50,48,50,49,50,50,50,51,50,52,50,53,50,54,50,55,50,56,50,57,51,48,51,49,51,50,51,51,51,52,51,53,51,54,51,55,51,56,51,57,52,48,52,49,52,50,52,51,52,52,52,53,52,54,52,55,52,56,52,57,53,48,53,49,53,50,53,51,53,52,53,53,53,54,53,55,53,56,53,57,54,48,54,49,54,50,54,51,54,52,54,53,54,54,54,55,54,56,54,57,55,48,55,49,55,50,55,51,55,52,55,53,55,54,55,55,55,56,55,57,56,48,56,49,56,50,56,51,56,52,56,53,56,54,56,55,56,56,56,57,57,48,57,49,57,50,57,51,57,52,57,53,57,54,57,55,57,56,57,57]) g) (.str [48,48,48,49,48,50,48,51,48,52,48,53,48,54,48,55,48,56,48,57,49,48,49,49,49,50,49,51,49,52,49,53,49,54,49,55,49,56,49,57,50,48,50,49,50,50,50,51,50,52,50,53,50,54,50,55,50,56,50,57,51,48,51,49,51,50,51,51,51,52,51,53,51,54,51,55,51,56,51,57,52,48,52,49,52,50,52,51,52,52,52,53,52,54,52,55,52,56,52,57,53,48,53,49,53,50,53,51,53,52,53,53,53,54,53,55,53,56,53,57,54,48,54,49,54,50,54,51,54,52,54,53,54,54,54,55,54,56,54,57,55,48,55,49,55,50,55,51,55,52,55,53,55,54,55,55,55,56,55,57,56,48,56,49,56,50,56,51,56,52,56,53,56,54,56,55,56,56,56,57,57,48,57,49,57,50,57,51,57,52,57,53,57,54,57,55,57,56,57,57]) r) (an .add g (.int .u32 1))) (an .sub a (.int .i64 2))) (an .sub a (.int .i64 1))) (an .mul o (.int .u32 2))) (an .rem e (.int .u32 100))) (an .mul m (.int .u32 2))) (an .quo e (.int .u32 100))) (an .quo c (.int .u32 10000))) (an .rem c (.int .u32 10000))) (ol Z b a c s)) (an .geq a (.int .i64 4))) .u32 d:=h.1.fW
theorem Ew:HZ Z b c a s=Z.ai s (fun d s=>Z.aR d (UX Z b c a s) (t0 Z b c a s)) (an .geq a (.int .i64 8)):=h.1.s7
theorem Ci:rT Z a b s=Z.b9 s (fun c s=>Z.hx s (fun d s=>Z.b9 s (fun e s=>Z.ai s (fun f s=>Z.a5 false [some f] s) (an .add b e)) .i64 d) (.str [0,1,2,2,3,3,3,3,4,4,4,4,4,4,4,4,5,5,5,5,5,5,5,5,5,5,5,5,5,5,5,5,6,6,6,6,6,6,6,6,6,6,6,6,6,6,6,6,6,6,6,6,6,6,6,6,6,6,6,6,6,6,6,6,7,7,7,7,7,7,7,7,7,7,7,7,7,7,7,7,7,7,7,7,7,7,7,7,7,7,7,7,7,7,7,7,7,7,7,7,7,7,7,7,7,7,7,7,7,7,7,7,7,7,7,7,7,7,7,7,7,7,7,7,7,7,7,7,8,8,8,8,8,8,8,8,8,8,8,8,8,8,8,8,8,8,8,8,8,8,8,8,8,8,8,8,8,8,8,8,8,8,8,8,8,8,8,8,8,8,8,8,8,8,8,8,8,8,8,8,8,8,8,8,8,8,8,8,8,8,8,8,8,8,8,8,8,8,8,8,8,8,8,8,8,8,8,8,8,8,8,8,8,8,8,8,8,8,8,8,8,8,8,8,8,8,8,8,8,8,8,8,8,8,8,8,8,8,8,8,8,8,8,8,8,8,8,8,8,8,8,8,8,8,8,8]) c) .u8 a:=h.1.fW
theorem tp:rU Z a b s=Z.ai s (fun c s=>Z.aR c (Z.ai s (fun d s=>Z.ai s (fun e s=>rT Z d e s) (an .add b (.int .i64 8))) (an .shr a (.int .u64 8))) (rT Z a b s)) (an .geq a (.int .u64 256)):=h.1.fW
theorem Cj:vF Z a b s=Z.ai s (fun c s=>Z.aR c (Z.ai s (fun d s=>Z.ai s (fun e s=>rU Z d e s) (an .add b (.int .i64 16))) (an .shr a (.int .u64 16))) (rU Z a b s)) (an .geq a (.int .u64 65536)):=h.1.fW
theorem Ck:BD Z s=Z.a5 false [some (.int .i64 0)] s:=h.1.fW
theorem Ex:H5 Z a b c d e f g i j m o p q s=Z.ai s (fun r s=>t9 Z a b c d e f g i j m o p r s) (an .add q (.int .i64 1)):=h.1.fW
theorem Ey:H6 Z e f b g i j m o c p d q a s=Z.bT s (fun r s=>Z.ar s (fun t s=>Z.bT s (fun u s=>Z.ar s (fun w s=>Z.bt s (fun x s=>Z.be s (fun y s=>Z.gd s (fun z s=>H5 Z e f b g i j m o c p d z a s) 1 8 (some (.l 0)) q y) 1 [x]) 35 [(af.ap s.aa b),(af.ap s.aa t),(af.ap s.aa w)]) none u) 1 d a) none r) 1 c a:=h.1.fW
theorem tq:vH Z a b c d e f g i j m o s=Z.ai s (fun p s=>t8 Z a b c d e f g i j m p s) (an .add o (.int .i64 1)):=h.1.fW
theorem Ez:H7 Z c d e f g i j o m a b s=Z.bT s (fun p s=>Z.ar s (fun q s=>Z.ai s (fun r s=>Z.aR r (vH Z c d e f g i j (.int .i64 1) m a b s) (vH Z c d e f g i j o m a b s)) (an .lss q (.int .i64 0))) none p) 1 a b:=h.1.fW
theorem tr:pi Z a b c d e f s=Z.ai s (fun g s=>kD Z a b c d e g s) (an .add f (.int .i64 1)):=h.1.fW
theorem Cl:nL Z a b c d e f g s=Z.ar s (fun i s=>Z.be s (fun j s=>Z.gd s (fun m s=>pi Z a b m d e f s) 12 184 (some (.l 0)) c j) 12 [i]) (some 12) g:=h.1.fW
theorem Cm:pj Z c d e f g b i j o m s=Z.hd s (fun p s=>Z.ai s (fun q s=>Z.f4 [.str [],.int .i64 0,.bG 1 [] .nil,.bool false,.bG 1 [] .nil,.bool false,.bG 1 [] .nil,.bool false,.bG 1 [] .nil,.bool false,.bG 1 [] .nil,.int .i64 0] [(0,1,q),(1,1,j)] s (fun r s=>Z.ii (.ref (.l s.own.length) 0) (s.new (.cells [.str [],.int .i64 0,.bG 1 [] .nil,.bool false,.bG 1 [] .nil,.bool false,.bG 1 [] .nil,.bool false,.bG 1 [] .nil,.bool false,.bG 1 [] .nil,.int .i64 0])) (fun a s=>Z.b8 s (fun U s=>Z.ai s (fun t s=>Z.aR t (Z.av s (fun u s=>Z.ar s (fun w s=>Z.hd s (fun x s=>Z.av s (fun y s=>Z.b8 s (fun U s=>Z.av s (fun z s=>Z.ar s (fun A s=>Z.hd s (fun B s=>Z.av s (fun C s=>Z.b8 s (fun U s=>Z.ai s (fun D s=>nL Z c d e D g b a s) (an .add f (.int .i64 2))) 4 C (af.ap s.aa B)) 7 a) 36 [(af.ap s.aa A)]) none z) 5 i) 4 y (af.ap s.aa x)) 3 a) 36 [(af.ap s.aa w)]) none u) 4 i) (Z.ai s (fun E s=>Z.aR E (Z.av s (fun F s=>Z.b8 s (fun U s=>Z.av s (fun H s=>Z.ar s (fun I s=>Z.hd s (fun J s=>Z.av s (fun K s=>Z.b8 s (fun U s=>Z.ai s (fun L s=>nL Z c d e L g b a s) (an .add f (.int .i64 1))) 4 K (af.ap s.aa J)) 3 a) 36 [(af.ap s.aa I)]) none H) 4 i) 1 F (af.ap s.aa (nV m))) 2 a) (Z.aR o (Z.av s (fun M s=>Z.b8 s (fun U s=>Z.av s (fun N s=>Z.ar s (fun O s=>Z.bt s (fun P s=>Z.ai s (fun Q s=>Z.av s (fun R s=>Z.b8 s (fun U s=>Z.ai s (fun S s=>nL Z c d e f S b a s) (an .add g (.int .i64 1))) 1 R (af.ap s.aa Q)) 11 a) (an .add (.int .i64 1) P)) 14 [(af.ap s.aa O),(af.ap s.aa (.int .i64 2))]) none N) 6 i) 1 M (af.ap s.aa (nV m))) 2 a) (Z.av s (fun T s=>Z.b8 s (fun U s=>nL Z c d e f g b a s) 1 T (af.ap s.aa (nV m))) 2 a))) (an .eql j (.int .i64 2)))) (an .eql j (.int .i64 1))) 12 a (af.ap s.aa r)))) (an .add (.str [115]) p)) 19 [(af.ap s.aa b)]:=h.1.fW
theorem Cn:rX Z e f g c d i o j a p s=Z.ae a true (fun k=>k d s) s (fun q s=>Z.ae a true (fun k=>Z.ai s k (an .eql q (.int .i64 3))) s (fun r s=>Z.bs s (fun b s=>Z.ae b false (fun k=>k j s) s (fun t s=>Z.ae b false (fun k=>Z.ai s k (an .leq t (.int .i64 2))) s (fun u s=>Z.ae b false (fun k=>k u s) s (fun m s=>Z.ae m true (fun k=>k c s) s (fun w s=>Z.ae m true (fun k=>Z.ai s k (an .gtr w (.int .i64 6))) s (fun x s=>Z.ae b false (fun k=>Z.bs s k m x (.bool false)) s (fun y s=>Z.bs s (fun z s=>Z.aR z (pi Z e f g c d i s) (pj Z e f g c d i o j a p s)) b (.bool true) y))))))) a r (.bool false))):=h.1.fW
theorem vZ:t8 Z b c d e f g i j m a o s=Z.cI s (fun p s=>Z.ai s (fun q s=>Z.aR q (H7 Z b c d e f g i j m a o s) (rX Z b c d e f g i j m a s)) (an .lss o p)) false a:=h.1.s7
theorem EA:zo Z a b c d e f g i j m s=t8 Z a b c d e f g i j m (.int .i64 0) s:=h.1.fW
theorem v0:t9 Z a b c d e f g i j m q o p s=Z.cI s (fun r s=>Z.ai s (fun t s=>Z.aR t (H6 Z a b c d e f g i j m q o p s) (zo Z a b c d e f g i m o s)) (an .lss p r)) false j:=h.1.s7
theorem EB:rY Z d e f g i j a b s=Z.bt s (fun c s=>Z.bJ s (fun m s=>Z.bJ s (fun y s=>Z.bJ s (fun o s=>Z.av s (fun p s=>Z.ar s (fun q s=>Z.av s (fun r s=>Z.ar s (fun t s=>Z.av s (fun u s=>Z.ar s (fun w s=>Z.be s (fun x s=>t9 Z d e f g i j a b m o x (.bG 1 [] .nil) (.int .i64 0) s) 1 [q,t,w]) none u) 3 a) none r) 2 a) none p) 1 a) 2 c) 1 c) 0 c) 34 [(af.ap s.aa b)]:=h.1.fW
theorem EC:H8 Z b d e f g a s=Z.bT s (fun i s=>Z.ar s (fun j s=>Z.ii (.ref (.l s.own.length) 0) (s.new (.cells [.int .i64 0,.int .i64 0,.int .i64 0,.int .i64 0,.int .i64 0,.int .i64 0,.int .i64 0])) (fun c s=>Z.b8 s (fun u s=>Z.av s (fun m s=>Z.ar s (fun o s=>Z.bt s (fun p s=>Z.ai s (fun q s=>Z.ai s (fun r s=>Z.aR r (rY Z b d e f g a c (.int .i64 1) s) (rY Z b d e f g a c q s)) (an .lss a (.int .i64 2))) (an .add (.int .i64 1) p)) 14 [(af.ap s.aa o),(af.ap s.aa (.int .i64 16))]) none m) 0 c) 7 c (af.ap s.aa j))) (some 7) i) 7 b a:=h.1.fW
theorem ts:BE Z a s=Z.a5 false [some a] s:=h.1.fW
theorem qu:kD Z c d b f g e s=Z.cI s (fun i s=>Z.ai s (fun a s=>Z.ae a true (fun k=>k b s) s (fun j s=>Z.ae a true (fun k=>Z.cI s k false j) s (fun m s=>Z.ae a true (fun k=>k d s) s (fun o s=>Z.ae a true (fun k=>Z.ai s k (an .lss m o)) s (fun p s=>Z.bs s (fun q s=>Z.aR q (H8 Z c d b f g e s) (BE Z b s)) a p (.bool false)))))) (an .lss e i)) false c:=h.1.s7
theorem v3:zp Z a b s=Z.ai s (fun c s=>Z.a5 false [some c] s) (an .rem a b):=h.1.fW
theorem v5:rZ Z a b c d e s=Z.ai s (fun f s=>ua Z a b c d f s) (an .add e (.int .i64 1)):=h.1.fW
theorem ED:H9 Z d a e f b s=Z.bT s (fun m s=>Z.av s (fun o s=>Z.ar s (fun p s=>Z.bt s (fun g s=>Z.bJ s (fun A s=>Z.bJ s (fun j s=>Z.bJ s (fun B s=>Z.ai s (fun c s=>Z.ae c false (fun k=>k a s) s (fun q s=>Z.ae c false (fun k=>Z.ai s k (an .eql q (.int .i64 0))) s (fun r s=>Z.ae c false (fun k=>k r s) s (fun i s=>Z.ae i true (fun k=>k j s) s (fun t s=>Z.ae i true (fun k=>Z.ai s k (an .neq t (.int .i64 1))) s (fun u s=>Z.ae c false (fun k=>Z.bs s k i u (.bool false)) s (fun w s=>Z.bs s (fun x s=>Z.aR x (Z.be s (fun y s=>Z.gd s (fun z s=>rZ Z d a e z b s) 1 8 (some (.l 0)) f y) 1 [b]) (rZ Z d a e f b s)) c (.bool true) w))))))) (an .eql j a)) 2 g) 1 g) 0 g) 34 [(af.ap s.aa p)]) none o) 1 m) 12 d b:=h.1.fW
theorem EE:Ia Z b a s=Z.cI s (fun c s=>Z.bt s (fun d s=>Z.bT s (fun e s=>Z.ar s (fun f s=>Z.a5 false [some f] s) none e) 1 a d) 14 [(af.ap s.aa b),(af.ap s.aa c)]) false a:=h.1.fW
theorem EF:zq Z b a s=Z.cI s (fun c s=>Z.ai s (fun d s=>Z.aR d (Z.a5 false [some (.int .i64 (-1))] s) (Ia Z b a s)) (an .eql c (.int .i64 0))) false a:=h.1.fW
theorem v7:ua Z a e b c d s=Z.cI s (fun f s=>Z.ai s (fun g s=>Z.aR g (H9 Z a e b c d s) (zq Z b c s)) (an .lss d f)) false a:=h.1.s7
theorem v8:zr Z a b c d e f g i s=Z.ai s (fun j s=>zu Z a b c d e f g j s) (an .add i (.int .i64 1)):=h.1.fW
theorem I9:Ov Z a b c d e f g i s=Z.ai s (fun j s=>zr Z a b c d e f j i s) (an .add g (.int .i64 1)):=h.1.fW
theorem Ja:zs Z e i j f g m c d s=Z.bT s (fun o s=>Z.av s (fun p s=>Z.ar s (fun q s=>Z.ai s (fun r s=>Z.aR r (Z.cI s (fun t s=>Z.ai s (fun b s=>Z.ae b false (fun k=>k f s) s (fun u s=>Z.ae b false (fun k=>k c s) s (fun w s=>Z.ae b false (fun k=>Z.bT s k 1 u w) s (fun x s=>Z.ae b false (fun k=>Z.ar s k none x) s (fun y s=>Z.ae b false (fun k=>k d s) s (fun z s=>Z.ae b false (fun k=>Z.ai s k (an .neq y z)) s (fun A s=>Z.bs s (fun a s=>Z.ae a false (fun k=>k g s) s (fun B s=>Z.ae a false (fun k=>k c s) s (fun C s=>Z.ae a false (fun k=>Z.bT s k 1 B C) s (fun D s=>Z.ae a false (fun k=>Z.ar s k none D) s (fun E s=>Z.ae a false (fun k=>k e s) s (fun F s=>Z.ae a false (fun k=>k d s) s (fun H s=>Z.ae a false (fun k=>Z.bT s k 12 F H) s (fun I s=>Z.ae a false (fun k=>Z.av s k 11 I) s (fun J s=>Z.ae a false (fun k=>Z.ar s k none J) s (fun K s=>Z.ae a false (fun k=>Z.ai s k (an .mul (.int .i64 2) K)) s (fun L s=>Z.ae a false (fun k=>Z.ai s k (an .sub (.int .i64 3) L)) s (fun M s=>Z.ae a false (fun k=>Z.ai s k (an .neq E M)) s (fun N s=>Z.bs s (fun O s=>Z.aR O (Z.a5 false [some (.bool false)] s) (Ov Z e i j f g m c d s)) a (.bool true) N))))))))))))) b (.bool true) A))))))) (an .geq c t)) false f) (zr Z e i j f g m c d s)) (an .neq q (.int .i64 0))) none p) 11 o) 12 e d:=h.1.fW
theorem Jb:Ow Z a b c d e f g i s=Z.ai s (fun j s=>zs Z a b c d e j g i s) (an .add f (.int .i64 1)):=h.1.fW
theorem Jc:zt Z e f g i j c m d s=Z.bT s (fun o s=>Z.av s (fun p s=>Z.ar s (fun q s=>Z.ai s (fun r s=>Z.aR r (Z.cI s (fun t s=>Z.ai s (fun b s=>Z.ae b false (fun k=>k f s) s (fun u s=>Z.ae b false (fun k=>k c s) s (fun w s=>Z.ae b false (fun k=>Z.bT s k 2 u w) s (fun x s=>Z.ae b false (fun k=>Z.ar s k (some 2) x) s (fun y s=>Z.ae b false (fun k=>k d s) s (fun z s=>Z.ae b false (fun k=>Z.f4 [.int .i64 0,.int .i64 0] [(0,1,z),(1,1,(.int .i64 1))] s k) s (fun A s=>Z.ae b false (fun k=>Z.ai s k ((lB (.agg [.int .i64,.int .i64]) y A).map fun b=>.bool (bif true then !b else b))) s (fun B s=>Z.bs s (fun a s=>Z.ae a false (fun k=>k g s) s (fun C s=>Z.ae a false (fun k=>k c s) s (fun D s=>Z.ae a false (fun k=>Z.bT s k 4 C D) s (fun E s=>Z.ae a false (fun k=>Z.ar s k (some 4) E) s (fun F s=>Z.ae a false (fun k=>k e s) s (fun H s=>Z.ae a false (fun k=>k d s) s (fun I s=>Z.ae a false (fun k=>Z.bT s k 12 H I) s (fun J s=>Z.ae a false (fun k=>Z.av s k 7 J) s (fun K s=>Z.ae a false (fun k=>Z.ar s k (some 4) K) s (fun L s=>Z.ae a false (fun k=>Z.bt s k 17 [(af.ap s.aa F),(af.ap s.aa L)]) s (fun M s=>Z.ae a false (fun k=>Z.ai s k (kl .not M)) s (fun N s=>Z.bs s (fun O s=>Z.aR O (Z.a5 false [some (.bool false)] s) (Ow Z e f g i j c m d s)) a (.bool true) N)))))))))))) b (.bool true) B)))))))) (an .geq c t)) false f) (zs Z e f g i j c m d s)) (an .eql q (.int .i64 1))) none p) 1 o) 12 e d:=h.1.fW
theorem Jd:DT Z a b c d e f g i s=Z.ai s (fun j s=>zt Z a b c d e j g i s) (an .add f (.int .i64 1)):=h.1.fW
theorem Je:Ox Z e g i j m f o c s=Z.bT s (fun p s=>Z.av s (fun q s=>Z.ar s (fun r s=>Z.ai s (fun d s=>Z.ae d false (fun k=>k e s) s (fun t s=>Z.ae d false (fun k=>k c s) s (fun u s=>Z.ae d false (fun k=>Z.bT s k 12 t u) s (fun w s=>Z.ae d false (fun k=>Z.av s k 1 w) s (fun x s=>Z.ae d false (fun k=>Z.ar s k none x) s (fun y s=>Z.ae d false (fun k=>Z.ai s k (an .eql y (.int .i64 2))) s (fun z s=>Z.bs s (fun A s=>Z.aR A (Z.cI s (fun B s=>Z.ai s (fun b s=>Z.ae b false (fun k=>k g s) s (fun C s=>Z.ae b false (fun k=>k f s) s (fun D s=>Z.ae b false (fun k=>Z.bT s k 2 C D) s (fun E s=>Z.ae b false (fun k=>Z.ar s k (some 2) E) s (fun F s=>Z.ae b false (fun k=>k c s) s (fun H s=>Z.ae b false (fun k=>Z.f4 [.int .i64 0,.int .i64 0] [(0,1,H),(1,1,(.int .i64 0))] s k) s (fun I s=>Z.ae b false (fun k=>Z.ai s k ((lB (.agg [.int .i64,.int .i64]) F I).map fun b=>.bool (bif true then !b else b))) s (fun J s=>Z.bs s (fun a s=>Z.ae a false (fun k=>k i s) s (fun K s=>Z.ae a false (fun k=>k f s) s (fun L s=>Z.ae a false (fun k=>Z.bT s k 4 K L) s (fun M s=>Z.ae a false (fun k=>Z.ar s k (some 4) M) s (fun N s=>Z.ae a false (fun k=>k e s) s (fun O s=>Z.ae a false (fun k=>k c s) s (fun P s=>Z.ae a false (fun k=>Z.bT s k 12 O P) s (fun Q s=>Z.ae a false (fun k=>Z.av s k 3 Q) s (fun R s=>Z.ae a false (fun k=>Z.ar s k (some 4) R) s (fun S s=>Z.ae a false (fun k=>Z.bt s k 17 [(af.ap s.aa N),(af.ap s.aa S)]) s (fun T s=>Z.ae a false (fun k=>Z.ai s k (kl .not T)) s (fun U s=>Z.bs s (fun V s=>Z.aR V (Z.a5 false [some (.bool false)] s) (DT Z e g i j m f o c s)) a (.bool true) U)))))))))))) b (.bool true) J)))))))) (an .geq f B)) false g) (zt Z e g i j m f o c s)) d (.bool true) z))))))) (an .eql r (.int .i64 1))) none q) 1 p) 12 e c:=h.1.fW
theorem EG:Ib Z b c d e s=Z.cI s (fun f s=>Z.ai s (fun a s=>Z.ae a true (fun k=>k e s) s (fun g s=>Z.ae a true (fun k=>k c s) s (fun i s=>Z.ae a true (fun k=>Z.cI s k false i) s (fun j s=>Z.ae a true (fun k=>Z.ai s k (an .eql g j)) s (fun m s=>Z.bs s (fun o s=>Z.a5 false [some o] s) a m (.bool false)))))) (an .eql d f)) false b:=h.1.fW
theorem xV:zu Z a b g c i d e f s=Z.cI s (fun j s=>Z.ai s (fun m s=>Z.aR m (Ox Z a b g c i d e f s) (Ib Z b c d e s)) (an .lss f j)) false a:=h.1.s7
theorem Jf:Oy Z a b c d e s=zu Z a b c d e (.int .i64 0) (.int .i64 0) (.int .i64 0) s:=h.1.fW
theorem Jg:Oz Z g s=Z.bt s (fun c s=>Z.bt s (fun i s=>Z.bJ s (fun j s=>Z.bJ s (fun u s=>Z.bt s (fun m s=>Z.bJ s (fun o s=>Z.bJ s (fun w s=>Z.bt s (fun p s=>Z.bJ s (fun q s=>Z.bJ s (fun x s=>Z.bt s (fun r s=>Z.bJ s (fun t s=>Z.bJ s (fun y s=>Z.ai s (fun d s=>Z.ae d false (fun k=>k w s) s (fun z s=>Z.ae d false (fun k=>Z.ai s k (an .neq z (.int .i64 0))) s (fun A s=>Z.bs s (fun e s=>Z.ae e false (fun k=>k x s) s (fun B s=>Z.ae e false (fun k=>Z.ai s k (an .neq B (.int .i64 0))) s (fun C s=>Z.bs s (fun f s=>Z.ae f false (fun k=>k y s) s (fun D s=>Z.ae f false (fun k=>Z.ai s k (an .neq D (.int .i64 0))) s (fun E s=>Z.bs s (fun a s=>Z.ae a false (fun k=>k j s) s (fun F s=>Z.ae a false (fun k=>Z.cI s k false F) s (fun H s=>Z.ae a false (fun k=>k o s) s (fun I s=>Z.ae a false (fun k=>Z.cI s k false I) s (fun J s=>Z.ae a false (fun k=>Z.ai s k (an .neq H J)) s (fun K s=>Z.bs s (fun b s=>Z.ae b false (fun k=>k q s) s (fun L s=>Z.ae b false (fun k=>Z.cI s k false L) s (fun M s=>Z.ae b false (fun k=>k t s) s (fun N s=>Z.ae b false (fun k=>Z.cI s k false N) s (fun O s=>Z.ae b false (fun k=>Z.ai s k (an .neq M O)) s (fun P s=>Z.bs s (fun Q s=>Z.aR Q (Z.a5 false [some (.bool false)] s) (Oy Z c j o q t s)) b (.bool true) P)))))) a (.bool true) K)))))) f (.bool true) E))) e (.bool true) C))) d (.bool true) A))) (an .neq u (.int .i64 0))) 1 r) 0 r) 26 [(af.ap s.aa c)]) 1 p) 0 p) 25 [(af.ap s.aa c)]) 1 m) 0 m) 24 [(af.ap s.aa c)]) 1 i) 0 i) 23 [(af.ap s.aa c)]) 10 [(af.ap s.aa g),(af.ap s.aa (.int .i64 12))]:=h.1.fW
theorem EH:Ic Z a s=Z.bt s (fun b s=>Z.a5 false [some b,some (.int .i64 0)] s) 44 [(af.ap s.aa a)]:=h.1.fW
theorem EI:Ie Z a b c d e s=Z.ai s (fun f s=>ub Z a b c d f s) (an .add e (.int .i64 1)):=h.1.fW
theorem EJ:If Z a e c f d s=Z.bT s (fun g s=>Z.ar s (fun i s=>Z.ii (.ref (.l s.own.length) 0) (s.new (.cells [.int .i64 0,.int .i64 0])) (fun b s=>Z.b8 s (fun F s=>Z.hv s (fun j s=>Z.ar s (fun m s=>Z.bT s (fun o s=>Z.av s (fun p s=>Z.ar s (fun q s=>Z.hv s (fun r s=>Z.ar s (fun t s=>Z.bT s (fun u s=>Z.av s (fun w s=>Z.ar s (fun x s=>Z.f4 [.bool false,.bG 1 [] .nil,.bool false,.bG 1 [] .nil,.bool false,.bG 1 [] .nil,.bool false,.bG 1 [] .nil] [(0,4,q),(4,4,x)] s (fun y s=>Z.hv s (fun z s=>Z.ar s (fun A s=>Z.py s (fun B s=>Z.bt s (fun C s=>Z.be s (fun D s=>Z.gd s (fun E s=>Ie Z a E c f d s) 4 64 (some (.l 0)) e D) 4 [C]) 41 [(af.ap s.aa B)]) 4 2 (some 4) y A) none z) 1 2 b (.int .i64 1))) (some 4) w) 7 u) 12 a t) none r) 1 2 b (.int .i64 0)) (some 4) p) 3 o) 12 a m) none j) 1 2 b (.int .i64 0)) 2 b (af.ap s.aa i))) (some 2) g) 2 c d:=h.1.fW
theorem EK:Ig Z a s=Z.a5 false [some a,some (.int .i64 0)] s:=h.1.fW
theorem v9:ub Z d a e b c s=Z.ai s (fun f s=>Z.aR f (If Z d a e b c s) (Ig Z a s)) (an .lss c b):=h.1.s7
theorem EL:Ih Z a s=Z.bt s (fun b s=>Z.cI s (fun c s=>ub Z a (.bG 4 [] .nil) b c (.int .i64 0) s) false b) 44 [(af.ap s.aa a)]:=h.1.fW
theorem wa:zv Z a b c d s=Z.ai s (fun e s=>uc Z a b c e s) (an .add d (.int .i64 1)):=h.1.fW
theorem EM:Ii Z c b d a s=Z.bT s (fun f s=>Z.ar s (fun g s=>Z.ii (.ref (.l s.own.length) 0) (s.new (.cells [.str [],.int .i64 0,.bG 1 [] .nil,.bool false,.bG 1 [] .nil,.bool false,.bG 1 [] .nil,.bool false,.bG 1 [] .nil,.bool false,.bG 1 [] .nil,.int .i64 0])) (fun e s=>Z.b8 s (fun q s=>Z.ar s (fun i s=>Z.bt s (fun j s=>Z.aR j (Z.be s (fun m s=>Z.gd s (fun o s=>zv Z o b d a s) 1 8 (some (.l 0)) c m) 1 [a]) (zv Z c b d a s)) 43 [(af.ap s.aa i)]) (some 12) e) 12 e (af.ap s.aa g))) (some 12) f) 12 b a:=h.1.fW
theorem EN:Ij Z a s=Z.a5 false [some a,some (.int .i64 0)] s:=h.1.fW
theorem wb:uc Z a d b c s=Z.ai s (fun e s=>Z.aR e (Ii Z a d b c s) (Ij Z a s)) (an .lss c b):=h.1.s7
theorem EO:Ik Z a s=Z.cI s (fun b s=>uc Z (.bG 1 [] .nil) a b (.int .i64 0) s) false a:=h.1.fW
theorem wc:zw Z a b c d e s=Z.ai s (fun f s=>ud Z a b c d f s) (an .add e (.int .i64 1)):=h.1.fW
theorem EP:Il Z c b d e a s=Z.bT s (fun f s=>Z.ar s (fun g s=>Z.bT s (fun i s=>Z.b8 s (fun r s=>Z.bT s (fun j s=>Z.av s (fun m s=>Z.ar s (fun o s=>Z.ai s (fun p s=>Z.aR p (Z.bT s (fun q s=>Z.b8 s (fun r s=>zw Z c b d e a s) 1 q (af.ap s.aa (.int .i64 (-1)))) 1 b a) (zw Z c b d e a s)) (an .eql o (.int .i64 2))) none m) 11 j) 12 c g) 1 i (af.ap s.aa (.int .i64 1))) 1 b a) none f) 1 d a:=h.1.fW
theorem EQ:Im Z a s=Z.a5 false [some a,some (.int .i64 0)] s:=h.1.fW
theorem we:ud Z d a e b c s=Z.ai s (fun f s=>Z.aR f (Il Z d a e b c s) (Im Z a s)) (an .lss c b):=h.1.s7
theorem ER:Io Z b a s=Z.cI s (fun c s=>Z.kz s (fun d s=>Z.cI s (fun e s=>ud Z b d a e (.int .i64 0) s) false a) [.int .i64 0] 8 c c) false a:=h.1.fW
theorem ES:Ip Z a s=Z.be s (fun b s=>Z.gd s (fun c s=>Z.a5 false [some c] s) 1 4 (some (.l 0)) b a) 1 []:=h.1.fW
end
variable(G:Nat→af)(X:Nat→List af→ag→ah)
theorem OG:f133 Z a b s=Z.cI s (fun c s=>Z.cI s (fun d s=>Z.ai s (fun e s=>Z.aR e (Z.cI s (fun f s=>Z.cI s (fun g s=>Z.ai s (fun i s=>Z.aR i (Z.a5 false [some (.int .i64 (-1))] s) (AV Z s)) (an .lss f g)) false b) false a) (Ba Z a b s)) (an .neq c d)) false b) false a:=by kernel_rfl
theorem ET:aL aK G X 133 [a,b] s=f133 (aU aK G X) a b s.aj:=cz aK G X (fn:=vt)
theorem OH:f134 Z a b s=Z.cI s (fun c s=>Z.kz s (fun d s=>Z.cI s (fun e s=>rF Z a b d (.int .u64 0) e (.int .i64 0) s) false a) [.int .u32 0] 4 c c) false a:=by kernel_rfl
theorem EU:aL aK G X 134 [a,b] s=f134 (aU aK G X) a b s.aj:=cz aK G X (fn:=AL)
theorem OI:f135 Z a s=Z.cI s (fun b s=>rH Z a b s) false a:=by kernel_rfl
theorem EV:aL aK G X 135 [a] s=f135 (aU aK G X) a s.aj:=cz aK G X (fn:=AM)
theorem OJ:f136 Z a s=Z.bt s (fun b s=>Z.ai s (fun c s=>Z.a5 false [some c] s) (an .sub (.int .i64 32) b)) 111 [(af.ap s.aa a)]:=by kernel_rfl
theorem EW:aL aK G X 136 [a] s=f136 (aU aK G X) a s.aj:=cz aK G X (fn:=NJ)
theorem OK:f137 Z a b s=Z.cI s (fun d s=>Z.ai s (fun e s=>Z.ai s (fun f s=>Z.ai s (fun c s=>Z.kz s (fun g s=>Z.cI s (fun i s=>rJ Z a b g i (.int .i64 0) s) false a) [.int .u32 0] 4 c c) (an .add f (.int .i64 1))) (an .add d e)) (an .quo b (.int .i64 32))) false a:=by kernel_rfl
theorem EX:aL aK G X 137 [a,b] s=f137 (aU aK G X) a b s.aj:=cz aK G X (fn:=AN)
theorem OL:f138 Z b c a d s=Z.cI s (fun e s=>pf Z b c a d (.int .u64 0) (.int .u64 0) e (.int .i64 0) s) false a:=by kernel_rfl
theorem EY:aL aK G X 138 [a,b,c,d] s=f138 (aU aK G X) a b c d s.aj:=cz aK G X (fn:=te)
theorem OM:f139 Z c d a s=Z.cI s (fun b s=>Z.ai s (fun f s=>Z.bT s (fun g s=>Z.ar s (fun i s=>Z.b9 s (fun j s=>Z.ai s (fun m s=>Z.ai s (fun o s=>Z.ai s (fun p s=>Z.bT s (fun q s=>Z.ar s (fun r s=>Z.b9 s (fun t s=>Z.ai s (fun e s=>Z.ai s (fun u s=>Z.bT s (fun w s=>Z.ar s (fun x s=>Z.b9 s (fun y s=>Z.ai s (fun z s=>Z.ai s (fun A s=>Z.bT s (fun B s=>Z.ar s (fun C s=>Z.b9 s (fun D s=>Z.ai s (fun E s=>rM Z c d a b z E s) (an .rem e D)) .u64 C) none B) 1 a A) (an .sub b (.int .i64 1))) (an .quo e y)) .u64 x) none w) 1 a u) (an .sub b (.int .i64 1))) (an .or m t)) .u64 r) none q) 1 c p) (an .sub o (.int .i64 1))) (an .add d b)) (an .shl j (.int .u64 32))) .u64 i) none g) 1 c f) (an .add d b)) false a:=by kernel_rfl
theorem EZ:aL aK G X 139 [a,b,c] s=f139 (aU aK G X) a b c s.aj:=cz aK G X (fn:=AT)
theorem ON:f140 Z a b s=Z.ai s (fun c s=>Z.cI s (fun d s=>Z.ai s (fun e s=>Z.aR e (Z.cI s (fun f s=>Z.ai s (fun g s=>Z.a5 false [some (.bG 1 [] .nil),some g] s) (an .gtr f (.int .i64 0))) false a) (Bt Z a b c s)) (an .geq c d)) false a) (an .quo b (.int .i64 32)):=by kernel_rfl
theorem E0:aL aK G X 140 [a,b] s=f140 (aU aK G X) a b s.aj:=cz aK G X (fn:=xU)
theorem OO:f111 Z a s=Z.ai s (fun b s=>Z.aR b (Z.ai s (fun c s=>nJ Z c (.int .i64 16) s) (an .shr a (.int .u64 16))) (nJ Z a (.int .i64 0) s)) (an .geq a (.int .u32 65536)):=by kernel_rfl
theorem E1:aL aK G X 111 [a] s=f111 (aU aK G X) a s.aj:=cz aK G X (fn:=AE)
theorem U6:f87 Z b s=Z.eS b s (fun a s=>Z.av s (fun d s=>Z.ar s (fun e s=>Z.cI s (fun c s=>Z.ai s (fun f s=>Z.aR f (Z.av s (fun g s=>Z.ar s (fun i s=>Z.ai s (fun j s=>Z.a5 false [some j] s) (kl .not i)) none g) 0 a) (Hr Z a c s)) (an .eql c (.int .i64 0))) false e) none d) 1 a):=by kernel_rfl
theorem Jh:aL aK G X 87 [a] s=f87 (aU aK G X) a s.aj:=cz aK G X (fn:=Qi)
theorem U7:f90 Z b c s=Z.eS b s (fun d s=>Z.eS c s (fun e s=>Z.ii (.ref (.l s.own.length) 0) (s.new (.cells [.bool false,.bG 1 [] .nil])) (fun a s=>Z.ar s (fun f s=>Z.ar s (fun g s=>Z.bt s (fun i s=>Z.ai s (fun j s=>Z.aR j (Z.f4 [.bool false,.bG 1 [] .nil] [] s (fun m s=>Z.b8 s (fun h s=>Z.a5 false [ky s a (some 2),some (.int .i64 1)] s) 2 a (af.ap s.aa m))) (Hw Z d e a s)) (kl .not i)) 113 [(af.ap s.aa f),(af.ap s.aa g)]) (some 2) e) (some 2) d))):=by kernel_rfl
theorem Ji:aL aK G X 90 [a,b] s=f90 (aU aK G X) a b s.aj:=cz aK G X (fn:=yY)
theorem OP:f113 Z b c s=Z.eS b s (fun d s=>Z.eS c s (fun e s=>Z.ar s (fun f s=>Z.bt s (fun a s=>Z.ae a true (fun k=>Z.ar s k (some 2) e) s (fun g s=>Z.ae a true (fun k=>Z.bt s k 87 [(af.ap s.aa g)]) s (fun i s=>Z.bs s (fun j s=>Z.a5 false [some j] s) a i (.bool false)))) 87 [(af.ap s.aa f)]) (some 2) d)):=by kernel_rfl
theorem E2:aL aK G X 113 [a,b] s=f113 (aU aK G X) a b s.aj:=cz aK G X (fn:=Nz)
theorem OQ:f114 Z a b s=Z.bt s (fun c s=>Z.ai s (fun d s=>Z.aR d (Z.a5 false [some (.bG 1 [] .nil),some a] s) (By Z a b s)) (an .lss c (.int .i64 0))) 133 [(af.ap s.aa a),(af.ap s.aa b)]:=by kernel_rfl
theorem E3:aL aK G X 114 [a,b] s=f114 (aU aK G X) a b s.aj:=cz aK G X (fn:=vr)
theorem OR:f115 Z b c s=Z.ii (.ref (.l s.own.length) 0) (s.new (.cells [.bool false,.bG 1 [] .nil])) (fun a s=>Z.bt s (fun d s=>Z.cI s (fun e s=>Z.ai s (fun f s=>Z.aR f (Z.f4 [.bool false,.bG 1 [] .nil] [] s (fun g s=>Z.b8 s (fun h s=>Z.a5 false [ky s a (some 2),some (.int .i64 2)] s) 2 a (af.ap s.aa g))) (Bz Z b d a s)) (an .gtr e (.int .i64 128))) false d) 135 [(af.ap s.aa c)]):=by kernel_rfl
theorem E4:aL aK G X 115 [a,b] s=f115 (aU aK G X) a b s.aj:=cz aK G X (fn:=xT)
theorem OS:f116 Z a s=Z.cI s (fun b s=>nK Z a (.int .u64 0) b (.int .i64 0) s) false a:=by kernel_rfl
theorem E5:aL aK G X 116 [a] s=f116 (aU aK G X) a s.aj:=cz aK G X (fn:=AG)
theorem U8:f71 Z e s=Z.eS e s (fun a s=>Z.av s (fun f s=>Z.ar s (fun g s=>Z.bt s (fun i s=>Z.ai s (fun b s=>Z.ae b false (fun k=>Z.av s k 2 a) s (fun j s=>Z.ae b false (fun k=>Z.ar s k (some 2) j) s (fun m s=>Z.ae b false (fun k=>Z.bt s k 87 [(af.ap s.aa m)]) s (fun o s=>Z.ae b false (fun k=>Z.ai s k (kl .not o)) s (fun p s=>Z.bs s (fun c s=>Z.ae c false (fun k=>Z.av s k 2 a) s (fun q s=>Z.ae c false (fun k=>Z.av s k 0 q) s (fun r s=>Z.ae c false (fun k=>Z.ar s k none r) s (fun t s=>Z.bs s (fun d s=>Z.ae d false (fun k=>Z.av s k 2 a) s (fun u s=>Z.ae d false (fun k=>Z.ar s k (some 2) u) s (fun w s=>Z.ae d false (fun k=>Z.bt s k 88 [(af.ap s.aa w)]) s (fun x s=>Z.bs s (fun y s=>Z.aR y (Z.a5 false [some (.bool false)] s) (HD Z a s)) d (.bool true) x)))) c (.bool true) t)))) b (.bool true) p))))) (kl .not i)) 87 [(af.ap s.aa g)]) (some 2) f) 0 a):=by kernel_rfl
theorem Jj:aL aK G X 71 [a] s=f71 (aU aK G X) a s.aj:=cz aK G X (fn:=DL)
theorem U9:f88 Z a s=Z.eS a s (fun b s=>Z.av s (fun c s=>Z.ar s (fun d s=>Z.cI s (fun e s=>Z.ai s (fun f s=>Z.a5 false [some f] s) (an .eql e (.int .i64 0))) false d) none c) 1 b):=by kernel_rfl
theorem Jk:aL aK G X 88 [a] s=f88 (aU aK G X) a s.aj:=cz aK G X (fn:=ZF)
theorem Va:f89 Z d s=Z.eS d s (fun c s=>Z.av s (fun e s=>Z.ar s (fun f s=>Z.ai s (fun b s=>Z.ae b true (fun k=>Z.av s k 1 c) s (fun g s=>Z.ae b true (fun k=>Z.ar s k none g) s (fun i s=>Z.ae b true (fun k=>Z.cI s k false i) s (fun j s=>Z.ae b true (fun k=>Z.ai s k (an .eql j (.int .i64 1))) s (fun m s=>Z.bs s (fun a s=>Z.ae a true (fun k=>Z.av s k 1 c) s (fun o s=>Z.ae a true (fun k=>Z.ar s k none o) s (fun p s=>Z.ae a true (fun k=>Z.bT s k 1 p (.int .i64 0)) s (fun q s=>Z.ae a true (fun k=>Z.ar s k none q) s (fun r s=>Z.ae a true (fun k=>Z.ai s k (an .eql r (.int .u32 1))) s (fun t s=>Z.bs s (fun u s=>Z.a5 false [some u] s) a t (.bool false))))))) b m (.bool false)))))) (kl .not f)) none e) 0 c):=by kernel_rfl
theorem Jl:aL aK G X 89 [a] s=f89 (aU aK G X) a s.aj:=cz aK G X (fn:=ZG)
theorem Vb:f16 Z a s=Z.cI s (fun b s=>tV Z a (.int .i64 0) a b (.int .i64 0) s) false a:=by kernel_rfl
theorem Jm:aL aK G X 16 [a] s=f16 (aU aK G X) a s.aj:=cz aK G X (fn:=I5)
theorem Vc:f42 Z c s=Z.cI s (fun i s=>Z.ai s (fun f s=>Z.bT s (fun j s=>Z.ar s (fun m s=>Z.ii (.ref (.l s.own.length) 0) (s.new (.cells [.str [],.int .i64 0,.bG 1 [] .nil,.bool false,.bG 1 [] .nil,.bool false,.bG 1 [] .nil,.bool false,.bG 1 [] .nil,.bool false,.bG 1 [] .nil,.int .i64 0])) (fun b s=>Z.b8 s (fun h s=>Z.av s (fun o s=>Z.ar s (fun p s=>Z.bt s (fun e s=>Z.bJ s (fun g s=>Z.bJ s (fun q s=>Z.bJ s (fun r s=>Z.ai s (fun a s=>Z.ae a false (fun k=>k g s) s (fun t s=>Z.ae a false (fun k=>Z.cI s k false t) s (fun u s=>Z.ae a false (fun k=>Z.av s k 2 b) s (fun w s=>Z.ae a false (fun k=>Z.ar s k none w) s (fun x s=>Z.ae a false (fun k=>Z.cI s k false x) s (fun y s=>Z.ae a false (fun k=>Z.ai s k (an .neq u y)) s (fun z s=>Z.bs s (fun d s=>Z.ae d false (fun k=>Z.av s k 0 b) s (fun A s=>Z.ae d false (fun k=>Z.ar s k none A) s (fun B s=>Z.ae d false (fun k=>Z.ai s k (an .eql B (.str []))) s (fun C s=>Z.bs s (fun D s=>Z.aR D (Z.a5 false [some (.bool false)] s) (HK Z c f b g r s)) d (.bool true) C)))) a (.bool true) z))))))) (an .eql q (.int .i64 0))) 2 e) 1 e) 0 e) 21 [(af.ap s.aa p)]) none o) 1 b) 12 b (af.ap s.aa m))) (some 12) j) 12 c f) (an .sub i (.int .i64 1))) false c:=by kernel_rfl
theorem Jn:aL aK G X 42 [a] s=f42 (aU aK G X) a s.aj:=cz aK G X (fn:=AD)
theorem Vd:f43 Z b s=Z.eS b s (fun c s=>Z.av s (fun d s=>Z.ar s (fun e s=>Z.bt s (fun a s=>Z.bJ s (fun g s=>Z.bJ s (fun i s=>Z.bJ s (fun f s=>Z.a5 false [some f] s) 2 a) 1 a) 0 a) 21 [(af.ap s.aa e)]) none d) 1 c):=by kernel_rfl
theorem Jo:aL aK G X 43 [a] s=f43 (aU aK G X) a s.aj:=cz aK G X (fn:=LM)
theorem Ve:f44 Z a s=Z.cI s (fun b s=>tX Z (.bG 2 [] .nil) a b (.int .i64 0) s) false a:=by kernel_rfl
theorem Jp:aL aK G X 44 [a] s=f44 (aU aK G X) a s.aj:=cz aK G X (fn:=LS)
theorem Vf:f48 Z b s=Z.eS b s (fun c s=>Z.av s (fun d s=>Z.ar s (fun e s=>Z.bt s (fun a s=>Z.bJ s (fun g s=>Z.bJ s (fun f s=>Z.bJ s (fun i s=>Z.a5 false [some f] s) 2 a) 1 a) 0 a) 21 [(af.ap s.aa e)]) none d) 1 c):=by kernel_rfl
theorem Jq:aL aK G X 48 [a] s=f48 (aU aK G X) a s.aj:=cz aK G X (fn:=Yy)
theorem Vg:f34 Z a s=Z.ai s (fun c s=>Z.aR c (Z.a5 false [some (.bG 1 [] .nil),some (.int .i64 1),some (.bool false)] s) (Z.ai s (fun d s=>Z.aR d (Z.be s (fun e s=>Z.a5 false [some e,some (.int .i64 1),some (.bool false)] s) 1 [(.int .i64 0)]) (Z.ai s (fun f s=>Z.aR f (Z.be s (fun g s=>Z.a5 false [some g,some (.int .i64 2),some (.bool false)] s) 1 [(.int .i64 1),(.int .i64 1)]) (Z.ai s (fun i s=>Z.aR i (Z.be s (fun j s=>Z.a5 false [some j,some (.int .i64 1),some (.bool false)] s) 1 [(.int .i64 2),(.int .i64 2)]) (Z.ai s (fun m s=>Z.aR m (Z.be s (fun o s=>Z.a5 false [some o,some (.int .i64 3),some (.bool false)] s) 1 [(.int .i64 1),(.int .i64 1)]) (Z.ai s (fun b s=>Z.aR b (zi Z a b s) (Z.ai s (fun p s=>zi Z a p s) (an .eql a (.int .i64 7)))) (an .eql a (.int .i64 6)))) (an .eql a (.int .i64 5)))) (an .eql a (.int .i64 4)))) (an .eql a (.int .i64 3)))) (an .eql a (.int .i64 2)))) (an .eql a (.int .i64 1)):=by kernel_rfl
theorem Jr:aL aK G X 34 [a] s=f34 (aU aK G X) a s.aj:=cz aK G X (fn:=yX)
theorem Vh:f50 Z d c s=Z.ai s (fun a s=>Z.ae a false (fun k=>k d s) s (fun f s=>Z.ae a false (fun k=>Z.ai s k (an .eql f (.int .i64 0))) s (fun g s=>Z.ae a false (fun k=>k g s) s (fun b s=>Z.ae b true (fun k=>k c s) s (fun i s=>Z.ae b true (fun k=>Z.ai s k (an .eql i (.int .i64 2))) s (fun j s=>Z.ae b true (fun k=>k j s) s (fun e s=>Z.ae e false (fun k=>k c s) s (fun m s=>Z.ae e false (fun k=>Z.ai s k (an .eql m (.int .i64 3))) s (fun o s=>Z.ae b true (fun k=>Z.bs s k e (.bool true) o) s (fun p s=>Z.ae a false (fun k=>Z.bs s k b p (.bool false)) s (fun q s=>Z.bs s (fun r s=>Z.a5 false [some r] s) a (.bool true) q))))))))))) (an .eql c d):=by kernel_rfl
theorem Js:aL aK G X 50 [a,b] s=f50 (aU aK G X) a b s.aj:=cz aK G X (fn:=YG)
theorem Vi:f21 Z a s=Z.ai s (fun c s=>Z.aR c (Z.a5 false [some (.bG 1 [] .nil),some (.int .i64 1),some (.bool false)] s) (Z.ai s (fun d s=>Z.aR d (Z.be s (fun e s=>Z.a5 false [some e,some (.int .i64 1),some (.bool false)] s) 1 [(.int .i64 0)]) (Z.ai s (fun f s=>Z.aR f (Z.be s (fun g s=>Z.a5 false [some g,some (.int .i64 2),some (.bool false)] s) 1 [(.int .i64 1),(.int .i64 1)]) (Z.ai s (fun i s=>Z.aR i (Z.be s (fun j s=>Z.a5 false [some j,some (.int .i64 1),some (.bool false)] s) 1 [(.int .i64 2),(.int .i64 2)]) (Z.ai s (fun m s=>Z.aR m (Z.be s (fun o s=>Z.a5 false [some o,some (.int .i64 3),some (.bool false)] s) 1 [(.int .i64 1),(.int .i64 1)]) (Z.ai s (fun b s=>Z.aR b (zk Z a b s) (Z.ai s (fun p s=>zk Z a p s) (an .eql a (.int .i64 7)))) (an .eql a (.int .i64 6)))) (an .eql a (.int .i64 5)))) (an .eql a (.int .i64 4)))) (an .eql a (.int .i64 3)))) (an .eql a (.int .i64 2)))) (an .eql a (.int .i64 1)):=by kernel_rfl
theorem Jt:aL aK G X 21 [a] s=f21 (aU aK G X) a s.aj:=cz aK G X (fn:=K6)
theorem Vj:f72 Z e s=Z.eS e s (fun d s=>Z.av s (fun f s=>Z.av s (fun g s=>Z.ar s (fun i s=>Z.ai s (fun c s=>Z.ae c true (fun k=>Z.av s k 2 d) s (fun j s=>Z.ae c true (fun k=>Z.av s k 0 j) s (fun m s=>Z.ae c true (fun k=>Z.ar s k none m) s (fun o s=>Z.ae c true (fun k=>Z.ai s k (kl .not o)) s (fun p s=>Z.bs s (fun a s=>Z.ae a true (fun k=>Z.av s k 0 d) s (fun q s=>Z.ae a true (fun k=>Z.av s k 1 q) s (fun r s=>Z.ae a true (fun k=>Z.ar s k none r) s (fun t s=>Z.ae a true (fun k=>Z.cI s k false t) s (fun u s=>Z.ae a true (fun k=>Z.ai s k (an .eql u (.int .i64 0))) s (fun w s=>Z.bs s (fun b s=>Z.ae b true (fun k=>Z.av s k 2 d) s (fun x s=>Z.ae b true (fun k=>Z.av s k 1 x) s (fun y s=>Z.ae b true (fun k=>Z.ar s k none y) s (fun z s=>Z.ae b true (fun k=>Z.cI s k false z) s (fun A s=>Z.ae b true (fun k=>Z.ai s k (an .eql A (.int .i64 0))) s (fun B s=>Z.bs s (fun C s=>Z.a5 false [some C] s) b B (.bool false))))))) a w (.bool false))))))) c p (.bool false)))))) (kl .not i)) none g) 0 f) 0 d):=by kernel_rfl
theorem Ju:aL aK G X 72 [a] s=f72 (aU aK G X) a s.aj:=cz aK G X (fn:=YZ)
theorem Vk:f73 Z a b s=Z.bt s (fun c s=>Z.ai s (fun d s=>Z.a5 false [some d] s) (an .geq c (.int .i64 0))) 62 [(af.ap s.aa a),(af.ap s.aa b)]:=by kernel_rfl
theorem Jv:aL aK G X 73 [a,b] s=f73 (aU aK G X) a b s.aj:=cz aK G X (fn:=Y0)
theorem Vl:f74 Z a b s=Z.eS a s (fun c s=>Z.av s (fun d s=>Z.ar s (fun e s=>Z.av s (fun f s=>Z.ar s (fun g s=>Z.ai s (fun i s=>Z.a5 false [some i] s) (an .eql e g)) none f) 0 b) none d) 0 c):=by kernel_rfl
theorem Jw:aL aK G X 74 [a,b] s=f74 (aU aK G X) a b s.aj:=cz aK G X (fn:=Mh)
theorem Vm:f17 Z a b s=Z.eS a s (fun c s=>Z.eS b s (fun d s=>Z.av s (fun f s=>Z.ar s (fun g s=>Z.av s (fun i s=>Z.ar s (fun j s=>Z.bt s (fun e s=>Z.av s (fun m s=>Z.ar s (fun o s=>Z.av s (fun p s=>Z.ar s (fun q s=>Z.bt s (fun r s=>Z.ae e true (fun k=>k r s) s (fun t s=>Z.bs s (fun u s=>Z.a5 false [some u] s) e t (.bool false))) 45 [(af.ap s.aa o),(af.ap s.aa q)]) (some 2) p) 2 d) (some 2) m) 2 c) 45 [(af.ap s.aa g),(af.ap s.aa j)]) (some 2) i) 0 d) (some 2) f) 0 c)):=by kernel_rfl
theorem Jx:aL aK G X 17 [a,b] s=f17 (aU aK G X) a b s.aj:=cz aK G X (fn:=Xr)
theorem Vn:f62 Z a b s=Z.cI s (fun c s=>tY Z a b c (.int .i64 0) s) false a:=by kernel_rfl
theorem Jy:aL aK G X 62 [a,b] s=f62 (aU aK G X) a b s.aj:=cz aK G X (fn:=L8)
theorem Vo:f45 Z d e s=Z.eS d s (fun b s=>Z.eS e s (fun c s=>Z.av s (fun f s=>Z.ar s (fun g s=>Z.av s (fun i s=>Z.ar s (fun j s=>Z.ai s (fun a s=>Z.ae a false (fun k=>Z.av s k 1 b) s (fun m s=>Z.ae a false (fun k=>Z.ar s k none m) s (fun o s=>Z.ae a false (fun k=>Z.cI s k false o) s (fun p s=>Z.ae a false (fun k=>Z.av s k 1 c) s (fun q s=>Z.ae a false (fun k=>Z.ar s k none q) s (fun r s=>Z.ae a false (fun k=>Z.cI s k false r) s (fun t s=>Z.ae a false (fun k=>Z.ai s k (an .neq p t)) s (fun u s=>Z.bs s (fun w s=>Z.aR w (Z.a5 false [some (.bool false)] s) (HV Z b c s)) a (.bool true) u)))))))) ((lB .bool g j).map fun b=>.bool (bif true then !b else b))) none i) 0 c) none f) 0 b)):=by kernel_rfl
theorem Jz:aL aK G X 45 [a,b] s=f45 (aU aK G X) a b s.aj:=cz aK G X (fn:=I7)
theorem Vp:f19 Z a s=Z.bt s (fun b s=>Z.a5 false [some b] s) 47 [(af.ap s.aa a)]:=by kernel_rfl
theorem JA:aL aK G X 19 [a] s=f19 (aU aK G X) a s.aj:=cz aK G X (fn:=K0)
theorem Vq:f47 Z a s=Z.bt s (fun b s=>Z.a5 false [some b] s) 77 [(af.ap s.aa a),(af.ap s.aa (.int .i64 10))]:=by kernel_rfl
theorem JB:aL aK G X 47 [a] s=f47 (aU aK G X) a s.aj:=cz aK G X (fn:=Yx)
theorem Vr:f77 Z a b s=Z.ai s (fun d s=>Z.aR d (Z.ai s (fun c s=>Z.ae c true (fun k=>k a s) s (fun e s=>Z.ae c true (fun k=>Z.ai s k (an .lss e (.int .i64 100))) s (fun f s=>Z.bs s (fun g s=>Z.aR g (Z.bt s (fun i s=>Z.a5 false [some i] s) 95 [(af.ap s.aa a)]) (HX Z a s)) c f (.bool false)))) (an .leq (.int .i64 0) a)) (UW Z a b s)) (an .eql b (.int .i64 10)):=by kernel_rfl
theorem JC:aL aK G X 77 [a,b] s=f77 (aU aK G X) a b s.aj:=cz aK G X (fn:=Mo)
theorem Vs:f95 Z a s=Z.ai s (fun b s=>Z.aR b (Z.ai s (fun c s=>Z.vd (.str [48,49,50,51,52,53,54,55,56,57,97,98,99,100,101,102,103,104,105,106,107,108,109,110,111,112,113,114,115,116,117,118,119,120,121,122]) (some a) (some c) s (fun d s=>Z.a5 false [some d] s)) (an .add a (.int .i64 1))) (HY Z a s)) (an .lss a (.int .i64 10)):=by kernel_rfl
theorem JD:aL aK G X 95 [a] s=f95 (aU aK G X) a s.aj:=cz aK G X (fn:=Ql)
theorem Vt:f96 Z a s=Z.bt s (fun c s=>Z.bt s (fun b s=>Z.hv s (fun d s=>Z.ar s (fun e s=>Z.ai s (fun f s=>Z.bt s (fun g s=>Z.ai s (fun i s=>Z.a5 false [some i] s) (an .add b g)) 121 [(af.ap s.aa f)]) (an .geq a e)) none d) 1 20 (Z.bo 0) b) 120 [(af.ap s.aa c)]) 112 [(af.ap s.aa a)]:=by kernel_rfl
theorem JE:aL aK G X 96 [a] s=f96 (aU aK G X) a s.aj:=cz aK G X (fn:=ZZ)
theorem Vu:f97 Z a b s=Z.cI s (fun c s=>HZ Z a b c s) false a:=by kernel_rfl
theorem JF:aL aK G X 97 [a,b] s=f97 (aU aK G X) a b s.aj:=cz aK G X (fn:=DP)
theorem OT:f112 Z a s=Z.ai s (fun b s=>Z.aR b (Z.ai s (fun c s=>vF Z c (.int .i64 32) s) (an .shr a (.int .u64 32))) (vF Z a (.int .i64 0) s)) (an .geq a (.int .u64 4294967296)):=by kernel_rfl
theorem E6:aL aK G X 112 [a] s=f112 (aU aK G X) a s.aj:=cz aK G X (fn:=xS)
theorem OU:f120 Z a s=Z.ai s (fun b s=>Z.ai s (fun c s=>Z.a5 false [some c] s) (an .shr b (.int .u64 18))) (an .mul a (.int .i64 78913)):=by kernel_rfl
theorem E7:aL aK G X 120 [a] s=f120 (aU aK G X) a s.aj:=cz aK G X (fn:=NI)
theorem OV:f121 Z a s=Z.aR a (Z.a5 false [some (.int .i64 1)] s) (BD Z s):=by kernel_rfl
theorem E8:aL aK G X 121 [a] s=f121 (aU aK G X) a s.aj:=cz aK G X (fn:=GC)
theorem Vv:f10 Z a b s=kD Z a b (.bG 12 [] .nil) (.int .i64 0) (.int .i64 0) (.int .i64 0) s:=by kernel_rfl
theorem JG:aL aK G X 10 [a,b] s=f10 (aU aK G X) a b s.aj:=cz aK G X (fn:=KP)
theorem Vw:f14 Z a b s=Z.ai s (fun c s=>Z.aR c (Z.ai s (fun d s=>Z.ai s (fun e s=>zp Z e b s) (kl .neg d)) (an .add a (.int .i64 1))) (zp Z a b s)) (an .lss a (.int .i64 0)):=by kernel_rfl
theorem JH:aL aK G X 14 [a,b] s=f14 (aU aK G X) a b s.aj:=cz aK G X (fn:=xr)
theorem Vx:f35 Z a b c s=ua Z a b c (.bG 1 [] .nil) (.int .i64 0) s:=by kernel_rfl
theorem JI:aL aK G X 35 [a,b,c] s=f35 (aU aK G X) a b c s.aj:=cz aK G X (fn:=I6)
theorem Vy:f36 Z a s=Z.ii (.ref (.l s.own.length) 0) (s.new (.cells [.bool false,.bG 1 [] .nil,.bool false,.bG 1 [] .nil])) (fun b s=>Z.bt s (fun e s=>Z.ai s (fun f s=>Z.bt s (fun g s=>Z.ai s (fun i s=>Z.hd s (fun c s=>Z.bJ s (fun j s=>Z.bJ s (fun o s=>Z.ii (.ref (.l s.own.length) 0) (s.new (.cells [.bool false,.bG 1 [] .nil,.bool false,.bG 1 [] .nil])) (fun d s=>Z.b8 s (fun h s=>Z.ar s (fun m s=>Z.b8 s (fun h s=>Z.a5 false [ky s b (some 4)] s) 4 b (af.ap s.aa m)) (some 4) d) 4 d (af.ap s.aa j))) 1 c) 0 c) 46 [(af.ap s.aa f),(af.ap s.aa i)]) (an .add (.int .i64 1) g)) 14 [(af.ap s.aa a),(af.ap s.aa (.int .i64 4))]) (an .sub e (.int .i64 16))) 14 [(af.ap s.aa a),(af.ap s.aa (.int .i64 33))]):=by kernel_rfl
theorem JJ:aL aK G X 36 [a] s=f36 (aU aK G X) a s.aj:=cz aK G X (fn:=X5)
theorem aaZ:f7 Z a s=Z.hd s (fun b s=>Z.ai s (fun c s=>Z.aR c (Z.a5 false [some (.bool false)] s) (Oz Z a s)) (kl .not b)) 9 []:=by kernel_rfl
theorem OW:aL aK G X 7 [a] s=f7 (aU aK G X) a s.aj:=cz aK G X (fn:=Dn)
theorem Vz:f23 Z a s=Z.bt s (fun b s=>Z.ai s (fun c s=>Z.aR c (Z.a5 false [some (.bG 2 [] .nil),some b] s) (Ic Z a s)) (an .neq b (.int .i64 0))) 16 [(af.ap s.aa a)]:=by kernel_rfl
theorem JK:aL aK G X 23 [a] s=f23 (aU aK G X) a s.aj:=cz aK G X (fn:=DC)
theorem VA:f24 Z a s=Z.bt s (fun b s=>Z.ai s (fun c s=>Z.aR c (Z.a5 false [some (.bG 4 [] .nil),some b] s) (Ih Z a s)) (an .neq b (.int .i64 0))) 16 [(af.ap s.aa a)]:=by kernel_rfl
theorem JL:aL aK G X 24 [a] s=f24 (aU aK G X) a s.aj:=cz aK G X (fn:=yV)
theorem VB:f25 Z a s=Z.bt s (fun b s=>Z.ai s (fun c s=>Z.aR c (Z.a5 false [some (.bG 1 [] .nil),some b] s) (Ik Z a s)) (an .neq b (.int .i64 0))) 16 [(af.ap s.aa a)]:=by kernel_rfl
theorem JM:aL aK G X 25 [a] s=f25 (aU aK G X) a s.aj:=cz aK G X (fn:=vq)
theorem VC:f26 Z a s=Z.bt s (fun b s=>Z.bJ s (fun d s=>Z.bJ s (fun c s=>Z.ai s (fun e s=>Z.aR e (Z.a5 false [some (.bG 1 [] .nil),some c] s) (Io Z a d s)) (an .neq c (.int .i64 0))) 1 b) 0 b) 25 [(af.ap s.aa a)]:=by kernel_rfl
theorem JN:aL aK G X 26 [a] s=f26 (aU aK G X) a s.aj:=cz aK G X (fn:=yW)
theorem VD:f41 Z b s=Z.px b s (fun a s=>Z.ii (.ref (.l s.own.length) 0) (s.new (.cells [.bool false,.bG 1 [] .nil,.bool false,.bG 1 [] .nil])) (fun c s=>Z.av s (fun d s=>Z.av s (fun e s=>Z.ar s (fun f s=>Z.bt s (fun g s=>Z.av s (fun i s=>Z.av s (fun j s=>Z.b8 s (fun h s=>Z.av s (fun m s=>Z.av s (fun o s=>Z.ar s (fun p s=>Z.bt s (fun q s=>Z.av s (fun r s=>Z.av s (fun t s=>Z.b8 s (fun h s=>Z.ar s (fun u s=>Z.b8 s (fun h s=>Z.a5 false [ky s c (some 4)] s) 4 c (af.ap s.aa u)) (some 4) a) 1 t (af.ap s.aa q)) 1 r) 2 a) 70 [(af.ap s.aa p)]) none o) 1 m) 2 a) 1 j (af.ap s.aa g)) 1 i) 0 a) 70 [(af.ap s.aa f)]) none e) 1 d) 0 a)):=by kernel_rfl
theorem JO:aL aK G X 41 [a] s=f41 (aU aK G X) a s.aj:=cz aK G X (fn:=LF)
theorem VE:f70 Z a s=Z.ai s (fun b s=>Z.aR b (Z.a5 false [some (.bG 1 [] .nil)] s) (Ip Z a s)) ((lB .slice a (.bG 1 [] .nil)).map fun b=>.bool (bif false then !b else b)):=by kernel_rfl
theorem JP:aL aK G X 70 [a] s=f70 (aU aK G X) a s.aj:=cz aK G X (fn:=I8)
end
end Go.gw
end
section
namespace Go.gw
end Go.gw
end
