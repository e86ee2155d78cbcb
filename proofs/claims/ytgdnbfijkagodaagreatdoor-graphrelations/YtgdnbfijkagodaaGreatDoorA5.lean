/- A part of the proof: no condition. -/
import Derived.Test.YtgdnbfijkagodaaGreatDoorA4
import Derived.Test.YtgdnbfijkagodaaGreatDoorA2
import Derived.KernelRfl
set_option linter.unusedSectionVars false
set_option linter.unusedSimpArgs false
set_option linter.unusedVariables false
section
namespace Go.gR
noncomputable section
open Go.Ab
set_option maxRecDepth 100000
variable(Z:nB)
section
variable(a b c d e f g i j m o p q r t u w x y z A B C D E F H I J K L M N O P Q R S T U V:ae)(s:ag)
def TE:gl:=gy (aV Z At) (bM Z vt)
def TF:gg:=eP 14
def TG:gl:=gy (aV Z Ar) (bM Z vt)
def G0:gl:=eg 0 (TG Z)
def ru:gg:=eP 0x3510d1a
def yZ:gl:=fa ru (Z.dv (aV Z yS) ru) (G0 Z)
def TH:gl:=gy (aV Z Gq) (yZ Z)
def Nh:gl:=eg 1 (TH Z)
def AE:ah:=Z.aS .e Gm .e s (TE Z)
def AF:ah:=Z.aS .e Gn .e s (Nh Z)
def AG:ah:=Z.aS ru Gp (dR (dR (bn .e (bn (ct d) .e)) b .e) a (bn .e (bn (bn (ct c) .e) .e))) s (yZ Z)
def AH:ah:=Z.aS ru Gr (dR (dR (bn .e (bn (ct d) .e)) b .e) a (bn .e (bn (bn (ct c) .e) .e))) s (yZ Z)
def AI:ah:=Z.aS .e Aq .e s (bM Z vt)
def rv:ah:=Z.dv (aV Z yS) ru (dR (dR (bn .e (bn (ct d) .e)) b .e) a (bn .e (bn (bn (ct c) .e) .e))) s (G0 Z)
def AJ:ah:=Z.aS TF As (dR (ct b) a .e) s (bM Z vt)
def f133(a b:ae)(s:ag):ah:=cw [a,b] 0 .e fun ao=>aV Z Gs ao s (bM Z vt)
def TI:gl:=gy (aV Z Gw) (bM Z Au)
def G1:gl:=eg 0 (TI Z)
def ry:gg:=eP 0x30d5039a
def G2:gl:=fa ry (Z.dv (aV Z yT) ry) (G1 Z)
def TJ:gg:=eP 0x310d5
def AK:ah:=Z.aS ry Gt (dR (dR (bn (dR (ct e) d .e) .e) b .e) a (bn (bn (bn (ct f) .e) .e) (ct c))) s (G2 Z)
def AL:ah:=Z.aS ry Gu (dR (dR (bn (dR (ct e) d .e) .e) b .e) a (bn (bn (bn (ct f) .e) .e) (ct c))) s (G2 Z)
def AM:ah:=Z.aS TJ Gv (bn (bn (bn (ct b) .e) .e) (bn .e (ct a))) s (bM Z Au)
def rz:ah:=Z.dv (aV Z yT) ry (dR (dR (bn (dR (ct e) d .e) .e) b .e) a (bn (bn (bn (ct f) .e) .e) (ct c))) s (G1 Z)
def f134(a b:ae)(s:ag):ah:=cw [a,b] 0 .e fun ao=>aV Z Gx ao s (bM Z Au)
def TK:gl:=gy (aV Z GA) (bM Z Av)
def G3:gl:=eg 0 (TK Z)
def rA:gg:=eP 54
def TL:gl:=fa rA (Z.dv (aV Z yU) rA) (G3 Z)
def AN:ah:=Z.aS rA Gy (dR (bn (ct b) .e) a .e) s (TL Z)
def vv:ah:=Z.aS rA Gz (dR (bn (ct b) .e) a .e) s (bM Z Av)
def rB:ah:=Z.dv (aV Z yU) rA (dR (bn (ct b) .e) a .e) s (G3 Z)
def f135(a:ae)(s:ag):ah:=cw [a] 0 .e fun ao=>aV Z GB ao s (bM Z Av)
def f136(a:ae)(s:ag):ah:=cw [a] 0 .e fun ao=>aV Z GC ao s (bM Z MY)
def TM:gl:=gy (aV Z GH) (bM Z Aw)
def G4:gl:=eg 0 (TM Z)
def rC:gg:=eP 0xd50d8a
def G5:gl:=fa rC (Z.dv (aV Z yV) rC) (G4 Z)
def TN:gg:=eP 197
def AO:ah:=Z.aS rC GD (dR (dR .e b (dR (bn (ct e) .e) c .e)) a (bn (bn (bn (ct d) .e) .e) .e)) s (G5 Z)
def AP:ah:=Z.aS rC GF (dR (dR .e b (dR (bn (ct e) .e) c .e)) a (bn (bn (bn (ct d) .e) .e) .e)) s (G5 Z)
def AQ:ah:=Z.aS TN GG (bn (bn .e (ct a)) .e) s (bM Z Aw)
def rD:ah:=Z.dv (aV Z yV) rC (dR (dR .e b (dR (bn (ct e) .e) c .e)) a (bn (bn (bn (ct d) .e) .e) .e)) s (G4 Z)
def f137(a b:ae)(s:ag):ah:=cw [a,b] 0 .e fun ao=>aV Z GI ao s (bM Z Aw)
def TO:gl:=gy (aV Z AB) (bM Z ta)
def G6:gl:=eg 0 (TO Z)
def rE:gg:=eP 0x39234d2a
def G7:gl:=fa rE (Z.dv (aV Z yW) rE) (G6 Z)
def TP:gg:=eP 0xd237a
def Ni:gg:=eP 826
def Nj:gl:=gy (aV Z Ay) (bM Z ta)
def AR:gl:=eg 2 (Nj Z)
def o5:gg:=eP 0xd15203467a
def AS:gl:=fa o5 (Z.dv (aV Z vu) o5) (AR Z)
def Nk:gg:=eP 13178
def AT:ah:=Z.aS rE GJ (dR (dR (dR .e d (bn (ct i) .e)) b (bn (ct e) .e)) a (dR .e c (bn (dR (ct g) f .e) .e))) s (G7 Z)
def AU:ah:=Z.aS rE GK (dR (dR (dR .e d (bn (ct i) .e)) b (bn (ct e) .e)) a (dR .e c (bn (dR (ct g) f .e) .e))) s (G7 Z)
def AV:ah:=Z.aS o5 GL (dR (dR (ct d) b (bn (dR (bn .e (bn (ct f) .e)) e .e) .e)) a (dR .e c (bn (bn (bn .e (bn (ct g) .e)) .e) .e))) s (AS Z)
def AW:ah:=Z.aS o5 GM (dR (dR (ct d) b (bn (dR (bn .e (bn (ct f) .e)) e .e) .e)) a (dR .e c (bn (bn (bn .e (bn (ct g) .e)) .e) .e))) s (AS Z)
def AX:ah:=Z.aS Nk Ax (dR (dR (ct d) b (bn (ct e) .e)) a (ct c)) s (bM Z ta)
def rF:ah:=Z.dv (aV Z vu) o5 (dR (dR (ct d) b (bn (dR (bn .e (bn (ct f) .e)) e .e) .e)) a (dR .e c (bn (bn (bn .e (bn (ct g) .e)) .e) .e))) s (AR Z)
def vw:ah:=Z.aS Ni Az (dR (dR (ct d) b .e) a (ct c)) s (bM Z ta)
def AY:ah:=Z.aS TP AA (dR (dR (ct d) b (bn (ct e) .e)) a (dR .e c (bn (ct f) .e))) s (bM Z ta)
def o6:ah:=Z.dv (aV Z yW) rE (dR (dR (dR .e d (bn (ct i) .e)) b (bn (ct e) .e)) a (dR .e c (bn (dR (ct g) f .e) .e))) s (G6 Z)
def f138(a b c d:ae)(s:ag):ah:=cw [a,b,c,d] 0 .e fun ao=>aV Z GN ao s (bM Z ta)
def TQ:gl:=gy (aV Z GQ) (bM Z AC)
def G8:gl:=eg 0 (TQ Z)
def tR:gg:=eP 0xd234da
def TR:gl:=fa tR (Z.dv (aV Z yX) tR) (G8 Z)
def TS:gg:=eP 837
def vx:ah:=Z.aS TS GP (bn (bn .e (bn (ct a) .e)) .e) s (bM Z AC)
def vy:ah:=Z.aS tR GO (dR (dR (bn (ct d) .e) b (bn (ct e) .e)) a (dR .e c (bn (ct f) .e))) s (TR Z)
def rG:ah:=Z.dv (aV Z yX) tR (dR (dR (bn (ct d) .e) b (bn (ct e) .e)) a (dR .e c (bn (ct f) .e))) s (G8 Z)
def f139(a b c:ae)(s:ag):ah:=cw [a,b,c] 0 .e fun ao=>aV Z GR ao s (bM Z AC)
def TT:gg:=eP 798
def TU:gl:=gy (aV Z GY) (bM Z xJ)
def G9:gl:=eg 0 (TU Z)
def rH:gg:=eP 0x334753444da
def y0:gl:=fa rH (Z.dv (aV Z yY) rH) (G9 Z)
def TV:gl:=gy (aV Z GV) (y0 Z)
def TW:gl:=eg 1 (TV Z)
def Nl:gg:=eP 0xe34753474da
def Nm:gg:=eP 0x350d5
def AZ:ah:=Z.aS rH GU (dR (dR (bn (ct d) .e) b (bn .e (bn .e (bn (ct g) .e)))) a (bn (bn (ct e) (bn .e (bn (ct f) .e))) (ct c))) s (y0 Z)
def rI:ah:=Z.aS Nl GS (dR (dR (bn (ct d) .e) b (bn (ct f) (bn .e (bn (ct j) .e)))) a (bn (bn (ct e) (bn .e (bn (ct i) .e))) (dR (ct g) c .e))) s (TW Z)
def Ba:ah:=Z.aS rH GW (dR (dR (bn (ct d) .e) b (bn .e (bn .e (bn (ct g) .e)))) a (bn (bn (ct e) (bn .e (bn (ct f) .e))) (ct c))) s (y0 Z)
def Bb:ah:=Z.aS Nm GX (bn (bn (bn (ct a) .e) .e) (bn (bn (ct b) .e) .e)) s (bM Z xJ)
def o7:ah:=Z.dv (aV Z yY) rH (dR (dR (bn (ct d) .e) b (bn .e (bn .e (bn (ct g) .e)))) a (bn (bn (ct e) (bn .e (bn (ct f) .e))) (ct c))) s (G9 Z)
def Bc:ah:=Z.aS TT AD (dR (ct b) a (bn .e (ct c))) s (bM Z xJ)
def f140(a b:ae)(s:ag):ah:=cw [a,b] 0 .e fun ao=>aV Z GZ ao s (bM Z xJ)
def Ha:gg:=eP 50
def o8:ah:=Z.aS Ha FX (dR .e a (ct b)) s (bM Z An)
def nF:ah:=Z.aS Ha FY (dR .e a (ct b)) s (bM Z An)
def f111(a:ae)(s:ag):ah:=cw [a] 0 .e fun ao=>aV Z FZ ao s (bM Z An)
def Zk:gg:=eP 57
def Hb:ah:=Z.aS Zk LF (bn (dR (ct b) a .e) .e) s (bM Z Pt)
def f87(a:ae)(s:ag):ah:=cw [a] 0 .e fun ao=>aV Z LG ao s (bM Z Pt)
def Zl:gg:=eP 3637
def Zm:gl:=gy (aV Z FV) (bM Z yP)
def Nn:gl:=eg 0 (Zm Z)
def sy:gg:=eP 0x3d0d5
def Zn:gl:=fa sy (Z.dv (aV Z Dt) sy) (Nn Z)
def TX:gl:=gy (aV Z LM) (bM Z yP)
def Hc:gl:=eg 2 (TX Z)
def tS:gg:=eP 0xdd315
def TY:gl:=fa tS (Z.dv (aV Z Du) tS) (Hc Z)
def TZ:gg:=eP 3537
def y1:ah:=Z.aS sy LJ (bn (bn (bn (ct c) .e) .e) (bn (ct a) (ct b))) s (Zn Z)
def Hd:ah:=Z.aS tS LK (bn (bn (bn .e (ct c)) .e) (bn (ct a) (bn (ct b) .e))) s (TY Z)
def He:ah:=Z.aS TZ LL (bn .e (bn (ct a) (bn (ct b) .e))) s (bM Z yP)
def tT:ah:=Z.dv (aV Z Du) tS (bn (bn (bn .e (ct c)) .e) (bn (ct a) (bn (ct b) .e))) s (Hc Z)
def Hf:ah:=Z.aS sy LN (bn (bn (bn (ct c) .e) .e) (bn (ct a) (ct b))) s (bM Z yP)
def y2:ah:=Z.aS sy FU (bn (bn (bn (ct c) .e) .e) (bn (ct a) (ct b))) s (bM Z yP)
def tU:ah:=Z.dv (aV Z Dt) sy (bn (bn (bn (ct c) .e) .e) (bn (ct a) (ct b))) s (Nn Z)
def Hg:ah:=Z.aS Zl FW (bn (bn (ct b) .e) (dR (ct c) a .e)) s (bM Z yP)
def f90(a b:ae)(s:ag):ah:=cw [a,b] 0 .e fun ao=>aV Z LO ao s (bM Z yP)
def f113(a b:ae)(s:ag):ah:=cw [a,b] 0 .e fun ao=>aV Z F4 ao s (bM Z MO)
def Hh:gg:=eP 14
def T0:gl:=gy (aV Z F8) (bM Z vr)
def Hi:gl:=eg 0 (T0 Z)
def rJ:gg:=eP 0xd00d653703555
def Hj:gl:=fa rJ (Z.dv (aV Z yQ) rJ) (Hi Z)
def No:gg:=eP 0xd35315
def Bd:ah:=Z.aS rJ F5 (bn (bn (bn (bn (bn (bn (ct e) .e) .e) .e) (ct d)) (bn (ct b) .e)) (bn (bn (dR (bn (bn (ct f) .e) .e) a .e) .e) (bn (ct c) .e))) s (Hj Z)
def Be:ah:=Z.aS rJ F6 (bn (bn (bn (bn (bn (bn (ct e) .e) .e) .e) (ct d)) (bn (ct b) .e)) (bn (bn (dR (bn (bn (ct f) .e) .e) a .e) .e) (bn (ct c) .e))) s (Hj Z)
def Bf:ah:=Z.aS No F7 (bn (bn (bn .e (ct c)) .e) (bn (bn (ct a) .e) (bn (ct b) .e))) s (bM Z vr)
def rK:ah:=Z.dv (aV Z yQ) rJ (bn (bn (bn (bn (bn (bn (ct e) .e) .e) .e) (ct d)) (bn (ct b) .e)) (bn (bn (dR (bn (bn (ct f) .e) .e) a .e) .e) (bn (ct c) .e))) s (Hi Z)
def Bg:ah:=Z.aS Hh F9 (dR (ct b) a .e) s (bM Z vr)
def Bh:ah:=Z.aS Hh Ao (dR (ct b) a .e) s (bM Z vr)
def f114(a b:ae)(s:ag):ah:=cw [a,b] 0 .e fun ao=>aV Z Ga ao s (bM Z vr)
def T1:gg:=eP 222
def Bi:ah:=Z.aS T1 Gb (dR (ct b) a (bn (ct c) .e)) s (bM Z xI)
def f115(a b:ae)(s:ag):ah:=cw [a,b] 0 .e fun ao=>aV Z Gc ao s (bM Z xI)
def T2:gl:=gy (aV Z Gg) (bM Z Ap)
def Hk:gl:=eg 0 (T2 Z)
def rL:gg:=eP 0x310e6
def Hl:gl:=fa rL (Z.dv (aV Z yR) rL) (Hk Z)
def T3:gg:=eP 53
def Bj:ah:=Z.aS rL Gd (dR (bn (dR (ct d) b .e) .e) a (bn .e (ct c))) s (Hl Z)
def Bk:ah:=Z.aS rL Ge (dR (bn (dR (ct d) b .e) .e) a (bn .e (ct c))) s (Hl Z)
def Bl:ah:=Z.aS T3 Gf (bn (bn (ct a) .e) .e) s (bM Z Ap)
def nG:ah:=Z.dv (aV Z yR) rL (dR (bn (dR (ct d) b .e) .e) a (bn .e (ct c))) s (Hk Z)
def f116(a:ae)(s:ag):ah:=cw [a] 0 .e fun ao=>aV Z Gh ao s (bM Z Ap)
def Np:gg:=eP 13
def Hm:ah:=Z.aS Np Lr (bn (ct a) .e) s (bM Z Dr)
def Hn:ah:=Z.aS Np Ls (bn (ct a) .e) s (bM Z Dr)
def f71(a:ae)(s:ag):ah:=cw [a] 0 .e fun ao=>aV Z Lt ao s (bM Z Dr)
def f88(a:ae)(s:ag):ah:=cw [a] 0 .e fun ao=>aV Z LH ao s (bM Z YJ)
def f89(a:ae)(s:ag):ah:=cw [a] 0 .e fun ao=>aV Z LI ao s (bM Z YK)
def Zo:gl:=gy (aV Z FO) (bM Z ID)
def Nq:gl:=eg 0 (Zo Z)
def vz:gg:=eP 0x3350e6
def Dx:gl:=fa vz (Z.dv (aV Z Dj) vz) (Nq Z)
def Zp:gl:=gy (aV Z Kr) (Dx Z)
def Zq:gl:=eg 1 (Zp Z)
def Zr:gg:=eP 0x335ce6
def T4:gg:=eP 54
def y3:ah:=Z.aS vz Kq (dR (bn (dR (ct d) b .e) .e) a (bn (bn (ct e) .e) (ct c))) s (Dx Z)
def Ho:ah:=Z.aS Zr Kp (dR (bn (dR (ct e) b .e) (ct c)) a (bn (bn (ct f) .e) (ct d))) s (Zq Z)
def Hp:ah:=Z.aS vz Ks (dR (bn (dR (ct d) b .e) .e) a (bn (bn (ct e) .e) (ct c))) s (Dx Z)
def Hq:ah:=Z.aS .e Kt .e s (bM Z ID)
def y4:ah:=Z.aS T4 FN (dR (bn (ct b) .e) a .e) s (bM Z ID)
def tV:ah:=Z.dv (aV Z Dj) vz (dR (bn (dR (ct d) b .e) .e) a (bn (bn (ct e) .e) (ct c))) s (Nq Z)
def f16(a:ae)(s:ag):ah:=cw [a] 0 .e fun ao=>aV Z Ku ao s (bM Z ID)
def Zs:gg:=eP 14
def Hr:ah:=Z.aS Zs Kx (dR (ct b) a .e) s (bM Z tH)
def f20(a b:ae)(s:ag):ah:=cw [a,b] 0 .e fun ao=>aV Z Ky ao s (bM Z tH)
def Zt:gg:=eP 56550
def Zu:gl:=gy (aV Z FR) (bM Z Al)
def Nr:gl:=eg 0 (Zu Z)
def vA:gg:=eP 0x3453449cd1e6
def Ns:gl:=fa vA (Z.dv (aV Z Dn) vA) (Nr Z)
def T5:gg:=eP 53478
def Hs:gg:=eP 3382
def Ht:ah:=Z.aS vA K0 (dR (bn (dR (ct e) b (bn .e (bn (ct g) .e))) (ct d)) a (bn (dR .e c (bn .e (bn (ct i) .e))) (bn (bn .e (bn (ct f) .e)) .e))) s (Ns Z)
def Hu:ah:=Z.aS vA K1 (dR (bn (dR (ct e) b (bn .e (bn (ct g) .e))) (ct d)) a (bn (dR .e c (bn .e (bn (ct i) .e))) (bn (bn .e (bn (ct f) .e)) .e))) s (Ns Z)
def y5:ah:=Z.aS Hs K2 (dR (bn (ct b) .e) a (bn (ct c) .e)) s (bM Z Al)
def y6:ah:=Z.aS Hs K3 (dR (bn (ct b) .e) a (bn (ct c) .e)) s (bM Z Al)
def y7:ah:=Z.aS T5 FQ (dR (bn (dR (ct d) b .e) .e) a (bn (ct c) .e)) s (bM Z Al)
def tW:ah:=Z.dv (aV Z Dn) vA (dR (bn (dR (ct e) b (bn .e (bn (ct g) .e))) (ct d)) a (bn (dR .e c (bn .e (bn (ct i) .e))) (bn (bn .e (bn (ct f) .e)) .e))) s (Nr Z)
def Hv:ah:=Z.aS Zt FT (dR (bn (dR (ct e) b .e) (ct d)) a (bn (ct c) .e)) s (bM Z Al)
def f42(a:ae)(s:ag):ah:=cw [a] 0 .e fun ao=>aV Z K4 ao s (bM Z Al)
def f43(a:ae)(s:ag):ah:=cw [a] 0 .e fun ao=>aV Z K5 ao s (bM Z Xz)
def Zv:gl:=gy (aV Z K9) (bM Z Lb)
def Nt:gl:=eg 0 (Zv Z)
def vB:gg:=eP 0x3350e5
def Nu:gl:=fa vB (Z.dv (aV Z Dp) vB) (Nt Z)
def Zw:gg:=eP 53
def rM:ah:=Z.aS vB K6 (bn (bn (dR (ct c) a .e) .e) (bn (bn (ct d) .e) (ct b))) s (Nu Z)
def Hw:ah:=Z.aS vB K7 (bn (bn (dR (ct c) a .e) .e) (bn (bn (ct d) .e) (ct b))) s (Nu Z)
def Hx:ah:=Z.aS Zw K8 (bn (bn (ct a) .e) .e) s (bM Z Lb)
def tX:ah:=Z.dv (aV Z Dp) vB (bn (bn (dR (ct c) a .e) .e) (bn (bn (ct d) .e) (ct b))) s (Nt Z)
def f44(a:ae)(s:ag):ah:=cw [a] 0 .e fun ao=>aV Z La ao s (bM Z Lb)
def Zx:gg:=eP 14
def Hy:ah:=Z.aS .e KW .e s (bM Z KZ)
def y8:ah:=Z.aS Zx KX (dR (ct b) a .e) s (bM Z KZ)
def f37(a b:ae)(s:ag):ah:=cw [a,b] 0 .e fun ao=>aV Z KY ao s (bM Z KZ)
def f48(a:ae)(s:ag):ah:=cw [a] 0 .e fun ao=>aV Z Ld ao s (bM Z XE)
def Zy:gl:=gy (aV Z KN) (bM Z yO)
def Nv:gl:=eg 0 (Zy Z)
def Zz:gg:=eP 0x345c5
def ZA:gg:=eP 0x3111c5
def Hz:ah:=Z.aS .e KM .e s (bM Z yO)
def y9:ah:=Z.aS ZA KK (bn (bn .e (ct a)) (bn .e (bn .e (bn .e (ct b))))) s (Nv Z)
def za:ah:=Z.aS Zz KL (bn (bn .e (ct a)) (bn (bn .e (bn (ct b) .e)) .e)) s (Nv Z)
def f34(a:ae)(s:ag):ah:=cw [a] 0 .e fun ao=>aV Z KO ao s (bM Z yO)
def f50(a b:ae)(s:ag):ah:=cw [a,b] 0 .e fun ao=>aV Z Lk ao s (bM Z XH)
def ZB:gl:=gy (aV Z KC) (bM Z Dk)
def Nw:gl:=eg 0 (ZB Z)
def ZC:gg:=eP 0x345c5
def ZD:gg:=eP 0x3111c5
def HA:ah:=Z.aS .e KB .e s (bM Z Dk)
def zb:ah:=Z.aS ZD Kz (bn (bn .e (ct a)) (bn .e (bn .e (bn .e (ct b))))) s (Nw Z)
def zc:ah:=Z.aS ZC KA (bn (bn .e (ct a)) (bn (bn .e (bn (ct b) .e)) .e)) s (Nw Z)
def f21(a:ae)(s:ag):ah:=cw [a] 0 .e fun ao=>aV Z KD ao s (bM Z Dk)
def f72(a:ae)(s:ag):ah:=cw [a] 0 .e fun ao=>aV Z Lu ao s (bM Z X3)
def f73(a b:ae)(s:ag):ah:=cw [a,b] 0 .e fun ao=>aV Z Lv ao s (bM Z X4)
def f74(a b:ae)(s:ag):ah:=cw [a,b] 0 .e fun ao=>aV Z Lw ao s (bM Z Ds)
def ZE:gl:=gy (aV Z Lo) (bM Z Lq)
def Nx:gl:=eg 0 (ZE Z)
def vC:gg:=eP 0x350da
def Ny:gl:=fa vC (Z.dv (aV Z Dq) vC) (Nx Z)
def HB:ah:=Z.aS vC Ll (dR (dR (bn (ct c) .e) b .e) a (bn (bn (ct d) .e) .e)) s (Ny Z)
def HC:ah:=Z.aS vC Lm (dR (dR (bn (ct c) .e) b .e) a (bn (bn (ct d) .e) .e)) s (Ny Z)
def HD:ah:=Z.aS .e Ln .e s (bM Z Lq)
def tY:ah:=Z.dv (aV Z Dq) vC (dR (dR (bn (ct c) .e) b .e) a (bn (bn (ct d) .e) .e)) s (Nx Z)
def f62(a b:ae)(s:ag):ah:=cw [a,b] 0 .e fun ao=>aV Z Lp ao s (bM Z Lq)
def f19(a:ae)(s:ag):ah:=cw [a] 0 .e fun ao=>aV Z Kv ao s (bM Z Kw)
def f47(a:ae)(s:ag):ah:=cw [a] 0 .e fun ao=>aV Z Lc ao s (bM Z XD)
def Dy:gl:=gy (aV Z LB) (bM Z LD)
def ZF:gg:=eP 3
def ZG:gg:=eP 12742
def ZH:gg:=eP 3285
def ZI:gg:=eP 14
def HE:ah:=Z.aS ZH Lx (bn (bn (bn (ct b) .e) (ct a)) .e) s (Dy Z)
def zd:ah:=Z.aS ZG Ly (dR (bn .e (ct b)) a (bn .e (ct c))) s (Dy Z)
def HF:ah:=Z.aS ZF Lz (ct a) s (Dy Z)
def T6:ah:=Z.aS ZI LA (dR (ct b) a .e) s (bM Z LD)
def f77(a b:ae)(s:ag):ah:=cw [a,b] 0 .e fun ao=>aV Z LC ao s (bM Z LD)
def ZJ:gg:=eP 3
def HG:ah:=Z.aS ZJ LP (ct a) s (bM Z Pw)
def f95(a:ae)(s:ag):ah:=cw [a] 0 .e fun ao=>aV Z LQ ao s (bM Z Pw)
def f96(a:ae)(s:ag):ah:=cw [a] 0 .e fun ao=>aV Z LR ao s (bM Z Y3)
def ZK:gl:=gy (aV Z LX) (bM Z Dw)
def Nz:gl:=eg 0 (ZK Z)
def vD:gg:=eP 222
def ZL:gl:=fa vD (Z.dv (aV Z Dv) vD) (Nz Z)
def NA:gg:=eP 3218
def T7:ah:=Z.aS vD LS (dR (ct b) a (bn (ct c) .e)) s (ZL Z)
def oa:ah:=Z.aS NA LU (dR .e a (bn (dR .e b (ct c)) .e)) s (bM Z Dw)
def ob:ah:=Z.aS NA LV (dR .e a (bn (dR .e b (ct c)) .e)) s (bM Z Dw)
def tZ:ah:=Z.aS vD LW (dR (ct b) a (bn (ct c) .e)) s (bM Z Dw)
def HH:ah:=Z.dv (aV Z Dv) vD (dR (ct b) a (bn (ct c) .e)) s (Nz Z)
def f97(a b:ae)(s:ag):ah:=cw [a,b] 0 .e fun ao=>aV Z LY ao s (bM Z Dw)
def ze:gg:=eP 50
def rN:ah:=Z.aS ze F0 (dR .e a (ct b)) s (bM Z xH)
def rO:ah:=Z.aS ze F1 (dR .e a (ct b)) s (bM Z xH)
def vE:ah:=Z.aS ze F2 (dR .e a (ct b)) s (bM Z xH)
def f112(a:ae)(s:ag):ah:=cw [a] 0 .e fun ao=>aV Z F3 ao s (bM Z xH)
def f120(a:ae)(s:ag):ah:=cw [a] 0 .e fun ao=>aV Z Gi ao s (bM Z MX)
def Bm:ah:=Z.aS .e Gj .e s (bM Z Gl)
def f121(a:ae)(s:ag):ah:=cw [a] 0 .e fun ao=>aV Z Gk ao s (bM Z Gl)
def ZM:gg:=eP 54
def ZN:gg:=eP 12598
def ZO:gl:=gy (aV Z KH) (bM Z yN)
def NB:gl:=eg 0 (ZO Z)
def vF:gg:=eP 0x3121c440d56
def NC:gl:=fa vF (Z.dv (aV Z Dl) vF) (NB Z)
def HI:ah:=Z.aS vF KE (dR (bn (bn (bn (bn (ct e) .e) .e) .e) (bn .e (bn .e (ct c)))) a (bn .e (dR .e b (bn .e (ct d))))) s (NC Z)
def HJ:ah:=Z.aS vF KF (dR (bn (bn (bn (bn (ct e) .e) .e) .e) (bn .e (bn .e (ct c)))) a (bn .e (dR .e b (bn .e (ct d))))) s (NC Z)
def HK:ah:=Z.aS .e KG .e s (bM Z yN)
def t0:ah:=Z.dv (aV Z Dl) vF (dR (bn (bn (bn (bn (ct e) .e) .e) .e) (bn .e (bn .e (ct c)))) a (bn .e (dR .e b (bn .e (ct d))))) s (NB Z)
def HL:ah:=Z.aS ZN KI (dR (bn (ct b) .e) a (bn .e (ct c))) s (bM Z yN)
def HM:ah:=Z.aS ZM FP (dR (bn (ct b) .e) a .e) s (bM Z yN)
def f22(a b:ae)(s:ag):ah:=cw [a,b] 0 .e fun ao=>aV Z KJ ao s (bM Z yN)
def ZP:gl:=gy (aV Z Lh) (bM Z Lj)
def ND:gl:=eg 0 (ZP Z)
def ZQ:gg:=eP 229
def ZR:gg:=eP 12625
def HN:ah:=Z.aS .e Lg .e s (bM Z Lj)
def zf:ah:=Z.aS ZR Le (bn .e (bn (bn (bn .e (ct a)) .e) .e)) s (ND Z)
def zg:ah:=Z.aS ZQ Lf (bn (bn (dR (ct b) a .e) .e) .e) s (ND Z)
def f49(a:ae)(s:ag):ah:=cw [a] 0 .e fun ao=>aV Z Li ao s (bM Z Lj)
def ZS:gl:=gy (aV Z FM) (bM Z Km)
def NE:gl:=eg 0 (ZS Z)
def vG:gg:=eP 0x335cda
def Dz:gl:=fa vG (Z.dv (aV Z yM) vG) (NE Z)
def ZT:gl:=gy (aV Z FJ) (Dz Z)
def ql:gl:=eg 1 (ZT Z)
def ZU:gg:=eP 0xe3538da
def T8:gl:=gy (aV Z FG) (ql Z)
def HO:gl:=eg 2 (T8 Z)
def rP:gg:=eP 0x3e0e5fb39a
def HP:gl:=fa rP (Z.dv (aV Z Di) rP) (HO Z)
def zh:gg:=eP 0xe35f839a
def T9:gl:=gy (aV Z FE) (ql Z)
def HQ:gl:=eg 4 (T9 Z)
def rQ:gg:=eP 0xe35ce839a
def HR:gl:=fa rQ (Z.dv (aV Z yL) rQ) (HQ Z)
def Ua:gg:=eP 0x3635cda
def Ub:gg:=eP 197
def HS:ah:=Z.aS rP Kh (dR (dR (bn (dR (ct p) e .e) (ct j)) b (dR (ct g) c (ct m))) a (bn (bn (dR (ct q) f .e) .e) (dR (ct i) d (ct o)))) s (HP Z)
def HT:ah:=Z.aS rP Ki (dR (dR (bn (dR (ct p) e .e) (ct j)) b (dR (ct g) c (ct m))) a (bn (bn (dR (ct q) f .e) .e) (dR (ct i) d (ct o)))) s (HP Z)
def vH:ah:=Z.aS rQ Kj (dR (dR (bn (dR (ct m) e .e) .e) b (dR (dR (ct o) g .e) c (ct j))) a (bn (bn (ct f) .e) (dR (ct i) d .e))) s (HR Z)
def HU:ah:=Z.aS rQ Kk (dR (dR (bn (dR (ct m) e .e) .e) b (dR (dR (ct o) g .e) c (ct j))) a (bn (bn (ct f) .e) (dR (ct i) d .e))) s (HR Z)
def o9:ah:=Z.aS vG FI (dR (dR (bn (ct e) .e) b (ct c)) a (bn (bn (ct f) .e) (ct d))) s (Dz Z)
def nH:ah:=Z.aS Ua FB (dR (dR (bn (ct e) .e) b (ct c)) a (bn (bn (ct f) .e) (dR (bn (ct g) .e) d .e))) s (ql Z)
def pa:ah:=Z.aS zh FC (dR (dR (bn (dR (ct m) e .e) .e) b (dR (ct g) c (ct j))) a (bn (bn (ct f) .e) (dR (ct i) d .e))) s (ql Z)
def rR:ah:=Z.aS zh FD (dR (dR (bn (dR (ct m) e .e) .e) b (dR (ct g) c (ct j))) a (bn (bn (ct f) .e) (dR (ct i) d .e))) s (ql Z)
def t8:ah:=Z.dv (aV Z yL) rQ (dR (dR (bn (dR (ct m) e .e) .e) b (dR (dR (ct o) g .e) c (ct j))) a (bn (bn (ct f) .e) (dR (ct i) d .e))) s (HQ Z)
def zi:ah:=Z.aS zh FF (dR (dR (bn (dR (ct m) e .e) .e) b (dR (ct g) c (ct j))) a (bn (bn (ct f) .e) (dR (ct i) d .e))) s (ql Z)
def t9:ah:=Z.dv (aV Z Di) rP (dR (dR (bn (dR (ct p) e .e) (ct j)) b (dR (ct g) c (ct m))) a (bn (bn (dR (ct q) f .e) .e) (dR (ct i) d (ct o)))) s (HO Z)
def rS:ah:=Z.aS ZU FH (dR (dR (bn (ct e) .e) b (dR (ct g) c .e)) a (bn (bn (ct f) .e) (dR (ct i) d .e))) s (ql Z)
def HV:ah:=Z.aS vG FK (dR (dR (bn (ct e) .e) b (ct c)) a (bn (bn (ct f) .e) (ct d))) s (Dz Z)
def Bn:ah:=Z.aS Ub FL (bn (bn .e (ct a)) .e) s (bM Z Km)
def kt:ah:=Z.dv (aV Z yM) vG (dR (dR (bn (ct e) .e) b (ct c)) a (bn (bn (ct f) .e) (ct d))) s (NE Z)
def f10(a b:ae)(s:ag):ah:=cw [a,b] 0 .e fun ao=>aV Z Kl ao s (bM Z Km)
def ZV:gg:=eP 14
def zj:ah:=Z.aS ZV Kn (dR (ct b) a .e) s (bM Z rs)
def f14(a b:ae)(s:ag):ah:=cw [a,b] 0 .e fun ao=>aV Z Ko ao s (bM Z rs)
def ZW:gl:=gy (aV Z KT) (bM Z IE)
def NF:gl:=eg 0 (ZW Z)
def vI:gg:=eP 0x360da
def NG:gl:=fa vI (Z.dv (aV Z Dm) vI) (NF Z)
def NH:gg:=eP 12501
def rT:ah:=Z.aS vI KP (dR (dR (bn (ct d) .e) b .e) a (dR (bn (ct e) .e) c .e)) s (NG Z)
def HW:ah:=Z.aS vI KQ (dR (dR (bn (ct d) .e) b .e) a (dR (bn (ct e) .e) c .e)) s (NG Z)
def HX:ah:=Z.aS NH KR (bn (bn (bn (ct b) .e) .e) (ct a)) s (bM Z IE)
def zk:ah:=Z.aS NH KS (bn (bn (bn (ct b) .e) .e) (ct a)) s (bM Z IE)
def ua:ah:=Z.dv (aV Z Dm) vI (dR (dR (bn (ct d) .e) b .e) a (dR (bn (ct e) .e) c .e)) s (NF Z)
def f35(a b c:ae)(s:ag):ah:=cw [a,b,c] 0 .e fun ao=>aV Z KU ao s (bM Z IE)
def f36(a:ae)(s:ag):ah:=cw [a] 0 .e fun ao=>aV Z KV ao s (bM Z Xf)
def aby:gg:=eP 62
def abz:gg:=eP 12505
def abA:gl:=gy (aV Z Ke) (bM Z xB)
def VA:gl:=eg 0 (abA Z)
def Bo:gg:=eP 0xd3637d5
def NI:gl:=fa Bo (Z.dv (aV Z J8) Bo) (VA Z)
def ZX:gl:=gy (aV Z Vx) (NI Z)
def NJ:gl:=eg 1 (ZX Z)
def NK:gg:=eP 0xd36f7d5
def ZY:gg:=eP 0xd3534d5
def ZZ:gl:=gy (aV Z Kc) (bM Z xB)
def NL:gl:=eg 2 (ZZ Z)
def Z0:gg:=eP 0x350dd5
def Z1:gg:=eP 0xc4534793534dd5
def Z2:gg:=eP 0x34793534d00d595
def DA:ah:=Z.aS Bo Vw (bn (bn (bn (ct b) (ct f)) (bn (ct d) .e)) (dR (bn (ct c) .e) a (bn (ct e) .e))) s (NI Z)
def DB:ah:=Z.aS NK Vu (bn (bn (bn (ct b) (ct f)) (bn (ct d) (ct g))) (dR (bn (ct c) .e) a (bn (ct e) .e))) s (NJ Z)
def NM:ah:=Z.aS NK Vv (bn (bn (bn (ct b) (ct f)) (bn (ct d) (ct g))) (dR (bn (ct c) .e) a (bn (ct e) .e))) s (NJ Z)
def NN:ah:=Z.aS Bo Vy (bn (bn (bn (ct b) (ct f)) (bn (ct d) .e)) (dR (bn (ct c) .e) a (bn (ct e) .e))) s (NI Z)
def mv:ah:=Z.aS Z0 Kb (bn (bn (bn (ct a) (bn (ct c) .e)) .e) (bn (bn (ct b) .e) .e)) s (bM Z xB)
def ub:ah:=Z.aS Z2 J9 (bn (bn (bn (dR (bn (bn (bn (ct i) .e) .e) .e) a .e) (bn (ct f) .e)) (bn (ct c) .e)) (bn (bn (ct b) .e) (bn (dR (ct e) d (bn .e (bn (ct g) .e))) .e))) s (NL Z)
def uc:ah:=Z.aS Z1 Ka (bn (bn (bn (ct a) (bn (ct f) .e)) (bn (ct c) .e)) (bn (bn (ct b) .e) (bn (dR (ct e) d (bn .e (bn (ct g) .e))) (bn (bn .e (bn .e (ct i))) .e)))) s (NL Z)
def DC:ah:=Z.aS ZY Kd (bn (bn (bn (ct a) .e) (bn (ct c) .e)) (bn (bn (ct b) .e) (bn (ct d) .e))) s (bM Z xB)
def zl:ah:=Z.dv (aV Z J8) Bo (bn (bn (bn (ct b) (ct f)) (bn (ct d) .e)) (dR (bn (ct c) .e) a (bn (ct e) .e))) s (VA Z)
def NO:ah:=Z.aS abz Kf (bn (dR (bn (ct c) .e) a .e) (ct b)) s (bM Z xB)
def NP:ah:=Z.aS aby Kg (dR (ct b) a (ct c)) s (bM Z xB)
def f6(a b c:ae)(s:ag):ah:=cw [a,b,c] 0 .e fun ao=>aV Z Vz ao s (bM Z xB)
end
variable{a b c d e f g i j m o p q r t u w x y z A B C D E F H I J K L M N O P Q R S T U V:ae}{s:ag}
section
variable{Z}[h:Inhabited Z.pn]
include h
theorem Bp:AE Z s=Z.a4 false [some (.int .i64 1)] s:=h.1.fZ
theorem Bq:AF Z s=Z.a4 false [some (.int .i64 1)] s:=h.1.fZ
theorem Br:AG Z a b c d s=Z.ai s (fun e s=>rv Z a b c e s) (al .add d (.int .i64 1)):=h.1.fZ
theorem Bs:AH Z a b e d s=Z.cU s (fun f s=>Z.ai s (fun g s=>Z.ai s (fun c s=>Z.cL s (fun i s=>Z.ay s (fun j s=>Z.cL s (fun m s=>Z.ay s (fun o s=>Z.ai s (fun p s=>Z.aK p (Z.cL s (fun q s=>Z.ay s (fun r s=>Z.cL s (fun t s=>Z.ay s (fun u s=>Z.ai s (fun w s=>Z.aK w (Z.a4 false [some (.int .i64 (-1))] s) (AF Z s)) (al .lss r u)) none t) 1 b c) none q) 1 a c) (AG Z a b e d s)) (al .neq j o)) none m) 1 b c) none i) 1 a c) (al .sub g d)) (al .sub f (.int .i64 1))) false a:=h.1.fZ
theorem Bt:AI Z s=Z.a4 false [some (.int .i64 0)] s:=h.1.fZ
theorem tc:rv Z c d a b s=Z.ai s (fun e s=>Z.aK e (AH Z c d a b s) (AI Z s)) (al .lss b a):=h.1.vj
theorem Bu:AJ Z a b s=Z.cU s (fun c s=>rv Z a b c (.int .i64 0) s) false a:=h.1.fZ
theorem Bv:AK Z a b c d e f s=Z.ai s (fun g s=>rz Z a b c d e g s) (al .add f (.int .i64 1)):=h.1.fZ
theorem Bw:AL Z a b c e f d s=Z.cU s (fun j s=>Z.ai s (fun m s=>Z.ai s (fun g s=>Z.ai s (fun o s=>Z.cL s (fun p s=>Z.ay s (fun q s=>Z.b4 s (fun r s=>Z.ai s (fun i s=>Z.b4 s (fun t s=>Z.ai s (fun u s=>Z.b4 s (fun w s=>Z.cL s (fun x s=>Z.cC s (fun A s=>Z.b4 s (fun y s=>Z.ai s (fun z s=>AK Z a b c z f d s) (al .rem i y)) .u64 b) 1 x (ae.ap s.aa w)) 1 c g) .u32 u) (al .quo i t)) .u64 b) (al .or o r)) .u64 q) none p) 1 a g) (al .shl e (.int .u64 32))) (al .sub m d)) (al .sub j (.int .i64 1))) false a:=h.1.fZ
theorem Bx:AM Z a b s=Z.bA s (fun c s=>Z.b4 s (fun d s=>Z.a4 false [some c,some d] s) .u32 b) 135 [(ae.ap s.aa a)]:=h.1.fZ
theorem td:rz Z e f a b c d s=Z.ai s (fun g s=>Z.aK g (AL Z e f a b c d s) (AM Z a b s)) (al .lss d c):=h.1.vj
theorem By:AN Z a b s=Z.ai s (fun c s=>rB Z a c s) (al .sub b (.int .i64 1)):=h.1.fZ
theorem Bz:vv Z a b s=Z.lj 1 a none (some b) none s (fun c s=>Z.a4 false [some c] s):=h.1.fZ
theorem te:rB Z c b s=Z.ai s (fun a s=>Z.af a true (fun k=>k c s) s (fun d s=>Z.af a true (fun k=>k b s) s (fun e s=>Z.af a true (fun k=>Z.ai s k (al .sub e (.int .i64 1))) s (fun f s=>Z.af a true (fun k=>Z.cL s k 1 d f) s (fun g s=>Z.af a true (fun k=>Z.ay s k none g) s (fun i s=>Z.af a true (fun k=>Z.ai s k (al .eql i (.int .u32 0))) s (fun j s=>Z.bF s (fun m s=>Z.aK m (AN Z c b s) (vv Z c b s)) a j (.bool false)))))))) (al .gtr b (.int .i64 0)):=h.1.vj
theorem BA:AO Z a b c d e s=Z.ai s (fun f s=>rD Z a b c d f s) (al .add e (.int .i64 1)):=h.1.fZ
theorem BB:AP Z d a b e c s=Z.cL s (fun i s=>Z.ay s (fun j s=>Z.b4 s (fun m s=>Z.ai s (fun o s=>Z.ai s (fun f s=>Z.ai s (fun p s=>Z.ai s (fun g s=>Z.cL s (fun q s=>Z.ay s (fun r s=>Z.b4 s (fun t s=>Z.ai s (fun u s=>Z.cL s (fun w s=>Z.cC s (fun F s=>Z.ai s (fun x s=>Z.ai s (fun y s=>Z.ai s (fun z s=>Z.ai s (fun A s=>Z.b4 s (fun B s=>Z.cL s (fun C s=>Z.cC s (fun F s=>AO Z d a b e c s) 1 C (ae.ap s.aa B)) 1 b z) .u32 A) (al .shr f (.int .u64 32))) (al .add y (.int .i64 1))) (al .add c x)) (al .quo a (.int .i64 32))) 1 w (ae.ap s.aa u)) 1 b g) (al .or r t)) .u32 f) none q) 1 b g) (al .add c p)) (al .quo a (.int .i64 32))) (al .shl m o)) (al .rem a (.int .i64 32))) .u64 j) none i) 1 d c:=h.1.fZ
theorem BC:AQ Z a s=Z.bA s (fun b s=>Z.a4 false [some b] s) 135 [(ae.ap s.aa a)]:=h.1.fZ
theorem tf:rD Z d e a b c s=Z.ai s (fun f s=>Z.aK f (AP Z d e a b c s) (AQ Z a s)) (al .lss c b):=h.1.vj
theorem BD:AT Z a b c d e f g i s=Z.ai s (fun j s=>o6 Z a b c d e f g j s) (al .add i (.int .i64 1)):=h.1.fZ
theorem BE:AU Z b c d e f g i a s=Z.cL s (fun o s=>Z.ay s (fun p s=>Z.b4 s (fun q s=>Z.ai s (fun r s=>Z.ai s (fun j s=>Z.ai s (fun t s=>Z.ai s (fun u s=>Z.cL s (fun w s=>Z.ay s (fun x s=>Z.b4 s (fun y s=>Z.ai s (fun z s=>Z.ai s (fun A s=>Z.ai s (fun m s=>Z.ai s (fun B s=>Z.b4 s (fun C s=>Z.cL s (fun D s=>Z.cC s (fun F s=>Z.ai s (fun E s=>AT Z b c d e t E i a s) (al .shr m (.int .u64 63))) 1 D (ae.ap s.aa C)) 1 b B) .u32 m) (al .add c a)) (al .sub A g)) (al .sub y z)) (al .and j (.int .u64 4294967295))) .u64 x) none w) 1 b u) (al .add c a)) (al .shr j (.int .u64 32))) (al .add r f)) (al .mul e q)) .u64 p) none o) 1 d a:=h.1.fZ
theorem BF:AV Z a b c d e f g s=Z.ai s (fun i s=>rF Z a b c d e f i s) (al .add g (.int .i64 1)):=h.1.fZ
theorem BG:AW Z b c d e f g a s=Z.ai s (fun j s=>Z.cL s (fun m s=>Z.ay s (fun o s=>Z.b4 s (fun p s=>Z.cL s (fun q s=>Z.ay s (fun r s=>Z.b4 s (fun t s=>Z.ai s (fun u s=>Z.ai s (fun i s=>Z.ai s (fun w s=>Z.b4 s (fun x s=>Z.cL s (fun y s=>Z.cC s (fun A s=>Z.ai s (fun z s=>AV Z b c d e z g a s) (al .shr i (.int .u64 32))) 1 y (ae.ap s.aa x)) 1 b w) .u32 i) (al .add c a)) (al .add u f)) (al .add p t)) .u64 r) none q) 1 d a) .u64 o) none m) 1 b j) (al .add c a):=h.1.fZ
theorem BH:AX Z a b c d e s=Z.cU s (fun g s=>Z.ai s (fun f s=>Z.cL s (fun i s=>Z.ay s (fun j s=>Z.b4 s (fun m s=>Z.ai s (fun o s=>Z.cL s (fun p s=>Z.cC s (fun u s=>Z.ai s (fun q s=>Z.b4 s (fun r s=>Z.a4 false [some r] s) .u32 q) (al .sub d (.int .u64 1))) 1 p (ae.ap s.aa o)) 1 a f) (al .add j m)) .u32 e) none i) 1 a f) (al .add b g)) false c:=h.1.fZ
theorem tg:rF Z a b c d e f g s=Z.ai s (fun i s=>Z.aK i (AW Z a b c d e f g s) (AX Z a b c d e s)) (al .lss g f):=h.1.vj
theorem BI:vw Z b c a d s=Z.cU s (fun e s=>rF Z b c a d (.int .u64 0) e (.int .i64 0) s) false a:=h.1.fZ
theorem BJ:AY Z a b c d e f s=Z.cU s (fun i s=>Z.ai s (fun j s=>Z.cL s (fun m s=>Z.ay s (fun o s=>Z.b4 s (fun p s=>Z.ai s (fun q s=>Z.ai s (fun g s=>Z.cU s (fun r s=>Z.ai s (fun t s=>Z.b4 s (fun u s=>Z.cL s (fun w s=>Z.cC s (fun A s=>Z.ai s (fun x s=>Z.ai s (fun y s=>Z.aK y (Z.b4 s (fun z s=>Z.a4 false [some z] s) .u32 d) (vw Z a b c d s)) (al .eql x (.int .u64 0))) (al .shr g (.int .u64 63))) 1 w (ae.ap s.aa u)) 1 a t) .u32 g) (al .add b r)) false c) (al .sub q f)) (al .sub p e)) .u64 o) none m) 1 a j) (al .add b i)) false c:=h.1.fZ
theorem th:o6 Z a b c d e f g i s=Z.ai s (fun j s=>Z.aK j (AU Z a b c d e f g i s) (AY Z a b c d e f s)) (al .lss i g):=h.1.vj
theorem ti:vx Z a s=Z.a4 false [some a] s:=h.1.fZ
theorem BK:vy Z c d a b e f s=Z.ai s (fun g s=>Z.ai s (fun j s=>Z.cL s (fun m s=>Z.ay s (fun o s=>Z.b4 s (fun p s=>Z.ai s (fun i s=>Z.ai s (fun q s=>Z.aK q (vx Z g s) (rG Z c d a b g i s)) (al .geq i (.int .u64 4294967296))) (al .add f p)) .u64 o) none m) 1 a j) (al .sub b (.int .i64 1))) (al .sub e (.int .u64 1)):=h.1.fZ
theorem BL:rG Z d e f c b g s=Z.ai s (fun a s=>Z.af a false (fun k=>k b s) s (fun i s=>Z.af a false (fun k=>k f s) s (fun j s=>Z.af a false (fun k=>k c s) s (fun m s=>Z.af a false (fun k=>Z.ai s k (al .sub m (.int .i64 2))) s (fun o s=>Z.af a false (fun k=>Z.cL s k 1 j o) s (fun p s=>Z.af a false (fun k=>Z.ay s k none p) s (fun q s=>Z.af a false (fun k=>Z.b4 s k .u64 q) s (fun r s=>Z.af a false (fun k=>Z.ai s k (al .mul i r)) s (fun t s=>Z.af a false (fun k=>k g s) s (fun u s=>Z.af a false (fun k=>Z.ai s k (al .shl u (.int .u64 32))) s (fun w s=>Z.af a false (fun k=>k d s) s (fun x s=>Z.af a false (fun k=>k e s) s (fun y s=>Z.af a false (fun k=>k c s) s (fun z s=>Z.af a false (fun k=>Z.ai s k (al .add y z)) s (fun A s=>Z.af a false (fun k=>Z.ai s k (al .sub A (.int .i64 2))) s (fun B s=>Z.af a false (fun k=>Z.cL s k 1 x B) s (fun C s=>Z.af a false (fun k=>Z.ay s k none C) s (fun D s=>Z.af a false (fun k=>Z.b4 s k .u64 D) s (fun E s=>Z.af a false (fun k=>Z.ai s k (al .or w E)) s (fun F s=>Z.af a false (fun k=>Z.ai s k (al .gtr t F)) s (fun H s=>Z.bF s (fun I s=>Z.aK I (vy Z d e f c b g s) (vx Z b s)) a (.bool true) H))))))))))))))))))))) (al .geq b (.int .u64 4294967296)):=h.1.vj
theorem BM:AZ Z a b c d e f g s=Z.ai s (fun i s=>o7 Z a b c d e f i s) (al .add g (.int .i64 1)):=h.1.fZ
theorem BN:rI Z c a d e b f g i j s=Z.ai s (fun m s=>Z.ai s (fun o s=>Z.b4 s (fun p s=>Z.cL s (fun q s=>Z.cC s (fun r s=>AZ Z c a d e b i j s) 1 q (ae.ap s.aa p)) 1 b f) .u32 o) (al .shr g m)) (al .rem a (.int .i64 32)):=h.1.fZ
theorem BO:Ba Z b d c e f g a s=Z.ai s (fun j s=>Z.cL s (fun m s=>Z.ay s (fun o s=>Z.b4 s (fun i s=>Z.ai s (fun p s=>Z.ai s (fun q s=>Z.cU s (fun r s=>Z.ai s (fun t s=>Z.aK t (Z.ai s (fun u s=>Z.ai s (fun w s=>Z.cL s (fun x s=>Z.ay s (fun y s=>Z.b4 s (fun z s=>Z.ai s (fun A s=>Z.ai s (fun B s=>rI Z b d c e f a B g a s) (al .or i A)) (al .shl z (.int .u64 32))) .u64 y) none x) 1 b w) (al .add u (.int .i64 1))) (al .add a c)) (rI Z b d c e f a i g a s)) (al .lss q r)) false b) (al .add p (.int .i64 1))) (al .add a c)) .u64 o) none m) 1 b j) (al .add a c):=h.1.fZ
theorem BP:Bb Z a b s=Z.bA s (fun c s=>Z.a4 false [some c,some a] s) 135 [(ae.ap s.aa b)]:=h.1.fZ
theorem tj:o7 Z e f g a b c d s=Z.ai s (fun i s=>Z.aK i (Ba Z e f g a b c d s) (Bb Z a b s)) (al .lss d c):=h.1.vj
theorem BQ:Bc Z b d c s=Z.lj 1 b none (some c) none s (fun g s=>Z.bA s (fun i s=>Z.cU s (fun j s=>Z.ai s (fun a s=>Z.af a false (fun k=>k b s) s (fun m s=>Z.af a false (fun k=>k c s) s (fun o s=>Z.af a false (fun k=>Z.cL s k 1 m o) s (fun p s=>Z.af a false (fun k=>Z.ay s k none p) s (fun q s=>Z.af a false (fun k=>k d s) s (fun r s=>Z.af a false (fun k=>Z.ai s k (al .rem r (.int .i64 32))) s (fun t s=>Z.af a false (fun k=>Z.ai s k (al .shl (.int .u32 1) t)) s (fun u s=>Z.af a false (fun k=>Z.ai s k (al .sub u (.int .u32 1))) s (fun w s=>Z.af a false (fun k=>Z.ai s k (al .and q w)) s (fun x s=>Z.af a false (fun k=>Z.ai s k (al .neq x (.int .u32 0))) s (fun y s=>Z.bF s (fun z s=>Z.cU s (fun A s=>Z.ai s (fun e s=>Z.k7 s (fun f s=>Z.cU s (fun B s=>o7 Z b d c z f B (.int .i64 0) s) false f) [.int .u32 0] 4 e e) (al .sub A c)) false b) a (.bool true) y))))))))))) (al .gtr j (.int .i64 0))) false i) 135 [(ae.ap s.aa g)]):=h.1.fZ
theorem BR:o8 Z a b s=Z.b4 s (fun c s=>Z.hk s (fun d s=>Z.b4 s (fun e s=>Z.ai s (fun f s=>Z.a4 false [some f] s) (al .add b e)) .i64 d) (.str [0,1,2,2,3,3,3,3,4,4,4,4,4,4,4,4,5,5,5,5,5,5,5,5,5,5,5,5,5,5,5,5,6,6,6,6,6,6,6,6,6,6,6,6,6,6,6,6,6,6,6,6,6,6,6,6,6,6,6,6,6,6,6,6,7,7,7,7,7,7,7,7,7,7,7,7,7,7,7,7,7,7,7,7,7,7,7,7,7,7,7,7,7,7,7,7,7,7,7,7,7,7,7,7,7,7,7,7,7,7,7,7,7,7,7,7,7,7,7,7,7,7,7,7,7,7,7,7,8,8,8,8,8,8,8,8,8,8,8,8,8,8,8,8,8,8,8,8,8,8,8,8,8,8,8,8,8,8,8,8,8,8,8,8,8,8,8,8,8,8,8,8,8,8,8,8,8,8,8,8,8,8,8,8,8,8,8,8,8,8,8,8,8,8,8,8,8,8,8,8,8,8,8,8,8,8,8,8,8,8,8,8,8,8,8,8,8,8,8,8,8,8,8,8,8,8,8,8,8,8,8,8,8,8,8,8,8,8,8,8,8,8,8,8,8,8,8,8,8,8,8,8,8,8,8,8]) c) .u8 a:=h.1.fZ
theorem BS:nF Z a b s=Z.ai s (fun c s=>Z.aK c (Z.ai s (fun d s=>Z.ai s (fun e s=>o8 Z d e s) (al .add b (.int .i64 8))) (al .shr a (.int .u64 8))) (o8 Z a b s)) (al .geq a (.int .u32 256)):=h.1.fZ
theorem vJ:Hb Z c b s=Z.ai s (fun a s=>Z.af a true (fun k=>Z.aI s k 1 c) s (fun d s=>Z.af a true (fun k=>Z.ay s k none d) s (fun e s=>Z.af a true (fun k=>k b s) s (fun f s=>Z.af a true (fun k=>Z.ai s k (al .sub f (.int .i64 1))) s (fun g s=>Z.af a true (fun k=>Z.cL s k 1 e g) s (fun i s=>Z.af a true (fun k=>Z.ay s k none i) s (fun j s=>Z.af a true (fun k=>Z.ai s k (al .neq j (.int .u32 0))) s (fun m s=>Z.bF s (fun o s=>Z.a4 false [some o] s) a m (.bool false))))))))) (al .leq b (.int .i64 128)):=h.1.fZ
theorem DD:y1 Z b c a s=Z.bA s (fun d s=>Z.bH s (fun f s=>Z.bH s (fun e s=>tU Z b a e s) 1 d) 0 d) 114 [(ae.ap s.aa c),(ae.ap s.aa a)]:=h.1.fZ
theorem DE:Hd Z b c a s=Z.ai s (fun d s=>tT Z b a d s) (al .rem c a):=h.1.fZ
theorem DF:He Z a b s=Z.b4 s (fun d s=>Z.ai s (fun e s=>Z.b4 s (fun f s=>Z.a6 s (fun g s=>Z.bA s (fun c s=>Z.bH s (fun i s=>Z.bH s (fun j s=>Z.cC s (fun r s=>Z.a4 false [kS s a (some 2),some j] s) 2 a (ae.ap s.aa i)) 1 c) 0 c) 115 [(ae.ap s.aa (.bool false)),(ae.ap s.aa g)]) 1 [d,f]) .u32 e) (al .shr b (.int .u64 32))) .u32 b:=h.1.fZ
theorem DG:tT Z a b c s=Z.ai s (fun d s=>Z.aK d (Hd Z a b c s) (He Z a b s)) (al .gtr c (.int .u64 0)):=h.1.vj
theorem DH:Hf Z a b c s=Z.bA s (fun d s=>Z.bA s (fun e s=>tT Z a d e s) 116 [(ae.ap s.aa c)]) 116 [(ae.ap s.aa b)]:=h.1.fZ
theorem vK:y2 Z a b c s=Z.cU s (fun e s=>Z.ai s (fun f s=>Z.aK f (Z.bA s (fun d s=>Z.bH s (fun g s=>Z.bH s (fun i s=>Z.cC s (fun r s=>Z.a4 false [kS s a (some 2),some i] s) 2 a (ae.ap s.aa g)) 1 d) 0 d) 115 [(ae.ap s.aa (.bool false)),(ae.ap s.aa b)]) (Hf Z a b c s)) (al .gtr e (.int .i64 2))) false b:=h.1.fZ
theorem oc:tU Z e c b s=Z.cU s (fun f s=>Z.ai s (fun a s=>Z.af a true (fun k=>k c s) s (fun g s=>Z.af a true (fun k=>Z.cU s k false g) s (fun i s=>Z.af a true (fun k=>Z.ai s k (al .gtr i (.int .i64 2))) s (fun j s=>Z.af a true (fun k=>k j s) s (fun d s=>Z.af d false (fun k=>k b s) s (fun m s=>Z.af d false (fun k=>Z.cU s k false m) s (fun o s=>Z.af d false (fun k=>Z.ai s k (al .gtr o (.int .i64 2))) s (fun p s=>Z.af a true (fun k=>Z.bF s k d (.bool true) p) s (fun q s=>Z.bF s (fun r s=>Z.aK r (y1 Z e c b s) (y2 Z e c b s)) a q (.bool false)))))))))) (al .gtr f (.int .i64 0))) false b:=h.1.vj
theorem DI:Hg Z a b c s=Z.aI s (fun d s=>Z.ay s (fun e s=>Z.aI s (fun f s=>Z.ay s (fun g s=>tU Z c e g s) none f) 1 b) none d) 1 a:=h.1.fZ
theorem BT:Bd Z a b c d e f s=Z.ai s (fun g s=>rK Z a b c d e g s) (al .add f (.int .i64 1)):=h.1.fZ
theorem BU:Be Z f a b c g d s=Z.cU s (fun i s=>Z.ai s (fun j s=>Z.ai s (fun e s=>Z.bA s (fun m s=>Z.bA s (fun o s=>Z.cL s (fun p s=>Z.cC s (fun r s=>Bd Z f a b c g d s) 1 p (ae.ap s.aa o)) 1 c e) 138 [(ae.ap s.aa b),(ae.ap s.aa e),(ae.ap s.aa a),(ae.ap s.aa m)]) 139 [(ae.ap s.aa b),(ae.ap s.aa e),(ae.ap s.aa a)]) (al .sub j d)) (al .sub i (.int .i64 1))) false c:=h.1.fZ
theorem BV:Bf Z a b c s=Z.bA s (fun e s=>Z.bA s (fun d s=>Z.bH s (fun f s=>Z.bH s (fun i s=>Z.bA s (fun g s=>Z.a4 false [some g,some f] s) 135 [(ae.ap s.aa c)]) 1 d) 0 d) 140 [(ae.ap s.aa e),(ae.ap s.aa a)]) 135 [(ae.ap s.aa b)]:=h.1.fZ
theorem tk:rK Z a f b c d e s=Z.ai s (fun g s=>Z.aK g (Be Z a f b c d e s) (Bf Z a b c s)) (al .lss e d):=h.1.vj
theorem BW:Bg Z b a s=Z.cU s (fun i s=>Z.ai s (fun j s=>Z.cL s (fun m s=>Z.ay s (fun o s=>Z.bA s (fun c s=>Z.bA s (fun p s=>Z.cU s (fun q s=>Z.ai s (fun d s=>Z.k7 s (fun e s=>Z.bA s (fun r s=>Z.rj s (fun y s=>Z.cU s (fun t s=>Z.cU s (fun u s=>Z.ai s (fun w s=>Z.ai s (fun f s=>Z.k7 s (fun g s=>Z.cU s (fun x s=>rK Z c p e g x (.int .i64 0) s) false g) [.int .u32 0] 4 f f) (al .add w (.int .i64 1))) (al .sub t u)) false a) false b) 1 e r) 137 [(ae.ap s.aa b),(ae.ap s.aa c)]) [.int .u32 0] 4 d d) (al .add q (.int .i64 1))) false b) 137 [(ae.ap s.aa a),(ae.ap s.aa c)]) 136 [(ae.ap s.aa o)]) none m) 1 a j) (al .sub i (.int .i64 1))) false a:=h.1.fZ
theorem BX:Bh Z b a s=Z.cU s (fun d s=>Z.ai s (fun e s=>Z.aK e (Z.cL s (fun f s=>Z.ay s (fun g s=>Z.bA s (fun c s=>Z.bH s (fun i s=>Z.bH s (fun j s=>Z.a6 s (fun m s=>Z.bA s (fun o s=>Z.a4 false [some i,some o] s) 135 [(ae.ap s.aa m)]) 1 [j]) 1 c) 0 c) 134 [(ae.ap s.aa b),(ae.ap s.aa g)]) none f) 1 a (.int .i64 0)) (Bg Z b a s)) (al .eql d (.int .i64 1))) false a:=h.1.fZ
theorem BY:Bi Z a b c s=Z.cU s (fun d s=>Z.k7 s (fun e s=>Z.rj s (fun o s=>Z.af a true (fun k=>k b s) s (fun f s=>Z.af a true (fun k=>Z.cU s k false f) s (fun g s=>Z.af a true (fun k=>Z.ai s k (al .gtr g (.int .i64 0))) s (fun i s=>Z.bF s (fun j s=>Z.hq [.bool false,.cr 1 [] .nil] [(0,1,j),(1,1,e)] s (fun m s=>Z.cC s (fun r s=>Z.a4 false [kS s c (some 2),some (.int .i64 0)] s) 2 c (ae.ap s.aa m))) a i (.bool false))))) 1 e b) [.int .u32 0] 4 d d) false b:=h.1.fZ
theorem BZ:Bj Z a b c d s=Z.ai s (fun e s=>nG Z a b c e s) (al .add d (.int .i64 1)):=h.1.fZ
theorem B0:Bk Z b c d a s=Z.cL s (fun e s=>Z.ay s (fun f s=>Z.b4 s (fun g s=>Z.ai s (fun i s=>Z.ai s (fun j s=>Z.ai s (fun m s=>Bj Z b m d a s) (al .or c j)) (al .shl g i)) (al .mul (.int .i64 32) a)) .u64 f) none e) 1 b a:=h.1.fZ
theorem B1:Bl Z a s=Z.a4 false [some a] s:=h.1.fZ
theorem tl:nG Z d a b c s=Z.ai s (fun e s=>Z.aK e (Bk Z d a b c s) (Bl Z a s)) (al .lss c b):=h.1.vj
theorem DJ:Hm Z a s=Z.aI s (fun d s=>Z.ay s (fun e s=>Z.aI s (fun f s=>Z.ay s (fun g s=>Z.bA s (fun b s=>Z.bH s (fun i s=>Z.bH s (fun o s=>Z.iM (.ref (.l s.own.length) 0) (s.new (.cells [.bool false,.cr 1 [] .nil])) (fun c s=>Z.cC s (fun r s=>Z.ay s (fun j s=>Z.bA s (fun m s=>Z.a4 false [some m] s) 89 [(ae.ap s.aa j)]) (some 2) c) 2 c (ae.ap s.aa i))) 1 b) 0 b) 90 [(ae.ap s.aa e),(ae.ap s.aa g)]) (some 2) f) 2 a) (some 2) d) 0 a:=h.1.fZ
theorem DK:Hn Z a s=Z.aI s (fun b s=>Z.ay s (fun c s=>Z.bA s (fun d s=>Z.aK d (Z.a4 false [some (.bool true)] s) (Hm Z a s)) 89 [(ae.ap s.aa c)]) (some 2) b) 2 a:=h.1.fZ
theorem vL:y3 Z a b c d e s=Z.ai s (fun f s=>tV Z a b c d f s) (al .add e (.int .i64 1)):=h.1.fZ
theorem DL:Ho Z a b f c d e s=Z.ay s (fun g s=>Z.bA s (fun i s=>Z.aK i (Z.ai s (fun j s=>y3 Z a j c d e s) (al .add b (.int .i64 1))) (y3 Z a b c d e s)) 43 [(ae.ap s.aa g)]) (some 12) f:=h.1.fZ
theorem DM:Hp Z b d c e a s=Z.cL s (fun g s=>Z.ay s (fun i s=>Z.iM (.ref (.l s.own.length) 0) (s.new (.cells [.str [],.int .i64 0,.cr 1 [] .nil,.bool false,.cr 1 [] .nil,.bool false,.cr 1 [] .nil,.bool false,.cr 1 [] .nil,.bool false,.cr 1 [] .nil,.int .i64 0])) (fun f s=>Z.cC s (fun r s=>Z.ai s (fun j s=>Z.lj 12 b none (some j) none s (fun m s=>Z.bA s (fun o s=>Z.ai s (fun p s=>Z.aK p (Z.a4 false [some (.int .i64 120)] s) (Ho Z b d f c e a s)) (kv .not o)) 42 [(ae.ap s.aa m)])) (al .add a (.int .i64 1))) 12 f (ae.ap s.aa i))) (some 12) g) 12 c a:=h.1.fZ
theorem DN:Hq Z s=Z.a4 false [some (.int .i64 0)] s:=h.1.fZ
theorem DO:y4 Z b d s=Z.cU s (fun e s=>Z.ai s (fun c s=>Z.af c false (fun k=>k d s) s (fun f s=>Z.af c false (fun k=>Z.ai s k (al .gtr f (.int .i64 5))) s (fun g s=>Z.bF s (fun a s=>Z.af a false (fun k=>k b s) s (fun i s=>Z.af a false (fun k=>Z.bA s k 44 [(ae.ap s.aa i)]) s (fun j s=>Z.af a false (fun k=>Z.cU s k false j) s (fun m s=>Z.af a false (fun k=>Z.ai s k (al .gtr m (.int .i64 20))) s (fun o s=>Z.bF s (fun p s=>Z.aK p (Z.a4 false [some (.int .i64 111)] s) (Hq Z s)) a (.bool true) o))))) c (.bool true) g))) (al .gtr e (.int .i64 40))) false b:=h.1.fZ
theorem vM:tV Z a b e c d s=Z.ai s (fun f s=>Z.aK f (Hp Z a b e c d s) (y4 Z a b s)) (al .lss d c):=h.1.vj
theorem DP:Hr Z a b s=Z.cL s (fun c s=>Z.ay s (fun d s=>Z.bA s (fun e s=>Z.a4 false [some e,some (.int .i64 0)] s) 48 [(ae.ap s.aa d)]) (some 12) c) 12 a b:=h.1.fZ
theorem DQ:Ht Z a b c d e f g i s=Z.ai s (fun j s=>tW Z a b c d e f g j s) (al .add i (.int .i64 1)):=h.1.fZ
theorem DR:Hu Z d e j f m g o b s=Z.cL s (fun p s=>Z.ay s (fun i s=>Z.ai s (fun c s=>Z.af c false (fun k=>k i s) s (fun q s=>Z.af c false (fun k=>k e s) s (fun r s=>Z.af c false (fun k=>Z.ai s k (al .geq q r)) s (fun t s=>Z.bF s (fun a s=>Z.af a false (fun k=>k f s) s (fun u s=>Z.af a false (fun k=>k b s) s (fun w s=>Z.af a false (fun k=>Z.cL s k 1 u w) s (fun x s=>Z.af a false (fun k=>Z.ay s k none x) s (fun y s=>Z.af a false (fun k=>k d s) s (fun z s=>Z.af a false (fun k=>k i s) s (fun A s=>Z.af a false (fun k=>Z.cL s k 12 z A) s (fun B s=>Z.af a false (fun k=>Z.ay s k (some 12) B) s (fun C s=>Z.af a false (fun k=>Z.gn s k 48 [(ae.ap s.aa C)]) s (fun D s=>Z.af a false (fun k=>Z.bA s k 50 [(ae.ap s.aa y),(ae.ap s.aa D)]) s (fun E s=>Z.af a false (fun k=>Z.ai s k (kv .not E)) s (fun F s=>Z.bF s (fun H s=>Z.aK H (Z.a4 false [some (.bool false)] s) (Ht Z d e j f m g o b s)) a (.bool true) F)))))))))))) c (.bool true) t)))) (al .lss i (.int .i64 0))) none p) 1 g b:=h.1.fZ
theorem DS:y5 Z a b c s=Z.lj 12 a none (some b) none s (fun d s=>Z.iM (.fn 74 [(ae.ap s.aa c)]) s (fun e s=>Z.bA s (fun f s=>Z.ai s (fun g s=>Z.a4 false [some g] s) (kv .not f)) 73 [(ae.ap s.aa d),(ae.ap s.aa e)])):=h.1.fZ
theorem DT:y6 Z m o a s=Z.aI s (fun q s=>Z.ay s (fun r s=>Z.ai s (fun i s=>Z.af i false (fun k=>Z.aI s k 1 a) s (fun t s=>Z.af i false (fun k=>Z.ay s k none t) s (fun u s=>Z.af i false (fun k=>Z.ai s k (al .eql u (.int .i64 2))) s (fun w s=>Z.bF s (fun b s=>Z.aI s (fun x s=>Z.ay s (fun y s=>Z.ai s (fun p s=>Z.af b true (fun k=>Z.aI s k 3 a) s (fun z s=>Z.af b true (fun k=>Z.ay s k (some 4) z) s (fun A s=>Z.af b true (fun k=>Z.bA s k 71 [(ae.ap s.aa A)]) s (fun B s=>Z.af b true (fun k=>Z.ai s k (kv .not B)) s (fun C s=>Z.bF s (fun c s=>Z.af c false (fun k=>k b s) s (fun D s=>Z.af c false (fun k=>Z.ai s k (kv .not D)) s (fun E s=>Z.af c false (fun k=>k E s) s (fun d s=>Z.af d true (fun k=>Z.aI s k 3 a) s (fun F s=>Z.af d true (fun k=>Z.ay s k (some 4) F) s (fun H s=>Z.af d true (fun k=>Z.bA s k 72 [(ae.ap s.aa H)]) s (fun I s=>Z.af d true (fun k=>Z.ai s k (kv .not I)) s (fun J s=>Z.af c false (fun k=>Z.bF s k d J (.bool false)) s (fun K s=>Z.bF s (fun j s=>Z.af j false (fun k=>k p s) s (fun L s=>Z.af j false (fun k=>k L s) s (fun e s=>Z.af e true (fun k=>Z.aI s k 7 a) s (fun M s=>Z.af e true (fun k=>Z.ay s k (some 4) M) s (fun N s=>Z.af e true (fun k=>Z.bA s k 71 [(ae.ap s.aa N)]) s (fun O s=>Z.af e true (fun k=>Z.ai s k (kv .not O)) s (fun P s=>Z.af j false (fun k=>Z.bF s k e P (.bool false)) s (fun Q s=>Z.bF s (fun f s=>Z.af f false (fun k=>k p s) s (fun R s=>Z.af f false (fun k=>Z.ai s k (kv .not R)) s (fun S s=>Z.af f false (fun k=>k S s) s (fun g s=>Z.af g true (fun k=>Z.aI s k 7 a) s (fun T s=>Z.af g true (fun k=>Z.ay s k (some 4) T) s (fun U s=>Z.af g true (fun k=>Z.bA s k 72 [(ae.ap s.aa U)]) s (fun V s=>Z.af g true (fun k=>Z.ai s k (kv .not V)) s (fun W s=>Z.af f false (fun k=>Z.bF s k g W (.bool false)) s (fun Y s=>Z.bF s (fun ab s=>Z.aK ab (Z.a4 false [some (.bool false)] s) (y5 Z m o a s)) f (.bool true) Y))))))))) j (.bool true) Q)))))))) c (.bool true) K))))))))) b C (.bool false)))))) (al .eql y (.int .i64 1))) none x) 1 a) i (.bool true) w)))) (al .eql r (.int .i64 1))) none q) 1 a:=h.1.fZ
theorem DU:y7 Z f g a e s=Z.aI s (fun i s=>Z.ay s (fun j s=>Z.ai s (fun c s=>Z.af c false (fun k=>Z.aI s k 11 a) s (fun m s=>Z.af c false (fun k=>Z.ay s k none m) s (fun o s=>Z.af c false (fun k=>Z.ai s k (al .eql o (.int .i64 2))) s (fun p s=>Z.bF s (fun q s=>Z.ai s (fun b s=>Z.af b false (fun k=>k e s) s (fun r s=>Z.af b false (fun k=>Z.ai s k (kv .not r)) s (fun t s=>Z.af b false (fun k=>k t s) s (fun d s=>Z.af d true (fun k=>Z.aI s k 11 a) s (fun u s=>Z.af d true (fun k=>Z.ay s k none u) s (fun w s=>Z.af d true (fun k=>Z.ai s k (al .neq w (.int .i64 0))) s (fun x s=>Z.af b false (fun k=>Z.bF s k d x (.bool false)) s (fun y s=>Z.bF s (fun z s=>Z.aK z (Z.a4 false [some (.bool false)] s) (y6 Z f g a s)) b (.bool true) y)))))))) ((pw .bool e q).map fun b=>.bool (bif true then !b else b))) c (.bool true) p)))) (al .eql j (.int .i64 1))) none i) 11 a:=h.1.fZ
theorem vN:tW Z a b c g d i e f s=Z.ai s (fun j s=>Z.aK j (Hu Z a b c g d i e f s) (y7 Z a b c d s)) (al .lss f e):=h.1.vj
theorem DV:Hv Z b c a d e s=Z.aI s (fun g s=>Z.ay s (fun f s=>Z.cU s (fun i s=>tW Z b c a d e f i (.int .i64 0) s) false f) none g) 2 a:=h.1.fZ
theorem vO:rM Z a b c d s=Z.ai s (fun e s=>tX Z a b c e s) (al .add d (.int .i64 1)):=h.1.fZ
theorem DW:Hw Z c b d a s=Z.cL s (fun g s=>Z.ay s (fun i s=>Z.iM (.ref (.l s.own.length) 0) (s.new (.cells [.str [],.int .i64 0,.cr 1 [] .nil,.bool false,.cr 1 [] .nil,.bool false,.cr 1 [] .nil,.bool false,.cr 1 [] .nil,.bool false,.cr 1 [] .nil,.int .i64 0])) (fun e s=>Z.cC s (fun y s=>Z.aI s (fun j s=>Z.ay s (fun f s=>Z.ai s (fun m s=>Z.aK m (Z.hq [.int .i64 0,.int .i64 0] [(0,1,a),(1,1,(.int .i64 0))] s (fun o s=>Z.hq [.int .i64 0,.int .i64 0] [(0,1,a),(1,1,(.int .i64 1))] s (fun p s=>Z.a6 s (fun q s=>Z.f8 s (fun r s=>rM Z r b d a s) 2 16 (some (.l 0)) c q) 2 [o,p]))) (Z.ai s (fun t s=>Z.aK t (Z.hq [.int .i64 0,.int .i64 0] [(0,1,a),(1,1,(.int .i64 0))] s (fun u s=>Z.a6 s (fun w s=>Z.f8 s (fun x s=>rM Z x b d a s) 2 16 (some (.l 0)) c w) 2 [u])) (rM Z c b d a s)) (al .eql f (.int .i64 2)))) (al .eql f (.int .i64 1))) none j) 1 e) 12 e (ae.ap s.aa i))) (some 12) g) 12 b a:=h.1.fZ
theorem DX:Hx Z a s=Z.a4 false [some a] s:=h.1.fZ
theorem vP:tX Z a d b c s=Z.ai s (fun e s=>Z.aK e (Hw Z a d b c s) (Hx Z a s)) (al .lss c b):=h.1.vj
theorem DY:Hy Z s=Z.a4 false [some (.int .i64 0)] s:=h.1.fZ
theorem DZ:y8 Z c b s=Z.ai s (fun a s=>Z.af a false (fun k=>k b s) s (fun d s=>Z.af a false (fun k=>k c s) s (fun e s=>Z.af a false (fun k=>Z.cU s k false e) s (fun f s=>Z.af a false (fun k=>Z.ai s k (al .geq d f)) s (fun g s=>Z.bF s (fun i s=>Z.aK i (Z.a4 false [some (.int .i64 1)] s) (Hy Z s)) a (.bool true) g))))) (al .lss b (.int .i64 0)):=h.1.fZ
theorem D0:Hz Z s=Z.a4 false [some (.cr 1 [] .nil),some (.int .i64 0),some (.bool false)] s:=h.1.fZ
theorem D1:y9 Z a b s=Z.aK b (Z.a6 s (fun c s=>Z.a4 false [some c,some (.int .i64 2),some (.bool false)] s) 1 [(.int .i64 1),(.int .i64 2)]) (Z.ai s (fun d s=>Z.aK d (Z.a6 s (fun e s=>Z.a4 false [some e,some (.int .i64 1),some (.bool false)] s) 1 [(.int .i64 1),(.int .i64 1)]) (Z.ai s (fun f s=>Z.aK f (Z.a6 s (fun g s=>Z.a4 false [some g,some (.int .i64 1),some (.bool false)] s) 1 [(.int .i64 1),(.int .i64 2)]) (Z.ai s (fun i s=>Z.aK i (Z.a6 s (fun j s=>Z.a4 false [some j,some (.int .i64 2),some (.bool true)] s) 1 [(.int .i64 1),(.int .i64 1),(.int .i64 1)]) (Z.ai s (fun m s=>Z.aK m (Z.a6 s (fun o s=>Z.a4 false [some o,some (.int .i64 2),some (.bool true)] s) 1 [(.int .i64 1),(.int .i64 3)]) (Z.ai s (fun p s=>Z.aK p (Z.a6 s (fun q s=>Z.a4 false [some q,some (.int .i64 1),some (.bool false)] s) 1 [(.int .i64 3)]) (Hz Z s)) (al .eql a (.int .i64 16)))) (al .eql a (.int .i64 15)))) (al .eql a (.int .i64 14)))) (al .eql a (.int .i64 13)))) (al .eql a (.int .i64 12))):=h.1.fZ
theorem D2:za Z a b s=Z.aK b (Z.a6 s (fun d s=>Z.a4 false [some d,some (.int .i64 3),some (.bool false)] s) 1 [(.int .i64 1),(.int .i64 1),(.int .i64 1)]) (Z.ai s (fun e s=>Z.aK e (Z.a6 s (fun f s=>Z.a4 false [some f,some (.int .i64 1),some (.bool true)] s) 1 [(.int .i64 2),(.int .i64 3)]) (Z.ai s (fun g s=>Z.aK g (Z.a6 s (fun i s=>Z.a4 false [some i,some (.int .i64 1),some (.bool true)] s) 1 [(.int .i64 3),(.int .i64 3)]) (Z.ai s (fun c s=>Z.aK c (y9 Z a c s) (Z.ai s (fun j s=>y9 Z a j s) (al .eql a (.int .i64 11)))) (al .eql a (.int .i64 10)))) (al .eql a (.int .i64 9)))) (al .eql a (.int .i64 8))):=h.1.fZ
theorem D3:HA Z s=Z.a4 false [some (.cr 1 [] .nil),some (.int .i64 0),some (.bool false)] s:=h.1.fZ
theorem D4:zb Z a b s=Z.aK b (Z.a6 s (fun c s=>Z.a4 false [some c,some (.int .i64 2),some (.bool false)] s) 1 [(.int .i64 1),(.int .i64 2)]) (Z.ai s (fun d s=>Z.aK d (Z.a6 s (fun e s=>Z.a4 false [some e,some (.int .i64 1),some (.bool false)] s) 1 [(.int .i64 1),(.int .i64 1)]) (Z.ai s (fun f s=>Z.aK f (Z.a6 s (fun g s=>Z.a4 false [some g,some (.int .i64 1),some (.bool false)] s) 1 [(.int .i64 1),(.int .i64 2)]) (Z.ai s (fun i s=>Z.aK i (Z.a6 s (fun j s=>Z.a4 false [some j,some (.int .i64 2),some (.bool true)] s) 1 [(.int .i64 1),(.int .i64 1),(.int .i64 1)]) (Z.ai s (fun m s=>Z.aK m (Z.a6 s (fun o s=>Z.a4 false [some o,some (.int .i64 2),some (.bool true)] s) 1 [(.int .i64 1),(.int .i64 3)]) (Z.ai s (fun p s=>Z.aK p (Z.a6 s (fun q s=>Z.a4 false [some q,some (.int .i64 1),some (.bool false)] s) 1 [(.int .i64 3)]) (HA Z s)) (al .eql a (.int .i64 16)))) (al .eql a (.int .i64 15)))) (al .eql a (.int .i64 14)))) (al .eql a (.int .i64 13)))) (al .eql a (.int .i64 12))):=h.1.fZ
theorem D5:zc Z a b s=Z.aK b (Z.a6 s (fun d s=>Z.a4 false [some d,some (.int .i64 3),some (.bool false)] s) 1 [(.int .i64 1),(.int .i64 1),(.int .i64 1)]) (Z.ai s (fun e s=>Z.aK e (Z.a6 s (fun f s=>Z.a4 false [some f,some (.int .i64 1),some (.bool true)] s) 1 [(.int .i64 2),(.int .i64 3)]) (Z.ai s (fun g s=>Z.aK g (Z.a6 s (fun i s=>Z.a4 false [some i,some (.int .i64 1),some (.bool true)] s) 1 [(.int .i64 3),(.int .i64 3)]) (Z.ai s (fun c s=>Z.aK c (zb Z a c s) (Z.ai s (fun j s=>zb Z a j s) (al .eql a (.int .i64 11)))) (al .eql a (.int .i64 10)))) (al .eql a (.int .i64 9)))) (al .eql a (.int .i64 8))):=h.1.fZ
theorem D6:HB Z a b c d s=Z.ai s (fun e s=>tY Z a b c e s) (al .add d (.int .i64 1)):=h.1.fZ
theorem D7:HC Z b c d a s=Z.cL s (fun e s=>Z.ay s (fun f s=>Z.ri s (fun g s=>Z.aK g (Z.a4 false [some a] s) (HB Z b c d a s)) c [(ae.ap s.aa f)]) (some 12) e) 12 b a:=h.1.fZ
theorem D8:HD Z s=Z.a4 false [some (.int .i64 (-1))] s:=h.1.fZ
theorem vQ:tY Z c d a b s=Z.ai s (fun e s=>Z.aK e (HC Z c d a b s) (HD Z s)) (al .lss b a):=h.1.vj
theorem D9:HE Z a b s=Z.ai s (fun c s=>Z.l3 1 24 a (some (.int .i64 1)) (some c) none s (fun d s=>Z.k6 s (fun e s=>Z.a4 false [some e] s) d)) (al .add (.int .i64 1) b):=h.1.fZ
theorem Ea:zd Z d a b s=Z.bA s (fun c s=>Z.ai s (fun e s=>Z.l3 1 24 a (some (.int .i64 1)) (some e) none s (fun f s=>Z.bA s (fun p s=>Z.ai s (fun g s=>Z.aK g (Z.l2 s (fun i s=>Z.cC s (fun r s=>Z.ai s (fun j s=>Z.l3 1 24 a none (some j) none s (fun m s=>Z.k6 s (fun o s=>Z.a4 false [some o] s) m)) (al .add (.int .i64 1) c)) 1 i (ae.ap s.aa (.int .u8 45))) 1 24 a (.int .i64 0)) (HE Z a c s)) (al .lss d (.int .i64 0))) 97 [(ae.ap s.aa f),(ae.ap s.aa b)])) (al .add (.int .i64 1) c)) 96 [(ae.ap s.aa b)]:=h.1.fZ
theorem Eb:HF Z a s=Z.iM (.ref (.l s.own.length) 0) (s.new (.cells [.int .u8 0,.int .u8 0,.int .u8 0,.int .u8 0,.int .u8 0,.int .u8 0,.int .u8 0,.int .u8 0,.int .u8 0,.int .u8 0,.int .u8 0,.int .u8 0,.int .u8 0,.int .u8 0,.int .u8 0,.int .u8 0,.int .u8 0,.int .u8 0,.int .u8 0,.int .u8 0,.int .u8 0,.int .u8 0,.int .u8 0,.int .u8 0])) (fun b s=>Z.b4 s (fun c s=>Z.ai s (fun d s=>Z.aK d (Z.ai s (fun e s=>zd Z a b e s) (kv .neg c)) (zd Z a b c s)) (al .lss a (.int .i64 0))) .u64 a):=h.1.fZ
theorem Ec:HG Z a s=Z.ai s (fun b s=>Z.ai s (fun c s=>Z.ai s (fun d s=>Z.ve (.str [48,48,48,49,48,50,48,51,48,52,48,53,48,54,48,55,48,56,48,57,49,48,49,49,49,50,49,51,49,52,49,53,49,54,49,55,49,56,49,57,50,48,50,49,50,50,50,51,50,52,50,53,50,54,50,55,50,56,50,57,51,48,51,49,51,50,51,51,51,52,51,53,51,54,51,55,51,56,51,57,52,48,52,49,52,50,52,51,52,52,52,53,52,54,52,55,52,56,52,57,53,48,53,49,53,50,53,51,53,52,53,53,53,54,53,55,53,56,53,57,54,48,54,49,54,50,54,51,54,52,54,53,54,54,54,55,54,56,54,57,55,48,55,49,55,50,55,51,55,52,55,53,55,54,55,55,55,56,55,57,56,48,56,49,56,50,56,51,56,52,56,53,56,54,56,55,56,56,56,57,57,48,57,49,57,50,57,51,57,52,57,53,57,54,57,55,57,56,57,57]) (some b) (some d) s (fun e s=>Z.a4 false [some e] s)) (al .add c (.int .i64 2))) (al .mul a (.int .i64 2))) (al .mul a (.int .i64 2)):=h.1.fZ
theorem vR:oa Z a b c s=Z.ai s (fun d s=>Z.aK d (Z.ai s (fun e s=>Z.b4 s (fun f s=>Z.cL s (fun g s=>Z.cC s (fun r s=>Z.a4 false [] s) 1 g (ae.ap s.aa f)) 1 a (.int .i64 0)) .u8 e) (al .add (.int .u32 48) c)) (Z.a4 false [] s)) (al .gtr b (.int .i64 0)):=h.1.fZ
theorem vS:ob Z b a c s=Z.ai s (fun e s=>Z.aK e (Z.ai s (fun f s=>Z.ai s (fun d s=>Z.ai s (fun g s=>Z.ai s (fun i s=>Z.ai s (fun j s=>Z.ai s (fun m s=>Z.hk s (fun o s=>Z.hk s (fun p s=>Z.cL s (fun q s=>Z.cC s (fun u s=>Z.cL s (fun r s=>Z.cC s (fun u s=>Z.ai s (fun t s=>oa Z b t g s) (al .sub a (.int .i64 2))) 1 r (ae.ap s.aa p)) 1 b j) 1 q (ae.ap s.aa o)) 1 b i) (.str [48,48,48,49,48,50,48,51,48,52,48,53,48,54,48,55,48,56,48,57,49,48,49,49,49,50,49,51,49,52,49,53,49,54,49,55,49,56,49,57,50,48,50,49,50,50,50,51,50,52,50,53,50,54,50,55,50,56,50,57,51,48,51,49,51,50,51,51,51,52,51,53,51,54,51,55,51,56,51,57,52,48,52,49,52,50,52,51,52,52,52,53,52,54,52,55,52,56,52,57,53,48,53,49,53,50,53,51,53,52,53,53,53,54,53,55,53,56,53,57,54,48,54,49,54,50,54,51,54,52,54,53,54,54,54,55,54,56,54,57,55,48,55,49,55,50,55,51,55,52,55,53,55,54,55,55,55,56,55,57,56,48,56,49,56,50,56,51,56,52,56,53,56,54,56,55,56,56,56,57,57,48,57,49,57,50,57,51,57,52,57,53,57,54,57,55,57,56,57,57]) d) (.str [48,48,48,49,48,50,48,51,48,52,48,53,48,54,48,55,48,56,48,57,49,48,49,49,49,50,49,51,49,52,49,53,49,54,49,55,49,56,49,57,50,48,50,49,50,50,50,51,50,52,50,53,50,54,50,55,50,56,50,57,51,48,51,49,51,50,51,51,51,52,51,53,51,54,51,55,51,56,51,57,52,48,52,49,52,50,52,51,52,52,52,53,52,54,52,55,52,56,52,57,53,48,53,49,53,50,53,51,53,52,53,53,53,54,53,55,53,56,53,57,54,48,54,49,54,50,54,51,54,52,54,53,54,54,54,55,54,56,54,57,55,48,55,49,55,50,55,51,55,52,55,53,55,54,55,55,55,56,55,57,56,48,56,49,56,50,56,51,56,52,56,53,56,54,56,55,56,56,56,57,57,48,57,49,57,50,57,51,57,52,57,53,57,54,57,55,57,56,57,57]) m) (al .add d (.int .u32 1))) (al .sub a (.int .i64 2))) (al .sub a (.int .i64 1))) (al .quo c (.int .u32 100))) (al .mul f (.int .u32 2))) (al .rem c (.int .u32 100))) (oa Z b a c s)) (al .geq a (.int .i64 2)):=h.1.fZ
theorem vT:tZ Z b d a s=Z.b4 s (fun c s=>Z.ai s (fun i s=>Z.aK i (Z.ai s (fun e s=>Z.ai s (fun j s=>Z.ai s (fun m s=>Z.ai s (fun f s=>Z.ai s (fun o s=>Z.ai s (fun g s=>Z.ai s (fun p s=>Z.ai s (fun q s=>Z.ai s (fun r s=>Z.hk s (fun t s=>Z.hk s (fun u s=>Z.cL s (fun w s=>Z.cC s (fun H s=>Z.cL s (fun x s=>Z.cC s (fun H s=>Z.ai s (fun y s=>Z.ai s (fun z s=>Z.ai s (fun A s=>Z.hk s (fun B s=>Z.hk s (fun C s=>Z.cL s (fun D s=>Z.cC s (fun H s=>Z.cL s (fun E s=>Z.cC s (fun H s=>Z.ai s (fun F s=>ob Z b F j s) (al .sub a (.int .i64 4))) 1 E (ae.ap s.aa C)) 1 b z) 1 D (ae.ap s.aa B)) 1 b y) (.str [48,48,48,49,48,50,48,51,48,52,48,53,48,54,48,55,48,56,48,57,49,48,49,49,49,50,49,51,49,52,49,53,49,54,49,55,49,56,49,57,50,48,50,49,50,50,50,51,50,52,50,53,50,54,50,55,50,56,50,57,51,48,51,49,51,50,51,51,51,52,51,53,51,54,51,55,51,56,51,57,52,48,52,49,52,50,52,51,52,52,52,53,52,54,52,55,52,56,52,57,53,48,53,49,53,50,53,51,53,52,53,53,53,54,53,55,53,56,53,57,54,48,54,49,54,50,54,51,54,52,54,53,54,54,54,55,54,56,54,57,55,48,55,49,55,50,55,51,55,52,55,53,55,54,55,55,55,56,55,57,56,48,56,49,56,50,56,51,56,52,56,53,56,54,56,55,56,56,56,57,57,48,57,49,57,50,57,51,57,52,57,53,57,54,57,55,57,56,57,57]) f) (.str [48,48,48,49,48,50,48,51,48,52,48,53,48,54,48,55,48,56,48,57,49,48,49,49,49,50,49,51,49,52,49,53,49,54,49,55,49,56,49,57,50,48,50,49,50,50,50,51,50,52,50,53,50,54,50,55,50,56,50,57,51,48,51,49,51,50,51,51,51,52,51,53,51,54,51,55,51,56,51,57,52,48,52,49,52,50,52,51,52,52,52,53,52,54,52,55,52,56,52,57,53,48,53,49,53,50,53,51,53,52,53,53,53,54,53,55,53,56,53,57,54,48,54,49,54,50,54,51,54,52,54,53,54,54,54,55,54,56,54,57,55,48,55,49,55,50,55,51,55,52,55,53,55,54,55,55,55,56,55,57,56,48,56,49,56,50,56,51,56,52,56,53,56,54,56,55,56,56,56,57,57,48,57,49,57,50,57,51,57,52,57,53,57,54,57,55,57,56,57,57]) A) (al .add f (.int .u32 1))) (al .sub a (.int .i64 4))) (al .sub a (.int .i64 3))) 1 x (ae.ap s.aa u)) 1 b q) 1 w (ae.ap s.aa t)) 1 b p) (.str [48,48,48,49,48,50,48,51,48,52,48,53,48,54,48,55,48,56,48,57,49,48,49,49,49,50,49,51,49,52,49,53,49,54,49,55,49,56,49,57,50,48,50,49,50,50,50,51,50,52,50,53,50,54,50,55,50,56,50,57,51,48,51,49,51,50,51,51,51,52,51,53,51,54,51,55,51,56,51,57,52,48,52,49,52,50,52,51,52,52,52,53,52,54,52,55,52,56,52,57,53,48,53,49,53,50,53,51,53,52,53,53,53,54,53,55,53,56,53,57,54,48,54,49,54,50,54,51,54,52,54,53,54,54,54,55,54,56,54,57,55,48,55,49,55,50,55,51,55,52,55,53,55,54,55,55,55,56,55,57,56,48,56,49,56,50,56,51,56,52,56,53,56,54,56,55,56,56,56,57,57,48,57,49,57,50,57,51,57,52,57,53,57,54,57,55,57,56,57,57]) g) (.str [48,48,48,49,48,50,48,51,48,52,48,53,48,54,48,55,48,56,48,57,49,48,49,49,49,50,49,51,49,52,49,53,49,54,49,55,49,56,49,57,50,48,50,49,50,50,50,51,50,52,50,53,50,54,50,55,50,56,50,57,51,48,51,49,51,50,51,51,51,52,51,53,51,54,51,55,51,56,51,57,52,48,52,49,52,50,52,51,52,52,52,53,52,54,52,55,52,56,52,57,53,48,53,49,53,50,53,51,53,52,53,53,53,54,53,55,53,56,53,57,54,48,54,49,54,50,54,51,54,52,54,53,54,54,54,55,54,56,54,57,55,48,55,49,55,50,55,51,55,52,55,53,55,54,55,55,55,56,55,57,56,48,56,49,56,50,56,51,56,52,56,53,56,54,56,55,56,56,56,57,57,48,57,49,57,50,57,51,57,52,57,53,57,54,57,55,57,56,57,57]) r) (al .add g (.int .u32 1))) (al .sub a (.int .i64 2))) (al .sub a (.int .i64 1))) (al .mul o (.int .u32 2))) (al .rem e (.int .u32 100))) (al .mul m (.int .u32 2))) (al .quo e (.int .u32 100))) (al .quo c (.int .u32 10000))) (al .rem c (.int .u32 10000))) (ob Z b a c s)) (al .geq a (.int .i64 4))) .u32 d:=h.1.fZ
theorem Ed:HH Z b c a s=Z.ai s (fun d s=>Z.aK d (T7 Z b c a s) (tZ Z b c a s)) (al .geq a (.int .i64 8)):=h.1.vj
theorem B2:rN Z a b s=Z.b4 s (fun c s=>Z.hk s (fun d s=>Z.b4 s (fun e s=>Z.ai s (fun f s=>Z.a4 false [some f] s) (al .add b e)) .i64 d) (.str [0,1,2,2,3,3,3,3,4,4,4,4,4,4,4,4,5,5,5,5,5,5,5,5,5,5,5,5,5,5,5,5,6,6,6,6,6,6,6,6,6,6,6,6,6,6,6,6,6,6,6,6,6,6,6,6,6,6,6,6,6,6,6,6,7,7,7,7,7,7,7,7,7,7,7,7,7,7,7,7,7,7,7,7,7,7,7,7,7,7,7,7,7,7,7,7,7,7,7,7,7,7,7,7,7,7,7,7,7,7,7,7,7,7,7,7,7,7,7,7,7,7,7,7,7,7,7,7,8,8,8,8,8,8,8,8,8,8,8,8,8,8,8,8,8,8,8,8,8,8,8,8,8,8,8,8,8,8,8,8,8,8,8,8,8,8,8,8,8,8,8,8,8,8,8,8,8,8,8,8,8,8,8,8,8,8,8,8,8,8,8,8,8,8,8,8,8,8,8,8,8,8,8,8,8,8,8,8,8,8,8,8,8,8,8,8,8,8,8,8,8,8,8,8,8,8,8,8,8,8,8,8,8,8,8,8,8,8,8,8,8,8,8,8,8,8,8,8,8,8,8,8,8,8,8,8]) c) .u8 a:=h.1.fZ
theorem tm:rO Z a b s=Z.ai s (fun c s=>Z.aK c (Z.ai s (fun d s=>Z.ai s (fun e s=>rN Z d e s) (al .add b (.int .i64 8))) (al .shr a (.int .u64 8))) (rN Z a b s)) (al .geq a (.int .u64 256)):=h.1.fZ
theorem B3:vE Z a b s=Z.ai s (fun c s=>Z.aK c (Z.ai s (fun d s=>Z.ai s (fun e s=>rO Z d e s) (al .add b (.int .i64 16))) (al .shr a (.int .u64 16))) (rO Z a b s)) (al .geq a (.int .u64 65536)):=h.1.fZ
theorem B4:Bm Z s=Z.a4 false [some (.int .i64 0)] s:=h.1.fZ
theorem Ee:HI Z a b c d e s=Z.ai s (fun f s=>t0 Z a b c d f s) (al .add e (.int .i64 1)):=h.1.fZ
theorem Ef:HJ Z c e f i d s=Z.cL s (fun j s=>Z.ay s (fun g s=>Z.ai s (fun b s=>Z.af b false (fun k=>k g s) s (fun m s=>Z.af b false (fun k=>k c s) s (fun o s=>Z.af b false (fun k=>Z.cU s k false o) s (fun p s=>Z.af b false (fun k=>Z.ai s k (al .geq m p)) s (fun q s=>Z.bF s (fun a s=>Z.af a false (fun k=>k e s) s (fun r s=>Z.af a false (fun k=>k d s) s (fun t s=>Z.af a false (fun k=>Z.cL s k 1 r t) s (fun u s=>Z.af a false (fun k=>Z.ay s k none u) s (fun w s=>Z.af a false (fun k=>k c s) s (fun x s=>Z.af a false (fun k=>k g s) s (fun y s=>Z.af a false (fun k=>Z.cL s k 12 x y) s (fun z s=>Z.af a false (fun k=>Z.ay s k (some 12) z) s (fun A s=>Z.af a false (fun k=>Z.gn s k 48 [(ae.ap s.aa A)]) s (fun B s=>Z.af a false (fun k=>Z.bA s k 50 [(ae.ap s.aa w),(ae.ap s.aa B)]) s (fun C s=>Z.af a false (fun k=>Z.ai s k (kv .not C)) s (fun D s=>Z.bF s (fun E s=>Z.aK E (Z.a4 false [some (.int .i64 102)] s) (HI Z c e f i d s)) a (.bool true) D)))))))))))) b (.bool true) q))))) (al .lss g (.int .i64 0))) none j) 1 f d:=h.1.fZ
theorem Eg:HK Z s=Z.a4 false [some (.int .i64 0)] s:=h.1.fZ
theorem vU:t0 Z c d e a b s=Z.ai s (fun f s=>Z.aK f (HJ Z c d e a b s) (HK Z s)) (al .lss b a):=h.1.vj
theorem Eh:HL Z a b c s=Z.aI s (fun e s=>Z.ay s (fun d s=>Z.cU s (fun f s=>t0 Z a c d f (.int .i64 0) s) false d) none e) 1 b:=h.1.fZ
theorem Ei:HM Z d b s=Z.aI s (fun e s=>Z.ay s (fun f s=>Z.gn s (fun c s=>Z.cU s (fun g s=>Z.ai s (fun a s=>Z.af a false (fun k=>k c s) s (fun i s=>Z.af a false (fun k=>Z.cU s k false i) s (fun j s=>Z.af a false (fun k=>Z.aI s k 1 b) s (fun m s=>Z.af a false (fun k=>Z.ay s k none m) s (fun o s=>Z.af a false (fun k=>Z.cU s k false o) s (fun p s=>Z.af a false (fun k=>Z.ai s k (al .neq j p)) s (fun q s=>Z.bF s (fun r s=>Z.aK r (Z.a4 false [some (.int .i64 102)] s) (HL Z d b c s)) a (.bool true) q))))))) (al .eql g (.int .i64 0))) false c) 49 [(ae.ap s.aa f)]) none e) 0 b:=h.1.fZ
theorem Ej:HN Z s=Z.a4 false [some (.cr 1 [] .nil)] s:=h.1.fZ
theorem Ek:zf Z a s=Z.aK a (Z.a6 s (fun b s=>Z.bA s (fun c s=>Z.a4 false [some c] s) 78 [(ae.ap s.aa b),(ae.ap s.aa (.int .i64 4))]) 1 [(.int .i64 1)]) (HN Z s):=h.1.fZ
theorem El:zg Z a b s=Z.aK b (Z.a6 s (fun d s=>Z.bA s (fun e s=>Z.a4 false [some e] s) 78 [(ae.ap s.aa d),(ae.ap s.aa (.int .i64 2))]) 1 [(.int .i64 2)]) (Z.ai s (fun f s=>Z.aK f (Z.a6 s (fun g s=>Z.bA s (fun i s=>Z.a4 false [some i] s) 78 [(ae.ap s.aa g),(ae.ap s.aa (.int .i64 3))]) 1 [(.int .i64 2)]) (Z.ai s (fun j s=>Z.aK j (Z.a6 s (fun m s=>Z.bA s (fun o s=>Z.a4 false [some o] s) 78 [(ae.ap s.aa m),(ae.ap s.aa (.int .i64 2))]) 1 [(.int .i64 1)]) (Z.ai s (fun p s=>Z.aK p (Z.a6 s (fun q s=>Z.bA s (fun r s=>Z.a4 false [some r] s) 78 [(ae.ap s.aa q),(ae.ap s.aa (.int .i64 3))]) 1 [(.int .i64 1)]) (Z.ai s (fun c s=>Z.aK c (zf Z c s) (Z.ai s (fun t s=>zf Z t s) (al .eql a (.int .i64 8)))) (al .eql a (.int .i64 5)))) (al .eql a (.int .i64 6)))) (al .eql a (.int .i64 1)))) (al .eql a (.int .i64 7))):=h.1.fZ
theorem Em:HS Z a b c d e f g i j m o p q s=Z.ai s (fun r s=>t9 Z a b c d e f g i j m o p r s) (al .add q (.int .i64 1)):=h.1.fZ
theorem En:HT Z e f b g i j m o c p d q a s=Z.cL s (fun r s=>Z.ay s (fun t s=>Z.cL s (fun u s=>Z.ay s (fun w s=>Z.bA s (fun x s=>Z.a6 s (fun y s=>Z.f8 s (fun z s=>HS Z e f b g i j m o c p d z a s) 1 8 (some (.l 0)) q y) 1 [x]) 35 [(ae.ap s.aa b),(ae.ap s.aa t),(ae.ap s.aa w)]) none u) 1 d a) none r) 1 c a:=h.1.fZ
theorem tn:vH Z a b c d e f g i j m o s=Z.ai s (fun p s=>t8 Z a b c d e f g i j m p s) (al .add o (.int .i64 1)):=h.1.fZ
theorem Eo:HU Z c d e f g i j o m a b s=Z.cL s (fun p s=>Z.ay s (fun q s=>Z.ai s (fun r s=>Z.aK r (vH Z c d e f g i j (.int .i64 1) m a b s) (vH Z c d e f g i j o m a b s)) (al .lss q (.int .i64 0))) none p) 1 a b:=h.1.fZ
theorem to:o9 Z a b c d e f s=Z.ai s (fun g s=>kt Z a b c d e g s) (al .add f (.int .i64 1)):=h.1.fZ
theorem B5:nH Z a b c d e f g s=Z.ay s (fun i s=>Z.a6 s (fun j s=>Z.f8 s (fun m s=>o9 Z a b m d e f s) 12 184 (some (.l 0)) c j) 12 [i]) (some 12) g:=h.1.fZ
theorem B6:pa Z c d e f g b i j o m s=Z.gn s (fun p s=>Z.ai s (fun q s=>Z.hq [.str [],.int .i64 0,.cr 1 [] .nil,.bool false,.cr 1 [] .nil,.bool false,.cr 1 [] .nil,.bool false,.cr 1 [] .nil,.bool false,.cr 1 [] .nil,.int .i64 0] [(0,1,q),(1,1,j)] s (fun r s=>Z.iM (.ref (.l s.own.length) 0) (s.new (.cells [.str [],.int .i64 0,.cr 1 [] .nil,.bool false,.cr 1 [] .nil,.bool false,.cr 1 [] .nil,.bool false,.cr 1 [] .nil,.bool false,.cr 1 [] .nil,.int .i64 0])) (fun a s=>Z.cC s (fun U s=>Z.ai s (fun t s=>Z.aK t (Z.aI s (fun u s=>Z.ay s (fun w s=>Z.gn s (fun x s=>Z.aI s (fun y s=>Z.cC s (fun U s=>Z.aI s (fun z s=>Z.ay s (fun A s=>Z.gn s (fun B s=>Z.aI s (fun C s=>Z.cC s (fun U s=>Z.ai s (fun D s=>nH Z c d e D g b a s) (al .add f (.int .i64 2))) 4 C (ae.ap s.aa B)) 7 a) 36 [(ae.ap s.aa A)]) none z) 5 i) 4 y (ae.ap s.aa x)) 3 a) 36 [(ae.ap s.aa w)]) none u) 4 i) (Z.ai s (fun E s=>Z.aK E (Z.aI s (fun F s=>Z.cC s (fun U s=>Z.aI s (fun H s=>Z.ay s (fun I s=>Z.gn s (fun J s=>Z.aI s (fun K s=>Z.cC s (fun U s=>Z.ai s (fun L s=>nH Z c d e L g b a s) (al .add f (.int .i64 1))) 4 K (ae.ap s.aa J)) 3 a) 36 [(ae.ap s.aa I)]) none H) 4 i) 1 F (ae.ap s.aa (nN m))) 2 a) (Z.aK o (Z.aI s (fun M s=>Z.cC s (fun U s=>Z.aI s (fun N s=>Z.ay s (fun O s=>Z.bA s (fun P s=>Z.ai s (fun Q s=>Z.aI s (fun R s=>Z.cC s (fun U s=>Z.ai s (fun S s=>nH Z c d e f S b a s) (al .add g (.int .i64 1))) 1 R (ae.ap s.aa Q)) 11 a) (al .add (.int .i64 1) P)) 14 [(ae.ap s.aa O),(ae.ap s.aa (.int .i64 2))]) none N) 6 i) 1 M (ae.ap s.aa (nN m))) 2 a) (Z.aI s (fun T s=>Z.cC s (fun U s=>nH Z c d e f g b a s) 1 T (ae.ap s.aa (nN m))) 2 a))) (al .eql j (.int .i64 2)))) (al .eql j (.int .i64 1))) 12 a (ae.ap s.aa r)))) (al .add (.str [115]) p)) 19 [(ae.ap s.aa b)]:=h.1.fZ
theorem B7:rR Z e f g c d i o j a p s=Z.af a true (fun k=>k d s) s (fun q s=>Z.af a true (fun k=>Z.ai s k (al .eql q (.int .i64 3))) s (fun r s=>Z.bF s (fun b s=>Z.af b false (fun k=>k j s) s (fun t s=>Z.af b false (fun k=>Z.ai s k (al .leq t (.int .i64 2))) s (fun u s=>Z.af b false (fun k=>k u s) s (fun m s=>Z.af m true (fun k=>k c s) s (fun w s=>Z.af m true (fun k=>Z.ai s k (al .gtr w (.int .i64 6))) s (fun x s=>Z.af b false (fun k=>Z.bF s k m x (.bool false)) s (fun y s=>Z.bF s (fun z s=>Z.aK z (o9 Z e f g c d i s) (pa Z e f g c d i o j a p s)) b (.bool true) y))))))) a r (.bool false))):=h.1.fZ
theorem vV:t8 Z b c d e f g i j m a o s=Z.cU s (fun p s=>Z.ai s (fun q s=>Z.aK q (HU Z b c d e f g i j m a o s) (rR Z b c d e f g i j m a s)) (al .lss o p)) false a:=h.1.vj
theorem Ep:zi Z a b c d e f g i j m s=t8 Z a b c d e f g i j m (.int .i64 0) s:=h.1.fZ
theorem vW:t9 Z a b c d e f g i j m q o p s=Z.cU s (fun r s=>Z.ai s (fun t s=>Z.aK t (HT Z a b c d e f g i j m q o p s) (zi Z a b c d e f g i m o s)) (al .lss p r)) false j:=h.1.vj
theorem Er:rS Z d e f g i j a b s=Z.bA s (fun c s=>Z.bH s (fun m s=>Z.bH s (fun y s=>Z.bH s (fun o s=>Z.aI s (fun p s=>Z.ay s (fun q s=>Z.aI s (fun r s=>Z.ay s (fun t s=>Z.aI s (fun u s=>Z.ay s (fun w s=>Z.a6 s (fun x s=>t9 Z d e f g i j a b m o x (.cr 1 [] .nil) (.int .i64 0) s) 1 [q,t,w]) none u) 3 a) none r) 2 a) none p) 1 a) 2 c) 1 c) 0 c) 34 [(ae.ap s.aa b)]:=h.1.fZ
theorem Es:HV Z b d e f g a s=Z.cL s (fun i s=>Z.ay s (fun j s=>Z.iM (.ref (.l s.own.length) 0) (s.new (.cells [.int .i64 0,.int .i64 0,.int .i64 0,.int .i64 0,.int .i64 0,.int .i64 0,.int .i64 0])) (fun c s=>Z.cC s (fun u s=>Z.aI s (fun m s=>Z.ay s (fun o s=>Z.bA s (fun p s=>Z.ai s (fun q s=>Z.ai s (fun r s=>Z.aK r (rS Z b d e f g a c (.int .i64 1) s) (rS Z b d e f g a c q s)) (al .lss a (.int .i64 2))) (al .add (.int .i64 1) p)) 14 [(ae.ap s.aa o),(ae.ap s.aa (.int .i64 16))]) none m) 0 c) 7 c (ae.ap s.aa j))) (some 7) i) 7 b a:=h.1.fZ
theorem tp:Bn Z a s=Z.a4 false [some a] s:=h.1.fZ
theorem qm:kt Z c d b f g e s=Z.cU s (fun i s=>Z.ai s (fun a s=>Z.af a true (fun k=>k b s) s (fun j s=>Z.af a true (fun k=>Z.cU s k false j) s (fun m s=>Z.af a true (fun k=>k d s) s (fun o s=>Z.af a true (fun k=>Z.ai s k (al .lss m o)) s (fun p s=>Z.bF s (fun q s=>Z.aK q (HV Z c d b f g e s) (Bn Z b s)) a p (.bool false)))))) (al .lss e i)) false c:=h.1.vj
theorem vX:zj Z a b s=Z.ai s (fun c s=>Z.a4 false [some c] s) (al .rem a b):=h.1.fZ
theorem vY:rT Z a b c d e s=Z.ai s (fun f s=>ua Z a b c d f s) (al .add e (.int .i64 1)):=h.1.fZ
theorem Et:HW Z d a e f b s=Z.cL s (fun m s=>Z.aI s (fun o s=>Z.ay s (fun p s=>Z.bA s (fun g s=>Z.bH s (fun A s=>Z.bH s (fun j s=>Z.bH s (fun B s=>Z.ai s (fun c s=>Z.af c false (fun k=>k a s) s (fun q s=>Z.af c false (fun k=>Z.ai s k (al .eql q (.int .i64 0))) s (fun r s=>Z.af c false (fun k=>k r s) s (fun i s=>Z.af i true (fun k=>k j s) s (fun t s=>Z.af i true (fun k=>Z.ai s k (al .neq t (.int .i64 1))) s (fun u s=>Z.af c false (fun k=>Z.bF s k i u (.bool false)) s (fun w s=>Z.bF s (fun x s=>Z.aK x (Z.a6 s (fun y s=>Z.f8 s (fun z s=>rT Z d a e z b s) 1 8 (some (.l 0)) f y) 1 [b]) (rT Z d a e f b s)) c (.bool true) w))))))) (al .eql j a)) 2 g) 1 g) 0 g) 34 [(ae.ap s.aa p)]) none o) 1 m) 12 d b:=h.1.fZ
theorem Eu:HX Z b a s=Z.cU s (fun c s=>Z.bA s (fun d s=>Z.cL s (fun e s=>Z.ay s (fun f s=>Z.a4 false [some f] s) none e) 1 a d) 14 [(ae.ap s.aa b),(ae.ap s.aa c)]) false a:=h.1.fZ
theorem Ev:zk Z b a s=Z.cU s (fun c s=>Z.ai s (fun d s=>Z.aK d (Z.a4 false [some (.int .i64 (-1))] s) (HX Z b a s)) (al .eql c (.int .i64 0))) false a:=h.1.fZ
theorem vZ:ua Z a e b c d s=Z.cU s (fun f s=>Z.ai s (fun g s=>Z.aK g (HW Z a e b c d s) (zk Z b c s)) (al .lss d f)) false a:=h.1.vj
theorem sA:DA Z a b c d e f s=Z.ai s (fun g s=>zl Z a b c d e g s) (al .add f (.int .i64 1)):=h.1.fZ
theorem xK:DB Z a b c d e f g s=Z.ai s (fun i s=>Z.aK i (Z.ai s (fun j s=>DA Z a b c d j f s) (al .add e (.int .i64 1))) (DA Z a b c d e f s)) (al .eql g (.int .i64 2)):=h.1.fZ
theorem IF:NM Z b c d e f g a s=Z.ai s (fun i s=>Z.aK i (Z.ai s (fun j s=>DB Z b c d j f g a s) (al .add e (.int .i64 1))) (DB Z b c d e f g a s)) (al .eql a (.int .i64 1)):=h.1.fZ
theorem IG:NN Z d a b i j e s=Z.cL s (fun p s=>Z.ay s (fun q s=>Z.cU s (fun r s=>Z.bA s (fun f s=>Z.aI s (fun t s=>Z.ay s (fun u s=>Z.a6 s (fun w s=>Z.f8 s (fun x s=>Z.aI s (fun y s=>Z.cC s (fun L s=>Z.bA s (fun m s=>Z.bH s (fun o s=>Z.bH s (fun z s=>Z.cL s (fun A s=>Z.aI s (fun B s=>Z.ay s (fun C s=>Z.bA s (fun g s=>Z.bH s (fun J s=>Z.bH s (fun D s=>Z.bH s (fun K s=>Z.ai s (fun c s=>Z.af c false (fun k=>k o s) s (fun E s=>Z.af c false (fun k=>k D s) s (fun F s=>Z.af c false (fun k=>Z.ai s k (al .neq E F)) s (fun H s=>Z.bF s (fun I s=>Z.aK I (Z.a4 false [some (.bool false)] s) (NM Z d a b i j e o s)) c (.bool true) H)))) (al .neq z (.int .i64 0))) 2 g) 1 g) 0 g) 21 [(ae.ap s.aa C)]) none B) 1 A) 12 a f) 1 m) 0 m) 20 [(ae.ap s.aa a),(ae.ap s.aa f)]) 1 y (ae.ap s.aa x)) 1 b) 1 8 (some (.l 0)) u w) 1 [f]) none t) 1 b) 14 [(ae.ap s.aa q),(ae.ap s.aa r)]) false a) none p) 1 d e:=h.1.fZ
theorem IH:mv Z a b c s=Z.ay s (fun d s=>Z.bA s (fun e s=>Z.ai s (fun f s=>Z.ai s (fun g s=>Z.a4 false [some g] s) ((pw .bool f c).map fun b=>.bool (bif false then !b else b))) (al .eql e (.int .i64 0))) 22 [(ae.ap s.aa a),(ae.ap s.aa d)]) (some 2) b:=h.1.fZ
theorem Ew:ub Z a b d j c m e o s=Z.aK o (Z.ai s (fun f s=>Z.af f true (fun k=>k d s) s (fun p s=>Z.af f true (fun k=>Z.ai s k (al .eql p (.int .i64 4))) s (fun q s=>Z.bF s (fun r s=>mv Z a b r s) f q (.bool false)))) (al .eql c (.int .i64 4))) (Z.ai s (fun t s=>Z.aK t (Z.ai s (fun g s=>Z.af g true (fun k=>k d s) s (fun u s=>Z.af g true (fun k=>Z.ai s k (al .eql u (.int .i64 3))) s (fun w s=>Z.bF s (fun x s=>mv Z a b x s) g w (.bool false)))) (al .eql c (.int .i64 3))) (Z.ai s (fun y s=>Z.aK y (Z.ai s (fun i s=>Z.af i true (fun k=>k j s) s (fun z s=>Z.af i true (fun k=>Z.ai s k (al .eql z (.int .i64 3))) s (fun A s=>Z.bF s (fun B s=>mv Z a b B s) i A (.bool false)))) (al .eql c (.int .i64 3))) (mv Z a b m s)) (al .eql e (.int .i64 7)))) (al .eql e (.int .i64 6))):=h.1.fZ
theorem Ex:uc Z b c f d e g a j s=Z.aK j (Z.ai s (fun i s=>Z.af i true (fun k=>k d s) s (fun o s=>Z.af i true (fun k=>Z.ai s k (al .eql o (.int .i64 2))) s (fun p s=>Z.bF s (fun q s=>mv Z b c q s) i p (.bool false)))) (al .eql e (.int .i64 2))) (Z.ai s (fun m s=>Z.aK m (ub Z b c f d e g a m s) (Z.ai s (fun r s=>ub Z b c f d e g a r s) (al .eql a (.int .i64 8)))) (al .eql a (.int .i64 5))):=h.1.fZ
theorem II:DC Z b a d f s=Z.aI s (fun o s=>Z.ay s (fun p s=>Z.cU s (fun e s=>Z.aI s (fun q s=>Z.ay s (fun c s=>Z.ai s (fun r s=>Z.aK r (Z.ai s (fun g s=>Z.af g true (fun k=>k d s) s (fun t s=>Z.af g true (fun k=>Z.ai s k (al .eql t (.int .i64 2))) s (fun u s=>Z.bF s (fun w s=>mv Z b a w s) g u (.bool false)))) (al .eql e (.int .i64 2))) (Z.ai s (fun x s=>Z.aK x (Z.ai s (fun i s=>Z.af i true (fun k=>k d s) s (fun y s=>Z.af i true (fun k=>Z.ai s k (al .eql y (.int .i64 1))) s (fun z s=>Z.bF s (fun A s=>Z.aK A (Z.aI s (fun B s=>Z.ay s (fun C s=>Z.cL s (fun D s=>Z.ay s (fun E s=>Z.bA s (fun j s=>Z.bH s (fun F s=>Z.bH s (fun J s=>Z.ai s (fun H s=>mv Z b a H s) (al .eql F (.int .i64 1))) 1 j) 0 j) 20 [(ae.ap s.aa b),(ae.ap s.aa E)]) none D) 1 C (.int .i64 0)) none B) 1 a) (mv Z b a (.bool false) s)) i z (.bool false)))) (al .eql e (.int .i64 2))) (Z.ai s (fun m s=>Z.aK m (uc Z b a d f e (.bool false) c m s) (Z.ai s (fun I s=>uc Z b a d f e (.bool false) c I s) (al .eql c (.int .i64 4)))) (al .eql c (.int .i64 3)))) (al .eql c (.int .i64 2)))) (al .eql c (.int .i64 1))) none q) 0 a) false p) none o) 1 a:=h.1.fZ
theorem xL:zl Z b c d e f a s=Z.cU s (fun i s=>Z.ai s (fun g s=>Z.af g true (fun k=>k a s) s (fun j s=>Z.af g true (fun k=>Z.ai s k (al .lss j (.int .i64 5))) s (fun m s=>Z.bF s (fun o s=>Z.aK o (NN Z b c d e f a s) (DC Z c d e f s)) g m (.bool false)))) (al .lss a i)) false b:=h.1.vj
theorem IJ:NO Z a b c s=Z.bA s (fun e s=>Z.hq [.int .i64 0,.cr 1 [] .nil] [(0,1,e)] s (fun f s=>Z.iM (.ref (.l s.own.length) 0) (s.new (.cells [.int .i64 0,.cr 1 [] .nil])) (fun d s=>Z.cC s (fun r s=>zl Z b c d (.int .i64 0) (.int .i64 0) (.int .i64 0) s) 2 d (ae.ap s.aa f)))) 14 [(ae.ap s.aa a),(ae.ap s.aa (.int .i64 9))]:=h.1.fZ
theorem IK:NP Z a b c s=Z.bA s (fun d s=>Z.cU s (fun e s=>Z.ai s (fun f s=>Z.aK f (Z.a4 false [some (.bool true)] s) (NO Z b c d s)) (al .eql e (.int .i64 0))) false d) 10 [(ae.ap s.aa a),(ae.ap s.aa (.int .i64 12))]:=h.1.fZ
end
variable(G:Nat→ae)(X:Nat→List ae→ag→ah)
theorem NQ:f133 Z a b s=Z.cU s (fun c s=>Z.cU s (fun d s=>Z.ai s (fun e s=>Z.aK e (Z.cU s (fun f s=>Z.cU s (fun g s=>Z.ai s (fun i s=>Z.aK i (Z.a4 false [some (.int .i64 (-1))] s) (AE Z s)) (al .lss f g)) false b) false a) (AJ Z a b s)) (al .neq c d)) false b) false a:=by kernel_rfl
theorem Ey:aP aR G X 133 [a,b] s=f133 (a0 aR G X) a b s.aj:=cJ aR G X (fn:=vt)
theorem NR:f134 Z a b s=Z.cU s (fun c s=>Z.k7 s (fun d s=>Z.cU s (fun e s=>rz Z a b d (.int .u64 0) e (.int .i64 0) s) false a) [.int .u32 0] 4 c c) false a:=by kernel_rfl
theorem Ez:aP aR G X 134 [a,b] s=f134 (a0 aR G X) a b s.aj:=cJ aR G X (fn:=Au)
theorem NS:f135 Z a s=Z.cU s (fun b s=>rB Z a b s) false a:=by kernel_rfl
theorem EA:aP aR G X 135 [a] s=f135 (a0 aR G X) a s.aj:=cJ aR G X (fn:=Av)
theorem NT:f136 Z a s=Z.bA s (fun b s=>Z.ai s (fun c s=>Z.a4 false [some c] s) (al .sub (.int .i64 32) b)) 111 [(ae.ap s.aa a)]:=by kernel_rfl
theorem EB:aP aR G X 136 [a] s=f136 (a0 aR G X) a s.aj:=cJ aR G X (fn:=MY)
theorem NU:f137 Z a b s=Z.cU s (fun d s=>Z.ai s (fun e s=>Z.ai s (fun f s=>Z.ai s (fun c s=>Z.k7 s (fun g s=>Z.cU s (fun i s=>rD Z a b g i (.int .i64 0) s) false a) [.int .u32 0] 4 c c) (al .add f (.int .i64 1))) (al .add d e)) (al .quo b (.int .i64 32))) false a:=by kernel_rfl
theorem EC:aP aR G X 137 [a,b] s=f137 (a0 aR G X) a b s.aj:=cJ aR G X (fn:=Aw)
theorem NV:f138 Z b c a d s=Z.cU s (fun e s=>o6 Z b c a d (.int .u64 0) (.int .u64 0) e (.int .i64 0) s) false a:=by kernel_rfl
theorem ED:aP aR G X 138 [a,b,c,d] s=f138 (a0 aR G X) a b c d s.aj:=cJ aR G X (fn:=ta)
theorem NW:f139 Z c d a s=Z.cU s (fun b s=>Z.ai s (fun f s=>Z.cL s (fun g s=>Z.ay s (fun i s=>Z.b4 s (fun j s=>Z.ai s (fun m s=>Z.ai s (fun o s=>Z.ai s (fun p s=>Z.cL s (fun q s=>Z.ay s (fun r s=>Z.b4 s (fun t s=>Z.ai s (fun e s=>Z.ai s (fun u s=>Z.cL s (fun w s=>Z.ay s (fun x s=>Z.b4 s (fun y s=>Z.ai s (fun z s=>Z.ai s (fun A s=>Z.cL s (fun B s=>Z.ay s (fun C s=>Z.b4 s (fun D s=>Z.ai s (fun E s=>rG Z c d a b z E s) (al .rem e D)) .u64 C) none B) 1 a A) (al .sub b (.int .i64 1))) (al .quo e y)) .u64 x) none w) 1 a u) (al .sub b (.int .i64 1))) (al .or m t)) .u64 r) none q) 1 c p) (al .sub o (.int .i64 1))) (al .add d b)) (al .shl j (.int .u64 32))) .u64 i) none g) 1 c f) (al .add d b)) false a:=by kernel_rfl
theorem EE:aP aR G X 139 [a,b,c] s=f139 (a0 aR G X) a b c s.aj:=cJ aR G X (fn:=AC)
theorem NX:f140 Z a b s=Z.ai s (fun c s=>Z.cU s (fun d s=>Z.ai s (fun e s=>Z.aK e (Z.cU s (fun f s=>Z.ai s (fun g s=>Z.a4 false [some (.cr 1 [] .nil),some g] s) (al .gtr f (.int .i64 0))) false a) (Bc Z a b c s)) (al .geq c d)) false a) (al .quo b (.int .i64 32)):=by kernel_rfl
theorem EF:aP aR G X 140 [a,b] s=f140 (a0 aR G X) a b s.aj:=cJ aR G X (fn:=xJ)
theorem NY:f111 Z a s=Z.ai s (fun b s=>Z.aK b (Z.ai s (fun c s=>nF Z c (.int .i64 16) s) (al .shr a (.int .u64 16))) (nF Z a (.int .i64 0) s)) (al .geq a (.int .u32 65536)):=by kernel_rfl
theorem EG:aP aR G X 111 [a] s=f111 (a0 aR G X) a s.aj:=cJ aR G X (fn:=An)
theorem Uc:f87 Z b s=Z.fk b s (fun a s=>Z.aI s (fun d s=>Z.ay s (fun e s=>Z.cU s (fun c s=>Z.ai s (fun f s=>Z.aK f (Z.aI s (fun g s=>Z.ay s (fun i s=>Z.ai s (fun j s=>Z.a4 false [some j] s) (kv .not i)) none g) 0 a) (Hb Z a c s)) (al .eql c (.int .i64 0))) false e) none d) 1 a):=by kernel_rfl
theorem IL:aP aR G X 87 [a] s=f87 (a0 aR G X) a s.aj:=cJ aR G X (fn:=Pt)
theorem Ud:f90 Z b c s=Z.fk b s (fun d s=>Z.fk c s (fun e s=>Z.iM (.ref (.l s.own.length) 0) (s.new (.cells [.bool false,.cr 1 [] .nil])) (fun a s=>Z.ay s (fun f s=>Z.ay s (fun g s=>Z.bA s (fun i s=>Z.ai s (fun j s=>Z.aK j (Z.hq [.bool false,.cr 1 [] .nil] [] s (fun m s=>Z.cC s (fun h s=>Z.a4 false [kS s a (some 2),some (.int .i64 1)] s) 2 a (ae.ap s.aa m))) (Hg Z d e a s)) (kv .not i)) 113 [(ae.ap s.aa f),(ae.ap s.aa g)]) (some 2) e) (some 2) d))):=by kernel_rfl
theorem IM:aP aR G X 90 [a,b] s=f90 (a0 aR G X) a b s.aj:=cJ aR G X (fn:=yP)
theorem NZ:f113 Z b c s=Z.fk b s (fun d s=>Z.fk c s (fun e s=>Z.ay s (fun f s=>Z.bA s (fun a s=>Z.af a true (fun k=>Z.ay s k (some 2) e) s (fun g s=>Z.af a true (fun k=>Z.bA s k 87 [(ae.ap s.aa g)]) s (fun i s=>Z.bF s (fun j s=>Z.a4 false [some j] s) a i (.bool false)))) 87 [(ae.ap s.aa f)]) (some 2) d)):=by kernel_rfl
theorem EH:aP aR G X 113 [a,b] s=f113 (a0 aR G X) a b s.aj:=cJ aR G X (fn:=MO)
theorem N0:f114 Z a b s=Z.bA s (fun c s=>Z.ai s (fun d s=>Z.aK d (Z.a4 false [some (.cr 1 [] .nil),some a] s) (Bh Z a b s)) (al .lss c (.int .i64 0))) 133 [(ae.ap s.aa a),(ae.ap s.aa b)]:=by kernel_rfl
theorem EI:aP aR G X 114 [a,b] s=f114 (a0 aR G X) a b s.aj:=cJ aR G X (fn:=vr)
theorem N1:f115 Z b c s=Z.iM (.ref (.l s.own.length) 0) (s.new (.cells [.bool false,.cr 1 [] .nil])) (fun a s=>Z.bA s (fun d s=>Z.cU s (fun e s=>Z.ai s (fun f s=>Z.aK f (Z.hq [.bool false,.cr 1 [] .nil] [] s (fun g s=>Z.cC s (fun h s=>Z.a4 false [kS s a (some 2),some (.int .i64 2)] s) 2 a (ae.ap s.aa g))) (Bi Z b d a s)) (al .gtr e (.int .i64 128))) false d) 135 [(ae.ap s.aa c)]):=by kernel_rfl
theorem EJ:aP aR G X 115 [a,b] s=f115 (a0 aR G X) a b s.aj:=cJ aR G X (fn:=xI)
theorem N2:f116 Z a s=Z.cU s (fun b s=>nG Z a (.int .u64 0) b (.int .i64 0) s) false a:=by kernel_rfl
theorem EK:aP aR G X 116 [a] s=f116 (a0 aR G X) a s.aj:=cJ aR G X (fn:=Ap)
theorem Ue:f71 Z e s=Z.fk e s (fun a s=>Z.aI s (fun f s=>Z.ay s (fun g s=>Z.bA s (fun i s=>Z.ai s (fun b s=>Z.af b false (fun k=>Z.aI s k 2 a) s (fun j s=>Z.af b false (fun k=>Z.ay s k (some 2) j) s (fun m s=>Z.af b false (fun k=>Z.bA s k 87 [(ae.ap s.aa m)]) s (fun o s=>Z.af b false (fun k=>Z.ai s k (kv .not o)) s (fun p s=>Z.bF s (fun c s=>Z.af c false (fun k=>Z.aI s k 2 a) s (fun q s=>Z.af c false (fun k=>Z.aI s k 0 q) s (fun r s=>Z.af c false (fun k=>Z.ay s k none r) s (fun t s=>Z.bF s (fun d s=>Z.af d false (fun k=>Z.aI s k 2 a) s (fun u s=>Z.af d false (fun k=>Z.ay s k (some 2) u) s (fun w s=>Z.af d false (fun k=>Z.bA s k 88 [(ae.ap s.aa w)]) s (fun x s=>Z.bF s (fun y s=>Z.aK y (Z.a4 false [some (.bool false)] s) (Hn Z a s)) d (.bool true) x)))) c (.bool true) t)))) b (.bool true) p))))) (kv .not i)) 87 [(ae.ap s.aa g)]) (some 2) f) 0 a):=by kernel_rfl
theorem IN:aP aR G X 71 [a] s=f71 (a0 aR G X) a s.aj:=cJ aR G X (fn:=Dr)
theorem Uf:f88 Z a s=Z.fk a s (fun b s=>Z.aI s (fun c s=>Z.ay s (fun d s=>Z.cU s (fun e s=>Z.ai s (fun f s=>Z.a4 false [some f] s) (al .eql e (.int .i64 0))) false d) none c) 1 b):=by kernel_rfl
theorem IP:aP aR G X 88 [a] s=f88 (a0 aR G X) a s.aj:=cJ aR G X (fn:=YJ)
theorem Ug:f89 Z d s=Z.fk d s (fun c s=>Z.aI s (fun e s=>Z.ay s (fun f s=>Z.ai s (fun b s=>Z.af b true (fun k=>Z.aI s k 1 c) s (fun g s=>Z.af b true (fun k=>Z.ay s k none g) s (fun i s=>Z.af b true (fun k=>Z.cU s k false i) s (fun j s=>Z.af b true (fun k=>Z.ai s k (al .eql j (.int .i64 1))) s (fun m s=>Z.bF s (fun a s=>Z.af a true (fun k=>Z.aI s k 1 c) s (fun o s=>Z.af a true (fun k=>Z.ay s k none o) s (fun p s=>Z.af a true (fun k=>Z.cL s k 1 p (.int .i64 0)) s (fun q s=>Z.af a true (fun k=>Z.ay s k none q) s (fun r s=>Z.af a true (fun k=>Z.ai s k (al .eql r (.int .u32 1))) s (fun t s=>Z.bF s (fun u s=>Z.a4 false [some u] s) a t (.bool false))))))) b m (.bool false)))))) (kv .not f)) none e) 0 c):=by kernel_rfl
theorem IQ:aP aR G X 89 [a] s=f89 (a0 aR G X) a s.aj:=cJ aR G X (fn:=YK)
theorem Uh:f16 Z a s=Z.cU s (fun b s=>tV Z a (.int .i64 0) a b (.int .i64 0) s) false a:=by kernel_rfl
theorem IR:aP aR G X 16 [a] s=f16 (a0 aR G X) a s.aj:=cJ aR G X (fn:=ID)
theorem Ui:f20 Z a b s=Z.bA s (fun c s=>Z.ai s (fun d s=>Z.aK d (Z.a4 false [some (.int .i64 0),some c] s) (Hr Z a b s)) (al .neq c (.int .i64 0))) 37 [(ae.ap s.aa a),(ae.ap s.aa b)]:=by kernel_rfl
theorem IS:aP aR G X 20 [a,b] s=f20 (a0 aR G X) a b s.aj:=cJ aR G X (fn:=tH)
theorem Uj:f42 Z c s=Z.cU s (fun i s=>Z.ai s (fun f s=>Z.cL s (fun j s=>Z.ay s (fun m s=>Z.iM (.ref (.l s.own.length) 0) (s.new (.cells [.str [],.int .i64 0,.cr 1 [] .nil,.bool false,.cr 1 [] .nil,.bool false,.cr 1 [] .nil,.bool false,.cr 1 [] .nil,.bool false,.cr 1 [] .nil,.int .i64 0])) (fun b s=>Z.cC s (fun h s=>Z.aI s (fun o s=>Z.ay s (fun p s=>Z.bA s (fun e s=>Z.bH s (fun g s=>Z.bH s (fun q s=>Z.bH s (fun r s=>Z.ai s (fun a s=>Z.af a false (fun k=>k g s) s (fun t s=>Z.af a false (fun k=>Z.cU s k false t) s (fun u s=>Z.af a false (fun k=>Z.aI s k 2 b) s (fun w s=>Z.af a false (fun k=>Z.ay s k none w) s (fun x s=>Z.af a false (fun k=>Z.cU s k false x) s (fun y s=>Z.af a false (fun k=>Z.ai s k (al .neq u y)) s (fun z s=>Z.bF s (fun d s=>Z.af d false (fun k=>Z.aI s k 0 b) s (fun A s=>Z.af d false (fun k=>Z.ay s k none A) s (fun B s=>Z.af d false (fun k=>Z.ai s k (al .eql B (.str []))) s (fun C s=>Z.bF s (fun D s=>Z.aK D (Z.a4 false [some (.bool false)] s) (Hv Z c f b g r s)) d (.bool true) C)))) a (.bool true) z))))))) (al .eql q (.int .i64 0))) 2 e) 1 e) 0 e) 21 [(ae.ap s.aa p)]) none o) 1 b) 12 b (ae.ap s.aa m))) (some 12) j) 12 c f) (al .sub i (.int .i64 1))) false c:=by kernel_rfl
theorem IT:aP aR G X 42 [a] s=f42 (a0 aR G X) a s.aj:=cJ aR G X (fn:=Al)
theorem Uk:f43 Z b s=Z.fk b s (fun c s=>Z.aI s (fun d s=>Z.ay s (fun e s=>Z.bA s (fun a s=>Z.bH s (fun g s=>Z.bH s (fun i s=>Z.bH s (fun f s=>Z.a4 false [some f] s) 2 a) 1 a) 0 a) 21 [(ae.ap s.aa e)]) none d) 1 c):=by kernel_rfl
theorem IU:aP aR G X 43 [a] s=f43 (a0 aR G X) a s.aj:=cJ aR G X (fn:=Xz)
theorem Ul:f44 Z a s=Z.cU s (fun b s=>tX Z (.cr 2 [] .nil) a b (.int .i64 0) s) false a:=by kernel_rfl
theorem IV:aP aR G X 44 [a] s=f44 (a0 aR G X) a s.aj:=cJ aR G X (fn:=Lb)
theorem Um:f37 Z a b s=Z.bA s (fun c s=>Z.ai s (fun d s=>Z.aK d (Z.a4 false [some c] s) (y8 Z a b s)) (al .neq c (.int .i64 0))) 16 [(ae.ap s.aa a)]:=by kernel_rfl
theorem IW:aP aR G X 37 [a,b] s=f37 (a0 aR G X) a b s.aj:=cJ aR G X (fn:=KZ)
theorem Un:f48 Z b s=Z.fk b s (fun c s=>Z.aI s (fun d s=>Z.ay s (fun e s=>Z.bA s (fun a s=>Z.bH s (fun g s=>Z.bH s (fun f s=>Z.bH s (fun i s=>Z.a4 false [some f] s) 2 a) 1 a) 0 a) 21 [(ae.ap s.aa e)]) none d) 1 c):=by kernel_rfl
theorem IX:aP aR G X 48 [a] s=f48 (a0 aR G X) a s.aj:=cJ aR G X (fn:=XE)
theorem Uo:f34 Z a s=Z.ai s (fun c s=>Z.aK c (Z.a4 false [some (.cr 1 [] .nil),some (.int .i64 1),some (.bool false)] s) (Z.ai s (fun d s=>Z.aK d (Z.a6 s (fun e s=>Z.a4 false [some e,some (.int .i64 1),some (.bool false)] s) 1 [(.int .i64 0)]) (Z.ai s (fun f s=>Z.aK f (Z.a6 s (fun g s=>Z.a4 false [some g,some (.int .i64 2),some (.bool false)] s) 1 [(.int .i64 1),(.int .i64 1)]) (Z.ai s (fun i s=>Z.aK i (Z.a6 s (fun j s=>Z.a4 false [some j,some (.int .i64 1),some (.bool false)] s) 1 [(.int .i64 2),(.int .i64 2)]) (Z.ai s (fun m s=>Z.aK m (Z.a6 s (fun o s=>Z.a4 false [some o,some (.int .i64 3),some (.bool false)] s) 1 [(.int .i64 1),(.int .i64 1)]) (Z.ai s (fun b s=>Z.aK b (za Z a b s) (Z.ai s (fun p s=>za Z a p s) (al .eql a (.int .i64 7)))) (al .eql a (.int .i64 6)))) (al .eql a (.int .i64 5)))) (al .eql a (.int .i64 4)))) (al .eql a (.int .i64 3)))) (al .eql a (.int .i64 2)))) (al .eql a (.int .i64 1)):=by kernel_rfl
theorem IY:aP aR G X 34 [a] s=f34 (a0 aR G X) a s.aj:=cJ aR G X (fn:=yO)
theorem Up:f50 Z d c s=Z.ai s (fun a s=>Z.af a false (fun k=>k d s) s (fun f s=>Z.af a false (fun k=>Z.ai s k (al .eql f (.int .i64 0))) s (fun g s=>Z.af a false (fun k=>k g s) s (fun b s=>Z.af b true (fun k=>k c s) s (fun i s=>Z.af b true (fun k=>Z.ai s k (al .eql i (.int .i64 2))) s (fun j s=>Z.af b true (fun k=>k j s) s (fun e s=>Z.af e false (fun k=>k c s) s (fun m s=>Z.af e false (fun k=>Z.ai s k (al .eql m (.int .i64 3))) s (fun o s=>Z.af b true (fun k=>Z.bF s k e (.bool true) o) s (fun p s=>Z.af a false (fun k=>Z.bF s k b p (.bool false)) s (fun q s=>Z.bF s (fun r s=>Z.a4 false [some r] s) a (.bool true) q))))))))))) (al .eql c d):=by kernel_rfl
theorem IZ:aP aR G X 50 [a,b] s=f50 (a0 aR G X) a b s.aj:=cJ aR G X (fn:=XH)
theorem Uq:f21 Z a s=Z.ai s (fun c s=>Z.aK c (Z.a4 false [some (.cr 1 [] .nil),some (.int .i64 1),some (.bool false)] s) (Z.ai s (fun d s=>Z.aK d (Z.a6 s (fun e s=>Z.a4 false [some e,some (.int .i64 1),some (.bool false)] s) 1 [(.int .i64 0)]) (Z.ai s (fun f s=>Z.aK f (Z.a6 s (fun g s=>Z.a4 false [some g,some (.int .i64 2),some (.bool false)] s) 1 [(.int .i64 1),(.int .i64 1)]) (Z.ai s (fun i s=>Z.aK i (Z.a6 s (fun j s=>Z.a4 false [some j,some (.int .i64 1),some (.bool false)] s) 1 [(.int .i64 2),(.int .i64 2)]) (Z.ai s (fun m s=>Z.aK m (Z.a6 s (fun o s=>Z.a4 false [some o,some (.int .i64 3),some (.bool false)] s) 1 [(.int .i64 1),(.int .i64 1)]) (Z.ai s (fun b s=>Z.aK b (zc Z a b s) (Z.ai s (fun p s=>zc Z a p s) (al .eql a (.int .i64 7)))) (al .eql a (.int .i64 6)))) (al .eql a (.int .i64 5)))) (al .eql a (.int .i64 4)))) (al .eql a (.int .i64 3)))) (al .eql a (.int .i64 2)))) (al .eql a (.int .i64 1)):=by kernel_rfl
theorem I0:aP aR G X 21 [a] s=f21 (a0 aR G X) a s.aj:=cJ aR G X (fn:=Dk)
theorem Ur:f72 Z e s=Z.fk e s (fun d s=>Z.aI s (fun f s=>Z.aI s (fun g s=>Z.ay s (fun i s=>Z.ai s (fun c s=>Z.af c true (fun k=>Z.aI s k 2 d) s (fun j s=>Z.af c true (fun k=>Z.aI s k 0 j) s (fun m s=>Z.af c true (fun k=>Z.ay s k none m) s (fun o s=>Z.af c true (fun k=>Z.ai s k (kv .not o)) s (fun p s=>Z.bF s (fun a s=>Z.af a true (fun k=>Z.aI s k 0 d) s (fun q s=>Z.af a true (fun k=>Z.aI s k 1 q) s (fun r s=>Z.af a true (fun k=>Z.ay s k none r) s (fun t s=>Z.af a true (fun k=>Z.cU s k false t) s (fun u s=>Z.af a true (fun k=>Z.ai s k (al .eql u (.int .i64 0))) s (fun w s=>Z.bF s (fun b s=>Z.af b true (fun k=>Z.aI s k 2 d) s (fun x s=>Z.af b true (fun k=>Z.aI s k 1 x) s (fun y s=>Z.af b true (fun k=>Z.ay s k none y) s (fun z s=>Z.af b true (fun k=>Z.cU s k false z) s (fun A s=>Z.af b true (fun k=>Z.ai s k (al .eql A (.int .i64 0))) s (fun B s=>Z.bF s (fun C s=>Z.a4 false [some C] s) b B (.bool false))))))) a w (.bool false))))))) c p (.bool false)))))) (kv .not i)) none g) 0 f) 0 d):=by kernel_rfl
theorem I1:aP aR G X 72 [a] s=f72 (a0 aR G X) a s.aj:=cJ aR G X (fn:=X3)
theorem Us:f73 Z a b s=Z.bA s (fun c s=>Z.ai s (fun d s=>Z.a4 false [some d] s) (al .geq c (.int .i64 0))) 62 [(ae.ap s.aa a),(ae.ap s.aa b)]:=by kernel_rfl
theorem I2:aP aR G X 73 [a,b] s=f73 (a0 aR G X) a b s.aj:=cJ aR G X (fn:=X4)
theorem Ut:f74 Z a b s=Z.fk a s (fun c s=>Z.aI s (fun d s=>Z.ay s (fun e s=>Z.aI s (fun f s=>Z.ay s (fun g s=>Z.ai s (fun i s=>Z.a4 false [some i] s) (al .eql e g)) none f) 0 b) none d) 0 c):=by kernel_rfl
theorem I3:aP aR G X 74 [a,b] s=f74 (a0 aR G X) a b s.aj:=cJ aR G X (fn:=Ds)
theorem Uu:f62 Z a b s=Z.cU s (fun c s=>tY Z a b c (.int .i64 0) s) false a:=by kernel_rfl
theorem I4:aP aR G X 62 [a,b] s=f62 (a0 aR G X) a b s.aj:=cJ aR G X (fn:=Lq)
theorem Uv:f19 Z a s=Z.bA s (fun b s=>Z.a4 false [some b] s) 47 [(ae.ap s.aa a)]:=by kernel_rfl
theorem I5:aP aR G X 19 [a] s=f19 (a0 aR G X) a s.aj:=cJ aR G X (fn:=Kw)
theorem Uw:f47 Z a s=Z.bA s (fun b s=>Z.a4 false [some b] s) 77 [(ae.ap s.aa a),(ae.ap s.aa (.int .i64 10))]:=by kernel_rfl
theorem I6:aP aR G X 47 [a] s=f47 (a0 aR G X) a s.aj:=cJ aR G X (fn:=XD)
theorem Ux:f77 Z a b s=Z.ai s (fun d s=>Z.aK d (Z.ai s (fun c s=>Z.af c true (fun k=>k a s) s (fun e s=>Z.af c true (fun k=>Z.ai s k (al .lss e (.int .i64 100))) s (fun f s=>Z.bF s (fun g s=>Z.aK g (Z.bA s (fun i s=>Z.a4 false [some i] s) 95 [(ae.ap s.aa a)]) (HF Z a s)) c f (.bool false)))) (al .leq (.int .i64 0) a)) (T6 Z a b s)) (al .eql b (.int .i64 10)):=by kernel_rfl
theorem I7:aP aR G X 77 [a,b] s=f77 (a0 aR G X) a b s.aj:=cJ aR G X (fn:=LD)
theorem Uy:f95 Z a s=Z.ai s (fun b s=>Z.aK b (Z.ai s (fun c s=>Z.ve (.str [48,49,50,51,52,53,54,55,56,57,97,98,99,100,101,102,103,104,105,106,107,108,109,110,111,112,113,114,115,116,117,118,119,120,121,122]) (some a) (some c) s (fun d s=>Z.a4 false [some d] s)) (al .add a (.int .i64 1))) (HG Z a s)) (al .lss a (.int .i64 10)):=by kernel_rfl
theorem I8:aP aR G X 95 [a] s=f95 (a0 aR G X) a s.aj:=cJ aR G X (fn:=Pw)
theorem Uz:f96 Z a s=Z.bA s (fun c s=>Z.bA s (fun b s=>Z.l2 s (fun d s=>Z.ay s (fun e s=>Z.ai s (fun f s=>Z.bA s (fun g s=>Z.ai s (fun i s=>Z.a4 false [some i] s) (al .add b g)) 121 [(ae.ap s.aa f)]) (al .geq a e)) none d) 1 20 (Z.bp 0) b) 120 [(ae.ap s.aa c)]) 112 [(ae.ap s.aa a)]:=by kernel_rfl
theorem I9:aP aR G X 96 [a] s=f96 (a0 aR G X) a s.aj:=cJ aR G X (fn:=Y3)
theorem UA:f97 Z a b s=Z.cU s (fun c s=>HH Z a b c s) false a:=by kernel_rfl
theorem Ja:aP aR G X 97 [a,b] s=f97 (a0 aR G X) a b s.aj:=cJ aR G X (fn:=Dw)
theorem N3:f112 Z a s=Z.ai s (fun b s=>Z.aK b (Z.ai s (fun c s=>vE Z c (.int .i64 32) s) (al .shr a (.int .u64 32))) (vE Z a (.int .i64 0) s)) (al .geq a (.int .u64 4294967296)):=by kernel_rfl
theorem EL:aP aR G X 112 [a] s=f112 (a0 aR G X) a s.aj:=cJ aR G X (fn:=xH)
theorem N4:f120 Z a s=Z.ai s (fun b s=>Z.ai s (fun c s=>Z.a4 false [some c] s) (al .shr b (.int .u64 18))) (al .mul a (.int .i64 78913)):=by kernel_rfl
theorem EM:aP aR G X 120 [a] s=f120 (a0 aR G X) a s.aj:=cJ aR G X (fn:=MX)
theorem N5:f121 Z a s=Z.aK a (Z.a4 false [some (.int .i64 1)] s) (Bm Z s):=by kernel_rfl
theorem EN:aP aR G X 121 [a] s=f121 (a0 aR G X) a s.aj:=cJ aR G X (fn:=Gl)
theorem UB:f22 Z a b s=Z.fk b s (fun d s=>Z.bA s (fun c s=>Z.ai s (fun e s=>Z.aK e (Z.a4 false [some c] s) (HM Z a d s)) (al .neq c (.int .i64 0))) 16 [(ae.ap s.aa a)]):=by kernel_rfl
theorem Jb:aP aR G X 22 [a,b] s=f22 (a0 aR G X) a b s.aj:=cJ aR G X (fn:=yN)
theorem UC:f49 Z a s=Z.ai s (fun c s=>Z.aK c (Z.a6 s (fun d s=>Z.a4 false [some d] s) 1 [(.int .i64 1),(.int .i64 0)]) (Z.ai s (fun b s=>Z.aK b (zg Z a b s) (Z.ai s (fun e s=>zg Z a e s) (al .eql a (.int .i64 4)))) (al .eql a (.int .i64 3)))) (al .eql a (.int .i64 2)):=by kernel_rfl
theorem Jc:aP aR G X 49 [a] s=f49 (a0 aR G X) a s.aj:=cJ aR G X (fn:=Lj)
theorem UD:f10 Z a b s=kt Z a b (.cr 12 [] .nil) (.int .i64 0) (.int .i64 0) (.int .i64 0) s:=by kernel_rfl
theorem Jd:aP aR G X 10 [a,b] s=f10 (a0 aR G X) a b s.aj:=cJ aR G X (fn:=Km)
theorem UE:f14 Z a b s=Z.ai s (fun c s=>Z.aK c (Z.ai s (fun d s=>Z.ai s (fun e s=>zj Z e b s) (kv .neg d)) (al .add a (.int .i64 1))) (zj Z a b s)) (al .lss a (.int .i64 0)):=by kernel_rfl
theorem Je:aP aR G X 14 [a,b] s=f14 (a0 aR G X) a b s.aj:=cJ aR G X (fn:=rs)
theorem UF:f35 Z a b c s=ua Z a b c (.cr 1 [] .nil) (.int .i64 0) s:=by kernel_rfl
theorem Jf:aP aR G X 35 [a,b,c] s=f35 (a0 aR G X) a b c s.aj:=cJ aR G X (fn:=IE)
theorem UG:f36 Z a s=Z.iM (.ref (.l s.own.length) 0) (s.new (.cells [.bool false,.cr 1 [] .nil,.bool false,.cr 1 [] .nil])) (fun b s=>Z.bA s (fun e s=>Z.ai s (fun f s=>Z.bA s (fun g s=>Z.ai s (fun i s=>Z.gn s (fun c s=>Z.bH s (fun j s=>Z.bH s (fun o s=>Z.iM (.ref (.l s.own.length) 0) (s.new (.cells [.bool false,.cr 1 [] .nil,.bool false,.cr 1 [] .nil])) (fun d s=>Z.cC s (fun h s=>Z.ay s (fun m s=>Z.cC s (fun h s=>Z.a4 false [kS s b (some 4)] s) 4 b (ae.ap s.aa m)) (some 4) d) 4 d (ae.ap s.aa j))) 1 c) 0 c) 46 [(ae.ap s.aa f),(ae.ap s.aa i)]) (al .add (.int .i64 1) g)) 14 [(ae.ap s.aa a),(ae.ap s.aa (.int .i64 4))]) (al .sub e (.int .i64 16))) 14 [(ae.ap s.aa a),(ae.ap s.aa (.int .i64 33))]):=by kernel_rfl
theorem Jg:aP aR G X 36 [a] s=f36 (a0 aR G X) a s.aj:=cJ aR G X (fn:=Xf)
theorem Z3:f6 Z a b c s=Z.gn s (fun d s=>Z.ai s (fun e s=>Z.aK e (Z.a4 false [some (.bool false)] s) (NP Z a b c s)) (kv .not d)) 9 []:=by kernel_rfl
theorem N6:aP aR G X 6 [a,b,c] s=f6 (a0 aR G X) a b c s.aj:=cJ aR G X (fn:=xB)
end
end Go.gR
end
section
namespace Go.gR
end Go.gR
end
