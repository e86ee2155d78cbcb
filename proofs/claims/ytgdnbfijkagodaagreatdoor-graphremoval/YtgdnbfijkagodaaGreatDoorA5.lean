/- A part of the proof: no condition. -/
import Derived.Test.YtgdnbfijkagodaaGreatDoorA4
import Derived.Test.YtgdnbfijkagodaaGreatDoorA2
import Derived.KernelRfl
set_option linter.unusedSectionVars false
set_option linter.unusedSimpArgs false
set_option linter.unusedVariables false
section
namespace Go.gF
noncomputable section
open Go.Ab
set_option maxRecDepth 100000
variable(Z:oz)
section
variable(a b c d e f g i j m o p q r t u w x y z A B C D E F H I J K L M N O P Q R S T U V:af)(s:ah)
def YV:fJ:=gf (aJ Z C2) (br Z w0)
def YW:gd:=eC 14
def YX:fJ:=gf (aJ Z C0) (br Z w0)
def KQ:fJ:=dN 0 (YX Z)
def sD:gd:=eC 0x3510d1a
def Bm:fJ:=eI sD (Z.cO (aJ Z Bf) sD) (KQ Z)
def YY:fJ:=gf (aJ Z Ki) (Bm Z)
def Sz:fJ:=dN 1 (YY Z)
def Dd:ai:=Z.aL .e Kf .e s (YV Z)
def De:ai:=Z.aL .e Kg .e s (Sz Z)
def Df:ai:=Z.aL sD Kh (dp (dp (a8 .e (a8 (bu d) .e)) b .e) a (a8 .e (a8 (a8 (bu c) .e) .e))) s (Bm Z)
def Dg:ai:=Z.aL sD Kj (dp (dp (a8 .e (a8 (bu d) .e)) b .e) a (a8 .e (a8 (a8 (bu c) .e) .e))) s (Bm Z)
def Dh:ai:=Z.aL .e CZ .e s (br Z w0)
def sE:ai:=Z.cO (aJ Z Bf) sD (dp (dp (a8 .e (a8 (bu d) .e)) b .e) a (a8 .e (a8 (a8 (bu c) .e) .e))) s (KQ Z)
def Di:ai:=Z.aL YW C1 (dp (bu b) a .e) s (br Z w0)
def f133(a b:af)(s:ah):ai:=bG [a,b] 0 .e fun ap=>aJ Z Kk ap s (br Z w0)
def YZ:fJ:=gf (aJ Z Ko) (br Z C3)
def KR:fJ:=dN 0 (YZ Z)
def sF:gd:=eC 0x30d5039a
def KS:fJ:=eI sF (Z.cO (aJ Z Bg) sF) (KR Z)
def Y0:gd:=eC 0x310d5
def Dj:ai:=Z.aL sF Kl (dp (dp (a8 (dp (bu e) d .e) .e) b .e) a (a8 (a8 (a8 (bu f) .e) .e) (bu c))) s (KS Z)
def Dk:ai:=Z.aL sF Km (dp (dp (a8 (dp (bu e) d .e) .e) b .e) a (a8 (a8 (a8 (bu f) .e) .e) (bu c))) s (KS Z)
def Dl:ai:=Z.aL Y0 Kn (a8 (a8 (a8 (bu b) .e) .e) (a8 .e (bu a))) s (br Z C3)
def sG:ai:=Z.cO (aJ Z Bg) sF (dp (dp (a8 (dp (bu e) d .e) .e) b .e) a (a8 (a8 (a8 (bu f) .e) .e) (bu c))) s (KR Z)
def f134(a b:af)(s:ah):ai:=bG [a,b] 0 .e fun ap=>aJ Z Kp ap s (br Z C3)
def Y1:fJ:=gf (aJ Z Ks) (br Z C4)
def KT:fJ:=dN 0 (Y1 Z)
def sH:gd:=eC 54
def Y2:fJ:=eI sH (Z.cO (aJ Z Bh) sH) (KT Z)
def Dm:ai:=Z.aL sH Kq (dp (a8 (bu b) .e) a .e) s (Y2 Z)
def w2:ai:=Z.aL sH Kr (dp (a8 (bu b) .e) a .e) s (br Z C4)
def sI:ai:=Z.cO (aJ Z Bh) sH (dp (a8 (bu b) .e) a .e) s (KT Z)
def f135(a:af)(s:ah):ai:=bG [a] 0 .e fun ap=>aJ Z Kt ap s (br Z C4)
def f136(a:af)(s:ah):ai:=bG [a] 0 .e fun ap=>aJ Z Ku ap s (br Z Sh)
def Y3:fJ:=gf (aJ Z Ky) (br Z C5)
def KU:fJ:=dN 0 (Y3 Z)
def sJ:gd:=eC 0xd50d8a
def KV:fJ:=eI sJ (Z.cO (aJ Z Bi) sJ) (KU Z)
def Y4:gd:=eC 197
def Dn:ai:=Z.aL sJ Kv (dp (dp .e b (dp (a8 (bu e) .e) c .e)) a (a8 (a8 (a8 (bu d) .e) .e) .e)) s (KV Z)
def Dp:ai:=Z.aL sJ Kw (dp (dp .e b (dp (a8 (bu e) .e) c .e)) a (a8 (a8 (a8 (bu d) .e) .e) .e)) s (KV Z)
def Dq:ai:=Z.aL Y4 Kx (a8 (a8 .e (bu a)) .e) s (br Z C5)
def sK:ai:=Z.cO (aJ Z Bi) sJ (dp (dp .e b (dp (a8 (bu e) .e) c .e)) a (a8 (a8 (a8 (bu d) .e) .e) .e)) s (KU Z)
def f137(a b:af)(s:ah):ai:=bG [a,b] 0 .e fun ap=>aJ Z Kz ap s (br Z C5)
def Y5:fJ:=gf (aJ Z Da) (br Z uF)
def KW:fJ:=dN 0 (Y5 Z)
def sL:gd:=eC 0x39234d2a
def KX:fJ:=eI sL (Z.cO (aJ Z Bj) sL) (KW Z)
def Y6:gd:=eC 0xd237a
def SA:gd:=eC 826
def SB:fJ:=gf (aJ Z C7) (br Z uF)
def Dr:fJ:=dN 2 (SB Z)
def p7:gd:=eC 0xd15203467a
def Ds:fJ:=eI p7 (Z.cO (aJ Z w1) p7) (Dr Z)
def SC:gd:=eC 13178
def Dt:ai:=Z.aL sL KA (dp (dp (dp .e d (a8 (bu i) .e)) b (a8 (bu e) .e)) a (dp .e c (a8 (dp (bu g) f .e) .e))) s (KX Z)
def Du:ai:=Z.aL sL KB (dp (dp (dp .e d (a8 (bu i) .e)) b (a8 (bu e) .e)) a (dp .e c (a8 (dp (bu g) f .e) .e))) s (KX Z)
def Dv:ai:=Z.aL p7 KC (dp (dp (bu d) b (a8 (dp (a8 .e (a8 (bu f) .e)) e .e) .e)) a (dp .e c (a8 (a8 (a8 .e (a8 (bu g) .e)) .e) .e))) s (Ds Z)
def Dw:ai:=Z.aL p7 KD (dp (dp (bu d) b (a8 (dp (a8 .e (a8 (bu f) .e)) e .e) .e)) a (dp .e c (a8 (a8 (a8 .e (a8 (bu g) .e)) .e) .e))) s (Ds Z)
def Dx:ai:=Z.aL SC C6 (dp (dp (bu d) b (a8 (bu e) .e)) a (bu c)) s (br Z uF)
def sM:ai:=Z.cO (aJ Z w1) p7 (dp (dp (bu d) b (a8 (dp (a8 .e (a8 (bu f) .e)) e .e) .e)) a (dp .e c (a8 (a8 (a8 .e (a8 (bu g) .e)) .e) .e))) s (Dr Z)
def w3:ai:=Z.aL SA C8 (dp (dp (bu d) b .e) a (bu c)) s (br Z uF)
def Dy:ai:=Z.aL Y6 C9 (dp (dp (bu d) b (a8 (bu e) .e)) a (dp .e c (a8 (bu f) .e))) s (br Z uF)
def p8:ai:=Z.cO (aJ Z Bj) sL (dp (dp (dp .e d (a8 (bu i) .e)) b (a8 (bu e) .e)) a (dp .e c (a8 (dp (bu g) f .e) .e))) s (KW Z)
def f138(a b c d:af)(s:ah):ai:=bG [a,b,c,d] 0 .e fun ap=>aJ Z KE ap s (br Z uF)
def Y7:fJ:=gf (aJ Z KH) (br Z Db)
def KY:fJ:=dN 0 (Y7 Z)
def vq:gd:=eC 0xd234da
def Y8:fJ:=eI vq (Z.cO (aJ Z Bk) vq) (KY Z)
def Y9:gd:=eC 837
def w4:ai:=Z.aL Y9 KG (a8 (a8 .e (a8 (bu a) .e)) .e) s (br Z Db)
def w5:ai:=Z.aL vq KF (dp (dp (a8 (bu d) .e) b (a8 (bu e) .e)) a (dp .e c (a8 (bu f) .e))) s (Y8 Z)
def sN:ai:=Z.cO (aJ Z Bk) vq (dp (dp (a8 (bu d) .e) b (a8 (bu e) .e)) a (dp .e c (a8 (bu f) .e))) s (KY Z)
def f139(a b c:af)(s:ah):ai:=bG [a,b,c] 0 .e fun ap=>aJ Z KI ap s (br Z Db)
def Za:gd:=eC 798
def Zb:fJ:=gf (aJ Z KO) (br Z zG)
def KZ:fJ:=dN 0 (Zb Z)
def sO:gd:=eC 0x334753444da
def Bn:fJ:=eI sO (Z.cO (aJ Z Bl) sO) (KZ Z)
def Zc:fJ:=gf (aJ Z KL) (Bn Z)
def Zd:fJ:=dN 1 (Zc Z)
def SD:gd:=eC 0xe34753474da
def SE:gd:=eC 0x350d5
def Dz:ai:=Z.aL sO KK (dp (dp (a8 (bu d) .e) b (a8 .e (a8 .e (a8 (bu g) .e)))) a (a8 (a8 (bu e) (a8 .e (a8 (bu f) .e))) (bu c))) s (Bn Z)
def sP:ai:=Z.aL SD KJ (dp (dp (a8 (bu d) .e) b (a8 (bu f) (a8 .e (a8 (bu j) .e)))) a (a8 (a8 (bu e) (a8 .e (a8 (bu i) .e))) (dp (bu g) c .e))) s (Zd Z)
def DA:ai:=Z.aL sO KM (dp (dp (a8 (bu d) .e) b (a8 .e (a8 .e (a8 (bu g) .e)))) a (a8 (a8 (bu e) (a8 .e (a8 (bu f) .e))) (bu c))) s (Bn Z)
def DB:ai:=Z.aL SE KN (a8 (a8 (a8 (bu a) .e) .e) (a8 (a8 (bu b) .e) .e)) s (br Z zG)
def p9:ai:=Z.cO (aJ Z Bl) sO (dp (dp (a8 (bu d) .e) b (a8 .e (a8 .e (a8 (bu g) .e)))) a (a8 (a8 (bu e) (a8 .e (a8 (bu f) .e))) (bu c))) s (KZ Z)
def DC:ai:=Z.aL Za Dc (dp (bu b) a (a8 .e (bu c))) s (br Z zG)
def f140(a b:af)(s:ah):ai:=bG [a,b] 0 .e fun ap=>aJ Z KP ap s (br Z zG)
def K0:gd:=eC 50
def qa:ai:=Z.aL K0 JP (dp .e a (bu b)) s (br Z CW)
def oE:ai:=Z.aL K0 JQ (dp .e a (bu b)) s (br Z CW)
def f111(a:af)(s:ah):ai:=bG [a] 0 .e fun ap=>aJ Z JR ap s (br Z CW)
def ae4:gd:=eC 57
def K1:ai:=Z.aL ae4 QV (a8 (dp (bu b) a .e) .e) s (br Z US)
def f87(a:af)(s:ah):ai:=bG [a] 0 .e fun ap=>aJ Z QW ap s (br Z US)
def ae5:gd:=eC 3637
def ae6:fJ:=gf (aJ Z JF) (br Z Bb)
def SF:fJ:=dN 0 (ae6 Z)
def tS:gd:=eC 0x3d0d5
def ae7:fJ:=eI tS (Z.cO (aJ Z Gt) tS) (SF Z)
def Ze:fJ:=gf (aJ Z Q2) (br Z Bb)
def K2:fJ:=dN 2 (Ze Z)
def vr:gd:=eC 0xdd315
def Zf:fJ:=eI vr (Z.cO (aJ Z Gu) vr) (K2 Z)
def Zg:gd:=eC 3537
def Bo:ai:=Z.aL tS QZ (a8 (a8 (a8 (bu c) .e) .e) (a8 (bu a) (bu b))) s (ae7 Z)
def K3:ai:=Z.aL vr Q0 (a8 (a8 (a8 .e (bu c)) .e) (a8 (bu a) (a8 (bu b) .e))) s (Zf Z)
def K4:ai:=Z.aL Zg Q1 (a8 .e (a8 (bu a) (a8 (bu b) .e))) s (br Z Bb)
def vt:ai:=Z.cO (aJ Z Gu) vr (a8 (a8 (a8 .e (bu c)) .e) (a8 (bu a) (a8 (bu b) .e))) s (K2 Z)
def K5:ai:=Z.aL tS Q3 (a8 (a8 (a8 (bu c) .e) .e) (a8 (bu a) (bu b))) s (br Z Bb)
def Bp:ai:=Z.aL tS JE (a8 (a8 (a8 (bu c) .e) .e) (a8 (bu a) (bu b))) s (br Z Bb)
def vu:ai:=Z.cO (aJ Z Gt) tS (a8 (a8 (a8 (bu c) .e) .e) (a8 (bu a) (bu b))) s (SF Z)
def K6:ai:=Z.aL ae5 JG (a8 (a8 (bu b) .e) (dp (bu c) a .e)) s (br Z Bb)
def f90(a b:af)(s:ah):ai:=bG [a,b] 0 .e fun ap=>aJ Z Q4 ap s (br Z Bb)
def f113(a b:af)(s:ah):ai:=bG [a,b] 0 .e fun ap=>aJ Z JW ap s (br Z R6)
def K7:gd:=eC 14
def Zh:fJ:=gf (aJ Z J0) (br Z wZ)
def K8:fJ:=dN 0 (Zh Z)
def sQ:gd:=eC 0xd00d653703555
def K9:fJ:=eI sQ (Z.cO (aJ Z Bd) sQ) (K8 Z)
def SG:gd:=eC 0xd35315
def DD:ai:=Z.aL sQ JX (a8 (a8 (a8 (a8 (a8 (a8 (bu e) .e) .e) .e) (bu d)) (a8 (bu b) .e)) (a8 (a8 (dp (a8 (a8 (bu f) .e) .e) a .e) .e) (a8 (bu c) .e))) s (K9 Z)
def DE:ai:=Z.aL sQ JY (a8 (a8 (a8 (a8 (a8 (a8 (bu e) .e) .e) .e) (bu d)) (a8 (bu b) .e)) (a8 (a8 (dp (a8 (a8 (bu f) .e) .e) a .e) .e) (a8 (bu c) .e))) s (K9 Z)
def DF:ai:=Z.aL SG JZ (a8 (a8 (a8 .e (bu c)) .e) (a8 (a8 (bu a) .e) (a8 (bu b) .e))) s (br Z wZ)
def sR:ai:=Z.cO (aJ Z Bd) sQ (a8 (a8 (a8 (a8 (a8 (a8 (bu e) .e) .e) .e) (bu d)) (a8 (bu b) .e)) (a8 (a8 (dp (a8 (a8 (bu f) .e) .e) a .e) .e) (a8 (bu c) .e))) s (K8 Z)
def DG:ai:=Z.aL K7 J1 (dp (bu b) a .e) s (br Z wZ)
def DH:ai:=Z.aL K7 CX (dp (bu b) a .e) s (br Z wZ)
def f114(a b:af)(s:ah):ai:=bG [a,b] 0 .e fun ap=>aJ Z J2 ap s (br Z wZ)
def Zi:gd:=eC 222
def DI:ai:=Z.aL Zi J3 (dp (bu b) a (a8 (bu c) .e)) s (br Z zF)
def f115(a b:af)(s:ah):ai:=bG [a,b] 0 .e fun ap=>aJ Z J4 ap s (br Z zF)
def Zj:fJ:=gf (aJ Z J8) (br Z CY)
def La:fJ:=dN 0 (Zj Z)
def sS:gd:=eC 0x310e6
def Lb:fJ:=eI sS (Z.cO (aJ Z Be) sS) (La Z)
def Zk:gd:=eC 53
def DJ:ai:=Z.aL sS J5 (dp (a8 (dp (bu d) b .e) .e) a (a8 .e (bu c))) s (Lb Z)
def DK:ai:=Z.aL sS J6 (dp (a8 (dp (bu d) b .e) .e) a (a8 .e (bu c))) s (Lb Z)
def DL:ai:=Z.aL Zk J7 (a8 (a8 (bu a) .e) .e) s (br Z CY)
def oF:ai:=Z.cO (aJ Z Be) sS (dp (a8 (dp (bu d) b .e) .e) a (a8 .e (bu c))) s (La Z)
def f116(a:af)(s:ah):ai:=bG [a] 0 .e fun ap=>aJ Z J9 ap s (br Z CY)
def SH:gd:=eC 13
def Lc:ai:=Z.aL SH Qz (a8 (bu a) .e) s (br Z Gs)
def Ld:ai:=Z.aL SH QA (a8 (bu a) .e) s (br Z Gs)
def f71(a:af)(s:ah):ai:=bG [a] 0 .e fun ap=>aJ Z QB ap s (br Z Gs)
def f88(a:af)(s:ah):ai:=bG [a] 0 .e fun ap=>aJ Z QX ap s (br Z aet)
def f89(a:af)(s:ah):ai:=bG [a] 0 .e fun ap=>aJ Z QY ap s (br Z aeu)
def ae8:fJ:=gf (aJ Z Jz) (br Z AY)
def SI:fJ:=dN 0 (ae8 Z)
def w6:gd:=eC 0x3350e6
def Gx:fJ:=eI w6 (Z.cO (aJ Z Gk) w6) (SI Z)
def ae9:fJ:=gf (aJ Z Pr) (Gx Z)
def afa:fJ:=dN 1 (ae9 Z)
def afb:gd:=eC 0x335ce6
def Zl:gd:=eC 54
def Bq:ai:=Z.aL w6 Pq (dp (a8 (dp (bu d) b .e) .e) a (a8 (a8 (bu e) .e) (bu c))) s (Gx Z)
def Le:ai:=Z.aL afb Pp (dp (a8 (dp (bu e) b .e) (bu c)) a (a8 (a8 (bu f) .e) (bu d))) s (afa Z)
def Lf:ai:=Z.aL w6 Ps (dp (a8 (dp (bu d) b .e) .e) a (a8 (a8 (bu e) .e) (bu c))) s (Gx Z)
def Lg:ai:=Z.aL .e Pt .e s (br Z AY)
def Br:ai:=Z.aL Zl Jy (dp (a8 (bu b) .e) a .e) s (br Z AY)
def vv:ai:=Z.cO (aJ Z Gk) w6 (dp (a8 (dp (bu d) b .e) .e) a (a8 (a8 (bu e) .e) (bu c))) s (SI Z)
def f16(a:af)(s:ah):ai:=bG [a] 0 .e fun ap=>aJ Z Pu ap s (br Z AY)
def afc:gd:=eC 56550
def afd:fJ:=gf (aJ Z JB) (br Z CV)
def SJ:fJ:=dN 0 (afd Z)
def w7:gd:=eC 0x3453449cd1e6
def SK:fJ:=eI w7 (Z.cO (aJ Z Gn) w7) (SJ Z)
def Zm:gd:=eC 53478
def Lh:gd:=eC 3382
def Li:ai:=Z.aL w7 P4 (dp (a8 (dp (bu e) b (a8 .e (a8 (bu g) .e))) (bu d)) a (a8 (dp .e c (a8 .e (a8 (bu i) .e))) (a8 (a8 .e (a8 (bu f) .e)) .e))) s (SK Z)
def Lj:ai:=Z.aL w7 P5 (dp (a8 (dp (bu e) b (a8 .e (a8 (bu g) .e))) (bu d)) a (a8 (dp .e c (a8 .e (a8 (bu i) .e))) (a8 (a8 .e (a8 (bu f) .e)) .e))) s (SK Z)
def Bs:ai:=Z.aL Lh P6 (dp (a8 (bu b) .e) a (a8 (bu c) .e)) s (br Z CV)
def Bt:ai:=Z.aL Lh P7 (dp (a8 (bu b) .e) a (a8 (bu c) .e)) s (br Z CV)
def Bu:ai:=Z.aL Zm JA (dp (a8 (dp (bu d) b .e) .e) a (a8 (bu c) .e)) s (br Z CV)
def vw:ai:=Z.cO (aJ Z Gn) w7 (dp (a8 (dp (bu e) b (a8 .e (a8 (bu g) .e))) (bu d)) a (a8 (dp .e c (a8 .e (a8 (bu i) .e))) (a8 (a8 .e (a8 (bu f) .e)) .e))) s (SJ Z)
def Lk:ai:=Z.aL afc JC (dp (a8 (dp (bu e) b .e) (bu d)) a (a8 (bu c) .e)) s (br Z CV)
def f42(a:af)(s:ah):ai:=bG [a] 0 .e fun ap=>aJ Z P8 ap s (br Z CV)
def f43(a:af)(s:ah):ai:=bG [a] 0 .e fun ap=>aJ Z P9 ap s (br Z adl)
def afe:fJ:=gf (aJ Z Qd) (br Z Qf)
def SL:fJ:=dN 0 (afe Z)
def w8:gd:=eC 0x3350e5
def SM:fJ:=eI w8 (Z.cO (aJ Z Gp) w8) (SL Z)
def aff:gd:=eC 53
def sT:ai:=Z.aL w8 Qa (a8 (a8 (dp (bu c) a .e) .e) (a8 (a8 (bu d) .e) (bu b))) s (SM Z)
def Ll:ai:=Z.aL w8 Qb (a8 (a8 (dp (bu c) a .e) .e) (a8 (a8 (bu d) .e) (bu b))) s (SM Z)
def Lm:ai:=Z.aL aff Qc (a8 (a8 (bu a) .e) .e) s (br Z Qf)
def vx:ai:=Z.cO (aJ Z Gp) w8 (a8 (a8 (dp (bu c) a .e) .e) (a8 (a8 (bu d) .e) (bu b))) s (SL Z)
def f44(a:af)(s:ah):ai:=bG [a] 0 .e fun ap=>aJ Z Qe ap s (br Z Qf)
def afg:gd:=eC 14
def Ln:ai:=Z.aL .e PQ .e s (br Z sC)
def Bv:ai:=Z.aL afg PR (dp (bu b) a .e) s (br Z sC)
def f37(a b:af)(s:ah):ai:=bG [a,b] 0 .e fun ap=>aJ Z PS ap s (br Z sC)
def f48(a:af)(s:ah):ai:=bG [a] 0 .e fun ap=>aJ Z Qn ap s (br Z adt)
def afh:fJ:=gf (aJ Z PH) (br Z AZ)
def SN:fJ:=dN 0 (afh Z)
def afi:gd:=eC 0x345c5
def afj:gd:=eC 0x3111c5
def Lo:ai:=Z.aL .e PG .e s (br Z AZ)
def Bw:ai:=Z.aL afj PE (a8 (a8 .e (bu a)) (a8 .e (a8 .e (a8 .e (bu b))))) s (SN Z)
def Bx:ai:=Z.aL afi PF (a8 (a8 .e (bu a)) (a8 (a8 .e (a8 (bu b) .e)) .e)) s (SN Z)
def f34(a:af)(s:ah):ai:=bG [a] 0 .e fun ap=>aJ Z PI ap s (br Z AZ)
def f50(a b:af)(s:ah):ai:=bG [a,b] 0 .e fun ap=>aJ Z Qo ap s (br Z adB)
def afk:fJ:=gf (aJ Z PB) (br Z PD)
def SO:fJ:=dN 0 (afk Z)
def afl:gd:=eC 0x345c5
def afm:gd:=eC 0x3111c5
def Lp:ai:=Z.aL .e PA .e s (br Z PD)
def By:ai:=Z.aL afm Py (a8 (a8 .e (bu a)) (a8 .e (a8 .e (a8 .e (bu b))))) s (SO Z)
def Bz:ai:=Z.aL afl Pz (a8 (a8 .e (bu a)) (a8 (a8 .e (a8 (bu b) .e)) .e)) s (SO Z)
def f21(a:af)(s:ah):ai:=bG [a] 0 .e fun ap=>aJ Z PC ap s (br Z PD)
def f72(a:af)(s:ah):ai:=bG [a] 0 .e fun ap=>aJ Z QC ap s (br Z adU)
def f73(a b:af)(s:ah):ai:=bG [a,b] 0 .e fun ap=>aJ Z QD ap s (br Z adV)
def f74(a b:af)(s:ah):ai:=bG [a,b] 0 .e fun ap=>aJ Z QE ap s (br Z QF)
def f17(a b:af)(s:ah):ai:=bG [a,b] 0 .e fun ap=>aJ Z Pv ap s (br Z ace)
def afn:fJ:=gf (aJ Z Qs) (br Z Qu)
def SP:fJ:=dN 0 (afn Z)
def w9:gd:=eC 0x350da
def SQ:fJ:=eI w9 (Z.cO (aJ Z Gr) w9) (SP Z)
def Lq:ai:=Z.aL w9 Qp (dp (dp (a8 (bu c) .e) b .e) a (a8 (a8 (bu d) .e) .e)) s (SQ Z)
def Lr:ai:=Z.aL w9 Qq (dp (dp (a8 (bu c) .e) b .e) a (a8 (a8 (bu d) .e) .e)) s (SQ Z)
def Ls:ai:=Z.aL .e Qr .e s (br Z Qu)
def vy:ai:=Z.cO (aJ Z Gr) w9 (dp (dp (a8 (bu c) .e) b .e) a (a8 (a8 (bu d) .e) .e)) s (SP Z)
def f62(a b:af)(s:ah):ai:=bG [a,b] 0 .e fun ap=>aJ Z Qt ap s (br Z Qu)
def afo:gd:=eC 821
def afp:fJ:=gf (aJ Z Qj) (br Z M0)
def SR:fJ:=dN 0 (afp Z)
def xa:gd:=eC 1013
def SS:fJ:=eI xa (Z.cO (aJ Z Gq) xa) (SR Z)
def Lt:ai:=Z.aL xa Qg (a8 (a8 (bu b) (bu c)) (bu a)) s (SS Z)
def Lu:ai:=Z.aL xa Qh (a8 (a8 (bu b) (bu c)) (bu a)) s (SS Z)
def Lv:ai:=Z.aL .e Qi .e s (br Z M0)
def vz:ai:=Z.cO (aJ Z Gq) xa (a8 (a8 (bu b) (bu c)) (bu a)) s (SR Z)
def Lw:ai:=Z.aL afo Qk (a8 (a8 (bu b) .e) (bu a)) s (br Z M0)
def f45(a b:af)(s:ah):ai:=bG [a,b] 0 .e fun ap=>aJ Z Ql ap s (br Z M0)
def f19(a:af)(s:ah):ai:=bG [a] 0 .e fun ap=>aJ Z Pw ap s (br Z Px)
def f47(a:af)(s:ah):ai:=bG [a] 0 .e fun ap=>aJ Z Qm ap s (br Z ads)
def Gy:fJ:=gf (aJ Z QK) (br Z QM)
def afq:gd:=eC 3
def afr:gd:=eC 12742
def afs:gd:=eC 3285
def aft:gd:=eC 14
def Lx:ai:=Z.aL afs QG (a8 (a8 (a8 (bu b) .e) (bu a)) .e) s (Gy Z)
def BA:ai:=Z.aL afr QH (dp (a8 .e (bu b)) a (a8 .e (bu c))) s (Gy Z)
def Ly:ai:=Z.aL afq QI (bu a) s (Gy Z)
def Zn:ai:=Z.aL aft QJ (dp (bu b) a .e) s (br Z QM)
def f77(a b:af)(s:ah):ai:=bG [a,b] 0 .e fun ap=>aJ Z QL ap s (br Z QM)
def afu:gd:=eC 3
def Lz:ai:=Z.aL afu Q5 (bu a) s (br Z UW)
def f95(a:af)(s:ah):ai:=bG [a] 0 .e fun ap=>aJ Z Q6 ap s (br Z UW)
def f96(a:af)(s:ah):ai:=bG [a] 0 .e fun ap=>aJ Z Q7 ap s (br Z aeN)
def afv:fJ:=gf (aJ Z Rc) (br Z Gw)
def SU:fJ:=dN 0 (afv Z)
def xb:gd:=eC 222
def afw:fJ:=eI xb (Z.cO (aJ Z Gv) xb) (SU Z)
def SV:gd:=eC 3218
def Zo:ai:=Z.aL xb Q8 (dp (bu b) a (a8 (bu c) .e)) s (afw Z)
def pa:ai:=Z.aL SV Q9 (dp .e a (a8 (dp .e b (bu c)) .e)) s (br Z Gw)
def pb:ai:=Z.aL SV Ra (dp .e a (a8 (dp .e b (bu c)) .e)) s (br Z Gw)
def vA:ai:=Z.aL xb Rb (dp (bu b) a (a8 (bu c) .e)) s (br Z Gw)
def LA:ai:=Z.cO (aJ Z Gv) xb (dp (bu b) a (a8 (bu c) .e)) s (SU Z)
def f97(a b:af)(s:ah):ai:=bG [a,b] 0 .e fun ap=>aJ Z Rd ap s (br Z Gw)
def BB:gd:=eC 50
def sU:ai:=Z.aL BB JS (dp .e a (bu b)) s (br Z zE)
def sV:ai:=Z.aL BB JT (dp .e a (bu b)) s (br Z zE)
def xc:ai:=Z.aL BB JU (dp .e a (bu b)) s (br Z zE)
def f112(a:af)(s:ah):ai:=bG [a] 0 .e fun ap=>aJ Z JV ap s (br Z zE)
def f120(a:af)(s:ah):ai:=bG [a] 0 .e fun ap=>aJ Z Ka ap s (br Z Sf)
def DM:ai:=Z.aL .e Kb .e s (br Z Kd)
def f121(a:af)(s:ah):ai:=bG [a] 0 .e fun ap=>aJ Z Kc ap s (br Z Kd)
def afx:fJ:=gf (aJ Z Jm) (br Z AV)
def SW:fJ:=dN 0 (afx Z)
def xd:gd:=eC 0x335cda
def Gz:fJ:=eI xd (Z.cO (aJ Z AU) xd) (SW Z)
def afy:fJ:=gf (aJ Z Jj) (Gz Z)
def rA:fJ:=dN 1 (afy Z)
def afz:gd:=eC 0xe3538da
def Zp:fJ:=gf (aJ Z Jg) (rA Z)
def LB:fJ:=dN 2 (Zp Z)
def sW:gd:=eC 0x3e0e5fb39a
def LC:fJ:=eI sW (Z.cO (aJ Z Gh) sW) (LB Z)
def BC:gd:=eC 0xe35f839a
def Zq:fJ:=gf (aJ Z Je) (rA Z)
def LD:fJ:=dN 4 (Zq Z)
def sX:gd:=eC 0xe35ce839a
def LF:fJ:=eI sX (Z.cO (aJ Z AT) sX) (LD Z)
def Zr:gd:=eC 0x3635cda
def Zs:gd:=eC 197
def LG:ai:=Z.aL sW O2 (dp (dp (a8 (dp (bu p) e .e) (bu j)) b (dp (bu g) c (bu m))) a (a8 (a8 (dp (bu q) f .e) .e) (dp (bu i) d (bu o)))) s (LC Z)
def LH:ai:=Z.aL sW O3 (dp (dp (a8 (dp (bu p) e .e) (bu j)) b (dp (bu g) c (bu m))) a (a8 (a8 (dp (bu q) f .e) .e) (dp (bu i) d (bu o)))) s (LC Z)
def xe:ai:=Z.aL sX O4 (dp (dp (a8 (dp (bu m) e .e) .e) b (dp (dp (bu o) g .e) c (bu j))) a (a8 (a8 (bu f) .e) (dp (bu i) d .e))) s (LF Z)
def LI:ai:=Z.aL sX O5 (dp (dp (a8 (dp (bu m) e .e) .e) b (dp (dp (bu o) g .e) c (bu j))) a (a8 (a8 (bu f) .e) (dp (bu i) d .e))) s (LF Z)
def qb:ai:=Z.aL xd Ji (dp (dp (a8 (bu e) .e) b (bu c)) a (a8 (a8 (bu f) .e) (bu d))) s (Gz Z)
def oG:ai:=Z.aL Zr Jb (dp (dp (a8 (bu e) .e) b (bu c)) a (a8 (a8 (bu f) .e) (dp (a8 (bu g) .e) d .e))) s (rA Z)
def qc:ai:=Z.aL BC Jc (dp (dp (a8 (dp (bu m) e .e) .e) b (dp (bu g) c (bu j))) a (a8 (a8 (bu f) .e) (dp (bu i) d .e))) s (rA Z)
def sY:ai:=Z.aL BC Jd (dp (dp (a8 (dp (bu m) e .e) .e) b (dp (bu g) c (bu j))) a (a8 (a8 (bu f) .e) (dp (bu i) d .e))) s (rA Z)
def vB:ai:=Z.cO (aJ Z AT) sX (dp (dp (a8 (dp (bu m) e .e) .e) b (dp (dp (bu o) g .e) c (bu j))) a (a8 (a8 (bu f) .e) (dp (bu i) d .e))) s (LD Z)
def BD:ai:=Z.aL BC Jf (dp (dp (a8 (dp (bu m) e .e) .e) b (dp (bu g) c (bu j))) a (a8 (a8 (bu f) .e) (dp (bu i) d .e))) s (rA Z)
def vC:ai:=Z.cO (aJ Z Gh) sW (dp (dp (a8 (dp (bu p) e .e) (bu j)) b (dp (bu g) c (bu m))) a (a8 (a8 (dp (bu q) f .e) .e) (dp (bu i) d (bu o)))) s (LB Z)
def sZ:ai:=Z.aL afz Jh (dp (dp (a8 (bu e) .e) b (dp (bu g) c .e)) a (a8 (a8 (bu f) .e) (dp (bu i) d .e))) s (rA Z)
def LJ:ai:=Z.aL xd Jk (dp (dp (a8 (bu e) .e) b (bu c)) a (a8 (a8 (bu f) .e) (bu d))) s (Gz Z)
def DN:ai:=Z.aL Zs Jl (a8 (a8 .e (bu a)) .e) s (br Z AV)
def k8:ai:=Z.cO (aJ Z AU) xd (dp (dp (a8 (bu e) .e) b (bu c)) a (a8 (a8 (bu f) .e) (bu d))) s (SW Z)
def f10(a b:af)(s:ah):ai:=bG [a,b] 0 .e fun ap=>aJ Z O6 ap s (br Z AV)
def afA:gd:=eC 14
def BE:ai:=Z.aL afA Ph (dp (bu b) a .e) s (br Z tR)
def f14(a b:af)(s:ah):ai:=bG [a,b] 0 .e fun ap=>aJ Z Pj ap s (br Z tR)
def afB:fJ:=gf (aJ Z PN) (br Z MZ)
def SX:fJ:=dN 0 (afB Z)
def xf:gd:=eC 0x360da
def SY:fJ:=eI xf (Z.cO (aJ Z Gl) xf) (SX Z)
def SZ:gd:=eC 12501
def s0:ai:=Z.aL xf PJ (dp (dp (a8 (bu d) .e) b .e) a (dp (a8 (bu e) .e) c .e)) s (SY Z)
def LK:ai:=Z.aL xf PK (dp (dp (a8 (bu d) .e) b .e) a (dp (a8 (bu e) .e) c .e)) s (SY Z)
def LL:ai:=Z.aL SZ PL (a8 (a8 (a8 (bu b) .e) .e) (bu a)) s (br Z MZ)
def BF:ai:=Z.aL SZ PM (a8 (a8 (a8 (bu b) .e) .e) (bu a)) s (br Z MZ)
def vD:ai:=Z.cO (aJ Z Gl) xf (dp (dp (a8 (bu d) .e) b .e) a (dp (a8 (bu e) .e) c .e)) s (SX Z)
def f35(a b c:af)(s:ah):ai:=bG [a,b,c] 0 .e fun ap=>aJ Z PO ap s (br Z MZ)
def f36(a:af)(s:ah):ai:=bG [a] 0 .e fun ap=>aJ Z PP ap s (br Z ac7)
def f41(a:af)(s:ah):ai:=bG [a] 0 .e fun ap=>aJ Z P3 ap s (br Z adg)
def afC:gd:=eC 3
def LM:ai:=Z.aL afC Qx (bu a) s (br Z M1)
def f70(a:af)(s:ah):ai:=bG [a] 0 .e fun ap=>aJ Z Qy ap s (br Z M1)
def f67(a:af)(s:ah):ai:=bG [a] 0 .e fun ap=>aJ Z Qv ap s (br Z adF)
def f38(a:af)(s:ah):ai:=bG [a] 0 .e fun ap=>aJ Z PT ap s (br Z ada)
def f39(a b:af)(s:ah):ai:=bG [a,b] 0 .e fun ap=>aJ Z PU ap s (br Z adb)
def afD:fJ:=gf (aJ Z P0) (br Z P2)
def S0:fJ:=dN 0 (afD Z)
def xg:gd:=eC 0xd13b6
def GA:fJ:=eI xg (Z.cO (aJ Z Gm) xg) (S0 Z)
def afE:fJ:=gf (aJ Z PX) (GA Z)
def afF:fJ:=dN 1 (afE Z)
def BG:fJ:=dN 2 (afF Z)
def afG:gd:=eC 0xe138366
def Zt:gd:=eC 197
def vE:ai:=Z.aL xg PW (dp (a8 (bu b) (dp (bu d) c .e)) a (a8 .e (a8 (bu e) .e))) s (GA Z)
def LN:ai:=Z.aL Zt PZ (a8 (a8 .e (bu a)) .e) s (br Z P2)
def LO:ai:=Z.aL afG PV (dp (a8 (dp (a8 (bu g) .e) b .e) (dp (bu e) c .e)) a (a8 .e (dp (bu f) d .e))) s (BG Z)
def LP:ai:=Z.aL xg PY (dp (a8 (bu b) (dp (bu d) c .e)) a (a8 .e (a8 (bu e) .e))) s (GA Z)
def vF:ai:=Z.cO (aJ Z Gm) xg (dp (a8 (bu b) (dp (bu d) c .e)) a (a8 .e (a8 (bu e) .e))) s (S0 Z)
def f40(a b:af)(s:ah):ai:=bG [a,b] 0 .e fun ap=>aJ Z P1 ap s (br Z P2)
def LQ:fJ:=dN 0 (br Z JN)
def s3:gd:=eC 814
def BH:fJ:=eI s3 (Z.cO (aJ Z wY) s3) (LQ Z)
def Zu:fJ:=gf (aJ Z JK) (BH Z)
def Zv:fJ:=dN 1 (Zu Z)
def LR:fJ:=dN 2 (Zv Z)
def s4:gd:=eC 0x320da
def LS:fJ:=eI s4 (Z.cO (aJ Z Bc) s4) (LR Z)
def DO:ai:=Z.aL s4 JH (dp (dp (a8 (bu e) .e) b .e) a (dp .e c (bu d))) s (LS Z)
def xh:ai:=Z.aL s4 JI (dp (dp (a8 (bu e) .e) b .e) a (dp .e c (bu d))) s (LS Z)
def DP:ai:=Z.aL s3 JJ (dp (bu b) a (dp .e c (bu d))) s (BH Z)
def qd:ai:=Z.cO (aJ Z Bc) s4 (dp (dp (a8 (bu e) .e) b .e) a (dp .e c (bu d))) s (LR Z)
def DQ:ai:=Z.aL s3 JL (dp (bu b) a (dp .e c (bu d))) s (BH Z)
def qe:ai:=Z.cO (aJ Z wY) s3 (dp (bu b) a (dp .e c (bu d))) s (LQ Z)
def f102(a b c:af)(s:ah):ai:=bG [a,b,c] 0 .e fun ap=>aJ Z JM ap s (br Z JN)
def f68(a:af)(s:ah):ai:=bG [a] 0 .e fun ap=>aJ Z Qw ap s (br Z adG)
def afH:fJ:=gf (aJ Z QP) (br Z QR)
def GB:fJ:=dN 0 (afH Z)
def afI:gd:=eC 801
def afJ:gd:=eC 49
def LU:ai:=Z.aL afJ QO (a8 .e (bu a)) s (br Z QR)
def LV:ai:=Z.aL afI QN (a8 .e (dp .e a (bu b))) s (GB Z)
def f84(a b:af)(s:ah):ai:=bG [a,b] 0 .e fun ap=>aJ Z QQ ap s (br Z QR)
def afK:gd:=eC 3
def LW:ai:=Z.aL afK QT (bu a) s (br Z UR)
def f86(a:af)(s:ah):ai:=bG [a] 0 .e fun ap=>aJ Z QU ap s (br Z UR)
def f108(a b:af)(s:ah):ai:=bG [a,b] 0 .e fun ap=>aJ Z JO ap s (br Z RH)
def f132(a:af)(s:ah):ai:=bG [a] 0 .e fun ap=>aJ Z Ke ap s (br Z Sg)
def S1:fJ:=dN 0 (br Z UQ)
def GC:gd:=eC 0x3637a
def afL:fJ:=eI GC (Z.cO (aJ Z Ba) GC) (S1 Z)
def afM:fJ:=dN 1 (afL Z)
def afN:gd:=eC 0xd3637a
def Zw:ai:=Z.aL afN JD (dp (dp (bu d) b (a8 (bu f) .e)) a (dp (a8 (bu e) .e) c (a8 (bu g) .e))) s (afM Z)
def LX:ai:=Z.cO (aJ Z Ba) GC (dp (dp (bu d) b (a8 (bu f) .e)) a (dp (a8 (bu e) .e) c .e)) s (S1 Z)
def f85(a b c d:af)(s:ah):ai:=bG [a,b,c,d] 0 .e fun ap=>aJ Z QS ap s (br Z UQ)
def afO:gd:=eC 14
def LY:ai:=Z.aL afO O7 (dp (bu b) a .e) s (br Z UB)
def f11(a b:af)(s:ah):ai:=bG [a,b] 0 .e fun ap=>aJ Z O8 ap s (br Z UB)
def afP:fJ:=gf (aJ Z Pc) (br Z Pe)
def S2:fJ:=dN 0 (afP Z)
def xi:gd:=eC 202
def S3:fJ:=eI xi (Z.cO (aJ Z Gi) xi) (S2 Z)
def LZ:ai:=Z.aL xi O9 (dp (dp .e b (bu c)) a .e) s (S3 Z)
def L0:ai:=Z.aL xi Pa (dp (dp .e b (bu c)) a .e) s (S3 Z)
def L1:ai:=Z.aL .e Pb .e s (br Z Pe)
def vG:ai:=Z.cO (aJ Z Gi) xi (dp (dp .e b (bu c)) a .e) s (S2 Z)
def f12(a b:af)(s:ah):ai:=bG [a,b] 0 .e fun ap=>aJ Z Pd ap s (br Z Pe)
def afQ:gd:=eC 14
def L2:ai:=Z.aL afQ Pf (dp (bu b) a .e) s (br Z UC)
def f13(a b:af)(s:ah):ai:=bG [a,b] 0 .e fun ap=>aJ Z Pg ap s (br Z UC)
def afR:gd:=eC 14
def afS:fJ:=gf (aJ Z Jw) (br Z CU)
def S4:fJ:=dN 0 (afS Z)
def xj:gd:=eC 0x31135c440d56
def S5:fJ:=eI xj (Z.cO (aJ Z Gj) xj) (S4 Z)
def Zx:gd:=eC 850
def Zy:fJ:=gf (aJ Z Ju) (br Z CU)
def L3:fJ:=dN 2 (Zy Z)
def s5:gd:=eC 0x351cd25c73455
def BI:fJ:=eI s5 (Z.cO (aJ Z AX) s5) (L3 Z)
def Zz:fJ:=gf (aJ Z Jr) (BI Z)
def BJ:fJ:=dN 3 (Zz Z)
def ZA:gd:=eC 0x361cd25c73755
def ZB:fJ:=gf (aJ Z Jo) (BJ Z)
def L4:fJ:=dN 4 (ZB Z)
def s6:gd:=eC 0x36c45cde5f117123755
def L5:fJ:=eI s6 (Z.cO (aJ Z AW) s6) (L4 Z)
def ZC:gd:=eC 0x361cde5c73755
def ZD:gd:=eC 0xc5315
def L6:ai:=Z.aL xj Pk (dp (a8 (a8 (a8 (a8 (bu e) .e) .e) .e) (a8 .e (a8 .e (bu c)))) a (a8 (a8 (bu b) .e) (a8 .e (a8 .e (bu d))))) s (S5 Z)
def L7:ai:=Z.aL xj Pl (dp (a8 (a8 (a8 (a8 (bu e) .e) .e) .e) (a8 .e (a8 .e (bu c)))) a (a8 (a8 (bu b) .e) (a8 .e (a8 .e (bu d))))) s (S5 Z)
def s7:ai:=Z.aL s5 Jq (a8 (a8 (a8 (a8 .e (a8 (bu f) .e)) (bu b)) (a8 .e (bu d))) (a8 (a8 (dp .e a (a8 (bu g) .e)) (bu c)) (a8 .e (a8 (a8 (bu e) .e) .e)))) s (BI Z)
def DR:ai:=Z.aL s6 Pm (a8 (a8 (a8 (a8 (bu f) (a8 (bu j) .e)) (dp .e b (a8 .e (bu q)))) (a8 (a8 .e (a8 .e (bu o))) (bu d))) (a8 (a8 (dp (bu g) a (a8 (bu m) .e)) (bu c)) (a8 (a8 .e (a8 .e (bu p))) (dp (a8 (bu i) .e) e .e)))) s (L5 Z)
def DS:ai:=Z.aL s6 Pn (a8 (a8 (a8 (a8 (bu f) (a8 (bu j) .e)) (dp .e b (a8 .e (bu q)))) (a8 (a8 .e (a8 .e (bu o))) (bu d))) (a8 (a8 (dp (bu g) a (a8 (bu m) .e)) (bu c)) (a8 (a8 .e (a8 .e (bu p))) (dp (a8 (bu i) .e) e .e)))) s (L5 Z)
def s8:ai:=Z.aL ZC Jn (a8 (a8 (a8 (a8 (bu f) (a8 (bu j) .e)) (bu b)) (a8 .e (bu d))) (a8 (a8 (dp (bu g) a (a8 (bu m) .e)) (bu c)) (a8 .e (dp (a8 (bu i) .e) e .e)))) s (BJ Z)
def s9:ai:=Z.cO (aJ Z AW) s6 (a8 (a8 (a8 (a8 (bu f) (a8 (bu j) .e)) (dp .e b (a8 .e (bu q)))) (a8 (a8 .e (a8 .e (bu o))) (bu d))) (a8 (a8 (dp (bu g) a (a8 (bu m) .e)) (bu c)) (a8 (a8 .e (a8 .e (bu p))) (dp (a8 (bu i) .e) e .e)))) s (L4 Z)
def BK:ai:=Z.aL ZA Jp (a8 (a8 (a8 (a8 (bu f) (a8 (bu i) .e)) (bu b)) (a8 .e (bu d))) (a8 (a8 (dp .e a (a8 (bu j) .e)) (bu c)) (a8 .e (dp (a8 (bu g) .e) e .e)))) s (BJ Z)
def L8:ai:=Z.aL s5 Js (a8 (a8 (a8 (a8 .e (a8 (bu f) .e)) (bu b)) (a8 .e (bu d))) (a8 (a8 (dp .e a (a8 (bu g) .e)) (bu c)) (a8 .e (a8 (a8 (bu e) .e) .e)))) s (BI Z)
def DT:ai:=Z.aL ZD Jt (a8 (a8 (a8 .e (bu a)) .e) (a8 (a8 .e (bu b)) .e)) s (br Z CU)
def pc:ai:=Z.cO (aJ Z AX) s5 (a8 (a8 (a8 (a8 .e (a8 (bu f) .e)) (bu b)) (a8 .e (bu d))) (a8 (a8 (dp .e a (a8 (bu g) .e)) (bu c)) (a8 .e (a8 (a8 (bu e) .e) .e)))) s (L3 Z)
def BL:ai:=Z.aL Zx Jv (dp .e a (a8 (a8 (bu b) .e) .e)) s (br Z CU)
def vH:ai:=Z.cO (aJ Z Gj) xj (dp (a8 (a8 (a8 (a8 (bu e) .e) .e) .e) (a8 .e (a8 .e (bu c)))) a (a8 (a8 (bu b) .e) (a8 .e (a8 .e (bu d))))) s (S4 Z)
def L9:ai:=Z.aL afR Jx (dp (bu b) a .e) s (br Z CU)
def f15(a b:af)(s:ah):ai:=bG [a,b] 0 .e fun ap=>aJ Z Po ap s (br Z CU)
def ahh:gd:=eC 14
def ahi:gd:=eC 201
def ahj:gd:=eC 0x335389
def ahk:fJ:=gf (aJ Z OY) (br Z ls)
def abn:fJ:=dN 0 (ahk Z)
def xk:gd:=eC 0x3353b19
def GD:fJ:=eI xk (Z.cO (aJ Z Gg) xk) (abn Z)
def afT:fJ:=gf (aJ Z OV) (GD Z)
def BM:fJ:=dN 1 (afT Z)
def afU:gd:=eC 0x335fb359
def S6:fJ:=dN 2 (BM Z)
def xl:gd:=eC 0x335ceb359
def S7:fJ:=eI xl (Z.cO (aJ Z OS) xl) (S6 Z)
def Ma:ai:=Z.aL xl abi (a8 (dp (a8 (a8 (bu i) .e) (bu f)) a (dp (dp (bu j) e .e) b (bu g))) (a8 (a8 (bu d) .e) (bu c))) s (S7 Z)
def Mb:ai:=Z.aL xl abj (a8 (dp (a8 (a8 (bu i) .e) (bu f)) a (dp (dp (bu j) e .e) b (bu g))) (a8 (a8 (bu d) .e) (bu c))) s (S7 Z)
def vI:ai:=Z.aL xk OU (a8 (dp (a8 .e (bu f)) a (dp (bu e) b .e)) (a8 (a8 (bu d) .e) (bu c))) s (GD Z)
def BN:ai:=Z.cO (aJ Z OS) xl (a8 (dp (a8 (a8 (bu i) .e) (bu f)) a (dp (dp (bu j) e .e) b (bu g))) (a8 (a8 (bu d) .e) (bu c))) s (S6 Z)
def S8:ai:=Z.aL afU abk (a8 (dp (a8 (a8 (bu i) .e) (bu f)) a (dp (bu e) b (bu g))) (a8 (a8 (bu d) .e) (bu c))) s (BM Z)
def BO:ai:=Z.aL xk abl (a8 (dp (a8 .e (bu f)) a (dp (bu e) b .e)) (a8 (a8 (bu d) .e) (bu c))) s (BM Z)
def BP:ai:=Z.aL xk OT (a8 (dp (a8 .e (bu f)) a (dp (bu e) b .e)) (a8 (a8 (bu d) .e) (bu c))) s (BM Z)
def GF:ai:=Z.aL xk OW (a8 (dp (a8 .e (bu f)) a (dp (bu e) b .e)) (a8 (a8 (bu d) .e) (bu c))) s (GD Z)
def Mc:ai:=Z.aL .e OX .e s (br Z ls)
def BQ:ai:=Z.cO (aJ Z Gg) xk (a8 (dp (a8 .e (bu f)) a (dp (bu e) b .e)) (a8 (a8 (bu d) .e) (bu c))) s (abn Z)
def S9:ai:=Z.aL ahj OZ (a8 (dp .e a (dp (bu e) b .e)) (a8 (a8 (bu d) .e) (bu c))) s (br Z ls)
def GG:ai:=Z.aL ahi O0 (a8 (dp .e a (bu b)) .e) s (br Z ls)
def Ta:ai:=Z.aL ahh O1 (dp (bu b) a .e) s (br Z ls)
def f4(a b:af)(s:ah):ai:=bG [a,b] 0 .e fun ap=>aJ Z abm ap s (br Z ls)
end
variable{a b c d e f g i j m o p q r t u w x y z A B C D E F H I J K L M N O P Q R S T U V:af}{s:ah}
section
variable{Z}[h:Inhabited Z.qv]
include h
theorem DU:Dd Z s=Z.aW false [some (.int .i64 1)] s:=h.1.fA
theorem DV:De Z s=Z.aW false [some (.int .i64 1)] s:=h.1.fA
theorem DW:Df Z a b c d s=Z.aj s (fun e s=>sE Z a b c e s) (al .add d (.int .i64 1)):=h.1.fA
theorem DX:Dg Z a b e d s=Z.cg s (fun f s=>Z.aj s (fun g s=>Z.aj s (fun c s=>Z.bV s (fun i s=>Z.aq s (fun j s=>Z.bV s (fun m s=>Z.aq s (fun o s=>Z.aj s (fun p s=>Z.aO p (Z.bV s (fun q s=>Z.aq s (fun r s=>Z.bV s (fun t s=>Z.aq s (fun u s=>Z.aj s (fun w s=>Z.aO w (Z.aW false [some (.int .i64 (-1))] s) (De Z s)) (al .lss r u)) none t) 1 b c) none q) 1 a c) (Df Z a b e d s)) (al .neq j o)) none m) 1 b c) none i) 1 a c) (al .sub g d)) (al .sub f (.int .i64 1))) false a:=h.1.fA
theorem DY:Dh Z s=Z.aW false [some (.int .i64 0)] s:=h.1.fA
theorem uG:sE Z c d a b s=Z.aj s (fun e s=>Z.aO e (Dg Z c d a b s) (Dh Z s)) (al .lss b a):=h.1.q3
theorem DZ:Di Z a b s=Z.cg s (fun c s=>sE Z a b c (.int .i64 0) s) false a:=h.1.fA
theorem D0:Dj Z a b c d e f s=Z.aj s (fun g s=>sG Z a b c d e g s) (al .add f (.int .i64 1)):=h.1.fA
theorem D1:Dk Z a b c e f d s=Z.cg s (fun j s=>Z.aj s (fun m s=>Z.aj s (fun g s=>Z.aj s (fun o s=>Z.bV s (fun p s=>Z.aq s (fun q s=>Z.b6 s (fun r s=>Z.aj s (fun i s=>Z.b6 s (fun t s=>Z.aj s (fun u s=>Z.b6 s (fun w s=>Z.bV s (fun x s=>Z.bm s (fun A s=>Z.b6 s (fun y s=>Z.aj s (fun z s=>Dj Z a b c z f d s) (al .rem i y)) .u64 b) 1 x (af.ao s.aa w)) 1 c g) .u32 u) (al .quo i t)) .u64 b) (al .or o r)) .u64 q) none p) 1 a g) (al .shl e (.int .u64 32))) (al .sub m d)) (al .sub j (.int .i64 1))) false a:=h.1.fA
theorem D2:Dl Z a b s=Z.bj s (fun c s=>Z.b6 s (fun d s=>Z.aW false [some c,some d] s) .u32 b) 135 [(af.ao s.aa a)]:=h.1.fA
theorem uH:sG Z e f a b c d s=Z.aj s (fun g s=>Z.aO g (Dk Z e f a b c d s) (Dl Z a b s)) (al .lss d c):=h.1.q3
theorem D3:Dm Z a b s=Z.aj s (fun c s=>sI Z a c s) (al .sub b (.int .i64 1)):=h.1.fA
theorem D4:w2 Z a b s=Z.l2 1 a none (some b) none s (fun c s=>Z.aW false [some c] s):=h.1.fA
theorem uI:sI Z c b s=Z.aj s (fun a s=>Z.ae a true (fun k=>k c s) s (fun d s=>Z.ae a true (fun k=>k b s) s (fun e s=>Z.ae a true (fun k=>Z.aj s k (al .sub e (.int .i64 1))) s (fun f s=>Z.ae a true (fun k=>Z.bV s k 1 d f) s (fun g s=>Z.ae a true (fun k=>Z.aq s k none g) s (fun i s=>Z.ae a true (fun k=>Z.aj s k (al .eql i (.int .u32 0))) s (fun j s=>Z.bs s (fun m s=>Z.aO m (Dm Z c b s) (w2 Z c b s)) a j (.bool false)))))))) (al .gtr b (.int .i64 0)):=h.1.q3
theorem D5:Dn Z a b c d e s=Z.aj s (fun f s=>sK Z a b c d f s) (al .add e (.int .i64 1)):=h.1.fA
theorem D6:Dp Z d a b e c s=Z.bV s (fun i s=>Z.aq s (fun j s=>Z.b6 s (fun m s=>Z.aj s (fun o s=>Z.aj s (fun f s=>Z.aj s (fun p s=>Z.aj s (fun g s=>Z.bV s (fun q s=>Z.aq s (fun r s=>Z.b6 s (fun t s=>Z.aj s (fun u s=>Z.bV s (fun w s=>Z.bm s (fun F s=>Z.aj s (fun x s=>Z.aj s (fun y s=>Z.aj s (fun z s=>Z.aj s (fun A s=>Z.b6 s (fun B s=>Z.bV s (fun C s=>Z.bm s (fun F s=>Dn Z d a b e c s) 1 C (af.ao s.aa B)) 1 b z) .u32 A) (al .shr f (.int .u64 32))) (al .add y (.int .i64 1))) (al .add c x)) (al .quo a (.int .i64 32))) 1 w (af.ao s.aa u)) 1 b g) (al .or r t)) .u32 f) none q) 1 b g) (al .add c p)) (al .quo a (.int .i64 32))) (al .shl m o)) (al .rem a (.int .i64 32))) .u64 j) none i) 1 d c:=h.1.fA
theorem D7:Dq Z a s=Z.bj s (fun b s=>Z.aW false [some b] s) 135 [(af.ao s.aa a)]:=h.1.fA
theorem uJ:sK Z d e a b c s=Z.aj s (fun f s=>Z.aO f (Dp Z d e a b c s) (Dq Z a s)) (al .lss c b):=h.1.q3
theorem D8:Dt Z a b c d e f g i s=Z.aj s (fun j s=>p8 Z a b c d e f g j s) (al .add i (.int .i64 1)):=h.1.fA
theorem D9:Du Z b c d e f g i a s=Z.bV s (fun o s=>Z.aq s (fun p s=>Z.b6 s (fun q s=>Z.aj s (fun r s=>Z.aj s (fun j s=>Z.aj s (fun t s=>Z.aj s (fun u s=>Z.bV s (fun w s=>Z.aq s (fun x s=>Z.b6 s (fun y s=>Z.aj s (fun z s=>Z.aj s (fun A s=>Z.aj s (fun m s=>Z.aj s (fun B s=>Z.b6 s (fun C s=>Z.bV s (fun D s=>Z.bm s (fun F s=>Z.aj s (fun E s=>Dt Z b c d e t E i a s) (al .shr m (.int .u64 63))) 1 D (af.ao s.aa C)) 1 b B) .u32 m) (al .add c a)) (al .sub A g)) (al .sub y z)) (al .and j (.int .u64 4294967295))) .u64 x) none w) 1 b u) (al .add c a)) (al .shr j (.int .u64 32))) (al .add r f)) (al .mul e q)) .u64 p) none o) 1 d a:=h.1.fA
theorem Ea:Dv Z a b c d e f g s=Z.aj s (fun i s=>sM Z a b c d e f i s) (al .add g (.int .i64 1)):=h.1.fA
theorem Eb:Dw Z b c d e f g a s=Z.aj s (fun j s=>Z.bV s (fun m s=>Z.aq s (fun o s=>Z.b6 s (fun p s=>Z.bV s (fun q s=>Z.aq s (fun r s=>Z.b6 s (fun t s=>Z.aj s (fun u s=>Z.aj s (fun i s=>Z.aj s (fun w s=>Z.b6 s (fun x s=>Z.bV s (fun y s=>Z.bm s (fun A s=>Z.aj s (fun z s=>Dv Z b c d e z g a s) (al .shr i (.int .u64 32))) 1 y (af.ao s.aa x)) 1 b w) .u32 i) (al .add c a)) (al .add u f)) (al .add p t)) .u64 r) none q) 1 d a) .u64 o) none m) 1 b j) (al .add c a):=h.1.fA
theorem Ec:Dx Z a b c d e s=Z.cg s (fun g s=>Z.aj s (fun f s=>Z.bV s (fun i s=>Z.aq s (fun j s=>Z.b6 s (fun m s=>Z.aj s (fun o s=>Z.bV s (fun p s=>Z.bm s (fun u s=>Z.aj s (fun q s=>Z.b6 s (fun r s=>Z.aW false [some r] s) .u32 q) (al .sub d (.int .u64 1))) 1 p (af.ao s.aa o)) 1 a f) (al .add j m)) .u32 e) none i) 1 a f) (al .add b g)) false c:=h.1.fA
theorem uK:sM Z a b c d e f g s=Z.aj s (fun i s=>Z.aO i (Dw Z a b c d e f g s) (Dx Z a b c d e s)) (al .lss g f):=h.1.q3
theorem Ed:w3 Z b c a d s=Z.cg s (fun e s=>sM Z b c a d (.int .u64 0) e (.int .i64 0) s) false a:=h.1.fA
theorem Ee:Dy Z a b c d e f s=Z.cg s (fun i s=>Z.aj s (fun j s=>Z.bV s (fun m s=>Z.aq s (fun o s=>Z.b6 s (fun p s=>Z.aj s (fun q s=>Z.aj s (fun g s=>Z.cg s (fun r s=>Z.aj s (fun t s=>Z.b6 s (fun u s=>Z.bV s (fun w s=>Z.bm s (fun A s=>Z.aj s (fun x s=>Z.aj s (fun y s=>Z.aO y (Z.b6 s (fun z s=>Z.aW false [some z] s) .u32 d) (w3 Z a b c d s)) (al .eql x (.int .u64 0))) (al .shr g (.int .u64 63))) 1 w (af.ao s.aa u)) 1 a t) .u32 g) (al .add b r)) false c) (al .sub q f)) (al .sub p e)) .u64 o) none m) 1 a j) (al .add b i)) false c:=h.1.fA
theorem uL:p8 Z a b c d e f g i s=Z.aj s (fun j s=>Z.aO j (Du Z a b c d e f g i s) (Dy Z a b c d e f s)) (al .lss i g):=h.1.q3
theorem uM:w4 Z a s=Z.aW false [some a] s:=h.1.fA
theorem Ef:w5 Z c d a b e f s=Z.aj s (fun g s=>Z.aj s (fun j s=>Z.bV s (fun m s=>Z.aq s (fun o s=>Z.b6 s (fun p s=>Z.aj s (fun i s=>Z.aj s (fun q s=>Z.aO q (w4 Z g s) (sN Z c d a b g i s)) (al .geq i (.int .u64 4294967296))) (al .add f p)) .u64 o) none m) 1 a j) (al .sub b (.int .i64 1))) (al .sub e (.int .u64 1)):=h.1.fA
theorem Eg:sN Z d e f c b g s=Z.aj s (fun a s=>Z.ae a false (fun k=>k b s) s (fun i s=>Z.ae a false (fun k=>k f s) s (fun j s=>Z.ae a false (fun k=>k c s) s (fun m s=>Z.ae a false (fun k=>Z.aj s k (al .sub m (.int .i64 2))) s (fun o s=>Z.ae a false (fun k=>Z.bV s k 1 j o) s (fun p s=>Z.ae a false (fun k=>Z.aq s k none p) s (fun q s=>Z.ae a false (fun k=>Z.b6 s k .u64 q) s (fun r s=>Z.ae a false (fun k=>Z.aj s k (al .mul i r)) s (fun t s=>Z.ae a false (fun k=>k g s) s (fun u s=>Z.ae a false (fun k=>Z.aj s k (al .shl u (.int .u64 32))) s (fun w s=>Z.ae a false (fun k=>k d s) s (fun x s=>Z.ae a false (fun k=>k e s) s (fun y s=>Z.ae a false (fun k=>k c s) s (fun z s=>Z.ae a false (fun k=>Z.aj s k (al .add y z)) s (fun A s=>Z.ae a false (fun k=>Z.aj s k (al .sub A (.int .i64 2))) s (fun B s=>Z.ae a false (fun k=>Z.bV s k 1 x B) s (fun C s=>Z.ae a false (fun k=>Z.aq s k none C) s (fun D s=>Z.ae a false (fun k=>Z.b6 s k .u64 D) s (fun E s=>Z.ae a false (fun k=>Z.aj s k (al .or w E)) s (fun F s=>Z.ae a false (fun k=>Z.aj s k (al .gtr t F)) s (fun H s=>Z.bs s (fun I s=>Z.aO I (w5 Z d e f c b g s) (w4 Z b s)) a (.bool true) H))))))))))))))))))))) (al .geq b (.int .u64 4294967296)):=h.1.q3
theorem Eh:Dz Z a b c d e f g s=Z.aj s (fun i s=>p9 Z a b c d e f i s) (al .add g (.int .i64 1)):=h.1.fA
theorem Ei:sP Z c a d e b f g i j s=Z.aj s (fun m s=>Z.aj s (fun o s=>Z.b6 s (fun p s=>Z.bV s (fun q s=>Z.bm s (fun r s=>Dz Z c a d e b i j s) 1 q (af.ao s.aa p)) 1 b f) .u32 o) (al .shr g m)) (al .rem a (.int .i64 32)):=h.1.fA
theorem Ej:DA Z b d c e f g a s=Z.aj s (fun j s=>Z.bV s (fun m s=>Z.aq s (fun o s=>Z.b6 s (fun i s=>Z.aj s (fun p s=>Z.aj s (fun q s=>Z.cg s (fun r s=>Z.aj s (fun t s=>Z.aO t (Z.aj s (fun u s=>Z.aj s (fun w s=>Z.bV s (fun x s=>Z.aq s (fun y s=>Z.b6 s (fun z s=>Z.aj s (fun A s=>Z.aj s (fun B s=>sP Z b d c e f a B g a s) (al .or i A)) (al .shl z (.int .u64 32))) .u64 y) none x) 1 b w) (al .add u (.int .i64 1))) (al .add a c)) (sP Z b d c e f a i g a s)) (al .lss q r)) false b) (al .add p (.int .i64 1))) (al .add a c)) .u64 o) none m) 1 b j) (al .add a c):=h.1.fA
theorem Ek:DB Z a b s=Z.bj s (fun c s=>Z.aW false [some c,some a] s) 135 [(af.ao s.aa b)]:=h.1.fA
theorem uN:p9 Z e f g a b c d s=Z.aj s (fun i s=>Z.aO i (DA Z e f g a b c d s) (DB Z a b s)) (al .lss d c):=h.1.q3
theorem El:DC Z b d c s=Z.l2 1 b none (some c) none s (fun g s=>Z.bj s (fun i s=>Z.cg s (fun j s=>Z.aj s (fun a s=>Z.ae a false (fun k=>k b s) s (fun m s=>Z.ae a false (fun k=>k c s) s (fun o s=>Z.ae a false (fun k=>Z.bV s k 1 m o) s (fun p s=>Z.ae a false (fun k=>Z.aq s k none p) s (fun q s=>Z.ae a false (fun k=>k d s) s (fun r s=>Z.ae a false (fun k=>Z.aj s k (al .rem r (.int .i64 32))) s (fun t s=>Z.ae a false (fun k=>Z.aj s k (al .shl (.int .u32 1) t)) s (fun u s=>Z.ae a false (fun k=>Z.aj s k (al .sub u (.int .u32 1))) s (fun w s=>Z.ae a false (fun k=>Z.aj s k (al .and q w)) s (fun x s=>Z.ae a false (fun k=>Z.aj s k (al .neq x (.int .u32 0))) s (fun y s=>Z.bs s (fun z s=>Z.cg s (fun A s=>Z.aj s (fun e s=>Z.k4 s (fun f s=>Z.cg s (fun B s=>p9 Z b d c z f B (.int .i64 0) s) false f) [.int .u32 0] 4 e e) (al .sub A c)) false b) a (.bool true) y))))))))))) (al .gtr j (.int .i64 0))) false i) 135 [(af.ao s.aa g)]):=h.1.fA
theorem Em:qa Z a b s=Z.b6 s (fun c s=>Z.hS s (fun d s=>Z.b6 s (fun e s=>Z.aj s (fun f s=>Z.aW false [some f] s) (al .add b e)) .i64 d) (.str [0,1,2,2,3,3,3,3,4,4,4,4,4,4,4,4,5,5,5,5,5,5,5,5,5,5,5,5,5,5,5,5,6,6,6,6,6,6,6,6,6,6,6,6,6,6,6,6,6,6,6,6,6,6,6,6,6,6,6,6,6,6,6,6,7,7,7,7,7,7,7,7,7,7,7,7,7,7,7,7,7,7,7,7,7,7,7,7,7,7,7,7,7,7,7,7,7,7,7,7,7,7,7,7,7,7,7,7,7,7,7,7,7,7,7,7,7,7,7,7,7,7,7,7,7,7,7,7,8,8,8,8,8,8,8,8,8,8,8,8,8,8,8,8,8,8,8,8,8,8,8,8,8,8,8,8,8,8,8,8,8,8,8,8,8,8,8,8,8,8,8,8,8,8,8,8,8,8,8,8,8,8,8,8,8,8,8,8,8,8,8,8,8,8,8,8,8,8,8,8,8,8,8,8,8,8,8,8,8,8,8,8,8,8,8,8,8,8,8,8,8,8,8,8,8,8,8,8,8,8,8,8,8,8,8,8,8,8,8,8,8,8,8,8,8,8,8,8,8,8,8,8,8,8,8,8]) c) .u8 a:=h.1.fA
theorem En:oE Z a b s=Z.aj s (fun c s=>Z.aO c (Z.aj s (fun d s=>Z.aj s (fun e s=>qa Z d e s) (al .add b (.int .i64 8))) (al .shr a (.int .u64 8))) (qa Z a b s)) (al .geq a (.int .u32 256)):=h.1.fA
theorem xm:K1 Z c b s=Z.aj s (fun a s=>Z.ae a true (fun k=>Z.av s k 1 c) s (fun d s=>Z.ae a true (fun k=>Z.aq s k none d) s (fun e s=>Z.ae a true (fun k=>k b s) s (fun f s=>Z.ae a true (fun k=>Z.aj s k (al .sub f (.int .i64 1))) s (fun g s=>Z.ae a true (fun k=>Z.bV s k 1 e g) s (fun i s=>Z.ae a true (fun k=>Z.aq s k none i) s (fun j s=>Z.ae a true (fun k=>Z.aj s k (al .neq j (.int .u32 0))) s (fun m s=>Z.bs s (fun o s=>Z.aW false [some o] s) a m (.bool false))))))))) (al .leq b (.int .i64 128)):=h.1.fA
theorem GH:Bo Z b c a s=Z.bj s (fun d s=>Z.b1 s (fun f s=>Z.b1 s (fun e s=>vu Z b a e s) 1 d) 0 d) 114 [(af.ao s.aa c),(af.ao s.aa a)]:=h.1.fA
theorem GI:K3 Z b c a s=Z.aj s (fun d s=>vt Z b a d s) (al .rem c a):=h.1.fA
theorem GJ:K4 Z a b s=Z.b6 s (fun d s=>Z.aj s (fun e s=>Z.b6 s (fun f s=>Z.bf s (fun g s=>Z.bj s (fun c s=>Z.b1 s (fun i s=>Z.b1 s (fun j s=>Z.bm s (fun r s=>Z.aW false [k3 s a (some 2),some j] s) 2 a (af.ao s.aa i)) 1 c) 0 c) 115 [(af.ao s.aa (.bool false)),(af.ao s.aa g)]) 1 [d,f]) .u32 e) (al .shr b (.int .u64 32))) .u32 b:=h.1.fA
theorem GK:vt Z a b c s=Z.aj s (fun d s=>Z.aO d (K3 Z a b c s) (K4 Z a b s)) (al .gtr c (.int .u64 0)):=h.1.q3
theorem GL:K5 Z a b c s=Z.bj s (fun d s=>Z.bj s (fun e s=>vt Z a d e s) 116 [(af.ao s.aa c)]) 116 [(af.ao s.aa b)]:=h.1.fA
theorem xn:Bp Z a b c s=Z.cg s (fun e s=>Z.aj s (fun f s=>Z.aO f (Z.bj s (fun d s=>Z.b1 s (fun g s=>Z.b1 s (fun i s=>Z.bm s (fun r s=>Z.aW false [k3 s a (some 2),some i] s) 2 a (af.ao s.aa g)) 1 d) 0 d) 115 [(af.ao s.aa (.bool false)),(af.ao s.aa b)]) (K5 Z a b c s)) (al .gtr e (.int .i64 2))) false b:=h.1.fA
theorem pd:vu Z e c b s=Z.cg s (fun f s=>Z.aj s (fun a s=>Z.ae a true (fun k=>k c s) s (fun g s=>Z.ae a true (fun k=>Z.cg s k false g) s (fun i s=>Z.ae a true (fun k=>Z.aj s k (al .gtr i (.int .i64 2))) s (fun j s=>Z.ae a true (fun k=>k j s) s (fun d s=>Z.ae d false (fun k=>k b s) s (fun m s=>Z.ae d false (fun k=>Z.cg s k false m) s (fun o s=>Z.ae d false (fun k=>Z.aj s k (al .gtr o (.int .i64 2))) s (fun p s=>Z.ae a true (fun k=>Z.bs s k d (.bool true) p) s (fun q s=>Z.bs s (fun r s=>Z.aO r (Bo Z e c b s) (Bp Z e c b s)) a q (.bool false)))))))))) (al .gtr f (.int .i64 0))) false b:=h.1.q3
theorem GM:K6 Z a b c s=Z.av s (fun d s=>Z.aq s (fun e s=>Z.av s (fun f s=>Z.aq s (fun g s=>vu Z c e g s) none f) 1 b) none d) 1 a:=h.1.fA
theorem Eo:DD Z a b c d e f s=Z.aj s (fun g s=>sR Z a b c d e g s) (al .add f (.int .i64 1)):=h.1.fA
theorem Ep:DE Z f a b c g d s=Z.cg s (fun i s=>Z.aj s (fun j s=>Z.aj s (fun e s=>Z.bj s (fun m s=>Z.bj s (fun o s=>Z.bV s (fun p s=>Z.bm s (fun r s=>DD Z f a b c g d s) 1 p (af.ao s.aa o)) 1 c e) 138 [(af.ao s.aa b),(af.ao s.aa e),(af.ao s.aa a),(af.ao s.aa m)]) 139 [(af.ao s.aa b),(af.ao s.aa e),(af.ao s.aa a)]) (al .sub j d)) (al .sub i (.int .i64 1))) false c:=h.1.fA
theorem Er:DF Z a b c s=Z.bj s (fun e s=>Z.bj s (fun d s=>Z.b1 s (fun f s=>Z.b1 s (fun i s=>Z.bj s (fun g s=>Z.aW false [some g,some f] s) 135 [(af.ao s.aa c)]) 1 d) 0 d) 140 [(af.ao s.aa e),(af.ao s.aa a)]) 135 [(af.ao s.aa b)]:=h.1.fA
theorem uO:sR Z a f b c d e s=Z.aj s (fun g s=>Z.aO g (DE Z a f b c d e s) (DF Z a b c s)) (al .lss e d):=h.1.q3
theorem Es:DG Z b a s=Z.cg s (fun i s=>Z.aj s (fun j s=>Z.bV s (fun m s=>Z.aq s (fun o s=>Z.bj s (fun c s=>Z.bj s (fun p s=>Z.cg s (fun q s=>Z.aj s (fun d s=>Z.k4 s (fun e s=>Z.bj s (fun r s=>Z.su s (fun y s=>Z.cg s (fun t s=>Z.cg s (fun u s=>Z.aj s (fun w s=>Z.aj s (fun f s=>Z.k4 s (fun g s=>Z.cg s (fun x s=>sR Z c p e g x (.int .i64 0) s) false g) [.int .u32 0] 4 f f) (al .add w (.int .i64 1))) (al .sub t u)) false a) false b) 1 e r) 137 [(af.ao s.aa b),(af.ao s.aa c)]) [.int .u32 0] 4 d d) (al .add q (.int .i64 1))) false b) 137 [(af.ao s.aa a),(af.ao s.aa c)]) 136 [(af.ao s.aa o)]) none m) 1 a j) (al .sub i (.int .i64 1))) false a:=h.1.fA
theorem Et:DH Z b a s=Z.cg s (fun d s=>Z.aj s (fun e s=>Z.aO e (Z.bV s (fun f s=>Z.aq s (fun g s=>Z.bj s (fun c s=>Z.b1 s (fun i s=>Z.b1 s (fun j s=>Z.bf s (fun m s=>Z.bj s (fun o s=>Z.aW false [some i,some o] s) 135 [(af.ao s.aa m)]) 1 [j]) 1 c) 0 c) 134 [(af.ao s.aa b),(af.ao s.aa g)]) none f) 1 a (.int .i64 0)) (DG Z b a s)) (al .eql d (.int .i64 1))) false a:=h.1.fA
theorem Eu:DI Z a b c s=Z.cg s (fun d s=>Z.k4 s (fun e s=>Z.su s (fun o s=>Z.ae a true (fun k=>k b s) s (fun f s=>Z.ae a true (fun k=>Z.cg s k false f) s (fun g s=>Z.ae a true (fun k=>Z.aj s k (al .gtr g (.int .i64 0))) s (fun i s=>Z.bs s (fun j s=>Z.iJ [.bool false,.bx 1 [] .nil] [(0,1,j),(1,1,e)] s (fun m s=>Z.bm s (fun r s=>Z.aW false [k3 s c (some 2),some (.int .i64 0)] s) 2 c (af.ao s.aa m))) a i (.bool false))))) 1 e b) [.int .u32 0] 4 d d) false b:=h.1.fA
theorem Ev:DJ Z a b c d s=Z.aj s (fun e s=>oF Z a b c e s) (al .add d (.int .i64 1)):=h.1.fA
theorem Ew:DK Z b c d a s=Z.bV s (fun e s=>Z.aq s (fun f s=>Z.b6 s (fun g s=>Z.aj s (fun i s=>Z.aj s (fun j s=>Z.aj s (fun m s=>DJ Z b m d a s) (al .or c j)) (al .shl g i)) (al .mul (.int .i64 32) a)) .u64 f) none e) 1 b a:=h.1.fA
theorem Ex:DL Z a s=Z.aW false [some a] s:=h.1.fA
theorem uP:oF Z d a b c s=Z.aj s (fun e s=>Z.aO e (DK Z d a b c s) (DL Z a s)) (al .lss c b):=h.1.q3
theorem GN:Lc Z a s=Z.av s (fun d s=>Z.aq s (fun e s=>Z.av s (fun f s=>Z.aq s (fun g s=>Z.bj s (fun b s=>Z.b1 s (fun i s=>Z.b1 s (fun o s=>Z.hA (.ref (.l s.own.length) 0) (s.new (.cells [.bool false,.bx 1 [] .nil])) (fun c s=>Z.bm s (fun r s=>Z.aq s (fun j s=>Z.bj s (fun m s=>Z.aW false [some m] s) 89 [(af.ao s.aa j)]) (some 2) c) 2 c (af.ao s.aa i))) 1 b) 0 b) 90 [(af.ao s.aa e),(af.ao s.aa g)]) (some 2) f) 2 a) (some 2) d) 0 a:=h.1.fA
theorem GO:Ld Z a s=Z.av s (fun b s=>Z.aq s (fun c s=>Z.bj s (fun d s=>Z.aO d (Z.aW false [some (.bool true)] s) (Lc Z a s)) 89 [(af.ao s.aa c)]) (some 2) b) 2 a:=h.1.fA
theorem xo:Bq Z a b c d e s=Z.aj s (fun f s=>vv Z a b c d f s) (al .add e (.int .i64 1)):=h.1.fA
theorem GP:Le Z a b f c d e s=Z.aq s (fun g s=>Z.bj s (fun i s=>Z.aO i (Z.aj s (fun j s=>Bq Z a j c d e s) (al .add b (.int .i64 1))) (Bq Z a b c d e s)) 43 [(af.ao s.aa g)]) (some 12) f:=h.1.fA
theorem GQ:Lf Z b d c e a s=Z.bV s (fun g s=>Z.aq s (fun i s=>Z.hA (.ref (.l s.own.length) 0) (s.new (.cells [.str [],.int .i64 0,.bx 1 [] .nil,.bool false,.bx 1 [] .nil,.bool false,.bx 1 [] .nil,.bool false,.bx 1 [] .nil,.bool false,.bx 1 [] .nil,.int .i64 0])) (fun f s=>Z.bm s (fun r s=>Z.aj s (fun j s=>Z.l2 12 b none (some j) none s (fun m s=>Z.bj s (fun o s=>Z.aj s (fun p s=>Z.aO p (Z.aW false [some (.int .i64 120)] s) (Le Z b d f c e a s)) (kP .not o)) 42 [(af.ao s.aa m)])) (al .add a (.int .i64 1))) 12 f (af.ao s.aa i))) (some 12) g) 12 c a:=h.1.fA
theorem GR:Lg Z s=Z.aW false [some (.int .i64 0)] s:=h.1.fA
theorem GS:Br Z b d s=Z.cg s (fun e s=>Z.aj s (fun c s=>Z.ae c false (fun k=>k d s) s (fun f s=>Z.ae c false (fun k=>Z.aj s k (al .gtr f (.int .i64 5))) s (fun g s=>Z.bs s (fun a s=>Z.ae a false (fun k=>k b s) s (fun i s=>Z.ae a false (fun k=>Z.bj s k 44 [(af.ao s.aa i)]) s (fun j s=>Z.ae a false (fun k=>Z.cg s k false j) s (fun m s=>Z.ae a false (fun k=>Z.aj s k (al .gtr m (.int .i64 20))) s (fun o s=>Z.bs s (fun p s=>Z.aO p (Z.aW false [some (.int .i64 111)] s) (Lg Z s)) a (.bool true) o))))) c (.bool true) g))) (al .gtr e (.int .i64 40))) false b:=h.1.fA
theorem xp:vv Z a b e c d s=Z.aj s (fun f s=>Z.aO f (Lf Z a b e c d s) (Br Z a b s)) (al .lss d c):=h.1.q3
theorem GU:Li Z a b c d e f g i s=Z.aj s (fun j s=>vw Z a b c d e f g j s) (al .add i (.int .i64 1)):=h.1.fA
theorem GV:Lj Z d e j f m g o b s=Z.bV s (fun p s=>Z.aq s (fun i s=>Z.aj s (fun c s=>Z.ae c false (fun k=>k i s) s (fun q s=>Z.ae c false (fun k=>k e s) s (fun r s=>Z.ae c false (fun k=>Z.aj s k (al .geq q r)) s (fun t s=>Z.bs s (fun a s=>Z.ae a false (fun k=>k f s) s (fun u s=>Z.ae a false (fun k=>k b s) s (fun w s=>Z.ae a false (fun k=>Z.bV s k 1 u w) s (fun x s=>Z.ae a false (fun k=>Z.aq s k none x) s (fun y s=>Z.ae a false (fun k=>k d s) s (fun z s=>Z.ae a false (fun k=>k i s) s (fun A s=>Z.ae a false (fun k=>Z.bV s k 12 z A) s (fun B s=>Z.ae a false (fun k=>Z.aq s k (some 12) B) s (fun C s=>Z.ae a false (fun k=>Z.gT s k 48 [(af.ao s.aa C)]) s (fun D s=>Z.ae a false (fun k=>Z.bj s k 50 [(af.ao s.aa y),(af.ao s.aa D)]) s (fun E s=>Z.ae a false (fun k=>Z.aj s k (kP .not E)) s (fun F s=>Z.bs s (fun H s=>Z.aO H (Z.aW false [some (.bool false)] s) (Li Z d e j f m g o b s)) a (.bool true) F)))))))))))) c (.bool true) t)))) (al .lss i (.int .i64 0))) none p) 1 g b:=h.1.fA
theorem GW:Bs Z a b c s=Z.l2 12 a none (some b) none s (fun d s=>Z.hA (.fn 74 [(af.ao s.aa c)]) s (fun e s=>Z.bj s (fun f s=>Z.aj s (fun g s=>Z.aW false [some g] s) (kP .not f)) 73 [(af.ao s.aa d),(af.ao s.aa e)])):=h.1.fA
theorem GX:Bt Z m o a s=Z.av s (fun q s=>Z.aq s (fun r s=>Z.aj s (fun i s=>Z.ae i false (fun k=>Z.av s k 1 a) s (fun t s=>Z.ae i false (fun k=>Z.aq s k none t) s (fun u s=>Z.ae i false (fun k=>Z.aj s k (al .eql u (.int .i64 2))) s (fun w s=>Z.bs s (fun b s=>Z.av s (fun x s=>Z.aq s (fun y s=>Z.aj s (fun p s=>Z.ae b true (fun k=>Z.av s k 3 a) s (fun z s=>Z.ae b true (fun k=>Z.aq s k (some 4) z) s (fun A s=>Z.ae b true (fun k=>Z.bj s k 71 [(af.ao s.aa A)]) s (fun B s=>Z.ae b true (fun k=>Z.aj s k (kP .not B)) s (fun C s=>Z.bs s (fun c s=>Z.ae c false (fun k=>k b s) s (fun D s=>Z.ae c false (fun k=>Z.aj s k (kP .not D)) s (fun E s=>Z.ae c false (fun k=>k E s) s (fun d s=>Z.ae d true (fun k=>Z.av s k 3 a) s (fun F s=>Z.ae d true (fun k=>Z.aq s k (some 4) F) s (fun H s=>Z.ae d true (fun k=>Z.bj s k 72 [(af.ao s.aa H)]) s (fun I s=>Z.ae d true (fun k=>Z.aj s k (kP .not I)) s (fun J s=>Z.ae c false (fun k=>Z.bs s k d J (.bool false)) s (fun K s=>Z.bs s (fun j s=>Z.ae j false (fun k=>k p s) s (fun L s=>Z.ae j false (fun k=>k L s) s (fun e s=>Z.ae e true (fun k=>Z.av s k 7 a) s (fun M s=>Z.ae e true (fun k=>Z.aq s k (some 4) M) s (fun N s=>Z.ae e true (fun k=>Z.bj s k 71 [(af.ao s.aa N)]) s (fun O s=>Z.ae e true (fun k=>Z.aj s k (kP .not O)) s (fun P s=>Z.ae j false (fun k=>Z.bs s k e P (.bool false)) s (fun Q s=>Z.bs s (fun f s=>Z.ae f false (fun k=>k p s) s (fun R s=>Z.ae f false (fun k=>Z.aj s k (kP .not R)) s (fun S s=>Z.ae f false (fun k=>k S s) s (fun g s=>Z.ae g true (fun k=>Z.av s k 7 a) s (fun T s=>Z.ae g true (fun k=>Z.aq s k (some 4) T) s (fun U s=>Z.ae g true (fun k=>Z.bj s k 72 [(af.ao s.aa U)]) s (fun V s=>Z.ae g true (fun k=>Z.aj s k (kP .not V)) s (fun W s=>Z.ae f false (fun k=>Z.bs s k g W (.bool false)) s (fun Y s=>Z.bs s (fun ab s=>Z.aO ab (Z.aW false [some (.bool false)] s) (Bs Z m o a s)) f (.bool true) Y))))))))) j (.bool true) Q)))))))) c (.bool true) K))))))))) b C (.bool false)))))) (al .eql y (.int .i64 1))) none x) 1 a) i (.bool true) w)))) (al .eql r (.int .i64 1))) none q) 1 a:=h.1.fA
theorem GY:Bu Z f g a e s=Z.av s (fun i s=>Z.aq s (fun j s=>Z.aj s (fun c s=>Z.ae c false (fun k=>Z.av s k 11 a) s (fun m s=>Z.ae c false (fun k=>Z.aq s k none m) s (fun o s=>Z.ae c false (fun k=>Z.aj s k (al .eql o (.int .i64 2))) s (fun p s=>Z.bs s (fun q s=>Z.aj s (fun b s=>Z.ae b false (fun k=>k e s) s (fun r s=>Z.ae b false (fun k=>Z.aj s k (kP .not r)) s (fun t s=>Z.ae b false (fun k=>k t s) s (fun d s=>Z.ae d true (fun k=>Z.av s k 11 a) s (fun u s=>Z.ae d true (fun k=>Z.aq s k none u) s (fun w s=>Z.ae d true (fun k=>Z.aj s k (al .neq w (.int .i64 0))) s (fun x s=>Z.ae b false (fun k=>Z.bs s k d x (.bool false)) s (fun y s=>Z.bs s (fun z s=>Z.aO z (Z.aW false [some (.bool false)] s) (Bt Z f g a s)) b (.bool true) y)))))))) ((oi .bool e q).map fun b=>.bool (bif true then !b else b))) c (.bool true) p)))) (al .eql j (.int .i64 1))) none i) 11 a:=h.1.fA
theorem xq:vw Z a b c g d i e f s=Z.aj s (fun j s=>Z.aO j (Lj Z a b c g d i e f s) (Bu Z a b c d s)) (al .lss f e):=h.1.q3
theorem GZ:Lk Z b c a d e s=Z.av s (fun g s=>Z.aq s (fun f s=>Z.cg s (fun i s=>vw Z b c a d e f i (.int .i64 0) s) false f) none g) 2 a:=h.1.fA
theorem xr:sT Z a b c d s=Z.aj s (fun e s=>vx Z a b c e s) (al .add d (.int .i64 1)):=h.1.fA
theorem G0:Ll Z c b d a s=Z.bV s (fun g s=>Z.aq s (fun i s=>Z.hA (.ref (.l s.own.length) 0) (s.new (.cells [.str [],.int .i64 0,.bx 1 [] .nil,.bool false,.bx 1 [] .nil,.bool false,.bx 1 [] .nil,.bool false,.bx 1 [] .nil,.bool false,.bx 1 [] .nil,.int .i64 0])) (fun e s=>Z.bm s (fun y s=>Z.av s (fun j s=>Z.aq s (fun f s=>Z.aj s (fun m s=>Z.aO m (Z.iJ [.int .i64 0,.int .i64 0] [(0,1,a),(1,1,(.int .i64 0))] s (fun o s=>Z.iJ [.int .i64 0,.int .i64 0] [(0,1,a),(1,1,(.int .i64 1))] s (fun p s=>Z.bf s (fun q s=>Z.fm s (fun r s=>sT Z r b d a s) 2 16 (some (.l 0)) c q) 2 [o,p]))) (Z.aj s (fun t s=>Z.aO t (Z.iJ [.int .i64 0,.int .i64 0] [(0,1,a),(1,1,(.int .i64 0))] s (fun u s=>Z.bf s (fun w s=>Z.fm s (fun x s=>sT Z x b d a s) 2 16 (some (.l 0)) c w) 2 [u])) (sT Z c b d a s)) (al .eql f (.int .i64 2)))) (al .eql f (.int .i64 1))) none j) 1 e) 12 e (af.ao s.aa i))) (some 12) g) 12 b a:=h.1.fA
theorem G1:Lm Z a s=Z.aW false [some a] s:=h.1.fA
theorem xt:vx Z a d b c s=Z.aj s (fun e s=>Z.aO e (Ll Z a d b c s) (Lm Z a s)) (al .lss c b):=h.1.q3
theorem G2:Ln Z s=Z.aW false [some (.int .i64 0)] s:=h.1.fA
theorem G3:Bv Z c b s=Z.aj s (fun a s=>Z.ae a false (fun k=>k b s) s (fun d s=>Z.ae a false (fun k=>k c s) s (fun e s=>Z.ae a false (fun k=>Z.cg s k false e) s (fun f s=>Z.ae a false (fun k=>Z.aj s k (al .geq d f)) s (fun g s=>Z.bs s (fun i s=>Z.aO i (Z.aW false [some (.int .i64 1)] s) (Ln Z s)) a (.bool true) g))))) (al .lss b (.int .i64 0)):=h.1.fA
theorem G4:Lo Z s=Z.aW false [some (.bx 1 [] .nil),some (.int .i64 0),some (.bool false)] s:=h.1.fA
theorem G5:Bw Z a b s=Z.aO b (Z.bf s (fun c s=>Z.aW false [some c,some (.int .i64 2),some (.bool false)] s) 1 [(.int .i64 1),(.int .i64 2)]) (Z.aj s (fun d s=>Z.aO d (Z.bf s (fun e s=>Z.aW false [some e,some (.int .i64 1),some (.bool false)] s) 1 [(.int .i64 1),(.int .i64 1)]) (Z.aj s (fun f s=>Z.aO f (Z.bf s (fun g s=>Z.aW false [some g,some (.int .i64 1),some (.bool false)] s) 1 [(.int .i64 1),(.int .i64 2)]) (Z.aj s (fun i s=>Z.aO i (Z.bf s (fun j s=>Z.aW false [some j,some (.int .i64 2),some (.bool true)] s) 1 [(.int .i64 1),(.int .i64 1),(.int .i64 1)]) (Z.aj s (fun m s=>Z.aO m (Z.bf s (fun o s=>Z.aW false [some o,some (.int .i64 2),some (.bool true)] s) 1 [(.int .i64 1),(.int .i64 3)]) (Z.aj s (fun p s=>Z.aO p (Z.bf s (fun q s=>Z.aW false [some q,some (.int .i64 1),some (.bool false)] s) 1 [(.int .i64 3)]) (Lo Z s)) (al .eql a (.int .i64 16)))) (al .eql a (.int .i64 15)))) (al .eql a (.int .i64 14)))) (al .eql a (.int .i64 13)))) (al .eql a (.int .i64 12))):=h.1.fA
theorem G6:Bx Z a b s=Z.aO b (Z.bf s (fun d s=>Z.aW false [some d,some (.int .i64 3),some (.bool false)] s) 1 [(.int .i64 1),(.int .i64 1),(.int .i64 1)]) (Z.aj s (fun e s=>Z.aO e (Z.bf s (fun f s=>Z.aW false [some f,some (.int .i64 1),some (.bool true)] s) 1 [(.int .i64 2),(.int .i64 3)]) (Z.aj s (fun g s=>Z.aO g (Z.bf s (fun i s=>Z.aW false [some i,some (.int .i64 1),some (.bool true)] s) 1 [(.int .i64 3),(.int .i64 3)]) (Z.aj s (fun c s=>Z.aO c (Bw Z a c s) (Z.aj s (fun j s=>Bw Z a j s) (al .eql a (.int .i64 11)))) (al .eql a (.int .i64 10)))) (al .eql a (.int .i64 9)))) (al .eql a (.int .i64 8))):=h.1.fA
theorem G7:Lp Z s=Z.aW false [some (.bx 1 [] .nil),some (.int .i64 0),some (.bool false)] s:=h.1.fA
theorem G8:By Z a b s=Z.aO b (Z.bf s (fun c s=>Z.aW false [some c,some (.int .i64 2),some (.bool false)] s) 1 [(.int .i64 1),(.int .i64 2)]) (Z.aj s (fun d s=>Z.aO d (Z.bf s (fun e s=>Z.aW false [some e,some (.int .i64 1),some (.bool false)] s) 1 [(.int .i64 1),(.int .i64 1)]) (Z.aj s (fun f s=>Z.aO f (Z.bf s (fun g s=>Z.aW false [some g,some (.int .i64 1),some (.bool false)] s) 1 [(.int .i64 1),(.int .i64 2)]) (Z.aj s (fun i s=>Z.aO i (Z.bf s (fun j s=>Z.aW false [some j,some (.int .i64 2),some (.bool true)] s) 1 [(.int .i64 1),(.int .i64 1),(.int .i64 1)]) (Z.aj s (fun m s=>Z.aO m (Z.bf s (fun o s=>Z.aW false [some o,some (.int .i64 2),some (.bool true)] s) 1 [(.int .i64 1),(.int .i64 3)]) (Z.aj s (fun p s=>Z.aO p (Z.bf s (fun q s=>Z.aW false [some q,some (.int .i64 1),some (.bool false)] s) 1 [(.int .i64 3)]) (Lp Z s)) (al .eql a (.int .i64 16)))) (al .eql a (.int .i64 15)))) (al .eql a (.int .i64 14)))) (al .eql a (.int .i64 13)))) (al .eql a (.int .i64 12))):=h.1.fA
theorem G9:Bz Z a b s=Z.aO b (Z.bf s (fun d s=>Z.aW false [some d,some (.int .i64 3),some (.bool false)] s) 1 [(.int .i64 1),(.int .i64 1),(.int .i64 1)]) (Z.aj s (fun e s=>Z.aO e (Z.bf s (fun f s=>Z.aW false [some f,some (.int .i64 1),some (.bool true)] s) 1 [(.int .i64 2),(.int .i64 3)]) (Z.aj s (fun g s=>Z.aO g (Z.bf s (fun i s=>Z.aW false [some i,some (.int .i64 1),some (.bool true)] s) 1 [(.int .i64 3),(.int .i64 3)]) (Z.aj s (fun c s=>Z.aO c (By Z a c s) (Z.aj s (fun j s=>By Z a j s) (al .eql a (.int .i64 11)))) (al .eql a (.int .i64 10)))) (al .eql a (.int .i64 9)))) (al .eql a (.int .i64 8))):=h.1.fA
theorem Ha:Lq Z a b c d s=Z.aj s (fun e s=>vy Z a b c e s) (al .add d (.int .i64 1)):=h.1.fA
theorem Hb:Lr Z b c d a s=Z.bV s (fun e s=>Z.aq s (fun f s=>Z.st s (fun g s=>Z.aO g (Z.aW false [some a] s) (Lq Z b c d a s)) c [(af.ao s.aa f)]) (some 12) e) 12 b a:=h.1.fA
theorem Hc:Ls Z s=Z.aW false [some (.int .i64 (-1))] s:=h.1.fA
theorem xu:vy Z c d a b s=Z.aj s (fun e s=>Z.aO e (Lr Z c d a b s) (Ls Z s)) (al .lss b a):=h.1.q3
theorem Hd:Lt Z a b c s=Z.aj s (fun d s=>vz Z a b d s) (al .add c (.int .i64 1)):=h.1.fA
theorem He:Lu Z b c a s=Z.av s (fun d s=>Z.aq s (fun e s=>Z.bV s (fun f s=>Z.aq s (fun g s=>Z.av s (fun i s=>Z.aq s (fun j s=>Z.bV s (fun m s=>Z.aq s (fun o s=>Z.aj s (fun p s=>Z.aO p (Z.aW false [some (.bool false)] s) (Lt Z b c a s)) (al .neq g o)) none m) 1 j a) none i) 1 c) none f) 1 e a) none d) 1 b:=h.1.fA
theorem Hf:Lv Z s=Z.aW false [some (.bool true)] s:=h.1.fA
theorem xv:vz Z a c b s=Z.av s (fun d s=>Z.aq s (fun e s=>Z.cg s (fun f s=>Z.aj s (fun g s=>Z.aO g (Lu Z a c b s) (Lv Z s)) (al .lss b f)) false e) none d) 1 a:=h.1.q3
theorem Hg:Lw Z a b s=vz Z a b (.int .i64 0) s:=h.1.fA
theorem Hh:Lx Z a b s=Z.aj s (fun c s=>Z.mS 1 24 a (some (.int .i64 1)) (some c) none s (fun d s=>Z.lQ s (fun e s=>Z.aW false [some e] s) d)) (al .add (.int .i64 1) b):=h.1.fA
theorem Hi:BA Z d a b s=Z.bj s (fun c s=>Z.aj s (fun e s=>Z.mS 1 24 a (some (.int .i64 1)) (some e) none s (fun f s=>Z.bj s (fun p s=>Z.aj s (fun g s=>Z.aO g (Z.h5 s (fun i s=>Z.bm s (fun r s=>Z.aj s (fun j s=>Z.mS 1 24 a none (some j) none s (fun m s=>Z.lQ s (fun o s=>Z.aW false [some o] s) m)) (al .add (.int .i64 1) c)) 1 i (af.ao s.aa (.int .u8 45))) 1 24 a (.int .i64 0)) (Lx Z a c s)) (al .lss d (.int .i64 0))) 97 [(af.ao s.aa f),(af.ao s.aa b)])) (al .add (.int .i64 1) c)) 96 [(af.ao s.aa b)]:=h.1.fA
theorem Hj:Ly Z a s=Z.hA (.ref (.l s.own.length) 0) (s.new (.cells [.int .u8 0,.int .u8 0,.int .u8 0,.int .u8 0,.int .u8 0,.int .u8 0,.int .u8 0,.int .u8 0,.int .u8 0,.int .u8 0,.int .u8 0,.int .u8 0,.int .u8 0,.int .u8 0,.int .u8 0,.int .u8 0,.int .u8 0,.int .u8 0,.int .u8 0,.int .u8 0,.int .u8 0,.int .u8 0,.int .u8 0,.int .u8 0])) (fun b s=>Z.b6 s (fun c s=>Z.aj s (fun d s=>Z.aO d (Z.aj s (fun e s=>BA Z a b e s) (kP .neg c)) (BA Z a b c s)) (al .lss a (.int .i64 0))) .u64 a):=h.1.fA
theorem Hk:Lz Z a s=Z.aj s (fun b s=>Z.aj s (fun c s=>Z.aj s (fun d s=>Z.wP (.str [48,48,48,49,48,50,48,51,48,52,48,53,48,54,48,55,48,56,48,57,49,48,49,49,49,50,49,51,49,52,49,53,49,54,49,55,49,56,49,57,50,48,50,49,50,50,50,51,50,52,50,53,50,54,50,55,50,56,50,57,51,48,51,49,51,50,51,51,51,52,51,53,51,54,51,55,51,56,51,57,52,48,52,49,52,50,52,51,52,52,52,53,52,54,52,55,52,56,52,57,53,48,53,49,53,50,53,51,53,52,53,53,53,54,53,55,53,56,53,57,54,48,54,49,54,50,54,51,54,52,54,53,54,54,54,55,54,56,54,57,55,48,55,49,55,50,55,51,55,52,55,53,55,54,55,55,55,56,55,57,56,48,56,49,56,50,56,51,56,52,56,53,56,54,56,55,56,56,56,57,57,48,57,49,57,50,57,51,57,52,57,53,57,54,57,55,57,56,57,57]) (some b) (some d) s (fun e s=>Z.aW false [some e] s)) (al .add c (.int .i64 2))) (al .mul a (.int .i64 2))) (al .mul a (.int .i64 2)):=h.1.fA
theorem xw:pa Z a b c s=Z.aj s (fun d s=>Z.aO d (Z.aj s (fun e s=>Z.b6 s (fun f s=>Z.bV s (fun g s=>Z.bm s (fun r s=>Z.aW false [] s) 1 g (af.ao s.aa f)) 1 a (.int .i64 0)) .u8 e) (al .add (.int .u32 48) c)) (Z.aW false [] s)) (al .gtr b (.int .i64 0)):=h.1.fA
theorem xx:pb Z b a c s=Z.aj s (fun e s=>Z.aO e (Z.aj s (fun f s=>Z.aj s (fun d s=>Z.aj s (fun g s=>Z.aj s (fun i s=>Z.aj s (fun j s=>Z.aj s (fun m s=>Z.hS s (fun o s=>Z.hS s (fun p s=>Z.bV s (fun q s=>Z.bm s (fun u s=>Z.bV s (fun r s=>Z.bm s (fun u s=>Z.aj s (fun t s=>pa Z b t g s) (al .sub a (.int .i64 2))) 1 r (af.ao s.aa p)) 1 b j) 1 q (af.ao s.aa o)) 1 b i) (.str [48,48,48,49,48,50,48,51,48,52,48,53,48,54,48,55,48,56,48,57,49,48,49,49,49,50,49,51,49,52,49,53,49,54,49,55,49,56,49,57,50,48,50,49,50,50,50,51,50,52,50,53,50,54,50,55,50,56,50,57,51,48,51,49,51,50,51,51,51,52,51,53,51,54,51,55,51,56,51,57,52,48,52,49,52,50,52,51,52,52,52,53,52,54,52,55,52,56,52,57,53,48,53,49,53,50,53,51,53,52,53,53,53,54,53,55,53,56,53,57,54,48,54,49,54,50,54,51,54,52,54,53,54,54,54,55,54,56,54,57,55,48,55,49,55,50,55,51,55,52,55,53,55,54,55,55,55,56,55,57,56,48,56,49,56,50,56,51,56,52,56,53,56,54,56,55,56,56,56,57,57,48,57,49,57,50,57,51,57,52,57,53,57,54,57,55,57,56,57,57]) d) (.str [48,48,48,49,48,50,48,51,48,52,48,53,48,54,48,55,48,56,48,57,49,48,49,49,49,50,49,51,49,52,49,53,49,54,49,55,49,56,49,57,50,48,50,49,50,50,50,51,50,52,50,53,50,54,50,55,50,56,50,57,51,48,51,49,51,50,51,51,51,52,51,53,51,54,51,55,51,56,51,57,52,48,52,49,52,50,52,51,52,52,52,53,52,54,52,55,52,56,52,57,53,48,53,49,53,50,53,51,53,52,53,53,53,54,53,55,53,56,53,57,54,48,54,49,54,50,54,51,54,52,54,53,54,54,54,55,54,56,54,57,55,48,55,49,55,50,55,51,55,52,55,53,55,54,55,55,55,56,55,57,56,48,56,49,56,50,56,51,56,52,56,53,56,54,56,55,56,56,56,57,57,48,57,49,57,50,57,51,57,52,57,53,57,54,57,55,57,56,57,57]) m) (al .add d (.int .u32 1))) (al .sub a (.int .i64 2))) (al .sub a (.int .i64 1))) (al .quo c (.int .u32 100))) (al .mul f (.int .u32 2))) (al .rem c (.int .u32 100))) (pa Z b a c s)) (al .geq a (.int .i64 2)):=h.1.fA
theorem xy:vA Z b d a s=Z.b6 s (fun c s=>Z.aj s (fun i s=>Z.aO i (Z.aj s (fun e s=>Z.aj s (fun j s=>Z.aj s (fun m s=>Z.aj s (fun f s=>Z.aj s (fun o s=>Z.aj s (fun g s=>Z.aj s (fun p s=>Z.aj s (fun q s=>Z.aj s (fun r s=>Z.hS s (fun t s=>Z.hS s (fun u s=>Z.bV s (fun w s=>Z.bm s (fun H s=>Z.bV s (fun x s=>Z.bm s (fun H s=>Z.aj s (fun y s=>Z.aj s (fun z s=>Z.aj s (fun A s=>Z.hS s (fun B s=>Z.hS s (fun C s=>Z.bV s (fun D s=>Z.bm s (fun H s=>Z.bV s (fun E s=>Z.bm s (fun H s=>Z.aj s (fun F s=>pb Z b F j s) (al .sub a (.int .i64 4))) 1 E (af.ao s.aa C)) 1 b z) 1 D (af.ao s.aa B)) 1 b y) (.str [48,48,48,49,48,50,48,51,48,52,48,53,48,54,48,55,48,56,48,57,49,48,49,49,49,50,49,51,49,52,49,53,49,54,49,55,49,56,49,57,50,48,50,49,50,50,50,51,50,52,50,53,50,54,50,55,50,56,50,57,51,48,51,49,51,50,51,51,51,52,51,53,51,54,51,55,51,56,51,57,52,48,52,49,52,50,52,51,52,52,52,53,52,54,52,55,52,56,52,57,53,48,53,49,53,50,53,51,53,52,53,53,53,54,53,55,53,56,53,57,54,48,54,49,54,50,54,51,54,52,54,53,54,54,54,55,54,56,54,57,55,48,55,49,55,50,55,51,55,52,55,53,55,54,55,55,55,56,55,57,56,48,56,49,56,50,56,51,56,52,56,53,56,54,56,55,56,56,56,57,57,48,57,49,57,50,57,51,57,52,57,53,57,54,57,55,57,56,57,57]) f) (.str [48,48,48,49,48,50,48,51,48,52,48,53,48,54,48,55,48,56,48,57,49,48,49,49,49,50,49,51,49,52,49,53,49,54,49,55,49,56,49,57,50,48,50,49,50,50,50,51,50,52,50,53,50,54,50,55,50,56,50,57,51,48,51,49,51,50,51,51,51,52,51,53,51,54,51,55,51,56,51,57,52,48,52,49,52,50,52,51,52,52,52,53,52,54,52,55,52,56,52,57,53,48,53,49,53,50,53,51,53,52,53,53,53,54,53,55,53,56,53,57,54,48,54,49,54,50,54,51,54,52,54,53,54,54,54,55,54,56,54,57,55,48,55,49,55,50,55,51,55,52,55,53,55,54,55,55,55,56,55,57,56,48,56,49,56,50,56,51,56,52,56,53,56,54,56,55,56,56,56,57,57,48,57,49,57,50,57,51,57,52,57,53,57,54,57,55,57,56,57,57]) A) (al .add f (.int .u32 1))) (al .sub a (.int .i64 4))) (al .sub a (.int .i64 3))) 1 x (af.ao s.aa u)) 1 b q) 1 w (af.ao s.aa t)) 1 b p) (.str [48,48,48,49,48,50,48,51,48,52,48,53,48,54,48,55,48,56,48,57,49,48,49,49,49,50,49,51,49,52,49,53,49,54,49,55,49,56,49,57,50,48,50,49,50,50,50,51,50,52,50,53,50,54,50,55,50,56,50,57,51,48,51,49,51,50,51,51,51,52,51,53,51,54,51,55,51,56,51,57,52,48,52,49,52,50,52,51,52,52,52,53,52,54,52,55,52,56,52,57,53,48,53,49,53,50,53,51,53,52,53,53,53,54,53,55,53,56,53,57,54,48,54,49,54,50,54,51,54,52,54,53,54,54,54,55,54,56,54,57,55,48,55,49,55,50,55,51,55,52,55,53,55,54,55,55,55,56,55,57,56,48,56,49,56,50,56,51,56,52,56,53,56,54,56,55,56,56,56,57,57,48,57,49,57,50,57,51,57,52,57,53,57,54,57,55,57,56,57,57]) g) (.str [48,48,48,49,48,50,48,51,48,52,48,53,48,54,48,55,48,56,48,57,49,48,49,49,49,50,49,51,49,52,49,53,49,54,49,55,49,56,49,57,50,48,50,49,50,50,50,51,50,52,50,53,50,54,50,55,50,56,50,57,51,48,51,49,51,50,51,51,51,52,51,53,51,54,51,55,51,56,51,57,52,48,52,49,52,50,52,51,52,52,52,53,52,54,52,55,52,56,52,57,53,48,53,49,53,50,53,51,53,52,53,53,53,54,53,55,53,56,53,57,54,48,54,49,54,50,54,51,54,52,54,53,54,54,54,55,54,56,54,57,55,48,55,49,55,50,55,51,55,52,55,53,55,54,55,55,55,56,55,57,56,48,56,49,56,50,56,51,56,52,56,53,56,54,56,55,56,56,56,57,57,48,57,49,57,50,57,51,57,52,57,53,57,54,57,55,57,56,57,57]) r) (al .add g (.int .u32 1))) (al .sub a (.int .i64 2))) (al .sub a (.int .i64 1))) (al .mul o (.int .u32 2))) (al .rem e (.int .u32 100))) (al .mul m (.int .u32 2))) (al .quo e (.int .u32 100))) (al .quo c (.int .u32 10000))) (al .rem c (.int .u32 10000))) (pb Z b a c s)) (al .geq a (.int .i64 4))) .u32 d:=h.1.fA
theorem Hl:LA Z b c a s=Z.aj s (fun d s=>Z.aO d (Zo Z b c a s) (vA Z b c a s)) (al .geq a (.int .i64 8)):=h.1.q3
theorem Ey:sU Z a b s=Z.b6 s (fun c s=>Z.hS s (fun d s=>Z.b6 s (fun e s=>Z.aj s (fun f s=>Z.aW false [some f] s) (al .add b e)) .i64 d) (.str [0,1,2,2,3,3,3,3,4,4,4,4,4,4,4,4,5,5,5,5,5,5,5,5,5,5,5,5,5,5,5,5,6,6,6,6,6,6,6,6,6,6,6,6,6,6,6,6,6,6,6,6,6,6,6,6,6,6,6,6,6,6,6,6,7,7,7,7,7,7,7,7,7,7,7,7,7,7,7,7,7,7,7,7,7,7,7,7,7,7,7,7,7,7,7,7,7,7,7,7,7,7,7,7,7,7,7,7,7,7,7,7,7,7,7,7,7,7,7,7,7,7,7,7,7,7,7,7,8,8,8,8,8,8,8,8,8,8,8,8,8,8,8,8,8,8,8,8,8,8,8,8,8,8,8,8,8,8,8,8,8,8,8,8,8,8,8,8,8,8,8,8,8,8,8,8,8,8,8,8,8,8,8,8,8,8,8,8,8,8,8,8,8,8,8,8,8,8,8,8,8,8,8,8,8,8,8,8,8,8,8,8,8,8,8,8,8,8,8,8,8,8,8,8,8,8,8,8,8,8,8,8,8,8,8,8,8,8,8,8,8,8,8,8,8,8,8,8,8,8,8,8,8,8,8,8]) c) .u8 a:=h.1.fA
theorem uQ:sV Z a b s=Z.aj s (fun c s=>Z.aO c (Z.aj s (fun d s=>Z.aj s (fun e s=>sU Z d e s) (al .add b (.int .i64 8))) (al .shr a (.int .u64 8))) (sU Z a b s)) (al .geq a (.int .u64 256)):=h.1.fA
theorem Ez:xc Z a b s=Z.aj s (fun c s=>Z.aO c (Z.aj s (fun d s=>Z.aj s (fun e s=>sV Z d e s) (al .add b (.int .i64 16))) (al .shr a (.int .u64 16))) (sV Z a b s)) (al .geq a (.int .u64 65536)):=h.1.fA
theorem EA:DM Z s=Z.aW false [some (.int .i64 0)] s:=h.1.fA
theorem Hm:LG Z a b c d e f g i j m o p q s=Z.aj s (fun r s=>vC Z a b c d e f g i j m o p r s) (al .add q (.int .i64 1)):=h.1.fA
theorem Hn:LH Z e f b g i j m o c p d q a s=Z.bV s (fun r s=>Z.aq s (fun t s=>Z.bV s (fun u s=>Z.aq s (fun w s=>Z.bj s (fun x s=>Z.bf s (fun y s=>Z.fm s (fun z s=>LG Z e f b g i j m o c p d z a s) 1 8 (some (.l 0)) q y) 1 [x]) 35 [(af.ao s.aa b),(af.ao s.aa t),(af.ao s.aa w)]) none u) 1 d a) none r) 1 c a:=h.1.fA
theorem uR:xe Z a b c d e f g i j m o s=Z.aj s (fun p s=>vB Z a b c d e f g i j m p s) (al .add o (.int .i64 1)):=h.1.fA
theorem Ho:LI Z c d e f g i j o m a b s=Z.bV s (fun p s=>Z.aq s (fun q s=>Z.aj s (fun r s=>Z.aO r (xe Z c d e f g i j (.int .i64 1) m a b s) (xe Z c d e f g i j o m a b s)) (al .lss q (.int .i64 0))) none p) 1 a b:=h.1.fA
theorem uS:qb Z a b c d e f s=Z.aj s (fun g s=>k8 Z a b c d e g s) (al .add f (.int .i64 1)):=h.1.fA
theorem EB:oG Z a b c d e f g s=Z.aq s (fun i s=>Z.bf s (fun j s=>Z.fm s (fun m s=>qb Z a b m d e f s) 12 184 (some (.l 0)) c j) 12 [i]) (some 12) g:=h.1.fA
theorem EC:qc Z c d e f g b i j o m s=Z.gT s (fun p s=>Z.aj s (fun q s=>Z.iJ [.str [],.int .i64 0,.bx 1 [] .nil,.bool false,.bx 1 [] .nil,.bool false,.bx 1 [] .nil,.bool false,.bx 1 [] .nil,.bool false,.bx 1 [] .nil,.int .i64 0] [(0,1,q),(1,1,j)] s (fun r s=>Z.hA (.ref (.l s.own.length) 0) (s.new (.cells [.str [],.int .i64 0,.bx 1 [] .nil,.bool false,.bx 1 [] .nil,.bool false,.bx 1 [] .nil,.bool false,.bx 1 [] .nil,.bool false,.bx 1 [] .nil,.int .i64 0])) (fun a s=>Z.bm s (fun U s=>Z.aj s (fun t s=>Z.aO t (Z.av s (fun u s=>Z.aq s (fun w s=>Z.gT s (fun x s=>Z.av s (fun y s=>Z.bm s (fun U s=>Z.av s (fun z s=>Z.aq s (fun A s=>Z.gT s (fun B s=>Z.av s (fun C s=>Z.bm s (fun U s=>Z.aj s (fun D s=>oG Z c d e D g b a s) (al .add f (.int .i64 2))) 4 C (af.ao s.aa B)) 7 a) 36 [(af.ao s.aa A)]) none z) 5 i) 4 y (af.ao s.aa x)) 3 a) 36 [(af.ao s.aa w)]) none u) 4 i) (Z.aj s (fun E s=>Z.aO E (Z.av s (fun F s=>Z.bm s (fun U s=>Z.av s (fun H s=>Z.aq s (fun I s=>Z.gT s (fun J s=>Z.av s (fun K s=>Z.bm s (fun U s=>Z.aj s (fun L s=>oG Z c d e L g b a s) (al .add f (.int .i64 1))) 4 K (af.ao s.aa J)) 3 a) 36 [(af.ao s.aa I)]) none H) 4 i) 1 F (af.ao s.aa (oO m))) 2 a) (Z.aO o (Z.av s (fun M s=>Z.bm s (fun U s=>Z.av s (fun N s=>Z.aq s (fun O s=>Z.bj s (fun P s=>Z.aj s (fun Q s=>Z.av s (fun R s=>Z.bm s (fun U s=>Z.aj s (fun S s=>oG Z c d e f S b a s) (al .add g (.int .i64 1))) 1 R (af.ao s.aa Q)) 11 a) (al .add (.int .i64 1) P)) 14 [(af.ao s.aa O),(af.ao s.aa (.int .i64 2))]) none N) 6 i) 1 M (af.ao s.aa (oO m))) 2 a) (Z.av s (fun T s=>Z.bm s (fun U s=>oG Z c d e f g b a s) 1 T (af.ao s.aa (oO m))) 2 a))) (al .eql j (.int .i64 2)))) (al .eql j (.int .i64 1))) 12 a (af.ao s.aa r)))) (al .add (.str [115]) p)) 19 [(af.ao s.aa b)]:=h.1.fA
theorem ED:sY Z e f g c d i o j a p s=Z.ae a true (fun k=>k d s) s (fun q s=>Z.ae a true (fun k=>Z.aj s k (al .eql q (.int .i64 3))) s (fun r s=>Z.bs s (fun b s=>Z.ae b false (fun k=>k j s) s (fun t s=>Z.ae b false (fun k=>Z.aj s k (al .leq t (.int .i64 2))) s (fun u s=>Z.ae b false (fun k=>k u s) s (fun m s=>Z.ae m true (fun k=>k c s) s (fun w s=>Z.ae m true (fun k=>Z.aj s k (al .gtr w (.int .i64 6))) s (fun x s=>Z.ae b false (fun k=>Z.bs s k m x (.bool false)) s (fun y s=>Z.bs s (fun z s=>Z.aO z (qb Z e f g c d i s) (qc Z e f g c d i o j a p s)) b (.bool true) y))))))) a r (.bool false))):=h.1.fA
theorem xz:vB Z b c d e f g i j m a o s=Z.cg s (fun p s=>Z.aj s (fun q s=>Z.aO q (LI Z b c d e f g i j m a o s) (sY Z b c d e f g i j m a s)) (al .lss o p)) false a:=h.1.q3
theorem Hp:BD Z a b c d e f g i j m s=vB Z a b c d e f g i j m (.int .i64 0) s:=h.1.fA
theorem xA:vC Z a b c d e f g i j m q o p s=Z.cg s (fun r s=>Z.aj s (fun t s=>Z.aO t (LH Z a b c d e f g i j m q o p s) (BD Z a b c d e f g i m o s)) (al .lss p r)) false j:=h.1.q3
theorem Hq:sZ Z d e f g i j a b s=Z.bj s (fun c s=>Z.b1 s (fun m s=>Z.b1 s (fun y s=>Z.b1 s (fun o s=>Z.av s (fun p s=>Z.aq s (fun q s=>Z.av s (fun r s=>Z.aq s (fun t s=>Z.av s (fun u s=>Z.aq s (fun w s=>Z.bf s (fun x s=>vC Z d e f g i j a b m o x (.bx 1 [] .nil) (.int .i64 0) s) 1 [q,t,w]) none u) 3 a) none r) 2 a) none p) 1 a) 2 c) 1 c) 0 c) 34 [(af.ao s.aa b)]:=h.1.fA
theorem Hr:LJ Z b d e f g a s=Z.bV s (fun i s=>Z.aq s (fun j s=>Z.hA (.ref (.l s.own.length) 0) (s.new (.cells [.int .i64 0,.int .i64 0,.int .i64 0,.int .i64 0,.int .i64 0,.int .i64 0,.int .i64 0])) (fun c s=>Z.bm s (fun u s=>Z.av s (fun m s=>Z.aq s (fun o s=>Z.bj s (fun p s=>Z.aj s (fun q s=>Z.aj s (fun r s=>Z.aO r (sZ Z b d e f g a c (.int .i64 1) s) (sZ Z b d e f g a c q s)) (al .lss a (.int .i64 2))) (al .add (.int .i64 1) p)) 14 [(af.ao s.aa o),(af.ao s.aa (.int .i64 16))]) none m) 0 c) 7 c (af.ao s.aa j))) (some 7) i) 7 b a:=h.1.fA
theorem uT:DN Z a s=Z.aW false [some a] s:=h.1.fA
theorem rB:k8 Z c d b f g e s=Z.cg s (fun i s=>Z.aj s (fun a s=>Z.ae a true (fun k=>k b s) s (fun j s=>Z.ae a true (fun k=>Z.cg s k false j) s (fun m s=>Z.ae a true (fun k=>k d s) s (fun o s=>Z.ae a true (fun k=>Z.aj s k (al .lss m o)) s (fun p s=>Z.bs s (fun q s=>Z.aO q (LJ Z c d b f g e s) (DN Z b s)) a p (.bool false)))))) (al .lss e i)) false c:=h.1.q3
theorem xB:BE Z a b s=Z.aj s (fun c s=>Z.aW false [some c] s) (al .rem a b):=h.1.fA
theorem xC:s0 Z a b c d e s=Z.aj s (fun f s=>vD Z a b c d f s) (al .add e (.int .i64 1)):=h.1.fA
theorem Hs:LK Z d a e f b s=Z.bV s (fun m s=>Z.av s (fun o s=>Z.aq s (fun p s=>Z.bj s (fun g s=>Z.b1 s (fun A s=>Z.b1 s (fun j s=>Z.b1 s (fun B s=>Z.aj s (fun c s=>Z.ae c false (fun k=>k a s) s (fun q s=>Z.ae c false (fun k=>Z.aj s k (al .eql q (.int .i64 0))) s (fun r s=>Z.ae c false (fun k=>k r s) s (fun i s=>Z.ae i true (fun k=>k j s) s (fun t s=>Z.ae i true (fun k=>Z.aj s k (al .neq t (.int .i64 1))) s (fun u s=>Z.ae c false (fun k=>Z.bs s k i u (.bool false)) s (fun w s=>Z.bs s (fun x s=>Z.aO x (Z.bf s (fun y s=>Z.fm s (fun z s=>s0 Z d a e z b s) 1 8 (some (.l 0)) f y) 1 [b]) (s0 Z d a e f b s)) c (.bool true) w))))))) (al .eql j a)) 2 g) 1 g) 0 g) 34 [(af.ao s.aa p)]) none o) 1 m) 12 d b:=h.1.fA
theorem Ht:LL Z b a s=Z.cg s (fun c s=>Z.bj s (fun d s=>Z.bV s (fun e s=>Z.aq s (fun f s=>Z.aW false [some f] s) none e) 1 a d) 14 [(af.ao s.aa b),(af.ao s.aa c)]) false a:=h.1.fA
theorem Hu:BF Z b a s=Z.cg s (fun c s=>Z.aj s (fun d s=>Z.aO d (Z.aW false [some (.int .i64 (-1))] s) (LL Z b a s)) (al .eql c (.int .i64 0))) false a:=h.1.fA
theorem xD:vD Z a e b c d s=Z.cg s (fun f s=>Z.aj s (fun g s=>Z.aO g (LK Z a e b c d s) (BF Z b c s)) (al .lss d f)) false a:=h.1.q3
theorem Hv:LM Z a s=Z.bf s (fun b s=>Z.fm s (fun c s=>Z.aW false [some c] s) 1 4 (some (.l 0)) b a) 1 []:=h.1.fA
theorem Hw:vE Z a b c d e s=Z.aj s (fun f s=>vF Z a b c d f s) (al .add e (.int .i64 1)):=h.1.fA
theorem Hx:LN Z a s=Z.aq s (fun b s=>Z.aW false [some b] s) none a:=h.1.fA
theorem Hy:LO Z e b a c f g d s=Z.p0 0 69 d (fun bP s k1=>Z.aq s (fun i s=>Z.aj s (fun j s=>Z.aO j (Z.aq s (fun m s=>Z.aq s (fun o s=>Z.bf s (fun p s=>Z.fm s (fun q s=>Z.bm s (fun u s=>k1 (.exit 1) s) 1 a (af.ao s.aa q)) 1 8 (some (.l 0)) m p) 1 [o]) none c) none a) (k1 .norm s)) (al .eql bP i)) none b) s (fun r s=>(BG Z) r (.n (.n (.n (.n (.n .e d .e) .dead .e) b .e) .dead (.n (.n .e f .e) a .e)) e (.n .e .dead (.n (.n .e g .e) c .e))) s):=h.1.fA
theorem Hz:LP Z a d e f b s=Z.hA (.ref (.l s.own.length) 0) (s.new (.cells [.int .i64 0])) (fun c s=>Z.bm s (fun r s=>Z.aq s (fun g s=>Z.bj s (fun i s=>LO Z a d e c f b i s) 39 [(af.ao s.aa a),(af.ao s.aa g)]) none c) 1 c (af.ao s.aa b)):=h.1.fA
theorem xE:vF Z d e a b c s=Z.aj s (fun f s=>Z.aO f (LP Z d e a b c s) (LN Z a s)) (al .lss c b):=h.1.q3
theorem vg:(BG Z) .norm (.n (.n (.n (.n (.n .e g .e) .dead .e) b .e) .dead (.n (.n .e d .e) c .e)) a (.n .e .dead (.n (.n .e e .e) f .e))) s=vE Z a b c d e s:=by kernel_rfl
theorem tT:(BG Z) (.exit 1) (.n (.n (.n (.n (.n .e g .e) .dead .e) b .e) .dead (.n (.n .e d .e) c .e)) a (.n .e .dead (.n (.n .e e .e) f .e))) s=vE Z a b c d e s:=by kernel_rfl
theorem EE:DO Z a b c d e s=Z.aj s (fun f s=>qd Z a b c d f s) (al .sub e (.int .i64 1)):=h.1.fA
theorem EF:xh Z a c d e b s=Z.aj s (fun f s=>Z.aj s (fun g s=>Z.bV s (fun i s=>Z.aq s (fun j s=>Z.bV s (fun m s=>Z.aq s (fun o s=>Z.bV s (fun p s=>Z.bm s (fun r s=>Z.bV s (fun q s=>Z.bm s (fun r s=>DO Z a c d e b s) 1 q (af.ao s.aa o)) 1 a f) 1 p (af.ao s.aa j)) 1 a b) none m) 1 a b) none i) 1 a g) (al .sub b (.int .i64 1))) (al .sub b (.int .i64 1)):=h.1.fA
theorem EG:DP Z a b c d s=Z.aj s (fun e s=>qe Z a b c e s) (al .add d (.int .i64 1)):=h.1.fA
theorem uU:qd Z b d e f c s=Z.aj s (fun a s=>Z.ae a true (fun k=>k b s) s (fun g s=>Z.ae a true (fun k=>k c s) s (fun i s=>Z.ae a true (fun k=>Z.bV s k 1 g i) s (fun j s=>Z.ae a true (fun k=>Z.aq s k none j) s (fun m s=>Z.ae a true (fun k=>k b s) s (fun o s=>Z.ae a true (fun k=>k c s) s (fun p s=>Z.ae a true (fun k=>Z.aj s k (al .sub p (.int .i64 1))) s (fun q s=>Z.ae a true (fun k=>Z.bV s k 1 o q) s (fun r s=>Z.ae a true (fun k=>Z.aq s k none r) s (fun t s=>Z.ae a true (fun k=>Z.bj s k 108 [(af.ao s.aa m),(af.ao s.aa t)]) s (fun u s=>Z.bs s (fun w s=>Z.aO w (xh Z b d e f c s) (DP Z b d e f s)) a u (.bool false)))))))))))) (al .gtr c d):=h.1.q3
theorem EH:DQ Z b c d a s=qd Z b c d a a s:=h.1.fA
theorem nU:qe Z c d a b s=Z.aj s (fun e s=>Z.aO e (DQ Z c d a b s) (Z.aW false [] s)) (al .lss b a):=h.1.q3
theorem HA:LU Z a s=Z.aq s (fun b s=>Z.aW true [some b] s) none a:=h.1.fA
theorem HB:LV Z a b s=Z.p0 0 69 b (fun bP s k1=>Z.aq s (fun c s=>Z.bf s (fun d s=>Z.nd s (fun e s=>Z.bm s (fun u s=>k1 .norm s) 1 a (af.ao s.aa e)) 1 8 c d) 1 [bP]) none a) s (fun r s=>(GB Z) r (.n .e .dead (.n .e a (.n .e b .e))) s):=h.1.fA
theorem vh:(GB Z) .norm (.n .e .dead (.n .e a (.n .e b .e))) s=LU Z a s:=by kernel_rfl
theorem HC:LW Z a s=Z.bj s (fun b s=>Z.aW false [some b] s) 112 [(af.ao s.aa a)]:=h.1.fA
theorem xF:LX Z c a b d e f s=Z.aj s (fun g s=>Z.aj s (fun i s=>Z.aO i (Z.bj s (fun j s=>Z.aW false [] s) 102 [(af.ao s.aa c),(af.ao s.aa a),(af.ao s.aa b)]) (Zw Z c a b d e f g s)) (al .leq g (.int .i64 12))) (al .sub b a):=h.1.q3
theorem HD:LY Z a b s=Z.bj s (fun c s=>Z.bj s (fun d s=>Z.aW false [some d,some (.int .i64 0)] s) 38 [(af.ao s.aa c)]) 39 [(af.ao s.aa a),(af.ao s.aa b)]:=h.1.fA
theorem HE:LZ Z a b c s=Z.aj s (fun d s=>vG Z a b d s) (al .add c (.int .i64 1)):=h.1.fA
theorem HF:L0 Z a b c s=Z.bV s (fun d s=>Z.aq s (fun e s=>Z.aj s (fun f s=>Z.aO f (Z.aW false [some (.bool true)] s) (LZ Z a b c s)) (al .eql e b)) none d) 1 a c:=h.1.fA
theorem HG:L1 Z s=Z.aW false [some (.bool false)] s:=h.1.fA
theorem xG:vG Z a c b s=Z.cg s (fun d s=>Z.aj s (fun e s=>Z.aO e (L0 Z a c b s) (L1 Z s)) (al .lss b d)) false a:=h.1.q3
theorem HH:L2 Z a b s=Z.bj s (fun c s=>Z.aW false [some c,some (.int .i64 0)] s) 40 [(af.ao s.aa a),(af.ao s.aa b)]:=h.1.fA
theorem HI:L6 Z a b c d e s=Z.aj s (fun f s=>vH Z a b c d f s) (al .add e (.int .i64 1)):=h.1.fA
theorem HJ:L7 Z d a b e c s=Z.bV s (fun f s=>Z.aq s (fun g s=>Z.h5 s (fun i s=>Z.bm s (fun r s=>L6 Z d a b e c s) 1 i (af.ao s.aa (.bool true))) 1 40 a g) none f) 1 b c:=h.1.fA
theorem xH:s7 Z a b c d e f g s=Z.aj s (fun i s=>pc Z a b c d e f i s) (al .add g (.int .i64 1)):=h.1.fA
theorem EI:DR Z a b c d e f g i j m o p q s=Z.aj s (fun r s=>s9 Z a b c d e f g i j m o p r s) (al .add q (.int .i64 1)):=h.1.fA
theorem EJ:DS Z e f g b i j c m o p d q a s=Z.bV s (fun r s=>Z.aq s (fun t s=>Z.h5 s (fun u s=>Z.aq s (fun w s=>Z.bV s (fun x s=>Z.bm s (fun y s=>DR Z e f g b i j c m o p d q a s) 1 x (af.ao s.aa w)) 1 c a) none u) 1 40 b t) none r) 1 d a:=h.1.fA
theorem EK:s8 Z b c d e f a g i j m s=Z.av s (fun o s=>Z.aq s (fun p s=>Z.gT s (fun q s=>Z.av s (fun r s=>Z.aq s (fun t s=>Z.bj s (fun u s=>Z.av s (fun w s=>Z.bm s (fun F s=>Z.av s (fun x s=>Z.bm s (fun F s=>Z.av s (fun y s=>Z.bm s (fun F s=>Z.aq s (fun z s=>Z.jJ s (fun A s=>Z.o4 s (fun B s=>Z.bf s (fun C s=>Z.fm s (fun D s=>s7 Z b B D e i j m s) 1 8 (some (.l 0)) d C) 1 [f]) 12 184 (some (.l 0)) c A) 12 [(af.ao s.aa z)]) (some 12) a) 4 y (af.ao s.aa u)) 7 a) 4 x (af.ao s.aa q)) 3 a) 1 w (af.ao s.aa g)) 2 a) 41 [(af.ao s.aa t)]) (some 4) r) 7 a) 41 [(af.ao s.aa p)]) (some 4) o) 3 a:=h.1.fA
theorem uV:s9 Z a b c d e f g i j m q o p s=Z.aj s (fun r s=>Z.aO r (DS Z a b c d e f g i j m q o p s) (s8 Z a b c d e f g i j m s)) (al .lss p o):=h.1.q3
theorem HK:BK Z e b f c d a g i j s=Z.cg s (fun p s=>Z.h5 s (fun q s=>Z.bm s (fun y s=>Z.av s (fun r s=>Z.aq s (fun t s=>Z.cg s (fun m s=>Z.k4 s (fun u s=>Z.av s (fun w s=>Z.aq s (fun o s=>Z.cg s (fun x s=>s9 Z e b f c d a u g i j o x (.int .i64 0) s) false o) none w) 2 a) [.int .i64 0] 8 m m) false t) none r) 2 a) 1 q (af.ao s.aa p)) 1 40 c d) false b:=h.1.fA
theorem HL:L8 Z b d e f c g a s=Z.bV s (fun j s=>Z.aq s (fun m s=>Z.hA (.ref (.l s.own.length) 0) (s.new (.cells [.str [],.int .i64 0,.bx 1 [] .nil,.bool false,.bx 1 [] .nil,.bool false,.bx 1 [] .nil,.bool false,.bx 1 [] .nil,.bool false,.bx 1 [] .nil,.int .i64 0])) (fun i s=>Z.bm s (fun r s=>Z.h5 s (fun o s=>Z.aq s (fun p s=>Z.aO p (s7 Z b d e f c g a s) (BK Z b d e f a i c g a s)) none o) 1 40 b a) 12 i (af.ao s.aa m))) (some 12) j) 12 c a:=h.1.fA
theorem EL:DT Z a b s=Z.aW false [some a,some b,some (.int .i64 0)] s:=h.1.fA
theorem xI:pc Z e a b f g c d s=Z.aj s (fun i s=>Z.aO i (L8 Z e a b f g c d s) (DT Z a b s)) (al .lss d c):=h.1.q3
theorem HM:BL Z a b s=Z.hA (.ref (.l s.own.length) 0) (s.new (.cells [.int .i64 0,.int .i64 0,.int .i64 0,.int .i64 0,.int .i64 0,.int .i64 0,.int .i64 0,.int .i64 0,.int .i64 0,.int .i64 0,.int .i64 0,.int .i64 0,.int .i64 0,.int .i64 0,.int .i64 0,.int .i64 0,.int .i64 0,.int .i64 0,.int .i64 0,.int .i64 0,.int .i64 0,.int .i64 0,.int .i64 0,.int .i64 0,.int .i64 0,.int .i64 0,.int .i64 0,.int .i64 0,.int .i64 0,.int .i64 0,.int .i64 0,.int .i64 0,.int .i64 0,.int .i64 0,.int .i64 0,.int .i64 0,.int .i64 0,.int .i64 0,.int .i64 0,.int .i64 0])) (fun c s=>Z.cg s (fun d s=>pc Z b (.bx 12 [] .nil) (.bx 1 [] .nil) c a d (.int .i64 0) s) false a):=h.1.fA
theorem xJ:vH Z a b e c d s=Z.aj s (fun f s=>Z.aO f (L7 Z a b e c d s) (BL Z a b s)) (al .lss d c):=h.1.q3
theorem HN:L9 Z a b s=Z.hA (.ref (.l s.own.length) 0) (s.new (.cells [.bool false,.bool false,.bool false,.bool false,.bool false,.bool false,.bool false,.bool false,.bool false,.bool false,.bool false,.bool false,.bool false,.bool false,.bool false,.bool false,.bool false,.bool false,.bool false,.bool false,.bool false,.bool false,.bool false,.bool false,.bool false,.bool false,.bool false,.bool false,.bool false,.bool false,.bool false,.bool false,.bool false,.bool false,.bool false,.bool false,.bool false,.bool false,.bool false,.bool false])) (fun c s=>Z.h5 s (fun e s=>Z.bm s (fun r s=>Z.bj s (fun d s=>Z.cg s (fun f s=>vH Z a c d f (.int .i64 0) s) false d) 40 [(af.ao s.aa a),(af.ao s.aa b)]) 1 e (af.ao s.aa (.bool true))) 1 40 c b):=h.1.fA
theorem HO:Ma Z a b c d e f g i j s=Z.aj s (fun m s=>BN Z a b c d e f g i m s) (al .add j (.int .i64 1)):=h.1.fA
theorem HP:Mb Z e f g i b j c d a s=Z.bV s (fun m s=>Z.aq s (fun o s=>Z.bV s (fun p s=>Z.aq s (fun q s=>Z.bV s (fun r s=>Z.aq s (fun t s=>Z.aj s (fun u s=>Z.aO u (Z.aW false [some (.bool false)] s) (Ma Z e f g i b j c d a s)) (al .neq q t)) none r) 1 d a) none p) 1 b o) none m) 1 c a:=h.1.fA
theorem HQ:vI Z a b c d e f s=Z.aj s (fun g s=>BQ Z a b c d e g s) (al .add f (.int .i64 1)):=h.1.fA
theorem zH:BN Z a b c d e f g j i s=Z.cg s (fun m s=>Z.aj s (fun o s=>Z.aO o (Mb Z a b c d e f g j i s) (vI Z a b c d e f s)) (al .lss i m)) false g:=h.1.q3
theorem M2:S8 Z a b c d e f g i s=BN Z a b c d e f g i (.int .i64 0) s:=h.1.fA
theorem M3:BO Z g c i d e b s=Z.bj s (fun j s=>Z.b1 s (fun m s=>Z.b1 s (fun q s=>Z.bV s (fun r s=>Z.aq s (fun t s=>Z.bj s (fun o s=>Z.b1 s (fun p s=>Z.b1 s (fun u s=>Z.aj s (fun f s=>Z.ae f false (fun k=>k u s) s (fun w s=>Z.ae f false (fun k=>Z.aj s k (al .neq w (.int .i64 0))) s (fun x s=>Z.bs s (fun a s=>Z.ae a false (fun k=>k m s) s (fun y s=>Z.ae a false (fun k=>Z.cg s k false y) s (fun z s=>Z.ae a false (fun k=>k p s) s (fun A s=>Z.ae a false (fun k=>Z.cg s k false A) s (fun B s=>Z.ae a false (fun k=>Z.aj s k (al .neq z B)) s (fun C s=>Z.bs s (fun D s=>Z.aO D (Z.aW false [some (.bool false)] s) (S8 Z g c i d e b m p s)) a (.bool true) C)))))) f (.bool true) x))) (al .neq q (.int .i64 0))) 1 o) 0 o) 11 [(af.ao s.aa c),(af.ao s.aa t)]) none r) 1 e b) 1 j) 0 j) 11 [(af.ao s.aa d),(af.ao s.aa b)]:=h.1.fA
theorem M4:BP Z m i o f j e s=Z.bV s (fun p s=>Z.aq s (fun q s=>Z.bV s (fun r s=>Z.aq s (fun t s=>Z.hA (.ref (.l s.own.length) 0) (s.new (.cells [.str [],.int .i64 0,.bx 1 [] .nil,.bool false,.bx 1 [] .nil,.bool false,.bx 1 [] .nil,.bool false,.bx 1 [] .nil,.bool false,.bx 1 [] .nil,.int .i64 0])) (fun g s=>Z.bm s (fun aw s=>Z.bV s (fun u s=>Z.av s (fun w s=>Z.aq s (fun x s=>Z.av s (fun y s=>Z.aq s (fun z s=>Z.aj s (fun c s=>Z.ae c false (fun k=>k f s) s (fun A s=>Z.ae c false (fun k=>k e s) s (fun B s=>Z.ae c false (fun k=>Z.bV s k 12 A B) s (fun C s=>Z.ae c false (fun k=>Z.av s k 1 C) s (fun D s=>Z.ae c false (fun k=>Z.aq s k none D) s (fun E s=>Z.ae c false (fun k=>Z.av s k 1 g) s (fun F s=>Z.ae c false (fun k=>Z.aq s k none F) s (fun H s=>Z.ae c false (fun k=>Z.aj s k (al .neq E H)) s (fun I s=>Z.bs s (fun d s=>Z.ae d false (fun k=>k f s) s (fun J s=>Z.ae d false (fun k=>k e s) s (fun K s=>Z.ae d false (fun k=>Z.bV s k 12 J K) s (fun L s=>Z.ae d false (fun k=>Z.av s k 11 L) s (fun M s=>Z.ae d false (fun k=>Z.aq s k none M) s (fun N s=>Z.ae d false (fun k=>Z.av s k 11 g) s (fun O s=>Z.ae d false (fun k=>Z.aq s k none O) s (fun P s=>Z.ae d false (fun k=>Z.aj s k (al .neq N P)) s (fun Q s=>Z.bs s (fun a s=>Z.ae a false (fun k=>k f s) s (fun R s=>Z.ae a false (fun k=>k e s) s (fun S s=>Z.ae a false (fun k=>Z.bV s k 12 R S) s (fun T s=>Z.ae a false (fun k=>Z.av s k 3 T) s (fun U s=>Z.ae a false (fun k=>Z.aq s k (some 4) U) s (fun V s=>Z.ae a false (fun k=>Z.av s k 3 g) s (fun W s=>Z.ae a false (fun k=>Z.aq s k (some 4) W) s (fun Y s=>Z.ae a false (fun k=>Z.bj s k 17 [(af.ao s.aa V),(af.ao s.aa Y)]) s (fun ab s=>Z.ae a false (fun k=>Z.aj s k (kP .not ab)) s (fun ac s=>Z.bs s (fun b s=>Z.ae b false (fun k=>k f s) s (fun ad s=>Z.ae b false (fun k=>k e s) s (fun ag s=>Z.ae b false (fun k=>Z.bV s k 12 ad ag) s (fun ah s=>Z.ae b false (fun k=>Z.av s k 7 ah) s (fun ai s=>Z.ae b false (fun k=>Z.aq s k (some 4) ai) s (fun ak s=>Z.ae b false (fun k=>Z.av s k 7 g) s (fun am s=>Z.ae b false (fun k=>Z.aq s k (some 4) am) s (fun an s=>Z.ae b false (fun k=>Z.bj s k 17 [(af.ao s.aa ak),(af.ao s.aa an)]) s (fun ap s=>Z.ae b false (fun k=>Z.aj s k (kP .not ap)) s (fun ar s=>Z.bs s (fun au s=>Z.aO au (Z.aW false [some (.bool false)] s) (BO Z m i o f j e s)) b (.bool true) ar)))))))))) a (.bool true) ac)))))))))) d (.bool true) Q))))))))) c (.bool true) I))))))))) (al .neq x z)) none y) 0 g) none w) 0 u) 12 f e) 12 g (af.ao s.aa t))) (some 12) r) 12 i q) none p) 1 j e:=h.1.fA
theorem M5:GF Z i j m o c b s=Z.bV s (fun p s=>Z.aq s (fun q s=>Z.aj s (fun d s=>Z.ae d false (fun k=>k c s) s (fun r s=>Z.ae d false (fun k=>k b s) s (fun t s=>Z.ae d false (fun k=>Z.bV s k 1 r t) s (fun u s=>Z.ae d false (fun k=>Z.aq s k none u) s (fun w s=>Z.ae d false (fun k=>k j s) s (fun x s=>Z.ae d false (fun k=>Z.cg s k false x) s (fun y s=>Z.ae d false (fun k=>Z.aj s k (al .geq w y)) s (fun z s=>Z.bs s (fun g s=>Z.ae g false (fun k=>k b s) s (fun A s=>Z.ae g false (fun k=>Z.aj s k (al .gtr A (.int .i64 0))) s (fun B s=>Z.ae g false (fun k=>k B s) s (fun a s=>Z.ae a true (fun k=>k c s) s (fun C s=>Z.ae a true (fun k=>k b s) s (fun D s=>Z.ae a true (fun k=>Z.bV s k 1 C D) s (fun E s=>Z.ae a true (fun k=>Z.aq s k none E) s (fun F s=>Z.ae a true (fun k=>k c s) s (fun H s=>Z.ae a true (fun k=>k b s) s (fun I s=>Z.ae a true (fun k=>Z.aj s k (al .sub I (.int .i64 1))) s (fun J s=>Z.ae a true (fun k=>Z.bV s k 1 H J) s (fun K s=>Z.ae a true (fun k=>Z.aq s k none K) s (fun L s=>Z.ae a true (fun k=>Z.aj s k (al .leq F L)) s (fun M s=>Z.ae g false (fun k=>Z.bs s k a M (.bool false)) s (fun N s=>Z.bs s (fun e s=>Z.ae e false (fun k=>k c s) s (fun O s=>Z.ae e false (fun k=>k b s) s (fun P s=>Z.ae e false (fun k=>Z.bV s k 1 O P) s (fun Q s=>Z.ae e false (fun k=>Z.aq s k none Q) s (fun R s=>Z.ae e false (fun k=>k i s) s (fun S s=>Z.ae e false (fun k=>Z.aj s k (al .eql R S)) s (fun T s=>Z.bs s (fun f s=>Z.ae f false (fun k=>k m s) s (fun U s=>Z.ae f false (fun k=>k c s) s (fun V s=>Z.ae f false (fun k=>k b s) s (fun W s=>Z.ae f false (fun k=>Z.bV s k 1 V W) s (fun Y s=>Z.ae f false (fun k=>Z.aq s k none Y) s (fun ab s=>Z.ae f false (fun k=>Z.bj s k 12 [(af.ao s.aa U),(af.ao s.aa ab)]) s (fun ac s=>Z.bs s (fun ad s=>Z.aO ad (Z.aW false [some (.bool false)] s) (BP Z i j m o c b s)) f (.bool true) ac))))))) e (.bool true) T))))))) g (.bool true) N))))))))))))))) d (.bool true) z)))))))) (al .lss q (.int .i64 0))) none p) 1 c b:=h.1.fA
theorem HR:Mc Z s=Z.aW false [some (.bool true)] s:=h.1.fA
theorem zI:BQ Z c d e a f b s=Z.cg s (fun g s=>Z.aj s (fun i s=>Z.aO i (GF Z c d e a f b s) (Mc Z s)) (al .lss b g)) false a:=h.1.q3
theorem M6:S9 Z a b c d e s=BQ Z a b c d e (.int .i64 0) s:=h.1.fA
theorem M7:GG Z j b s=Z.cg s (fun q s=>Z.bj s (fun f s=>Z.bj s (fun m s=>Z.b1 s (fun o s=>Z.b1 s (fun r s=>Z.bj s (fun g s=>Z.b1 s (fun d s=>Z.b1 s (fun p s=>Z.b1 s (fun t s=>Z.aj s (fun i s=>Z.ae i false (fun k=>k t s) s (fun u s=>Z.ae i false (fun k=>Z.aj s k (al .neq u (.int .i64 0))) s (fun w s=>Z.bs s (fun c s=>Z.ae c false (fun k=>k d s) s (fun x s=>Z.ae c false (fun k=>Z.cg s k false x) s (fun y s=>Z.ae c false (fun k=>k p s) s (fun z s=>Z.ae c false (fun k=>Z.cg s k false z) s (fun A s=>Z.ae c false (fun k=>Z.aj s k (al .neq y A)) s (fun B s=>Z.bs s (fun a s=>Z.ae a false (fun k=>k d s) s (fun C s=>Z.ae a false (fun k=>Z.cg s k false C) s (fun D s=>Z.ae a false (fun k=>k o s) s (fun E s=>Z.ae a false (fun k=>Z.cg s k false E) s (fun F s=>Z.ae a false (fun k=>Z.aj s k (al .add D F)) s (fun H s=>Z.ae a false (fun k=>Z.aj s k (al .add H (.int .i64 1))) s (fun I s=>Z.ae a false (fun k=>k b s) s (fun J s=>Z.ae a false (fun k=>Z.cg s k false J) s (fun K s=>Z.ae a false (fun k=>Z.aj s k (al .neq I K)) s (fun L s=>Z.bs s (fun e s=>Z.ae e false (fun k=>k d s) s (fun M s=>Z.ae e false (fun k=>Z.bj s k 16 [(af.ao s.aa M)]) s (fun N s=>Z.ae e false (fun k=>Z.aj s k (al .neq N (.int .i64 0))) s (fun O s=>Z.bs s (fun P s=>Z.aO P (Z.aW false [some (.bool false)] s) (S9 Z f b o d p s)) e (.bool true) O)))) a (.bool true) L)))))))))) c (.bool true) B)))))) i (.bool true) w))) (al .neq r (.int .i64 0))) 2 g) 1 g) 0 g) 15 [(af.ao s.aa b),(af.ao s.aa f)]) 1 m) 0 m) 13 [(af.ao s.aa b),(af.ao s.aa f)]) 14 [(af.ao s.aa j),(af.ao s.aa q)]) false b:=h.1.fA
theorem M8:Ta Z a b s=Z.bj s (fun c s=>Z.cg s (fun d s=>Z.aj s (fun e s=>Z.aO e (Z.aW false [some (.bool true)] s) (GG Z b c s)) (al .eql d (.int .i64 0))) false c) 10 [(af.ao s.aa a),(af.ao s.aa (.int .i64 12))]:=h.1.fA
end
variable(G:Nat→af)(X:Nat→List af→ah→ai)
theorem Tb:f133 Z a b s=Z.cg s (fun c s=>Z.cg s (fun d s=>Z.aj s (fun e s=>Z.aO e (Z.cg s (fun f s=>Z.cg s (fun g s=>Z.aj s (fun i s=>Z.aO i (Z.aW false [some (.int .i64 (-1))] s) (Dd Z s)) (al .lss f g)) false b) false a) (Di Z a b s)) (al .neq c d)) false b) false a:=by kernel_rfl
theorem HS:aB aF G X 133 [a,b] s=f133 (aQ aF G X) a b s.ag:=bM aF G X (fn:=w0)
theorem Tc:f134 Z a b s=Z.cg s (fun c s=>Z.k4 s (fun d s=>Z.cg s (fun e s=>sG Z a b d (.int .u64 0) e (.int .i64 0) s) false a) [.int .u32 0] 4 c c) false a:=by kernel_rfl
theorem HT:aB aF G X 134 [a,b] s=f134 (aQ aF G X) a b s.ag:=bM aF G X (fn:=C3)
theorem Td:f135 Z a s=Z.cg s (fun b s=>sI Z a b s) false a:=by kernel_rfl
theorem HU:aB aF G X 135 [a] s=f135 (aQ aF G X) a s.ag:=bM aF G X (fn:=C4)
theorem Te:f136 Z a s=Z.bj s (fun b s=>Z.aj s (fun c s=>Z.aW false [some c] s) (al .sub (.int .i64 32) b)) 111 [(af.ao s.aa a)]:=by kernel_rfl
theorem HV:aB aF G X 136 [a] s=f136 (aQ aF G X) a s.ag:=bM aF G X (fn:=Sh)
theorem Tf:f137 Z a b s=Z.cg s (fun d s=>Z.aj s (fun e s=>Z.aj s (fun f s=>Z.aj s (fun c s=>Z.k4 s (fun g s=>Z.cg s (fun i s=>sK Z a b g i (.int .i64 0) s) false a) [.int .u32 0] 4 c c) (al .add f (.int .i64 1))) (al .add d e)) (al .quo b (.int .i64 32))) false a:=by kernel_rfl
theorem HW:aB aF G X 137 [a,b] s=f137 (aQ aF G X) a b s.ag:=bM aF G X (fn:=C5)
theorem Tg:f138 Z b c a d s=Z.cg s (fun e s=>p8 Z b c a d (.int .u64 0) (.int .u64 0) e (.int .i64 0) s) false a:=by kernel_rfl
theorem HX:aB aF G X 138 [a,b,c,d] s=f138 (aQ aF G X) a b c d s.ag:=bM aF G X (fn:=uF)
theorem Th:f139 Z c d a s=Z.cg s (fun b s=>Z.aj s (fun f s=>Z.bV s (fun g s=>Z.aq s (fun i s=>Z.b6 s (fun j s=>Z.aj s (fun m s=>Z.aj s (fun o s=>Z.aj s (fun p s=>Z.bV s (fun q s=>Z.aq s (fun r s=>Z.b6 s (fun t s=>Z.aj s (fun e s=>Z.aj s (fun u s=>Z.bV s (fun w s=>Z.aq s (fun x s=>Z.b6 s (fun y s=>Z.aj s (fun z s=>Z.aj s (fun A s=>Z.bV s (fun B s=>Z.aq s (fun C s=>Z.b6 s (fun D s=>Z.aj s (fun E s=>sN Z c d a b z E s) (al .rem e D)) .u64 C) none B) 1 a A) (al .sub b (.int .i64 1))) (al .quo e y)) .u64 x) none w) 1 a u) (al .sub b (.int .i64 1))) (al .or m t)) .u64 r) none q) 1 c p) (al .sub o (.int .i64 1))) (al .add d b)) (al .shl j (.int .u64 32))) .u64 i) none g) 1 c f) (al .add d b)) false a:=by kernel_rfl
theorem HY:aB aF G X 139 [a,b,c] s=f139 (aQ aF G X) a b c s.ag:=bM aF G X (fn:=Db)
theorem Ti:f140 Z a b s=Z.aj s (fun c s=>Z.cg s (fun d s=>Z.aj s (fun e s=>Z.aO e (Z.cg s (fun f s=>Z.aj s (fun g s=>Z.aW false [some (.bx 1 [] .nil),some g] s) (al .gtr f (.int .i64 0))) false a) (DC Z a b c s)) (al .geq c d)) false a) (al .quo b (.int .i64 32)):=by kernel_rfl
theorem HZ:aB aF G X 140 [a,b] s=f140 (aQ aF G X) a b s.ag:=bM aF G X (fn:=zG)
theorem Tj:f111 Z a s=Z.aj s (fun b s=>Z.aO b (Z.aj s (fun c s=>oE Z c (.int .i64 16) s) (al .shr a (.int .u64 16))) (oE Z a (.int .i64 0) s)) (al .geq a (.int .u32 65536)):=by kernel_rfl
theorem H0:aB aF G X 111 [a] s=f111 (aQ aF G X) a s.ag:=bM aF G X (fn:=CW)
theorem ZE:f87 Z b s=Z.eR b s (fun a s=>Z.av s (fun d s=>Z.aq s (fun e s=>Z.cg s (fun c s=>Z.aj s (fun f s=>Z.aO f (Z.av s (fun g s=>Z.aq s (fun i s=>Z.aj s (fun j s=>Z.aW false [some j] s) (kP .not i)) none g) 0 a) (K1 Z a c s)) (al .eql c (.int .i64 0))) false e) none d) 1 a):=by kernel_rfl
theorem M9:aB aF G X 87 [a] s=f87 (aQ aF G X) a s.ag:=bM aF G X (fn:=US)
theorem ZF:f90 Z b c s=Z.eR b s (fun d s=>Z.eR c s (fun e s=>Z.hA (.ref (.l s.own.length) 0) (s.new (.cells [.bool false,.bx 1 [] .nil])) (fun a s=>Z.aq s (fun f s=>Z.aq s (fun g s=>Z.bj s (fun i s=>Z.aj s (fun j s=>Z.aO j (Z.iJ [.bool false,.bx 1 [] .nil] [] s (fun m s=>Z.bm s (fun h s=>Z.aW false [k3 s a (some 2),some (.int .i64 1)] s) 2 a (af.ao s.aa m))) (K6 Z d e a s)) (kP .not i)) 113 [(af.ao s.aa f),(af.ao s.aa g)]) (some 2) e) (some 2) d))):=by kernel_rfl
theorem Na:aB aF G X 90 [a,b] s=f90 (aQ aF G X) a b s.ag:=bM aF G X (fn:=Bb)
theorem Tk:f113 Z b c s=Z.eR b s (fun d s=>Z.eR c s (fun e s=>Z.aq s (fun f s=>Z.bj s (fun a s=>Z.ae a true (fun k=>Z.aq s k (some 2) e) s (fun g s=>Z.ae a true (fun k=>Z.bj s k 87 [(af.ao s.aa g)]) s (fun i s=>Z.bs s (fun j s=>Z.aW false [some j] s) a i (.bool false)))) 87 [(af.ao s.aa f)]) (some 2) d)):=by kernel_rfl
theorem H2:aB aF G X 113 [a,b] s=f113 (aQ aF G X) a b s.ag:=bM aF G X (fn:=R6)
theorem Tl:f114 Z a b s=Z.bj s (fun c s=>Z.aj s (fun d s=>Z.aO d (Z.aW false [some (.bx 1 [] .nil),some a] s) (DH Z a b s)) (al .lss c (.int .i64 0))) 133 [(af.ao s.aa a),(af.ao s.aa b)]:=by kernel_rfl
theorem H3:aB aF G X 114 [a,b] s=f114 (aQ aF G X) a b s.ag:=bM aF G X (fn:=wZ)
theorem Tm:f115 Z b c s=Z.hA (.ref (.l s.own.length) 0) (s.new (.cells [.bool false,.bx 1 [] .nil])) (fun a s=>Z.bj s (fun d s=>Z.cg s (fun e s=>Z.aj s (fun f s=>Z.aO f (Z.iJ [.bool false,.bx 1 [] .nil] [] s (fun g s=>Z.bm s (fun h s=>Z.aW false [k3 s a (some 2),some (.int .i64 2)] s) 2 a (af.ao s.aa g))) (DI Z b d a s)) (al .gtr e (.int .i64 128))) false d) 135 [(af.ao s.aa c)]):=by kernel_rfl
theorem H4:aB aF G X 115 [a,b] s=f115 (aQ aF G X) a b s.ag:=bM aF G X (fn:=zF)
theorem Tn:f116 Z a s=Z.cg s (fun b s=>oF Z a (.int .u64 0) b (.int .i64 0) s) false a:=by kernel_rfl
theorem H5:aB aF G X 116 [a] s=f116 (aQ aF G X) a s.ag:=bM aF G X (fn:=CY)
theorem ZG:f71 Z e s=Z.eR e s (fun a s=>Z.av s (fun f s=>Z.aq s (fun g s=>Z.bj s (fun i s=>Z.aj s (fun b s=>Z.ae b false (fun k=>Z.av s k 2 a) s (fun j s=>Z.ae b false (fun k=>Z.aq s k (some 2) j) s (fun m s=>Z.ae b false (fun k=>Z.bj s k 87 [(af.ao s.aa m)]) s (fun o s=>Z.ae b false (fun k=>Z.aj s k (kP .not o)) s (fun p s=>Z.bs s (fun c s=>Z.ae c false (fun k=>Z.av s k 2 a) s (fun q s=>Z.ae c false (fun k=>Z.av s k 0 q) s (fun r s=>Z.ae c false (fun k=>Z.aq s k none r) s (fun t s=>Z.bs s (fun d s=>Z.ae d false (fun k=>Z.av s k 2 a) s (fun u s=>Z.ae d false (fun k=>Z.aq s k (some 2) u) s (fun w s=>Z.ae d false (fun k=>Z.bj s k 88 [(af.ao s.aa w)]) s (fun x s=>Z.bs s (fun y s=>Z.aO y (Z.aW false [some (.bool false)] s) (Ld Z a s)) d (.bool true) x)))) c (.bool true) t)))) b (.bool true) p))))) (kP .not i)) 87 [(af.ao s.aa g)]) (some 2) f) 0 a):=by kernel_rfl
theorem Nb:aB aF G X 71 [a] s=f71 (aQ aF G X) a s.ag:=bM aF G X (fn:=Gs)
theorem ZH:f88 Z a s=Z.eR a s (fun b s=>Z.av s (fun c s=>Z.aq s (fun d s=>Z.cg s (fun e s=>Z.aj s (fun f s=>Z.aW false [some f] s) (al .eql e (.int .i64 0))) false d) none c) 1 b):=by kernel_rfl
theorem Nc:aB aF G X 88 [a] s=f88 (aQ aF G X) a s.ag:=bM aF G X (fn:=aet)
theorem ZI:f89 Z d s=Z.eR d s (fun c s=>Z.av s (fun e s=>Z.aq s (fun f s=>Z.aj s (fun b s=>Z.ae b true (fun k=>Z.av s k 1 c) s (fun g s=>Z.ae b true (fun k=>Z.aq s k none g) s (fun i s=>Z.ae b true (fun k=>Z.cg s k false i) s (fun j s=>Z.ae b true (fun k=>Z.aj s k (al .eql j (.int .i64 1))) s (fun m s=>Z.bs s (fun a s=>Z.ae a true (fun k=>Z.av s k 1 c) s (fun o s=>Z.ae a true (fun k=>Z.aq s k none o) s (fun p s=>Z.ae a true (fun k=>Z.bV s k 1 p (.int .i64 0)) s (fun q s=>Z.ae a true (fun k=>Z.aq s k none q) s (fun r s=>Z.ae a true (fun k=>Z.aj s k (al .eql r (.int .u32 1))) s (fun t s=>Z.bs s (fun u s=>Z.aW false [some u] s) a t (.bool false))))))) b m (.bool false)))))) (kP .not f)) none e) 0 c):=by kernel_rfl
theorem Nd:aB aF G X 89 [a] s=f89 (aQ aF G X) a s.ag:=bM aF G X (fn:=aeu)
theorem ZJ:f16 Z a s=Z.cg s (fun b s=>vv Z a (.int .i64 0) a b (.int .i64 0) s) false a:=by kernel_rfl
theorem Nf:aB aF G X 16 [a] s=f16 (aQ aF G X) a s.ag:=bM aF G X (fn:=AY)
theorem ZK:f42 Z c s=Z.cg s (fun i s=>Z.aj s (fun f s=>Z.bV s (fun j s=>Z.aq s (fun m s=>Z.hA (.ref (.l s.own.length) 0) (s.new (.cells [.str [],.int .i64 0,.bx 1 [] .nil,.bool false,.bx 1 [] .nil,.bool false,.bx 1 [] .nil,.bool false,.bx 1 [] .nil,.bool false,.bx 1 [] .nil,.int .i64 0])) (fun b s=>Z.bm s (fun h s=>Z.av s (fun o s=>Z.aq s (fun p s=>Z.bj s (fun e s=>Z.b1 s (fun g s=>Z.b1 s (fun q s=>Z.b1 s (fun r s=>Z.aj s (fun a s=>Z.ae a false (fun k=>k g s) s (fun t s=>Z.ae a false (fun k=>Z.cg s k false t) s (fun u s=>Z.ae a false (fun k=>Z.av s k 2 b) s (fun w s=>Z.ae a false (fun k=>Z.aq s k none w) s (fun x s=>Z.ae a false (fun k=>Z.cg s k false x) s (fun y s=>Z.ae a false (fun k=>Z.aj s k (al .neq u y)) s (fun z s=>Z.bs s (fun d s=>Z.ae d false (fun k=>Z.av s k 0 b) s (fun A s=>Z.ae d false (fun k=>Z.aq s k none A) s (fun B s=>Z.ae d false (fun k=>Z.aj s k (al .eql B (.str []))) s (fun C s=>Z.bs s (fun D s=>Z.aO D (Z.aW false [some (.bool false)] s) (Lk Z c f b g r s)) d (.bool true) C)))) a (.bool true) z))))))) (al .eql q (.int .i64 0))) 2 e) 1 e) 0 e) 21 [(af.ao s.aa p)]) none o) 1 b) 12 b (af.ao s.aa m))) (some 12) j) 12 c f) (al .sub i (.int .i64 1))) false c:=by kernel_rfl
theorem Ng:aB aF G X 42 [a] s=f42 (aQ aF G X) a s.ag:=bM aF G X (fn:=CV)
theorem ZL:f43 Z b s=Z.eR b s (fun c s=>Z.av s (fun d s=>Z.aq s (fun e s=>Z.bj s (fun a s=>Z.b1 s (fun g s=>Z.b1 s (fun i s=>Z.b1 s (fun f s=>Z.aW false [some f] s) 2 a) 1 a) 0 a) 21 [(af.ao s.aa e)]) none d) 1 c):=by kernel_rfl
theorem Nh:aB aF G X 43 [a] s=f43 (aQ aF G X) a s.ag:=bM aF G X (fn:=adl)
theorem ZM:f44 Z a s=Z.cg s (fun b s=>vx Z (.bx 2 [] .nil) a b (.int .i64 0) s) false a:=by kernel_rfl
theorem Ni:aB aF G X 44 [a] s=f44 (aQ aF G X) a s.ag:=bM aF G X (fn:=Qf)
theorem ZN:f37 Z a b s=Z.bj s (fun c s=>Z.aj s (fun d s=>Z.aO d (Z.aW false [some c] s) (Bv Z a b s)) (al .neq c (.int .i64 0))) 16 [(af.ao s.aa a)]:=by kernel_rfl
theorem Nj:aB aF G X 37 [a,b] s=f37 (aQ aF G X) a b s.ag:=bM aF G X (fn:=sC)
theorem ZO:f48 Z b s=Z.eR b s (fun c s=>Z.av s (fun d s=>Z.aq s (fun e s=>Z.bj s (fun a s=>Z.b1 s (fun g s=>Z.b1 s (fun f s=>Z.b1 s (fun i s=>Z.aW false [some f] s) 2 a) 1 a) 0 a) 21 [(af.ao s.aa e)]) none d) 1 c):=by kernel_rfl
theorem Nk:aB aF G X 48 [a] s=f48 (aQ aF G X) a s.ag:=bM aF G X (fn:=adt)
theorem ZP:f34 Z a s=Z.aj s (fun c s=>Z.aO c (Z.aW false [some (.bx 1 [] .nil),some (.int .i64 1),some (.bool false)] s) (Z.aj s (fun d s=>Z.aO d (Z.bf s (fun e s=>Z.aW false [some e,some (.int .i64 1),some (.bool false)] s) 1 [(.int .i64 0)]) (Z.aj s (fun f s=>Z.aO f (Z.bf s (fun g s=>Z.aW false [some g,some (.int .i64 2),some (.bool false)] s) 1 [(.int .i64 1),(.int .i64 1)]) (Z.aj s (fun i s=>Z.aO i (Z.bf s (fun j s=>Z.aW false [some j,some (.int .i64 1),some (.bool false)] s) 1 [(.int .i64 2),(.int .i64 2)]) (Z.aj s (fun m s=>Z.aO m (Z.bf s (fun o s=>Z.aW false [some o,some (.int .i64 3),some (.bool false)] s) 1 [(.int .i64 1),(.int .i64 1)]) (Z.aj s (fun b s=>Z.aO b (Bx Z a b s) (Z.aj s (fun p s=>Bx Z a p s) (al .eql a (.int .i64 7)))) (al .eql a (.int .i64 6)))) (al .eql a (.int .i64 5)))) (al .eql a (.int .i64 4)))) (al .eql a (.int .i64 3)))) (al .eql a (.int .i64 2)))) (al .eql a (.int .i64 1)):=by kernel_rfl
theorem Nl:aB aF G X 34 [a] s=f34 (aQ aF G X) a s.ag:=bM aF G X (fn:=AZ)
theorem ZQ:f50 Z d c s=Z.aj s (fun a s=>Z.ae a false (fun k=>k d s) s (fun f s=>Z.ae a false (fun k=>Z.aj s k (al .eql f (.int .i64 0))) s (fun g s=>Z.ae a false (fun k=>k g s) s (fun b s=>Z.ae b true (fun k=>k c s) s (fun i s=>Z.ae b true (fun k=>Z.aj s k (al .eql i (.int .i64 2))) s (fun j s=>Z.ae b true (fun k=>k j s) s (fun e s=>Z.ae e false (fun k=>k c s) s (fun m s=>Z.ae e false (fun k=>Z.aj s k (al .eql m (.int .i64 3))) s (fun o s=>Z.ae b true (fun k=>Z.bs s k e (.bool true) o) s (fun p s=>Z.ae a false (fun k=>Z.bs s k b p (.bool false)) s (fun q s=>Z.bs s (fun r s=>Z.aW false [some r] s) a (.bool true) q))))))))))) (al .eql c d):=by kernel_rfl
theorem Nm:aB aF G X 50 [a,b] s=f50 (aQ aF G X) a b s.ag:=bM aF G X (fn:=adB)
theorem ZR:f21 Z a s=Z.aj s (fun c s=>Z.aO c (Z.aW false [some (.bx 1 [] .nil),some (.int .i64 1),some (.bool false)] s) (Z.aj s (fun d s=>Z.aO d (Z.bf s (fun e s=>Z.aW false [some e,some (.int .i64 1),some (.bool false)] s) 1 [(.int .i64 0)]) (Z.aj s (fun f s=>Z.aO f (Z.bf s (fun g s=>Z.aW false [some g,some (.int .i64 2),some (.bool false)] s) 1 [(.int .i64 1),(.int .i64 1)]) (Z.aj s (fun i s=>Z.aO i (Z.bf s (fun j s=>Z.aW false [some j,some (.int .i64 1),some (.bool false)] s) 1 [(.int .i64 2),(.int .i64 2)]) (Z.aj s (fun m s=>Z.aO m (Z.bf s (fun o s=>Z.aW false [some o,some (.int .i64 3),some (.bool false)] s) 1 [(.int .i64 1),(.int .i64 1)]) (Z.aj s (fun b s=>Z.aO b (Bz Z a b s) (Z.aj s (fun p s=>Bz Z a p s) (al .eql a (.int .i64 7)))) (al .eql a (.int .i64 6)))) (al .eql a (.int .i64 5)))) (al .eql a (.int .i64 4)))) (al .eql a (.int .i64 3)))) (al .eql a (.int .i64 2)))) (al .eql a (.int .i64 1)):=by kernel_rfl
theorem Nn:aB aF G X 21 [a] s=f21 (aQ aF G X) a s.ag:=bM aF G X (fn:=PD)
theorem ZS:f72 Z e s=Z.eR e s (fun d s=>Z.av s (fun f s=>Z.av s (fun g s=>Z.aq s (fun i s=>Z.aj s (fun c s=>Z.ae c true (fun k=>Z.av s k 2 d) s (fun j s=>Z.ae c true (fun k=>Z.av s k 0 j) s (fun m s=>Z.ae c true (fun k=>Z.aq s k none m) s (fun o s=>Z.ae c true (fun k=>Z.aj s k (kP .not o)) s (fun p s=>Z.bs s (fun a s=>Z.ae a true (fun k=>Z.av s k 0 d) s (fun q s=>Z.ae a true (fun k=>Z.av s k 1 q) s (fun r s=>Z.ae a true (fun k=>Z.aq s k none r) s (fun t s=>Z.ae a true (fun k=>Z.cg s k false t) s (fun u s=>Z.ae a true (fun k=>Z.aj s k (al .eql u (.int .i64 0))) s (fun w s=>Z.bs s (fun b s=>Z.ae b true (fun k=>Z.av s k 2 d) s (fun x s=>Z.ae b true (fun k=>Z.av s k 1 x) s (fun y s=>Z.ae b true (fun k=>Z.aq s k none y) s (fun z s=>Z.ae b true (fun k=>Z.cg s k false z) s (fun A s=>Z.ae b true (fun k=>Z.aj s k (al .eql A (.int .i64 0))) s (fun B s=>Z.bs s (fun C s=>Z.aW false [some C] s) b B (.bool false))))))) a w (.bool false))))))) c p (.bool false)))))) (kP .not i)) none g) 0 f) 0 d):=by kernel_rfl
theorem No:aB aF G X 72 [a] s=f72 (aQ aF G X) a s.ag:=bM aF G X (fn:=adU)
theorem ZT:f73 Z a b s=Z.bj s (fun c s=>Z.aj s (fun d s=>Z.aW false [some d] s) (al .geq c (.int .i64 0))) 62 [(af.ao s.aa a),(af.ao s.aa b)]:=by kernel_rfl
theorem Np:aB aF G X 73 [a,b] s=f73 (aQ aF G X) a b s.ag:=bM aF G X (fn:=adV)
theorem ZU:f74 Z a b s=Z.eR a s (fun c s=>Z.av s (fun d s=>Z.aq s (fun e s=>Z.av s (fun f s=>Z.aq s (fun g s=>Z.aj s (fun i s=>Z.aW false [some i] s) (al .eql e g)) none f) 0 b) none d) 0 c):=by kernel_rfl
theorem Nq:aB aF G X 74 [a,b] s=f74 (aQ aF G X) a b s.ag:=bM aF G X (fn:=QF)
theorem ZV:f17 Z a b s=Z.eR a s (fun c s=>Z.eR b s (fun d s=>Z.av s (fun f s=>Z.aq s (fun g s=>Z.av s (fun i s=>Z.aq s (fun j s=>Z.bj s (fun e s=>Z.av s (fun m s=>Z.aq s (fun o s=>Z.av s (fun p s=>Z.aq s (fun q s=>Z.bj s (fun r s=>Z.ae e true (fun k=>k r s) s (fun t s=>Z.bs s (fun u s=>Z.aW false [some u] s) e t (.bool false))) 45 [(af.ao s.aa o),(af.ao s.aa q)]) (some 2) p) 2 d) (some 2) m) 2 c) 45 [(af.ao s.aa g),(af.ao s.aa j)]) (some 2) i) 0 d) (some 2) f) 0 c)):=by kernel_rfl
theorem Nr:aB aF G X 17 [a,b] s=f17 (aQ aF G X) a b s.ag:=bM aF G X (fn:=ace)
theorem ZW:f62 Z a b s=Z.cg s (fun c s=>vy Z a b c (.int .i64 0) s) false a:=by kernel_rfl
theorem Ns:aB aF G X 62 [a,b] s=f62 (aQ aF G X) a b s.ag:=bM aF G X (fn:=Qu)
theorem ZX:f45 Z d e s=Z.eR d s (fun b s=>Z.eR e s (fun c s=>Z.av s (fun f s=>Z.aq s (fun g s=>Z.av s (fun i s=>Z.aq s (fun j s=>Z.aj s (fun a s=>Z.ae a false (fun k=>Z.av s k 1 b) s (fun m s=>Z.ae a false (fun k=>Z.aq s k none m) s (fun o s=>Z.ae a false (fun k=>Z.cg s k false o) s (fun p s=>Z.ae a false (fun k=>Z.av s k 1 c) s (fun q s=>Z.ae a false (fun k=>Z.aq s k none q) s (fun r s=>Z.ae a false (fun k=>Z.cg s k false r) s (fun t s=>Z.ae a false (fun k=>Z.aj s k (al .neq p t)) s (fun u s=>Z.bs s (fun w s=>Z.aO w (Z.aW false [some (.bool false)] s) (Lw Z b c s)) a (.bool true) u)))))))) ((oi .bool g j).map fun b=>.bool (bif true then !b else b))) none i) 0 c) none f) 0 b)):=by kernel_rfl
theorem Nt:aB aF G X 45 [a,b] s=f45 (aQ aF G X) a b s.ag:=bM aF G X (fn:=M0)
theorem ZY:f19 Z a s=Z.bj s (fun b s=>Z.aW false [some b] s) 47 [(af.ao s.aa a)]:=by kernel_rfl
theorem Nu:aB aF G X 19 [a] s=f19 (aQ aF G X) a s.ag:=bM aF G X (fn:=Px)
theorem ZZ:f47 Z a s=Z.bj s (fun b s=>Z.aW false [some b] s) 77 [(af.ao s.aa a),(af.ao s.aa (.int .i64 10))]:=by kernel_rfl
theorem Nv:aB aF G X 47 [a] s=f47 (aQ aF G X) a s.ag:=bM aF G X (fn:=ads)
theorem Z0:f77 Z a b s=Z.aj s (fun d s=>Z.aO d (Z.aj s (fun c s=>Z.ae c true (fun k=>k a s) s (fun e s=>Z.ae c true (fun k=>Z.aj s k (al .lss e (.int .i64 100))) s (fun f s=>Z.bs s (fun g s=>Z.aO g (Z.bj s (fun i s=>Z.aW false [some i] s) 95 [(af.ao s.aa a)]) (Ly Z a s)) c f (.bool false)))) (al .leq (.int .i64 0) a)) (Zn Z a b s)) (al .eql b (.int .i64 10)):=by kernel_rfl
theorem Nw:aB aF G X 77 [a,b] s=f77 (aQ aF G X) a b s.ag:=bM aF G X (fn:=QM)
theorem Z1:f95 Z a s=Z.aj s (fun b s=>Z.aO b (Z.aj s (fun c s=>Z.wP (.str [48,49,50,51,52,53,54,55,56,57,97,98,99,100,101,102,103,104,105,106,107,108,109,110,111,112,113,114,115,116,117,118,119,120,121,122]) (some a) (some c) s (fun d s=>Z.aW false [some d] s)) (al .add a (.int .i64 1))) (Lz Z a s)) (al .lss a (.int .i64 10)):=by kernel_rfl
theorem Nx:aB aF G X 95 [a] s=f95 (aQ aF G X) a s.ag:=bM aF G X (fn:=UW)
theorem Z2:f96 Z a s=Z.bj s (fun c s=>Z.bj s (fun b s=>Z.h5 s (fun d s=>Z.aq s (fun e s=>Z.aj s (fun f s=>Z.bj s (fun g s=>Z.aj s (fun i s=>Z.aW false [some i] s) (al .add b g)) 121 [(af.ao s.aa f)]) (al .geq a e)) none d) 1 20 (Z.bE 0) b) 120 [(af.ao s.aa c)]) 112 [(af.ao s.aa a)]:=by kernel_rfl
theorem Ny:aB aF G X 96 [a] s=f96 (aQ aF G X) a s.ag:=bM aF G X (fn:=aeN)
theorem Z3:f97 Z a b s=Z.cg s (fun c s=>LA Z a b c s) false a:=by kernel_rfl
theorem Nz:aB aF G X 97 [a,b] s=f97 (aQ aF G X) a b s.ag:=bM aF G X (fn:=Gw)
theorem To:f112 Z a s=Z.aj s (fun b s=>Z.aO b (Z.aj s (fun c s=>xc Z c (.int .i64 32) s) (al .shr a (.int .u64 32))) (xc Z a (.int .i64 0) s)) (al .geq a (.int .u64 4294967296)):=by kernel_rfl
theorem H6:aB aF G X 112 [a] s=f112 (aQ aF G X) a s.ag:=bM aF G X (fn:=zE)
theorem Tp:f120 Z a s=Z.aj s (fun b s=>Z.aj s (fun c s=>Z.aW false [some c] s) (al .shr b (.int .u64 18))) (al .mul a (.int .i64 78913)):=by kernel_rfl
theorem H7:aB aF G X 120 [a] s=f120 (aQ aF G X) a s.ag:=bM aF G X (fn:=Sf)
theorem Tq:f121 Z a s=Z.aO a (Z.aW false [some (.int .i64 1)] s) (DM Z s):=by kernel_rfl
theorem H8:aB aF G X 121 [a] s=f121 (aQ aF G X) a s.ag:=bM aF G X (fn:=Kd)
theorem Z4:f10 Z a b s=k8 Z a b (.bx 12 [] .nil) (.int .i64 0) (.int .i64 0) (.int .i64 0) s:=by kernel_rfl
theorem NA:aB aF G X 10 [a,b] s=f10 (aQ aF G X) a b s.ag:=bM aF G X (fn:=AV)
theorem Z5:f14 Z a b s=Z.aj s (fun c s=>Z.aO c (Z.aj s (fun d s=>Z.aj s (fun e s=>BE Z e b s) (kP .neg d)) (al .add a (.int .i64 1))) (BE Z a b s)) (al .lss a (.int .i64 0)):=by kernel_rfl
theorem NB:aB aF G X 14 [a,b] s=f14 (aQ aF G X) a b s.ag:=bM aF G X (fn:=tR)
theorem Z6:f35 Z a b c s=vD Z a b c (.bx 1 [] .nil) (.int .i64 0) s:=by kernel_rfl
theorem NC:aB aF G X 35 [a,b,c] s=f35 (aQ aF G X) a b c s.ag:=bM aF G X (fn:=MZ)
theorem Z7:f36 Z a s=Z.hA (.ref (.l s.own.length) 0) (s.new (.cells [.bool false,.bx 1 [] .nil,.bool false,.bx 1 [] .nil])) (fun b s=>Z.bj s (fun e s=>Z.aj s (fun f s=>Z.bj s (fun g s=>Z.aj s (fun i s=>Z.gT s (fun c s=>Z.b1 s (fun j s=>Z.b1 s (fun o s=>Z.hA (.ref (.l s.own.length) 0) (s.new (.cells [.bool false,.bx 1 [] .nil,.bool false,.bx 1 [] .nil])) (fun d s=>Z.bm s (fun h s=>Z.aq s (fun m s=>Z.bm s (fun h s=>Z.aW false [k3 s b (some 4)] s) 4 b (af.ao s.aa m)) (some 4) d) 4 d (af.ao s.aa j))) 1 c) 0 c) 46 [(af.ao s.aa f),(af.ao s.aa i)]) (al .add (.int .i64 1) g)) 14 [(af.ao s.aa a),(af.ao s.aa (.int .i64 4))]) (al .sub e (.int .i64 16))) 14 [(af.ao s.aa a),(af.ao s.aa (.int .i64 33))]):=by kernel_rfl
theorem ND:aB aF G X 36 [a] s=f36 (aQ aF G X) a s.ag:=bM aF G X (fn:=ac7)
theorem Z8:f41 Z b s=Z.oA b s (fun a s=>Z.hA (.ref (.l s.own.length) 0) (s.new (.cells [.bool false,.bx 1 [] .nil,.bool false,.bx 1 [] .nil])) (fun c s=>Z.av s (fun d s=>Z.av s (fun e s=>Z.aq s (fun f s=>Z.bj s (fun g s=>Z.av s (fun i s=>Z.av s (fun j s=>Z.bm s (fun h s=>Z.av s (fun m s=>Z.av s (fun o s=>Z.aq s (fun p s=>Z.bj s (fun q s=>Z.av s (fun r s=>Z.av s (fun t s=>Z.bm s (fun h s=>Z.aq s (fun u s=>Z.bm s (fun h s=>Z.aW false [k3 s c (some 4)] s) 4 c (af.ao s.aa u)) (some 4) a) 1 t (af.ao s.aa q)) 1 r) 2 a) 70 [(af.ao s.aa p)]) none o) 1 m) 2 a) 1 j (af.ao s.aa g)) 1 i) 0 a) 70 [(af.ao s.aa f)]) none e) 1 d) 0 a)):=by kernel_rfl
theorem NE:aB aF G X 41 [a] s=f41 (aQ aF G X) a s.ag:=bM aF G X (fn:=adg)
theorem Z9:f70 Z a s=Z.aj s (fun b s=>Z.aO b (Z.aW false [some (.bx 1 [] .nil)] s) (LM Z a s)) ((oi .slice a (.bx 1 [] .nil)).map fun b=>.bool (bif false then !b else b)):=by kernel_rfl
theorem NF:aB aF G X 70 [a] s=f70 (aQ aF G X) a s.ag:=bM aF G X (fn:=M1)
theorem aaa:f67 Z a s=Z.bj s (fun b s=>Z.aW true [some b] s) 84 [(af.ao s.aa (.bx 1 [] .nil)),(af.ao s.aa a)]:=by kernel_rfl
theorem NG:aB aF G X 67 [a] s=f67 (aQ aF G X) a s:=bM aF G X (fn:=adF)
theorem aab:f38 Z a s=Z.bj s (fun b s=>Z.bj s (fun c s=>Z.aW false [some b] s) 68 [(af.ao s.aa b)]) 67 [(af.ao s.aa a)]:=by kernel_rfl
theorem NH:aB aF G X 38 [a] s=f38 (aQ aF G X) a s.ag:=bM aF G X (fn:=ada)
theorem aac:f39 Z a b s=Z.eR a s (fun c s=>Z.eR b s (fun d s=>Z.hA (.fn 69 [(af.ao s.aa d),(af.ao s.aa c)]) s (fun e s=>Z.aW false [some e] s))):=by kernel_rfl
theorem NI:aB aF G X 39 [a,b] s=f39 (aQ aF G X) a b s.ag:=bM aF G X (fn:=adb)
theorem aad:f40 Z a b s=Z.eR b s (fun c s=>Z.hA (.ref (.l s.own.length) 0) (s.new (.cells [.bx 1 [] .nil])) (fun d s=>Z.cg s (fun e s=>vF Z a c d e (.int .i64 0) s) false a)):=by kernel_rfl
theorem NJ:aB aF G X 40 [a,b] s=f40 (aQ aF G X) a b s.ag:=bM aF G X (fn:=P2)
theorem EM:f102 Z b a c s=Z.aj s (fun d s=>qe Z b a c d s) (al .add a (.int .i64 1)):=by kernel_rfl
theorem xK:aB aF G X 102 [a,b,c] s=f102 (aQ aF G X) a b c s.ag:=bM aF G X (fn:=JN)
theorem Md:f68 Z a s=Z.cg s (fun b s=>Z.b6 s (fun c s=>Z.bj s (fun d s=>Z.bj s (fun e s=>Z.aW false [] s) 85 [(af.ao s.aa a),(af.ao s.aa (.int .i64 0)),(af.ao s.aa b),(af.ao s.aa d)]) 86 [(af.ao s.aa c)]) .u64 b) false a:=by kernel_rfl
theorem zJ:aB aF G X 68 [a] s=f68 (aQ aF G X) a s.ag:=bM aF G X (fn:=adG)
theorem aae:f84 Z a b s=Z.oA a s (fun c s=>LV Z c b s):=by kernel_rfl
theorem NK:aB aF G X 84 [a,b] s=f84 (aQ aF G X) a b s:=bM aF G X (fn:=QR)
theorem aaf:f86 Z a s=Z.aO (.bool false) (Z.b6 s (fun b s=>Z.bj s (fun c s=>Z.aW false [some c] s) 111 [(af.ao s.aa b)]) .u32 a) (LW Z a s):=by kernel_rfl
theorem NL:aB aF G X 86 [a] s=f86 (aQ aF G X) a s.ag:=bM aF G X (fn:=UR)
theorem Tr:f108 Z c d s=Z.bj s (fun a s=>Z.ae a true (fun k=>k d s) s (fun e s=>Z.ae a true (fun k=>Z.bj s k 132 [(af.ao s.aa e)]) s (fun f s=>Z.ae a true (fun k=>Z.aj s k (kP .not f)) s (fun g s=>Z.bs s (fun b s=>Z.ae b false (fun k=>k c s) s (fun i s=>Z.ae b false (fun k=>k d s) s (fun j s=>Z.ae b false (fun k=>Z.aj s k (al .lss i j)) s (fun m s=>Z.bs s (fun o s=>Z.aW false [some o] s) b (.bool true) m)))) a g (.bool false))))) 132 [(af.ao s.aa c)]:=by kernel_rfl
theorem H9:aB aF G X 108 [a,b] s=f108 (aQ aF G X) a b s.ag:=bM aF G X (fn:=RH)
theorem Ts:f132 Z a s=Z.aj s (fun b s=>Z.aW false [some b] s) (al .neq a a):=by kernel_rfl
theorem Ia:aB aF G X 132 [a] s=f132 (aQ aF G X) a s.ag:=bM aF G X (fn:=Sg)
theorem Me:f85 Z a b c d s=LX Z a b c d (.bool true) (.bool true) s:=by kernel_rfl
theorem zK:aB aF G X 85 [a,b,c,d] s=f85 (aQ aF G X) a b c d s.ag:=bM aF G X (fn:=UQ)
theorem aag:f11 Z a b s=Z.bj s (fun c s=>Z.aj s (fun d s=>Z.aO d (Z.aW false [some (.bx 1 [] .nil),some c] s) (LY Z a b s)) (al .neq c (.int .i64 0))) 37 [(af.ao s.aa a),(af.ao s.aa b)]:=by kernel_rfl
theorem NM:aB aF G X 11 [a,b] s=f11 (aQ aF G X) a b s.ag:=bM aF G X (fn:=UB)
theorem aah:f12 Z a b s=vG Z a b (.int .i64 0) s:=by kernel_rfl
theorem NN:aB aF G X 12 [a,b] s=f12 (aQ aF G X) a b s.ag:=bM aF G X (fn:=Pe)
theorem aai:f13 Z a b s=Z.bj s (fun c s=>Z.aj s (fun d s=>Z.aO d (Z.aW false [some (.bx 1 [] .nil),some c] s) (L2 Z a b s)) (al .neq c (.int .i64 0))) 37 [(af.ao s.aa a),(af.ao s.aa b)]:=by kernel_rfl
theorem NO:aB aF G X 13 [a,b] s=f13 (aQ aF G X) a b s.ag:=bM aF G X (fn:=UC)
theorem aaj:f15 Z a b s=Z.bj s (fun c s=>Z.aj s (fun d s=>Z.aO d (Z.aW false [some (.bx 12 [] .nil),some (.bx 1 [] .nil),some c] s) (L9 Z a b s)) (al .neq c (.int .i64 0))) 37 [(af.ao s.aa a),(af.ao s.aa b)]:=by kernel_rfl
theorem NP:aB aF G X 15 [a,b] s=f15 (aQ aF G X) a b s.ag:=bM aF G X (fn:=CU)
theorem afV:f4 Z a b s=Z.gT s (fun c s=>Z.aj s (fun d s=>Z.aO d (Z.aW false [some (.bool false)] s) (Ta Z a b s)) (kP .not c)) 9 []:=by kernel_rfl
theorem Tt:aB aF G X 4 [a,b] s=f4 (aQ aF G X) a b s.ag:=bM aF G X (fn:=ls)
end
end Go.gF
end
section
namespace Go.gF
end Go.gF
end
