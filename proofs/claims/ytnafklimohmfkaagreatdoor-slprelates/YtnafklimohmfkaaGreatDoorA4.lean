/- A part of the proof: no condition. -/
import Derived.Test.YtnafklimohmfkaaGreatDoorA3
import Derived.Test.YtnafklimohmfkaaGreatDoorA2
import Derived.KernelRfl
set_option linter.unusedSectionVars false
set_option linter.unusedVariables false
section
namespace Go.h6
noncomputable section
open Go.Ab
set_option maxRecDepth 100000
variable(Z:oz)
section
variable(a b c d e f g i j m o p q r t u w x y z A B C D E F H I J K L M N O P Q R S T U V:ai)(s:aq)
def ani:cP:=cW (ax Z Hb) (aJ Z y8)
def anj:dp:=ca 14
def ank:cP:=cW (ax Z G9) (aJ Z y8)
def W1:cP:=bw 0 (ank Z)
def sI:dp:=ca 0x3510d1a
def Ew:cP:=cx sI (Z.a0 (ax Z El) sI) (W1 Z)
def anl:cP:=cW (ax Z V7) (Ew Z)
def afh:cP:=bw 1 (anl Z)
def Ho:ao:=Z.aw .e V4 .e s (ani Z)
def Hp:ao:=Z.aw .e V5 .e s (afh Z)
def Hq:ao:=Z.aw sI V6 (bn (bn (aI .e (aI (aP d) .e)) b .e) a (aI .e (aI (aI (aP c) .e) .e))) s (Ew Z)
def Hr:ao:=Z.aw sI V8 (bn (bn (aI .e (aI (aP d) .e)) b .e) a (aI .e (aI (aI (aP c) .e) .e))) s (Ew Z)
def Hs:ao:=Z.aw .e G8 .e s (aJ Z y8)
def sJ:ao:=Z.a0 (ax Z El) sI (bn (bn (aI .e (aI (aP d) .e)) b .e) a (aI .e (aI (aI (aP c) .e) .e))) s (W1 Z)
def Ht:ao:=Z.aw anj Ha (bn (aP b) a .e) s (aJ Z y8)
def f189(a b:ai)(s:aq):ao:=aV [a,b] 0 .e fun aC=>ax Z V9 aC s (aJ Z y8)
def anm:cP:=cW (ax Z Wd) (aJ Z Hc)
def W2:cP:=bw 0 (anm Z)
def sK:dp:=ca 0x30d5039a
def W3:cP:=cx sK (Z.a0 (ax Z Em) sK) (W2 Z)
def ann:dp:=ca 0x310d5
def Hu:ao:=Z.aw sK Wa (bn (bn (aI (bn (aP e) d .e) .e) b .e) a (aI (aI (aI (aP f) .e) .e) (aP c))) s (W3 Z)
def Hv:ao:=Z.aw sK Wb (bn (bn (aI (bn (aP e) d .e) .e) b .e) a (aI (aI (aI (aP f) .e) .e) (aP c))) s (W3 Z)
def Hw:ao:=Z.aw ann Wc (aI (aI (aI (aP b) .e) .e) (aI .e (aP a))) s (aJ Z Hc)
def sL:ao:=Z.a0 (ax Z Em) sK (bn (bn (aI (bn (aP e) d .e) .e) b .e) a (aI (aI (aI (aP f) .e) .e) (aP c))) s (W2 Z)
def f190(a b:ai)(s:aq):ao:=aV [a,b] 0 .e fun aC=>ax Z We aC s (aJ Z Hc)
def ano:cP:=cW (ax Z Wh) (aJ Z Hd)
def W4:cP:=bw 0 (ano Z)
def sM:dp:=ca 54
def anp:cP:=cx sM (Z.a0 (ax Z En) sM) (W4 Z)
def Hx:ao:=Z.aw sM Wf (bn (aI (aP b) .e) a .e) s (anp Z)
def zb:ao:=Z.aw sM Wg (bn (aI (aP b) .e) a .e) s (aJ Z Hd)
def sN:ao:=Z.a0 (ax Z En) sM (bn (aI (aP b) .e) a .e) s (W4 Z)
def f191(a:ai)(s:aq):ao:=aV [a] 0 .e fun aC=>ax Z Wi aC s (aJ Z Hd)
def f192(a:ai)(s:aq):ao:=aV [a] 0 .e fun aC=>ax Z Wj aC s (aJ Z aeO)
def anq:cP:=cW (ax Z Wn) (aJ Z He)
def W5:cP:=bw 0 (anq Z)
def sO:dp:=ca 0xd50d8a
def W6:cP:=cx sO (Z.a0 (ax Z Eo) sO) (W5 Z)
def anr:dp:=ca 197
def Hy:ao:=Z.aw sO Wk (bn (bn .e b (bn (aI (aP e) .e) c .e)) a (aI (aI (aI (aP d) .e) .e) .e)) s (W6 Z)
def Hz:ao:=Z.aw sO Wl (bn (bn .e b (bn (aI (aP e) .e) c .e)) a (aI (aI (aI (aP d) .e) .e) .e)) s (W6 Z)
def HA:ao:=Z.aw anr Wm (aI (aI .e (aP a)) .e) s (aJ Z He)
def sP:ao:=Z.a0 (ax Z Eo) sO (bn (bn .e b (bn (aI (aP e) .e) c .e)) a (aI (aI (aI (aP d) .e) .e) .e)) s (W5 Z)
def f193(a b:ai)(s:aq):ao:=aV [a,b] 0 .e fun aC=>ax Z Wo aC s (aJ Z He)
def ans:cP:=cW (ax Z Hj) (aJ Z v3)
def W7:cP:=bw 0 (ans Z)
def sQ:dp:=ca 0x39234d2a
def W8:cP:=cx sQ (Z.a0 (ax Z Ep) sQ) (W7 Z)
def ant:dp:=ca 0xd237a
def afi:dp:=ca 826
def afj:cP:=cW (ax Z Hg) (aJ Z v3)
def HB:cP:=bw 2 (afj Z)
def p2:dp:=ca 0xd15203467a
def HC:cP:=cx p2 (Z.a0 (ax Z y9) p2) (HB Z)
def afk:dp:=ca 13178
def HD:ao:=Z.aw sQ Wp (bn (bn (bn .e d (aI (aP i) .e)) b (aI (aP e) .e)) a (bn .e c (aI (bn (aP g) f .e) .e))) s (W8 Z)
def HE:ao:=Z.aw sQ Wq (bn (bn (bn .e d (aI (aP i) .e)) b (aI (aP e) .e)) a (bn .e c (aI (bn (aP g) f .e) .e))) s (W8 Z)
def HF:ao:=Z.aw p2 Wr (bn (bn (aP d) b (aI (bn (aI .e (aI (aP f) .e)) e .e) .e)) a (bn .e c (aI (aI (aI .e (aI (aP g) .e)) .e) .e))) s (HC Z)
def HG:ao:=Z.aw p2 Ws (bn (bn (aP d) b (aI (bn (aI .e (aI (aP f) .e)) e .e) .e)) a (bn .e c (aI (aI (aI .e (aI (aP g) .e)) .e) .e))) s (HC Z)
def HH:ao:=Z.aw afk Hf (bn (bn (aP d) b (aI (aP e) .e)) a (aP c)) s (aJ Z v3)
def sR:ao:=Z.a0 (ax Z y9) p2 (bn (bn (aP d) b (aI (bn (aI .e (aI (aP f) .e)) e .e) .e)) a (bn .e c (aI (aI (aI .e (aI (aP g) .e)) .e) .e))) s (HB Z)
def zc:ao:=Z.aw afi Hh (bn (bn (aP d) b .e) a (aP c)) s (aJ Z v3)
def HI:ao:=Z.aw ant Hi (bn (bn (aP d) b (aI (aP e) .e)) a (bn .e c (aI (aP f) .e))) s (aJ Z v3)
def p3:ao:=Z.a0 (ax Z Ep) sQ (bn (bn (bn .e d (aI (aP i) .e)) b (aI (aP e) .e)) a (bn .e c (aI (bn (aP g) f .e) .e))) s (W7 Z)
def f194(a b c d:ai)(s:aq):ao:=aV [a,b,c,d] 0 .e fun aC=>ax Z Wt aC s (aJ Z v3)
def anu:cP:=cW (ax Z Ww) (aJ Z Hk)
def W9:cP:=bw 0 (anu Z)
def xm:dp:=ca 0xd234da
def anv:cP:=cx xm (Z.a0 (ax Z Er) xm) (W9 Z)
def anw:dp:=ca 837
def zd:ao:=Z.aw anw Wv (aI (aI .e (aI (aP a) .e)) .e) s (aJ Z Hk)
def ze:ao:=Z.aw xm Wu (bn (bn (aI (aP d) .e) b (aI (aP e) .e)) a (bn .e c (aI (aP f) .e))) s (anv Z)
def sS:ao:=Z.a0 (ax Z Er) xm (bn (bn (aI (aP d) .e) b (aI (aP e) .e)) a (bn .e c (aI (aP f) .e))) s (W9 Z)
def f195(a b c:ai)(s:aq):ao:=aV [a,b,c] 0 .e fun aC=>ax Z Wx aC s (aJ Z Hk)
def anx:dp:=ca 798
def anz:cP:=cW (ax Z WD) (aJ Z CF)
def Xa:cP:=bw 0 (anz Z)
def sT:dp:=ca 0x334753444da
def Ex:cP:=cx sT (Z.a0 (ax Z Es) sT) (Xa Z)
def anA:cP:=cW (ax Z WA) (Ex Z)
def anB:cP:=bw 1 (anA Z)
def afl:dp:=ca 0xe34753474da
def afm:dp:=ca 0x350d5
def HJ:ao:=Z.aw sT Wz (bn (bn (aI (aP d) .e) b (aI .e (aI .e (aI (aP g) .e)))) a (aI (aI (aP e) (aI .e (aI (aP f) .e))) (aP c))) s (Ex Z)
def sU:ao:=Z.aw afl Wy (bn (bn (aI (aP d) .e) b (aI (aP f) (aI .e (aI (aP j) .e)))) a (aI (aI (aP e) (aI .e (aI (aP i) .e))) (bn (aP g) c .e))) s (anB Z)
def HK:ao:=Z.aw sT WB (bn (bn (aI (aP d) .e) b (aI .e (aI .e (aI (aP g) .e)))) a (aI (aI (aP e) (aI .e (aI (aP f) .e))) (aP c))) s (Ex Z)
def HL:ao:=Z.aw afm WC (aI (aI (aI (aP a) .e) .e) (aI (aI (aP b) .e) .e)) s (aJ Z CF)
def p4:ao:=Z.a0 (ax Z Es) sT (bn (bn (aI (aP d) .e) b (aI .e (aI .e (aI (aP g) .e)))) a (aI (aI (aP e) (aI .e (aI (aP f) .e))) (aP c))) s (Xa Z)
def HM:ao:=Z.aw anx Hl (bn (aP b) a (aI .e (aP c))) s (aJ Z CF)
def f196(a b:ai)(s:aq):ao:=aV [a,b] 0 .e fun aC=>ax Z WE aC s (aJ Z CF)
def Xb:dp:=ca 50
def p5:ao:=Z.aw Xb WM (bn .e a (aP b)) s (aJ Z Hm)
def oD:ao:=Z.aw Xb WN (bn .e a (aP b)) s (aJ Z Hm)
def f204(a:ai)(s:aq):ao:=aV [a] 0 .e fun aC=>ax Z WO aC s (aJ Z Hm)
def Xc:dp:=ca 13
def HN:ao:=Z.aw Xc T9 (aI (aP a) .e) s (aJ Z Gv)
def HO:ao:=Z.aw Xc Ua (aI (aP a) .e) s (aJ Z Gv)
def f133(a:ai)(s:aq):ao:=aV [a] 0 .e fun aC=>ax Z Ub aC s (aJ Z Gv)
def anC:dp:=ca 57
def HP:ao:=Z.aw anC Um (aI (bn (aP b) a .e) .e) s (aJ Z Uo)
def f147(a:ai)(s:aq):ao:=aV [a] 0 .e fun aC=>ax Z Un aC s (aJ Z Uo)
def anD:dp:=ca 3637
def anE:dp:=ca 0x3d0d5
def anF:cP:=cW (ax Z Gy) (aJ Z sG)
def Xd:cP:=bw 0 (anF Z)
def lS:dp:=ca 0x3390d5
def anG:cP:=cx lS (Z.a0 (ax Z D3) lS) (Xd Z)
def afn:cP:=cW (ax Z Gw) (aJ Z sG)
def HQ:cP:=bw 2 (afn Z)
def HR:cP:=cx lS (Z.a0 (ax Z D4) lS) (HQ Z)
def afo:cP:=bw 3 (HR Z)
def afp:dp:=ca 13201
def HS:ao:=Z.aw lS Ud (aI (aI (aI (aP c) .e) .e) (aI (bn (aP d) a .e) (aP b))) s (anG Z)
def sV:ao:=Z.aw lS Ue (aI (aI (aI (aP c) .e) .e) (aI (bn (aP d) a .e) (aP b))) s (afo Z)
def HT:ao:=Z.aw lS Uf (aI (aI (aI (aP c) .e) .e) (aI (bn (aP d) a .e) (aP b))) s (HR Z)
def HU:ao:=Z.aw afp Ug (aI .e (aI (bn (aP c) a .e) (aP b))) s (aJ Z sG)
def sW:ao:=Z.a0 (ax Z D4) lS (aI (aI (aI (aP c) .e) .e) (aI (bn (aP d) a .e) (aP b))) s (HQ Z)
def zf:ao:=Z.aw lS Gx (aI (aI (aI (aP c) .e) .e) (aI (bn (aP d) a .e) (aP b))) s (aJ Z sG)
def sX:ao:=Z.a0 (ax Z D3) lS (aI (aI (aI (aP c) .e) .e) (aI (bn (aP d) a .e) (aP b))) s (Xd Z)
def zg:ao:=Z.aw anE Gz (aI (aI (aI (aP c) .e) .e) (aI (aP a) (aP b))) s (aJ Z sG)
def HV:ao:=Z.aw anD GA (aI (aI (aP b) .e) (bn (aP c) a .e)) s (aJ Z sG)
def f135(a b:ai)(s:aq):ao:=aV [a,b] 0 .e fun aC=>ax Z Uh aC s (aJ Z sG)
def anH:dp:=ca 3637
def anI:cP:=cW (ax Z GC) (aJ Z sH)
def Xe:cP:=bw 0 (anI Z)
def qK:dp:=ca 0x3d0d5
def anJ:cP:=cx qK (Z.a0 (ax Z D5) qK) (Xe Z)
def afq:cP:=cW (ax Z Uu) (aJ Z sH)
def HW:cP:=bw 2 (afq Z)
def sY:dp:=ca 0xdd315
def afr:cP:=cx sY (Z.a0 (ax Z D6) sY) (HW Z)
def afs:dp:=ca 3537
def zh:ao:=Z.aw qK Ur (aI (aI (aI (aP c) .e) .e) (aI (aP a) (aP b))) s (anJ Z)
def HX:ao:=Z.aw sY Us (aI (aI (aI .e (aP c)) .e) (aI (aP a) (aI (aP b) .e))) s (afr Z)
def HY:ao:=Z.aw afs Ut (aI .e (aI (aP a) (aI (aP b) .e))) s (aJ Z sH)
def sZ:ao:=Z.a0 (ax Z D6) sY (aI (aI (aI .e (aP c)) .e) (aI (aP a) (aI (aP b) .e))) s (HW Z)
def HZ:ao:=Z.aw qK Uv (aI (aI (aI (aP c) .e) .e) (aI (aP a) (aP b))) s (aJ Z sH)
def zi:ao:=Z.aw qK GB (aI (aI (aI (aP c) .e) .e) (aI (aP a) (aP b))) s (aJ Z sH)
def s0:ao:=Z.a0 (ax Z D5) qK (aI (aI (aI (aP c) .e) .e) (aI (aP a) (aP b))) s (Xe Z)
def H0:ao:=Z.aw anH GD (aI (aI (aP b) .e) (bn (aP c) a .e)) s (aJ Z sH)
def f150(a b:ai)(s:aq):ao:=aV [a,b] 0 .e fun aC=>ax Z Uw aC s (aJ Z sH)
def anK:dp:=ca 222
def H2:ao:=Z.aw anK UM (bn (aP b) a (aI (aP c) .e)) s (aJ Z UO)
def f155(a b:ai)(s:aq):ao:=aV [a,b] 0 .e fun aC=>ax Z UN aC s (aJ Z UO)
def anL:cP:=cW (ax Z GO) (aJ Z GP)
def Xf:cP:=bw 0 (anL Z)
def s3:dp:=ca 0x31cda
def Ey:cP:=cx s3 (Z.a0 (ax Z D9) s3) (Xf Z)
def anM:cP:=cW (ax Z US) (Ey Z)
def Xg:cP:=bw 1 (anM Z)
def Xh:dp:=ca 0x35cda
def aft:dp:=ca 197
def H3:ao:=Z.aw s3 UR (bn (bn (aI (aP e) .e) b (aP c)) a (aI .e (aP d))) s (Ey Z)
def s4:ao:=Z.aw Xh UP (bn (bn (aI (aP d) .e) b (aP c)) a (aI (aI (aP e) .e) .e)) s (Xg Z)
def s5:ao:=Z.aw Xh UQ (bn (bn (aI (aP d) .e) b (aP c)) a (aI (aI (aP e) .e) .e)) s (Xg Z)
def H4:ao:=Z.aw s3 UT (bn (bn (aI (aP e) .e) b (aP c)) a (aI .e (aP d))) s (Ey Z)
def H5:ao:=Z.aw aft GN (aI (aI .e (aP a)) .e) s (aJ Z GP)
def s6:ao:=Z.a0 (ax Z D9) s3 (bn (bn (aI (aP e) .e) b (aP c)) a (aI .e (aP d))) s (Xf Z)
def f156(a b:ai)(s:aq):ao:=aV [a,b] 0 .e fun aC=>ax Z UU aC s (aJ Z GP)
def anN:dp:=ca 14
def H6:ao:=Z.aw anN UW (bn (aP b) a .e) s (aJ Z UY)
def f157(a b:ai)(s:aq):ao:=aV [a,b] 0 .e fun aC=>ax Z UX aC s (aJ Z UY)
def anO:cP:=cW (ax Z U2) (aJ Z GQ)
def Xi:cP:=bw 0 (anO Z)
def s7:dp:=ca 54
def anP:cP:=cx s7 (Z.a0 (ax Z Ea) s7) (Xi Z)
def H7:ao:=Z.aw s7 UZ (bn (aI (aP b) .e) a .e) s (anP Z)
def H8:ao:=Z.aw s7 U1 (bn (aI (aP b) .e) a .e) s (aJ Z GQ)
def s8:ao:=Z.a0 (ax Z Ea) s7 (bn (aI (aP b) .e) a .e) s (Xi Z)
def f158(a:ai)(s:aq):ao:=aV [a] 0 .e fun aC=>ax Z U3 aC s (aJ Z GQ)
def anQ:cP:=cW (ax Z GV) (aJ Z y5)
def anR:dp:=ca 14
def anS:cP:=cW (ax Z GS) (aJ Z y5)
def Xj:cP:=bw 0 (anS Z)
def qL:dp:=ca 202
def Ez:cP:=cx qL (Z.a0 (ax Z Eb) qL) (Xj Z)
def anT:cP:=cW (ax Z U7) (Ez Z)
def afu:cP:=bw 1 (anT Z)
def H9:ao:=Z.aw .e U4 .e s (anQ Z)
def Ia:ao:=Z.aw qL U6 (bn (bn .e b (aP c)) a .e) s (Ez Z)
def Ib:ao:=Z.aw qL U5 (bn (bn .e b (aP c)) a .e) s (afu Z)
def Ic:ao:=Z.aw qL U8 (bn (bn .e b (aP c)) a .e) s (Ez Z)
def Ie:ao:=Z.aw .e GR .e s (aJ Z y5)
def s9:ao:=Z.a0 (ax Z Eb) qL (bn (bn .e b (aP c)) a .e) s (Xj Z)
def If:ao:=Z.aw anR GU (bn (aP b) a .e) s (aJ Z y5)
def f159(a b:ai)(s:aq):ao:=aV [a,b] 0 .e fun aC=>ax Z U9 aC s (aJ Z y5)
def anU:cP:=cW (ax Z Vf) (aJ Z GW)
def Xk:cP:=bw 0 (anU Z)
def ta:dp:=ca 0x31cda
def EA:cP:=cx ta (Z.a0 (ax Z Ec) ta) (Xk Z)
def anV:cP:=cW (ax Z Vc) (EA Z)
def anW:cP:=bw 1 (anV Z)
def anX:dp:=ca 0x35cda
def afv:dp:=ca 197
def zj:ao:=Z.aw ta Vb (bn (bn (aI (aP e) .e) b (aP c)) a (aI .e (aP d))) s (EA Z)
def tc:ao:=Z.aw anX Va (bn (bn (aI (aP d) .e) b (aP c)) a (aI (aI (aP e) .e) .e)) s (anW Z)
def Ig:ao:=Z.aw ta Vd (bn (bn (aI (aP e) .e) b (aP c)) a (aI .e (aP d))) s (EA Z)
def Ih:ao:=Z.aw afv Ve (aI (aI .e (aP a)) .e) s (aJ Z GW)
def td:ao:=Z.a0 (ax Z Ec) ta (bn (bn (aI (aP e) .e) b (aP c)) a (aI .e (aP d))) s (Xk Z)
def f160(a b:ai)(s:aq):ao:=aV [a,b] 0 .e fun aC=>ax Z Vg aC s (aJ Z GW)
def anY:cP:=cW (ax Z Vk) (aJ Z GX)
def Xl:cP:=bw 0 (anY Z)
def te:dp:=ca 12746
def Xm:cP:=cx te (Z.a0 (ax Z Ed) te) (Xl Z)
def anZ:dp:=ca 197
def Ii:ao:=Z.aw te Vh (bn (bn .e b (aP c)) a (aI .e (aP d))) s (Xm Z)
def Ij:ao:=Z.aw te Vi (bn (bn .e b (aP c)) a (aI .e (aP d))) s (Xm Z)
def Ik:ao:=Z.aw anZ Vj (aI (aI .e (aP a)) .e) s (aJ Z GX)
def tf:ao:=Z.a0 (ax Z Ed) te (bn (bn .e b (aP c)) a (aI .e (aP d))) s (Xl Z)
def f161(a b:ai)(s:aq):ao:=aV [a,b] 0 .e fun aC=>ax Z Vl aC s (aJ Z GX)
def f169(a b:ai)(s:aq):ao:=aV [a,b] 0 .e fun aC=>ax Z Vz aC s (aJ Z aeF)
def Xn:dp:=ca 14
def an0:cP:=cW (ax Z VD) (aJ Z y6)
def Xo:cP:=bw 0 (an0 Z)
def tg:dp:=ca 0xd00d653703555
def Xp:cP:=cx tg (Z.a0 (ax Z Eg) tg) (Xo Z)
def afw:dp:=ca 0xd35315
def Il:ao:=Z.aw tg VA (aI (aI (aI (aI (aI (aI (aP e) .e) .e) .e) (aP d)) (aI (aP b) .e)) (aI (aI (bn (aI (aI (aP f) .e) .e) a .e) .e) (aI (aP c) .e))) s (Xp Z)
def Im:ao:=Z.aw tg VB (aI (aI (aI (aI (aI (aI (aP e) .e) .e) .e) (aP d)) (aI (aP b) .e)) (aI (aI (bn (aI (aI (aP f) .e) .e) a .e) .e) (aI (aP c) .e))) s (Xp Z)
def Io:ao:=Z.aw afw VC (aI (aI (aI .e (aP c)) .e) (aI (aI (aP a) .e) (aI (aP b) .e))) s (aJ Z y6)
def th:ao:=Z.a0 (ax Z Eg) tg (aI (aI (aI (aI (aI (aI (aP e) .e) .e) .e) (aP d)) (aI (aP b) .e)) (aI (aI (bn (aI (aI (aP f) .e) .e) a .e) .e) (aI (aP c) .e))) s (Xo Z)
def Ip:ao:=Z.aw Xn VE (bn (aP b) a .e) s (aJ Z y6)
def Iq:ao:=Z.aw Xn GZ (bn (aP b) a .e) s (aJ Z y6)
def f170(a b:ai)(s:aq):ao:=aV [a,b] 0 .e fun aC=>ax Z VF aC s (aJ Z y6)
def an1:dp:=ca 222
def Ir:ao:=Z.aw an1 VG (bn (aP b) a (aI (aP c) .e)) s (aJ Z VI)
def f171(a b:ai)(s:aq):ao:=aV [a,b] 0 .e fun aC=>ax Z VH aC s (aJ Z VI)
def an2:cP:=cW (ax Z VM) (aJ Z G0)
def Xq:cP:=bw 0 (an2 Z)
def ti:dp:=ca 0x310e6
def Xr:cP:=cx ti (Z.a0 (ax Z Eh) ti) (Xq Z)
def an3:dp:=ca 53
def Is:ao:=Z.aw ti VJ (bn (aI (bn (aP d) b .e) .e) a (aI .e (aP c))) s (Xr Z)
def It:ao:=Z.aw ti VK (bn (aI (bn (aP d) b .e) .e) a (aI .e (aP c))) s (Xr Z)
def Iu:ao:=Z.aw an3 VL (aI (aI (aP a) .e) .e) s (aJ Z G0)
def oE:ao:=Z.a0 (ax Z Eh) ti (bn (aI (bn (aP d) b .e) .e) a (aI .e (aP c))) s (Xq Z)
def f172(a:ai)(s:aq):ao:=aV [a] 0 .e fun aC=>ax Z VN aC s (aJ Z G0)
def an4:cP:=cW (ax Z VQ) (aJ Z G1)
def Xs:cP:=bw 0 (an4 Z)
def tj:dp:=ca 3
def an5:cP:=cx tj (Z.a0 (ax Z Ei) tj) (Xs Z)
def Iv:ao:=Z.aw tj VO (aP a) s (an5 Z)
def Iw:ao:=Z.aw tj VP (aP a) s (aJ Z G1)
def tk:ao:=Z.a0 (ax Z Ei) tj (aP a) s (Xs Z)
def f178(a:ai)(s:aq):ao:=aV [a] 0 .e fun aC=>ax Z VR aC s (aJ Z G1)
def an6:dp:=ca 14
def an7:cP:=cW (ax Z G6) (aJ Z v0)
def Xt:cP:=bw 0 (an7 Z)
def tl:dp:=ca 0x310da
def Xu:cP:=cx tl (Z.a0 (ax Z Ej) tl) (Xt Z)
def afx:dp:=ca 798
def afy:cP:=cW (ax Z G4) (aJ Z v0)
def Ix:cP:=bw 2 (afy Z)
def p6:dp:=ca 0x33534a
def zk:cP:=cx p6 (Z.a0 (ax Z y7) p6) (Ix Z)
def afz:cP:=cW (ax Z VW) (zk Z)
def afA:cP:=bw 3 (afz Z)
def afB:dp:=ca 0xe3534a
def afC:dp:=ca 13150
def Iy:ao:=Z.aw tl VS (bn (bn (aI (aP d) .e) b .e) a (aI .e (aP c))) s (Xu Z)
def Iz:ao:=Z.aw tl VT (bn (bn (aI (aP d) .e) b .e) a (aI .e (aP c))) s (Xu Z)
def IA:ao:=Z.aw p6 VV (bn (bn .e b (aI (aP e) .e)) a (aI (aI (aP d) .e) (aP c))) s (zk Z)
def tm:ao:=Z.aw afB VU (bn (bn .e b (aI (aP e) .e)) a (aI (aI (aP d) .e) (bn (aP f) c .e))) s (afA Z)
def IB:ao:=Z.aw p6 G2 (bn (bn .e b (aI (aP e) .e)) a (aI (aI (aP d) .e) (aP c))) s (zk Z)
def CG:ao:=Z.aw afC G3 (bn (aP b) a (aI (aI (aP d) .e) (aP c))) s (aJ Z v0)
def tn:ao:=Z.a0 (ax Z y7) p6 (bn (bn .e b (aI (aP e) .e)) a (aI (aI (aP d) .e) (aP c))) s (Ix Z)
def zl:ao:=Z.aw afx G5 (bn (aP b) a (aI .e (aP c))) s (aJ Z v0)
def to:ao:=Z.a0 (ax Z Ej) tl (bn (bn (aI (aP d) .e) b .e) a (aI .e (aP c))) s (Xt Z)
def IC:ao:=Z.aw an6 G7 (bn (aP b) a .e) s (aJ Z v0)
def f179(a b:ai)(s:aq):ao:=aV [a,b] 0 .e fun aC=>ax Z VX aC s (aJ Z v0)
def atH:dp:=ca 13
def Xv:ao:=Z.aw atH ad3 (aI (aP a) .e) s (aJ Z ajZ)
def f86(a:ai)(s:aq):ao:=aV [a] 0 .e fun aC=>ax Z ad4 aC s (aJ Z ajZ)
def Xw:dp:=ca 13
def ID:ao:=Z.aw Xw Ts (aI (aP a) .e) s (aJ Z Gq)
def IE:ao:=Z.aw Xw Tt (aI (aP a) .e) s (aJ Z Gq)
def f116(a:ai)(s:aq):ao:=aV [a] 0 .e fun aC=>ax Z Tu aC s (aJ Z Gq)
def f134(a:ai)(s:aq):ao:=aV [a] 0 .e fun aC=>ax Z Uc aC s (aJ Z aei)
def f136(a:ai)(s:aq):ao:=aV [a] 0 .e fun aC=>ax Z Ui aC s (aJ Z ael)
def f148(a:ai)(s:aq):ao:=aV [a] 0 .e fun aC=>ax Z Up aC s (aJ Z aep)
def f149(a:ai)(s:aq):ao:=aV [a] 0 .e fun aC=>ax Z Uq aC s (aJ Z aeq)
def atI:cP:=cW (ax Z abX) (aJ Z aad)
def afD:cP:=bw 0 (atI Z)
def zm:dp:=ca 54
def afE:cP:=cx zm (Z.a0 (ax Z Ns) zm) (afD Z)
def atJ:dp:=ca 3
def Xx:ao:=Z.aw zm abT (bn (aI (aP b) .e) a .e) s (afE Z)
def Xy:ao:=Z.aw zm abU (bn (aI (aP b) .e) a .e) s (afE Z)
def Xz:ao:=Z.aw .e abV .e s (aJ Z aad)
def EB:ao:=Z.aw atJ abW (aP a) s (aJ Z aad)
def xn:ao:=Z.a0 (ax Z Ns) zm (bn (aI (aP b) .e) a .e) s (afD Z)
def f14(a:ai)(s:aq):ao:=aV [a] 0 .e fun aC=>ax Z abY aC s (aJ Z aad)
def atK:cP:=cW (ax Z Si) (aJ Z aaf)
def afF:cP:=bw 0 (atK Z)
def zn:dp:=ca 0x3350e6
def NN:cP:=cx zn (Z.a0 (ax Z Ny) zn) (afF Z)
def atL:cP:=cW (ax Z acm) (NN Z)
def atM:cP:=bw 1 (atL Z)
def atN:dp:=ca 0x335ce6
def an8:dp:=ca 54
def EC:ao:=Z.aw zn ack (bn (aI (bn (aP d) b .e) .e) a (aI (aI (aP e) .e) (aP c))) s (NN Z)
def XA:ao:=Z.aw atN acj (bn (aI (bn (aP e) b .e) (aP c)) a (aI (aI (aP f) .e) (aP d))) s (atM Z)
def XB:ao:=Z.aw zn acn (bn (aI (bn (aP d) b .e) .e) a (aI (aI (aP e) .e) (aP c))) s (NN Z)
def XC:ao:=Z.aw .e aco .e s (aJ Z aaf)
def ED:ao:=Z.aw an8 Sh (bn (aI (aP b) .e) a .e) s (aJ Z aaf)
def xo:ao:=Z.a0 (ax Z Ny) zn (bn (aI (bn (aP d) b .e) .e) a (aI (aI (aP e) .e) (aP c))) s (afF Z)
def f42(a:ai)(s:aq):ao:=aV [a] 0 .e fun aC=>ax Z acp aC s (aJ Z aaf)
def atO:dp:=ca 14
def XD:ao:=Z.aw atO acq (bn (aP b) a .e) s (aJ Z ajo)
def f43(a b:ai)(s:aq):ao:=aV [a,b] 0 .e fun aC=>ax Z acr aC s (aJ Z ajo)
def atP:dp:=ca 0x335ca
def atQ:cP:=cW (ax Z SB) (aJ Z w9)
def afG:cP:=bw 0 (atQ Z)
def zo:dp:=ca 0x33538a
def afH:cP:=cx zo (Z.a0 (ax Z ND) zo) (afG Z)
def an9:dp:=ca 13770
def aoa:cP:=cW (ax Z Sz) (aJ Z w9)
def XE:cP:=bw 2 (aoa Z)
def tp:dp:=ca 0x35f1a
def XF:cP:=cx tp (Z.a0 (ax Z DR) tp) (XE Z)
def aob:dp:=ca 13765
def XG:dp:=ca 197
def XH:ao:=Z.aw zo acL (bn (bn .e b (bn (aP f) c .e)) a (aI (aI (aP e) .e) (aP d))) s (afH Z)
def XI:ao:=Z.aw zo acM (bn (bn .e b (bn (aP f) c .e)) a (aI (aI (aP e) .e) (aP d))) s (afH Z)
def XJ:ao:=Z.aw tp acN (bn (bn (aI .e (aP e)) b (aP c)) a (aI (aI (aP d) .e) .e)) s (XF Z)
def XK:ao:=Z.aw tp acO (bn (bn (aI .e (aP e)) b (aP c)) a (aI (aI (aP d) .e) .e)) s (XF Z)
def IF:ao:=Z.aw XG Sw (aI (aI .e (aP a)) .e) s (aJ Z w9)
def zp:ao:=Z.aw XG Sx (aI (aI .e (aP a)) .e) s (aJ Z w9)
def EE:ao:=Z.aw aob Sy (aI (aI .e (aP a)) (aI (aI (aP b) .e) .e)) s (aJ Z w9)
def xp:ao:=Z.a0 (ax Z DR) tp (bn (bn (aI .e (aP e)) b (aP c)) a (aI (aI (aP d) .e) .e)) s (XE Z)
def XL:ao:=Z.aw an9 SA (bn (bn .e b (aP c)) a (aI (aI (aP d) .e) .e)) s (aJ Z w9)
def xq:ao:=Z.a0 (ax Z ND) zo (bn (bn .e b (bn (aP f) c .e)) a (aI (aI (aP e) .e) (aP d))) s (afG Z)
def XM:ao:=Z.aw atP SC (bn (bn .e b (aP c)) a (aI (aI (aP e) .e) (aP d))) s (aJ Z w9)
def f48(a b:ai)(s:aq):ao:=aV [a,b] 0 .e fun aC=>ax Z acP aC s (aJ Z w9)
def atS:cP:=cW (ax Z acT) (aJ Z acV)
def afI:cP:=bw 0 (atS Z)
def zq:dp:=ca 3382
def afJ:cP:=cx zq (Z.a0 (ax Z NE) zq) (afI Z)
def atT:dp:=ca 53
def tq:ao:=Z.aw zq acQ (bn (aI (aP b) .e) a (aI (aP c) .e)) s (afJ Z)
def XN:ao:=Z.aw zq acR (bn (aI (aP b) .e) a (aI (aP c) .e)) s (afJ Z)
def XO:ao:=Z.aw atT acS (aI (aI (aP a) .e) .e) s (aJ Z acV)
def xr:ao:=Z.a0 (ax Z NE) zq (bn (aI (aP b) .e) a (aI (aP c) .e)) s (afI Z)
def f49(a:ai)(s:aq):ao:=aV [a] 0 .e fun aC=>ax Z acU aC s (aJ Z acV)
def atU:cP:=cW (ax Z acZ) (aJ Z ac1)
def afK:cP:=bw 0 (atU Z)
def zr:dp:=ca 3382
def afL:cP:=cx zr (Z.a0 (ax Z NF) zr) (afK Z)
def atV:dp:=ca 53
def EF:ao:=Z.aw zr acW (bn (aI (aP b) .e) a (aI (aP c) .e)) s (afL Z)
def XP:ao:=Z.aw zr acX (bn (aI (aP b) .e) a (aI (aP c) .e)) s (afL Z)
def XQ:ao:=Z.aw atV acY (aI (aI (aP a) .e) .e) s (aJ Z ac1)
def xt:ao:=Z.a0 (ax Z NF) zr (bn (aI (aP b) .e) a (aI (aP c) .e)) s (afK Z)
def f50(a:ai)(s:aq):ao:=aV [a] 0 .e fun aC=>ax Z ac0 aC s (aJ Z ac1)
def atW:dp:=ca 14
def XR:ao:=Z.aw atW adh (bn (aP b) a .e) s (aJ Z xb)
def f65(a b:ai)(s:aq):ao:=aV [a,b] 0 .e fun aC=>ax Z adi aC s (aJ Z xb)
def atX:dp:=ca 56550
def atY:cP:=cW (ax Z SO) (aJ Z B6)
def afM:cP:=bw 0 (atY Z)
def zs:dp:=ca 0x3453449cd1e6
def afN:cP:=cx zs (Z.a0 (ax Z NJ) zs) (afM Z)
def aoc:dp:=ca 53478
def XS:dp:=ca 3382
def XT:ao:=Z.aw zs adu (bn (aI (bn (aP e) b (aI .e (aI (aP g) .e))) (aP d)) a (aI (bn .e c (aI .e (aI (aP i) .e))) (aI (aI .e (aI (aP f) .e)) .e))) s (afN Z)
def XU:ao:=Z.aw zs adv (bn (aI (bn (aP e) b (aI .e (aI (aP g) .e))) (aP d)) a (aI (bn .e c (aI .e (aI (aP i) .e))) (aI (aI .e (aI (aP f) .e)) .e))) s (afN Z)
def EG:ao:=Z.aw XS adw (bn (aI (aP b) .e) a (aI (aP c) .e)) s (aJ Z B6)
def EH:ao:=Z.aw XS adx (bn (aI (aP b) .e) a (aI (aP c) .e)) s (aJ Z B6)
def EI:ao:=Z.aw aoc SN (bn (aI (bn (aP d) b .e) .e) a (aI (aP c) .e)) s (aJ Z B6)
def xu:ao:=Z.a0 (ax Z NJ) zs (bn (aI (bn (aP e) b (aI .e (aI (aP g) .e))) (aP d)) a (aI (bn .e c (aI .e (aI (aP i) .e))) (aI (aI .e (aI (aP f) .e)) .e))) s (afM Z)
def XV:ao:=Z.aw atX SP (bn (aI (bn (aP e) b .e) (aP d)) a (aI (aP c) .e)) s (aJ Z B6)
def f70(a:ai)(s:aq):ao:=aV [a] 0 .e fun aC=>ax Z ady aC s (aJ Z B6)
def f71(a:ai)(s:aq):ao:=aV [a] 0 .e fun aC=>ax Z adz aC s (aJ Z adA)
def atZ:cP:=cW (ax Z adE) (aJ Z adG)
def afO:cP:=bw 0 (atZ Z)
def zt:dp:=ca 0x3350e5
def afP:cP:=cx zt (Z.a0 (ax Z NK) zt) (afO Z)
def at0:dp:=ca 53
def tr:ao:=Z.aw zt adB (aI (aI (bn (aP c) a .e) .e) (aI (aI (aP d) .e) (aP b))) s (afP Z)
def XW:ao:=Z.aw zt adC (aI (aI (bn (aP c) a .e) .e) (aI (aI (aP d) .e) (aP b))) s (afP Z)
def XX:ao:=Z.aw at0 adD (aI (aI (aP a) .e) .e) s (aJ Z adG)
def xv:ao:=Z.a0 (ax Z NK) zt (aI (aI (bn (aP c) a .e) .e) (aI (aI (aP d) .e) (aP b))) s (afO Z)
def f72(a:ai)(s:aq):ao:=aV [a] 0 .e fun aC=>ax Z adF aC s (aJ Z adG)
def at1:dp:=ca 14
def XY:ao:=Z.aw .e adH .e s (aJ Z adK)
def EJ:ao:=Z.aw at1 adI (bn (aP b) a .e) s (aJ Z adK)
def f73(a b:ai)(s:aq):ao:=aV [a,b] 0 .e fun aC=>ax Z adJ aC s (aJ Z adK)
def f74(a:ai)(s:aq):ao:=aV [a] 0 .e fun aC=>ax Z adL aC s (aJ Z NL)
def at2:cP:=cW (ax Z adY) (aJ Z DV)
def afQ:cP:=bw 0 (at2 Z)
def at3:dp:=ca 0x345c5
def at4:dp:=ca 0x3111c5
def XZ:ao:=Z.aw .e adX .e s (aJ Z DV)
def EK:ao:=Z.aw at4 adV (aI (aI .e (aP a)) (aI .e (aI .e (aI .e (aP b))))) s (afQ Z)
def EL:ao:=Z.aw at3 adW (aI (aI .e (aP a)) (aI (aI .e (aI (aP b) .e)) .e)) s (afQ Z)
def f83(a:ai)(s:aq):ao:=aV [a] 0 .e fun aC=>ax Z adZ aC s (aJ Z DV)
def at5:dp:=ca 14
def X0:ao:=Z.aw at5 ad0 (bn (aP b) a .e) s (aJ Z Gl)
def f84(a b:ai)(s:aq):ao:=aV [a,b] 0 .e fun aC=>ax Z ad1 aC s (aJ Z Gl)
def f85(a:ai)(s:aq):ao:=aV [a] 0 .e fun aC=>ax Z ad2 aC s (aJ Z NM)
def f87(a:ai)(s:aq):ao:=aV [a] 0 .e fun aC=>ax Z ad5 aC s (aJ Z atB)
def f103(a b:ai)(s:aq):ao:=aV [a,b] 0 .e fun aC=>ax Z SW aC s (aJ Z y3)
def aod:dp:=ca 197
def IG:ao:=Z.aw aod S3 (aI (aI .e (aP a)) .e) s (aJ Z S5)
def f106(a b:ai)(s:aq):ao:=aV [a,b] 0 .e fun aC=>ax Z S4 aC s (aJ Z S5)
def aoe:cP:=cW (ax Z Tq) (aJ Z y4)
def X1:cP:=bw 0 (aoe Z)
def aof:dp:=ca 0x345c5
def aog:dp:=ca 0x3111c5
def IH:ao:=Z.aw .e Tp .e s (aJ Z y4)
def zu:ao:=Z.aw aog Tn (aI (aI .e (aP a)) (aI .e (aI .e (aI .e (aP b))))) s (X1 Z)
def zv:ao:=Z.aw aof To (aI (aI .e (aP a)) (aI (aI .e (aI (aP b) .e)) .e)) s (X1 Z)
def f115(a:ai)(s:aq):ao:=aV [a] 0 .e fun aC=>ax Z Tr aC s (aJ Z y4)
def f117(a:ai)(s:aq):ao:=aV [a] 0 .e fun aC=>ax Z Tv aC s (aJ Z ad8)
def f118(a b:ai)(s:aq):ao:=aV [a,b] 0 .e fun aC=>ax Z Tw aC s (aJ Z ad9)
def f119(a b:ai)(s:aq):ao:=aV [a,b] 0 .e fun aC=>ax Z Tx aC s (aJ Z aea)
def f137(a b:ai)(s:aq):ao:=aV [a,b] 0 .e fun aC=>ax Z Uj aC s (aJ Z aem)
def aoh:cP:=cW (ax Z UA) (aJ Z GF)
def X2:cP:=bw 0 (aoh Z)
def tt:dp:=ca 0x350da
def X3:cP:=cx tt (Z.a0 (ax Z D7) tt) (X2 Z)
def II:ao:=Z.aw tt Ux (bn (bn (aI (aP c) .e) b .e) a (aI (aI (aP d) .e) .e)) s (X3 Z)
def IJ:ao:=Z.aw tt Uy (bn (bn (aI (aP c) .e) b .e) a (aI (aI (aP d) .e) .e)) s (X3 Z)
def IK:ao:=Z.aw .e Uz .e s (aJ Z GF)
def tu:ao:=Z.a0 (ax Z D7) tt (bn (bn (aI (aP c) .e) b .e) a (aI (aI (aP d) .e) .e)) s (X2 Z)
def f151(a b:ai)(s:aq):ao:=aV [a,b] 0 .e fun aC=>ax Z UB aC s (aJ Z GF)
def aoi:dp:=ca 821
def aoj:cP:=cW (ax Z Vp) (aJ Z CE)
def X4:cP:=bw 0 (aoj Z)
def tw:dp:=ca 1013
def X5:cP:=cx tw (Z.a0 (ax Z Ee) tw) (X4 Z)
def IL:ao:=Z.aw tw Vm (aI (aI (aP b) (aP c)) (aP a)) s (X5 Z)
def IM:ao:=Z.aw tw Vn (aI (aI (aP b) (aP c)) (aP a)) s (X5 Z)
def IN:ao:=Z.aw .e Vo .e s (aJ Z CE)
def tx:ao:=Z.a0 (ax Z Ee) tw (aI (aI (aP b) (aP c)) (aP a)) s (X4 Z)
def IP:ao:=Z.aw aoi Vq (aI (aI (aP b) .e) (aP a)) s (aJ Z CE)
def f162(a b:ai)(s:aq):ao:=aV [a,b] 0 .e fun aC=>ax Z Vr aC s (aJ Z CE)
def at6:dp:=ca 50
def at7:cP:=cW (ax Z R7) (aJ Z aab)
def afR:cP:=bw 0 (at7 Z)
def zw:dp:=ca 0x316318c56
def NO:cP:=cx zw (Z.a0 (ax Z DM) zw) (afR Z)
def aua:cP:=cW (ax Z R4) (NO Z)
def NP:cP:=bw 1 (aua Z)
def aok:cP:=cW (ax Z abG) (NP Z)
def X6:cP:=bw 2 (aok Z)
def tz:dp:=ca 0x3113366328cd96
def X7:cP:=cx tz (Z.a0 (ax Z Np) tz) (X6 Z)
def X8:dp:=ca 0x326328c96
def aol:dp:=ca 965
def X9:ao:=Z.aw tz abC (bn (aI (aI (bn (aI (aP o) .e) d (aP g)) .e) (bn (bn .e f (aP j)) c .e)) a (bn (aI (bn (aI (aP p) .e) e (aP i)) .e) b (aI .e (aI .e (aP m))))) s (X7 Z)
def Ya:ao:=Z.aw tz abD (bn (aI (aI (bn (aI (aP o) .e) d (aP g)) .e) (bn (bn .e f (aP j)) c .e)) a (bn (aI (bn (aI (aP p) .e) e (aP i)) .e) b (aI .e (aI .e (aP m))))) s (X7 Z)
def xw:ao:=Z.aw zw R3 (bn (aI (aI (aI .e (aP d)) .e) (bn (aI .e (aP f)) c .e)) a (bn (aI (aI .e (aP e)) .e) b .e)) s (NO Z)
def tA:ao:=Z.aw X8 abE (bn (aI (aI (bn .e d (aP g)) .e) (bn (bn .e f (aP j)) c .e)) a (bn (aI (bn .e e (aP i)) .e) b .e)) s (NP Z)
def xx:ao:=Z.aw X8 abF (bn (aI (aI (bn .e d (aP g)) .e) (bn (bn .e f (aP j)) c .e)) a (bn (aI (bn .e e (aP i)) .e) b .e)) s (NP Z)
def xy:ao:=Z.a0 (ax Z Np) tz (bn (aI (aI (bn (aI (aP o) .e) d (aP g)) .e) (bn (bn .e f (aP j)) c .e)) a (bn (aI (bn (aI (aP p) .e) e (aP i)) .e) b (aI .e (aI .e (aP m))))) s (X6 Z)
def EM:ao:=Z.aw zw R5 (bn (aI (aI (aI .e (aP d)) .e) (bn (aI .e (aP f)) c .e)) a (bn (aI (aI .e (aP e)) .e) b .e)) s (NO Z)
def zx:ao:=Z.aw aol R6 (aI (aI .e (aP b)) (aP a)) s (aJ Z aab)
def xz:ao:=Z.a0 (ax Z DM) zw (bn (aI (aI (aI .e (aP d)) .e) (bn (aI .e (aP f)) c .e)) a (bn (aI (aI .e (aP e)) .e) b .e)) s (afR Z)
def Yb:ao:=Z.aw at6 R8 (bn .e a (aP b)) s (aJ Z aab)
def f11(a:ai)(s:aq):ao:=aV [a] 0 .e fun aC=>ax Z abH aC s (aJ Z aab)
def aub:cP:=cW (ax Z Sp) (aJ Z aag)
def afS:cP:=bw 0 (aub Z)
def zy:dp:=ca 0x326324c6a
def NQ:cP:=cx zy (Z.a0 (ax Z Nz) zy) (afS Z)
def auc:cP:=cW (ax Z acv) (NQ Z)
def aud:cP:=bw 1 (auc Z)
def aue:dp:=ca 0x326327c6a
def aom:dp:=ca 0x3634a
def Yc:cP:=bw 2 (aJ Z aag)
def tB:dp:=ca 0xd11f634743156
def EN:cP:=cx tB (Z.a0 (ax Z DP) tB) (Yc Z)
def aon:cP:=cW (ax Z Sm) (EN Z)
def Yd:cP:=bw 3 (aon Z)
def aoo:dp:=ca 0xd21ce634743256
def Ye:cP:=bw 4 (Yd Z)
def tC:dp:=ca 0xd0d51ce63435740d7256
def Yf:cP:=cx tC (Z.a0 (ax Z DO) tC) (Ye Z)
def Yg:ao:=Z.aw zy acu (bn (bn (bn (aI .e (aP g)) d .e) b (aI (bn .e f (aP j)) .e)) a (bn (aI (bn .e e (aP i)) .e) c .e)) s (NQ Z)
def xA:ao:=Z.aw aue acs (bn (bn (bn (aI .e (aP i)) d (aP g)) b (aI (bn .e f (aP m)) .e)) a (bn (aI (bn .e e (aP j)) .e) c .e)) s (aud Z)
def Yh:ao:=Z.aw zy acw (bn (bn (bn (aI .e (aP g)) d .e) b (aI (bn .e f (aP j)) .e)) a (bn (aI (bn .e e (aP i)) .e) c .e)) s (NQ Z)
def IQ:ao:=Z.aw tC acx (bn (aI (aI (aI (bn .e f (aP m)) (aI (aI (aP q) .e) .e)) .e) (aI (aP d) (aI (aI (aI (aP o) .e) .e) (aI (aP i) .e)))) a (bn (aI (bn (aP g) c .e) (aP e)) b (aI .e (aI (aI (aI (aP p) .e) .e) (aI (aP j) .e))))) s (Yf Z)
def IR:ao:=Z.aw tC Sj (bn (aI (aI (aI (bn .e f (aP m)) (aI (aI (aP q) .e) .e)) .e) (aI (aP d) (aI (aI (aI (aP o) .e) .e) (aI (aP i) .e)))) a (bn (aI (bn (aP g) c .e) (aP e)) b (aI .e (aI (aI (aI (aP p) .e) .e) (aI (aP j) .e))))) s (Yf Z)
def zz:ao:=Z.aw tB Sl (bn (aI (aI (aI (aI .e (aP i)) .e) .e) (aI (aP d) (aI .e (aI (aP f) .e)))) a (bn (aI (aP c) (aP e)) b (aI .e (aI .e (aI (aP g) .e))))) s (EN Z)
def xB:ao:=Z.a0 (ax Z DO) tC (bn (aI (aI (aI (bn .e f (aP m)) (aI (aI (aP q) .e) .e)) .e) (aI (aP d) (aI (aI (aI (aP o) .e) .e) (aI (aP i) .e)))) a (bn (aI (bn (aP g) c .e) (aP e)) b (aI .e (aI (aI (aI (aP p) .e) .e) (aI (aP j) .e))))) s (Ye Z)
def tD:ao:=Z.aw aoo Sk (bn (aI (aI (aI (bn .e g (aP o)) .e) .e) (aI (aP d) (aI .e (aI (aP j) .e)))) a (bn (aI (bn (aP i) c .e) (aP e)) b (aI .e (bn .e f (aI (aP m) .e))))) s (Yd Z)
def Yi:ao:=Z.aw tB Sn (bn (aI (aI (aI (aI .e (aP i)) .e) .e) (aI (aP d) (aI .e (aI (aP f) .e)))) a (bn (aI (aP c) (aP e)) b (aI .e (aI .e (aI (aP g) .e))))) s (EN Z)
def qM:ao:=Z.a0 (ax Z DP) tB (bn (aI (aI (aI (aI .e (aP i)) .e) .e) (aI (aP d) (aI .e (aI (aP f) .e)))) a (bn (aI (aP c) (aP e)) b (aI .e (aI .e (aI (aP g) .e))))) s (Yc Z)
def xC:ao:=Z.aw aom So (bn (bn .e b (aI (aP e) .e)) a (bn (aI (aP d) .e) c .e)) s (aJ Z aag)
def qN:ao:=Z.a0 (ax Z Nz) zy (bn (bn (bn (aI .e (aP g)) d .e) b (aI (bn .e f (aP j)) .e)) a (bn (aI (bn .e e (aP i)) .e) c .e)) s (afS Z)
def f44(a b c d:ai)(s:aq):ao:=aV [a,b,c,d] 0 .e fun aC=>ax Z acy aC s (aJ Z aag)
def auf:cP:=cW (ax Z St) (aJ Z NB)
def afT:cP:=bw 0 (auf Z)
def zA:dp:=ca 246
def afU:cP:=cx zA (Z.a0 (ax Z NA) zA) (afT Z)
def aug:dp:=ca 54
def aop:cP:=cW (ax Z Sr) (aJ Z NB)
def Yj:cP:=bw 3 (aop Z)
def tE:dp:=ca 0xd11134475344446
def Yk:cP:=cx tE (Z.a0 (ax Z DQ) tE) (Yj Z)
def aoq:dp:=ca 849
def tF:ao:=Z.aw zA acz (bn (aI (aP b) (aP c)) a .e) s (afU Z)
def EO:ao:=Z.aw zA acA (bn (aI (aP b) (aP c)) a .e) s (afU Z)
def Yl:ao:=Z.aw tE acB (bn (aI .e (aI .e (aI .e (aI .e (aI (aP d) .e))))) a (aI (aI (aP b) (aI .e (aI .e (aI (aP c) .e)))) (aI .e (aI .e (aI .e (aI (aP e) .e)))))) s (Yk Z)
def Ym:ao:=Z.aw tE acC (bn (aI .e (aI .e (aI .e (aI .e (aI (aP d) .e))))) a (aI (aI (aP b) (aI .e (aI .e (aI (aP c) .e)))) (aI .e (aI .e (aI .e (aI (aP e) .e)))))) s (Yk Z)
def Yn:ao:=Z.aw aoq Sq (aI .e (aI (aI (aP a) .e) .e)) s (aJ Z NB)
def xD:ao:=Z.a0 (ax Z DQ) tE (bn (aI .e (aI .e (aI .e (aI .e (aI (aP d) .e))))) a (aI (aI (aP b) (aI .e (aI .e (aI (aP c) .e)))) (aI .e (aI .e (aI .e (aI (aP e) .e)))))) s (Yj Z)
def xE:ao:=Z.aw aug Ss (bn (aI (aP b) .e) a .e) s (aJ Z NB)
def tG:ao:=Z.a0 (ax Z NA) zA (bn (aI (aP b) (aP c)) a .e) s (afT Z)
def f45(a b:ai)(s:aq):ao:=aV [a,b] 0 .e fun aC=>ax Z acD aC s (aJ Z NB)
def f76(a b c d:ai)(s:aq):ao:=aV [a,b,c,d] 0 .e fun aC=>ax Z adN aC s (aJ Z atg)
def f77(a b:ai)(s:aq):ao:=aV [a,b] 0 .e fun aC=>ax Z adO aC s (aJ Z ath)
def aor:dp:=ca 226
def aos:dp:=ca 209
def oF:ao:=Z.aw aos Tz (aI .e (aI (aP a) .e)) s (aJ Z Gr)
def p7:ao:=Z.aw aor TA (bn .e a (bn (aP c) b .e)) s (aJ Z Gr)
def f121(a b c:ai)(s:aq):ao:=aV [a,b,c] 0 .e fun aC=>ax Z TB aC s (aJ Z Gr)
def aot:cP:=cW (ax Z TF) (aJ Z CC)
def Yo:cP:=bw 0 (aot Z)
def qO:dp:=ca 3
def aou:cP:=cx qO (Z.a0 (ax Z DZ) qO) (Yo Z)
def IS:ao:=Z.aw qO TC (aP a) s (aou Z)
def IT:ao:=Z.aw qO TD (aP a) s (aJ Z CC)
def zB:ao:=Z.aw qO TE (aP a) s (aJ Z CC)
def tH:ao:=Z.a0 (ax Z DZ) qO (aP a) s (Yo Z)
def f122(a:ai)(s:aq):ao:=aV [a] 0 .e fun aC=>ax Z TG aC s (aJ Z CC)
def aov:cP:=cW (ax Z TK) (aJ Z Gs)
def Yp:cP:=bw 0 (aov Z)
def qP:dp:=ca 54
def Yq:cP:=cx qP (Z.a0 (ax Z D0) qP) (Yp Z)
def aow:cP:=bw 1 (Yq Z)
def p8:ao:=Z.aw qP TJ (bn (aI (aP b) .e) a .e) s (aJ Z Gs)
def zC:ao:=Z.aw qP TH (bn (aI (aP b) .e) a .e) s (aow Z)
def zD:ao:=Z.aw qP TI (bn (aI (aP b) .e) a .e) s (Yq Z)
def tI:ao:=Z.a0 (ax Z D0) qP (bn (aI (aP b) .e) a .e) s (Yp Z)
def f123(a:ai)(s:aq):ao:=aV [a] 0 .e fun aC=>ax Z TL aC s (aJ Z Gs)
def aox:cP:=cW (ax Z TS) (aJ Z Gt)
def Yr:cP:=bw 0 (aox Z)
def EP:dp:=ca 3786
def Ys:cP:=cx EP (Z.a0 (ax Z D1) EP) (Yr Z)
def Yt:dp:=ca 238
def aoy:dp:=ca 209
def IU:ao:=Z.aw Yt TP (bn (aP b) a (bn (aP d) c .e)) s (Ys Z)
def zE:ao:=Z.aw Yt TQ (bn (aP b) a (bn (aP d) c .e)) s (Ys Z)
def zF:ao:=Z.aw aoy TR (aI .e (aI (aP a) .e)) s (aJ Z Gt)
def p9:ao:=Z.a0 (ax Z D1) EP (bn (bn .e b (aP e)) a (bn (aP d) c .e)) s (Yr Z)
def f125(a b c:ai)(s:aq):ao:=aV [a,b,c] 0 .e fun aC=>ax Z TT aC s (aJ Z Gt)
def Yu:dp:=ca 238
def aoz:cP:=cW (ax Z TZ) (aJ Z CD)
def Yv:cP:=bw 0 (aoz Z)
def xF:dp:=ca 1006
def EQ:cP:=cx xF (Z.a0 (ax Z D2) xF) (Yv Z)
def aoA:cP:=cW (ax Z TW) (EQ Z)
def aoB:cP:=bw 1 (aoA Z)
def afV:dp:=ca 0x3a0da
def afW:dp:=ca 209
def IV:ao:=Z.aw Yu TV (bn (aP b) a (bn (aP d) c .e)) s (EQ Z)
def tJ:ao:=Z.aw afV TU (bn (bn (aI (aP e) .e) b .e) a (bn (bn (aP f) d .e) c .e)) s (aoB Z)
def tK:ao:=Z.aw xF TX (bn (aP b) a (bn (aP d) c (aP e))) s (EQ Z)
def zG:ao:=Z.aw afW TY (aI .e (aI (aP a) .e)) s (aJ Z CD)
def oG:ao:=Z.a0 (ax Z D2) xF (bn (aP b) a (bn (aP d) c (aP e))) s (Yv Z)
def zH:ao:=Z.aw Yu Gu (bn (aP b) a (bn (aP d) c .e)) s (aJ Z CD)
def f126(a b c:ai)(s:aq):ao:=aV [a,b,c] 0 .e fun aC=>ax Z T0 aC s (aJ Z CD)
def aoC:dp:=ca 209
def IW:ao:=Z.aw aoC TM (aI .e (aI (aP a) .e)) s (aJ Z TO)
def f124(a:ai)(s:aq):ao:=aV [a] 0 .e fun aC=>ax Z TN aC s (aJ Z TO)
def xG:cP:=cW (ax Z GL) (aJ Z GM)
def aoD:dp:=ca 198
def aoE:cP:=cW (ax Z GI) (xG Z)
def Yw:cP:=bw 0 (aoE Z)
def tL:dp:=ca 0x30c550c583155
def ER:cP:=cx tL (Z.a0 (ax Z D8) tL) (Yw Z)
def aoF:cP:=cW (ax Z UI) (ER Z)
def afX:cP:=bw 1 (aoF Z)
def afY:dp:=ca 0x30c650c583155
def afZ:dp:=ca 12741
def af0:dp:=ca 785
def af1:dp:=ca 3
def IX:ao:=Z.aw tL UH (aI (aI (aI (aI (aI .e (aP c)) .e) .e) (bn (aI (aI .e (aP e)) .e) a .e)) (aI (aI (aI (aI .e (aP d)) .e) .e) (aP b))) s (ER Z)
def IY:ao:=Z.aw afY UG (aI (aI (aI (aI (aI .e (aP d)) .e) .e) (bn (aI (aI .e (aP f)) .e) a .e)) (aI (aI (bn (aI .e (aP e)) c .e) .e) (aP b))) s (afX Z)
def IZ:ao:=Z.aw tL UJ (aI (aI (aI (aI (aI .e (aP c)) .e) .e) (bn (aI (aI .e (aP e)) .e) a .e)) (aI (aI (aI (aI .e (aP d)) .e) .e) (aP b))) s (ER Z)
def qa:ao:=Z.aw af0 UK (aI .e (aI .e (aP a))) s (xG Z)
def zI:ao:=Z.aw afZ GH (aI (aI .e (aP a)) (aI .e (aP b))) s (xG Z)
def tM:ao:=Z.a0 (ax Z D8) tL (aI (aI (aI (aI (aI .e (aP c)) .e) .e) (bn (aI (aI .e (aP e)) .e) a .e)) (aI (aI (aI (aI .e (aP d)) .e) .e) (aP b))) s (Yw Z)
def zJ:ao:=Z.aw aoD GJ (bn (aI .e (aP b)) a .e) s (xG Z)
def af2:ao:=Z.aw af1 GK (aP a) s (aJ Z GM)
def f153(a:ai)(s:aq):ao:=aV [a] 0 .e fun aC=>ax Z UL aC s (aJ Z GM)
def f75(a:ai)(s:aq):ao:=aV [a] 0 .e fun aC=>ax Z adM aC s (aJ Z atf)
def f46(a b:ai)(s:aq):ao:=aV [a,b] 0 .e fun aC=>ax Z acE aC s (aJ Z avJ)
def f120(a:ai)(s:aq):ao:=aV [a] 0 .e fun aC=>ax Z Ty aC s (aJ Z aeb)
def aoG:cP:=cW (ax Z UE) (aJ Z GG)
def aoH:dp:=ca 3
def aoI:dp:=ca 14
def af3:ao:=Z.aw aoH UC (aP a) s (aoG Z)
def af4:ao:=Z.aw aoI UD (bn (aP b) a .e) s (aJ Z GG)
def f152(a b:ai)(s:aq):ao:=aV [a,b] 0 .e fun aC=>ax Z UF aC s (aJ Z GG)
def aoJ:dp:=ca 3
def af5:ao:=Z.aw aoJ Vs (aP a) s (aJ Z Vu)
def f163(a:ai)(s:aq):ao:=aV [a] 0 .e fun aC=>ax Z Vt aC s (aJ Z Vu)
def auh:dp:=ca 50
def aui:cP:=cW (ax Z abL) (aJ Z aac)
def af6:cP:=bw 0 (aui Z)
def zK:dp:=ca 12998
def af7:cP:=cx zK (Z.a0 (ax Z Nq) zK) (af6 Z)
def aoK:dp:=ca 965
def Yx:ao:=Z.aw zK abI (bn (aI .e (aP c)) a (bn .e b (aP d))) s (af7 Z)
def Yy:ao:=Z.aw zK abJ (bn (aI .e (aP c)) a (bn .e b (aP d))) s (af7 Z)
def ES:ao:=Z.aw aoK abK (aI (aI .e (aP b)) (aP a)) s (aJ Z aac)
def xH:ao:=Z.a0 (ax Z Nq) zK (bn (aI .e (aP c)) a (bn .e b (aP d))) s (af6 Z)
def Yz:ao:=Z.aw auh abM (bn .e a (aP b)) s (aJ Z aac)
def f12(a:ai)(s:aq):ao:=aV [a] 0 .e fun aC=>ax Z abN aC s (aJ Z aac)
def auj:cP:=cW (ax Z Sv) (aJ Z aah)
def af8:cP:=bw 0 (auj Z)
def zL:dp:=ca 0x3360da
def NR:cP:=cx zL (Z.a0 (ax Z NC) zL) (af8 Z)
def auk:cP:=cW (ax Z acH) (NR Z)
def aul:cP:=bw 1 (auk Z)
def aum:dp:=ca 0xe360da
def YA:dp:=ca 0x320da
def YB:ao:=Z.aw zL acG (bn (bn (aI (aP e) .e) b .e) a (bn (aI (aP f) .e) c (aP d))) s (NR Z)
def xI:ao:=Z.aw aum acF (bn (bn (aI (aP e) .e) b .e) a (bn (aI (aP f) .e) c (bn (aP g) d .e))) s (aul Z)
def YC:ao:=Z.aw zL acI (bn (bn (aI (aP e) .e) b .e) a (bn (aI (aP f) .e) c (aP d))) s (NR Z)
def tN:ao:=Z.aw YA acJ (bn (bn (aI (aP e) .e) b .e) a (bn .e c (aP d))) s (aJ Z aah)
def tO:ao:=Z.aw YA Su (bn (bn (aI (aP e) .e) b .e) a (bn .e c (aP d))) s (aJ Z aah)
def qQ:ao:=Z.a0 (ax Z NC) zL (bn (bn (aI (aP e) .e) b .e) a (bn (aI (aP f) .e) c (aP d))) s (af8 Z)
def f47(a b c:ai)(s:aq):ao:=aV [a,b,c] 0 .e fun aC=>ax Z acK aC s (aJ Z aah)
def af9:cP:=bw 0 (aJ Z ajX)
def zM:dp:=ca 814
def NS:cP:=cx zM (Z.a0 (ax Z DU) zM) (af9 Z)
def aun:cP:=cW (ax Z SL) (NS Z)
def va:cP:=bw 1 (aun Z)
def auo:cP:=cW (ax Z SJ) (va Z)
def aga:cP:=bw 2 (auo Z)
def zN:dp:=ca 0x33634da
def YD:cP:=cx zN (Z.a0 (ax Z NI) zN) (aga Z)
def aoL:dp:=ca 0x3360da
def aoM:dp:=ca 3630
def YE:dp:=ca 0xe231a
def YF:cP:=bw 4 (va Z)
def tP:dp:=ca 0xec631a
def YG:cP:=cx tP (Z.a0 (ax Z DT) tP) (YF Z)
def tQ:ao:=Z.aw zN adj (bn (bn (aI (aP e) .e) b (aI (aP g) .e)) a (bn (aI (aP f) .e) c (aP d))) s (YD Z)
def YH:ao:=Z.aw zN adk (bn (bn (aI (aP e) .e) b (aI (aP g) .e)) a (bn (aI (aP f) .e) c (aP d))) s (YD Z)
def I0:ao:=Z.aw tP adl (bn (bn (aI .e (aP f)) b .e) a (bn (aI .e (aP g)) c (bn (aP e) d .e))) s (YG Z)
def I1:ao:=Z.aw tP adm (bn (bn (aI .e (aP f)) b .e) a (bn (aI .e (aP g)) c (bn (aP e) d .e))) s (YG Z)
def zO:ao:=Z.aw zM SK (bn (aP b) a (bn .e c (aP d))) s (NS Z)
def qb:ao:=Z.a0 (ax Z DT) tP (bn (bn (aI .e (aP f)) b .e) a (bn (aI .e (aP g)) c (bn (aP e) d .e))) s (YF Z)
def ET:ao:=Z.aw YE SF (bn (bn (aI .e (aP f)) b .e) a (bn .e c (bn (aP e) d .e))) s (va Z)
def EU:ao:=Z.aw YE SG (bn (bn (aI .e (aP f)) b .e) a (bn .e c (bn (aP e) d .e))) s (va Z)
def tR:ao:=Z.aw aoM SH (bn (aP b) a (bn .e c (bn (aP e) d .e))) s (va Z)
def xJ:ao:=Z.aw aoL SI (bn (bn (aI (aP e) .e) b .e) a (bn (aI (aP f) .e) c (aP d))) s (va Z)
def xK:ao:=Z.a0 (ax Z NI) zN (bn (bn (aI (aP e) .e) b (aI (aP g) .e)) a (bn (aI (aP f) .e) c (aP d))) s (aga Z)
def YI:ao:=Z.aw zM SM (bn (aP b) a (bn .e c (aP d))) s (NS Z)
def xL:ao:=Z.a0 (ax Z DU) zM (bn (aP b) a (bn .e c (aP d))) s (af9 Z)
def f66(a b c:ai)(s:aq):ao:=aV [a,b,c] 0 .e fun aC=>ax Z adn aC s (aJ Z ajX)
def aup:cP:=cW (ax Z adS) (aJ Z adU)
def agb:cP:=bw 0 (aup Z)
def auq:dp:=ca 0xd110d6
def aur:dp:=ca 0xc450d6
def aus:dp:=ca 3
def YJ:ao:=Z.aw aus adR (aP a) s (aJ Z adU)
def EV:ao:=Z.aw aur adP (bn (aI (aI (aP b) .e) .e) a (aI (aI .e (aI .e (aP c))) .e)) s (agb Z)
def EW:ao:=Z.aw auq adQ (bn (aI (aI (aP b) .e) .e) a (aI .e (aI .e (aI (aP c) .e)))) s (agb Z)
def f82(a b c:ai)(s:aq):ao:=aV [a,b,c] 0 .e fun aC=>ax Z adT aC s (aJ Z adU)
def f107(a b c:ai)(s:aq):ao:=aV [a,b,c] 0 .e fun aC=>ax Z S6 aC s (aJ Z ad6)
def aoN:cP:=cW (ax Z Ta) (aJ Z Gp)
def YK:cP:=bw 0 (aoN Z)
def tS:dp:=ca 12746
def YL:cP:=cx tS (Z.a0 (ax Z DW) tS) (YK Z)
def aoO:dp:=ca 197
def I2:ao:=Z.aw tS S7 (bn (bn .e b (aP c)) a (aI .e (aP d))) s (YL Z)
def I3:ao:=Z.aw tS S8 (bn (bn .e b (aP c)) a (aI .e (aP d))) s (YL Z)
def I4:ao:=Z.aw aoO S9 (aI (aI .e (aP a)) .e) s (aJ Z Gp)
def tT:ao:=Z.a0 (ax Z DW) tS (bn (bn .e b (aP c)) a (aI .e (aP d))) s (YK Z)
def f108(a b:ai)(s:aq):ao:=aV [a,b] 0 .e fun aC=>ax Z Tb aC s (aJ Z Gp)
def f109(s:aq):ao:=aV [] 0 .e fun aC=>ax Z Tc aC s (aJ Z ad7)
def YM:cP:=bw 0 (aJ Z Ti)
def qR:dp:=ca 222
def EX:cP:=cx qR (Z.a0 (ax Z DX) qR) (YM Z)
def aoP:cP:=cW (ax Z Tf) (EX Z)
def aoQ:cP:=bw 1 (aoP Z)
def tU:ao:=Z.aw qR Te (bn (aP b) a (aI (aP c) .e)) s (EX Z)
def I5:ao:=Z.aw qR Td (bn (aP b) a (aI (aP c) .e)) s (aoQ Z)
def I6:ao:=Z.aw qR Tg (bn (aP b) a (aI (aP c) .e)) s (EX Z)
def tV:ao:=Z.a0 (ax Z DX) qR (bn (aP b) a (aI (aP c) .e)) s (YM Z)
def f110(a b:ai)(s:aq):ao:=aV [a,b] 0 .e fun aC=>ax Z Th aC s (aJ Z Ti)
def YN:cP:=bw 0 (aJ Z Tm)
def tW:dp:=ca 222
def YO:cP:=cx tW (Z.a0 (ax Z DY) tW) (YN Z)
def zP:ao:=Z.aw tW Tj (bn (aP b) a (aI (aP c) .e)) s (YO Z)
def zQ:ao:=Z.aw tW Tk (bn (aP b) a (aI (aP c) .e)) s (YO Z)
def tX:ao:=Z.a0 (ax Z DY) tW (bn (aP b) a (aI (aP c) .e)) s (YN Z)
def f111(a b:ai)(s:aq):ao:=aV [a,b] 0 .e fun aC=>ax Z Tl aC s (aJ Z Tm)
def f127(a b:ai)(s:aq):ao:=aV [a,b] 0 .e fun aC=>ax Z T1 aC s (aJ Z aed)
def aoR:dp:=ca 3
def I7:ao:=Z.aw aoR T2 (aP a) s (aJ Z T4)
def f128(a b:ai)(s:aq):ao:=aV [a,b] 0 .e fun aC=>ax Z T3 aC s (aJ Z T4)
def f129(a:ai)(s:aq):ao:=aV [a] 0 .e fun aC=>ax Z T5 aC s (aJ Z aee)
def f130(a:ai)(s:aq):ao:=aV [a] 0 .e fun aC=>ax Z T6 aC s (aJ Z aef)
def f131(s:aq):ao:=aV [] 0 .e fun aC=>ax Z T7 aC s (aJ Z aeg)
def f132(s:aq):ao:=aV [] 0 .e fun aC=>ax Z T8 aC s (aJ Z aeh)
def f145(a b:ai)(s:aq):ao:=aV [a,b] 0 .e fun aC=>ax Z Uk aC s (aJ Z aen)
def f146(a b c d:ai)(s:aq):ao:=aV [a,b,c,d] 0 .e fun aC=>ax Z Ul aC s (aJ Z aeo)
def qS:dp:=ca 54
def YP:cP:=bw 0 (aJ Z GY)
def aoS:cP:=cx qS (Z.a0 (ax Z Ef) qS) (YP Z)
def YQ:cP:=bw 1 (aoS Z)
def I8:ao:=Z.aw qS Vv (bn (aI (aP b) .e) a .e) s (YQ Z)
def zR:ao:=Z.aw qS Vw (bn (aI (aP b) .e) a .e) s (YQ Z)
def oH:ao:=Z.a0 (ax Z Ef) qS (bn (aI (aP b) .e) a .e) s (YP Z)
def zS:ao:=Z.aw qS Vx (bn (aI (aP b) .e) a .e) s (aJ Z GY)
def f168(a:ai)(s:aq):ao:=aV [a] 0 .e fun aC=>ax Z Vy aC s (aJ Z GY)
def I9:ao:=Z.aw .e VY .e s (aJ Z V0)
def f187(a b:ai)(s:aq):ao:=aV [a,b] 0 .e fun aC=>ax Z VZ aC s (aJ Z V0)
def YR:cP:=bw 0 (aJ Z V3)
def xM:dp:=ca 54
def aoT:cP:=cx xM (Z.a0 (ax Z Ek) xM) (YR Z)
def aoU:cP:=bw 1 (aoT Z)
def zT:ao:=Z.aw xM V1 (bn (aI (aP b) .e) a .e) s (aoU Z)
def tY:ao:=Z.a0 (ax Z Ek) xM (bn (aI (aP b) .e) a .e) s (YR Z)
def f188(a:ai)(s:aq):ao:=aV [a] 0 .e fun aC=>ax Z V2 aC s (aJ Z V3)
def YS:cP:=bw 0 (aJ Z WI)
def xN:dp:=ca 3
def aoV:cP:=cx xN (Z.a0 (ax Z Et) xN) (YS Z)
def Ja:ao:=Z.aw xN WG (aP a) s (aoV Z)
def tZ:ao:=Z.a0 (ax Z Et) xN (aP a) s (YS Z)
def f202(a:ai)(s:aq):ao:=aV [a] 0 .e fun aC=>ax Z WH aC s (aJ Z WI)
def aoW:dp:=ca 53
def zU:ao:=Z.aw aoW WJ (aI (aI (aP a) .e) .e) s (aJ Z WL)
def f203(a:ai)(s:aq):ao:=aV [a] 0 .e fun aC=>ax Z WK aC s (aJ Z WL)
def aoX:dp:=ca 3
def aoY:cP:=cW (ax Z WT) (aJ Z za)
def YT:cP:=bw 0 (aoY Z)
def t8:dp:=ca 198
def aoZ:cP:=cx t8 (Z.a0 (ax Z Eu) t8) (YT Z)
def agc:dp:=ca 786
def zV:ao:=Z.aw t8 WQ (bn (aI .e (aP b)) a .e) s (aoZ Z)
def Jb:ao:=Z.aw agc WR (bn .e a (aI .e (aP b))) s (aJ Z za)
def qc:ao:=Z.aw t8 WS (bn (aI .e (aP b)) a .e) s (aJ Z za)
def qd:ao:=Z.a0 (ax Z Eu) t8 (bn (aI .e (aP b)) a .e) s (YT Z)
def Jc:ao:=Z.aw aoX WU (aP a) s (aJ Z za)
def f207(a:ai)(s:aq):ao:=aV [a] 0 .e fun aC=>ax Z WV aC s (aJ Z za)
def ao0:cP:=cW (ax Z WZ) (aJ Z Hn)
def YU:cP:=bw 0 (ao0 Z)
def t9:dp:=ca 202
def YV:cP:=cx t9 (Z.a0 (ax Z Ev) t9) (YU Z)
def Jd:ao:=Z.aw t9 WW (bn (bn .e b (aP c)) a .e) s (YV Z)
def Je:ao:=Z.aw t9 WX (bn (bn .e b (aP c)) a .e) s (YV Z)
def Jf:ao:=Z.aw .e WY .e s (aJ Z Hn)
def ua:ao:=Z.a0 (ax Z Ev) t9 (bn (bn .e b (aP c)) a .e) s (YU Z)
def f208(a b:ai)(s:aq):ao:=aV [a,b] 0 .e fun aC=>ax Z W0 aC s (aJ Z Hn)
def NT:dp:=ca 821
def aut:cP:=cW (ax Z Sc) (aJ Z Gk)
def agd:cP:=bw 0 (aut Z)
def zW:dp:=ca 1013
def age:cP:=cx zW (Z.a0 (ax Z Nr) zW) (agd Z)
def ao1:cP:=cW (ax Z Sa) (aJ Z Gk)
def YW:cP:=bw 2 (ao1 Z)
def ub:dp:=ca 12853
def YX:cP:=cx ub (Z.a0 (ax Z DN) ub) (YW Z)
def YY:ao:=Z.aw zW abO (aI (aI (aP b) (aP c)) (aP a)) s (age Z)
def YZ:ao:=Z.aw zW abP (aI (aI (aP b) (aP c)) (aP a)) s (age Z)
def Y0:ao:=Z.aw ub abQ (aI (aI (aP b) .e) (bn .e a (aP c))) s (YX Z)
def Y1:ao:=Z.aw ub abR (aI (aI (aP b) .e) (bn .e a (aP c))) s (YX Z)
def Y2:ao:=Z.aw NT R9 (aI (aI (aP b) .e) (aP a)) s (aJ Z Gk)
def uc:ao:=Z.a0 (ax Z DN) ub (aI (aI (aP b) .e) (bn .e a (aP c))) s (YW Z)
def Y3:ao:=Z.aw NT Sb (aI (aI (aP b) .e) (aP a)) s (aJ Z Gk)
def xO:ao:=Z.a0 (ax Z Nr) zW (aI (aI (aP b) (aP c)) (aP a)) s (agd Z)
def Y4:ao:=Z.aw NT Sd (aI (aI (aP b) .e) (aP a)) s (aJ Z Gk)
def f13(a b:ai)(s:aq):ao:=aV [a,b] 0 .e fun aC=>ax Z abS aC s (aJ Z Gk)
def auu:dp:=ca 14
def auv:cP:=cW (ax Z ab2) (aJ Z aae)
def agf:cP:=bw 0 (auv Z)
def zX:dp:=ca 202
def agh:cP:=cx zX (Z.a0 (ax Z Nt) zX) (agf Z)
def Y5:ao:=Z.aw zX abZ (bn (bn .e b (aP c)) a .e) s (agh Z)
def Y6:ao:=Z.aw zX ab0 (bn (bn .e b (aP c)) a .e) s (agh Z)
def Y7:ao:=Z.aw .e ab1 .e s (aJ Z aae)
def xP:ao:=Z.a0 (ax Z Nt) zX (bn (bn .e b (aP c)) a .e) s (agf Z)
def Y8:ao:=Z.aw auu ab3 (bn (aP b) a .e) s (aJ Z aae)
def f32(a b:ai)(s:aq):ao:=aV [a,b] 0 .e fun aC=>ax Z ab4 aC s (aJ Z aae)
def agi:dp:=ca 53478
def auw:cP:=cW (ax Z ab8) (aJ Z Nv)
def agj:cP:=bw 0 (auw Z)
def zY:dp:=ca 0xdcd190d1734a6
def agk:cP:=cx zY (Z.a0 (ax Z Nu) zY) (agj Z)
def ao2:dp:=ca 0xdc9325
def Y9:ao:=Z.aw zY ab5 (bn (aI (bn (bn .e d (aI (aP i) .e)) b (aP f)) (aI (aI .e (aI (aP m) .e)) .e)) a (aI (bn (aI .e (aI (aP j) .e)) c (aP g)) (aI (aP e) .e))) s (agk Z)
def Za:ao:=Z.aw zY ab6 (bn (aI (bn (bn .e d (aI (aP i) .e)) b (aP f)) (aI (aI .e (aI (aP m) .e)) .e)) a (aI (bn (aI .e (aI (aP j) .e)) c (aP g)) (aI (aP e) .e))) s (agk Z)
def xQ:ao:=Z.aw ao2 ab7 (aI (aI (bn .e a (aP d)) .e) (aI (bn .e b (aP e)) (aI (aP c) .e))) s (aJ Z Nv)
def xR:ao:=Z.a0 (ax Z Nu) zY (bn (aI (bn (bn .e d (aI (aP i) .e)) b (aP f)) (aI (aI .e (aI (aP m) .e)) .e)) a (aI (bn (aI .e (aI (aP j) .e)) c (aP g)) (aI (aP e) .e))) s (agj Z)
def Zb:ao:=Z.aw agi ab9 (bn (aI (bn (aP d) b .e) .e) a (aI (aP c) .e)) s (aJ Z Nv)
def Zc:ao:=Z.aw agi Se (bn (aI (bn (aP d) b .e) .e) a (aI (aP c) .e)) s (aJ Z Nv)
def f35(a b:ai)(s:aq):ao:=aV [a,b] 0 .e fun aC=>ax Z aca aC s (aJ Z Nv)
def agl:dp:=ca 53478
def auy:cP:=cW (ax Z ach) (aJ Z Nx)
def agm:cP:=bw 0 (auy Z)
def zZ:dp:=ca 0xdc937e6
def NU:cP:=cx zZ (Z.a0 (ax Z Nw) zZ) (agm Z)
def auz:cP:=cW (ax Z ace) (NU Z)
def ao3:cP:=bw 1 (auz Z)
def ao4:dp:=ca 0xdc9f7e6
def ao5:dp:=ca 0xdd3725
def Zd:ao:=Z.aw zZ acd (bn (aI (bn (aP d) b (aP g)) (aI (aP e) .e)) a (aI (bn .e c (aP i)) (aI (aP f) .e))) s (NU Z)
def xS:ao:=Z.aw ao4 acb (bn (aI (bn (aP d) b (aP g)) (aI (aP e) (aP j))) a (aI (bn .e c (aP i)) (aI (aP f) .e))) s (ao3 Z)
def Ze:ao:=Z.aw zZ acf (bn (aI (bn (aP d) b (aP g)) (aI (aP e) .e)) a (aI (bn .e c (aP i)) (aI (aP f) .e))) s (NU Z)
def ud:ao:=Z.aw ao5 acg (aI (aI (bn .e a (aP e)) (aI (aP c) .e)) (aI (aP b) (aI (aP d) .e))) s (aJ Z Nx)
def xT:ao:=Z.a0 (ax Z Nw) zZ (bn (aI (bn (aP d) b (aP g)) (aI (aP e) .e)) a (aI (bn .e c (aP i)) (aI (aP f) .e))) s (agm Z)
def Zf:ao:=Z.aw agl Sf (bn (aI (bn (aP d) b .e) .e) a (aI (aP c) .e)) s (aJ Z Nx)
def Zg:ao:=Z.aw agl Sg (bn (aI (bn (aP d) b .e) .e) a (aI (aP c) .e)) s (aJ Z Nx)
def f36(a b:ai)(s:aq):ao:=aV [a,b] 0 .e fun aC=>ax Z aci aC s (aJ Z Nx)
def auA:dp:=ca 54
def auB:dp:=ca 12598
def auC:cP:=cW (ax Z ac5) (aJ Z DS)
def agn:cP:=bw 0 (auC Z)
def z0:dp:=ca 0x3121c440d56
def ago:cP:=cx z0 (Z.a0 (ax Z NG) z0) (agn Z)
def Zh:ao:=Z.aw z0 ac2 (bn (aI (aI (aI (aI (aP e) .e) .e) .e) (aI .e (aI .e (aP c)))) a (aI .e (bn .e b (aI .e (aP d))))) s (ago Z)
def Zi:ao:=Z.aw z0 ac3 (bn (aI (aI (aI (aI (aP e) .e) .e) .e) (aI .e (aI .e (aP c)))) a (aI .e (bn .e b (aI .e (aP d))))) s (ago Z)
def Zj:ao:=Z.aw .e ac4 .e s (aJ Z DS)
def xU:ao:=Z.a0 (ax Z NG) z0 (bn (aI (aI (aI (aI (aP e) .e) .e) .e) (aI .e (aI .e (aP c)))) a (aI .e (bn .e b (aI .e (aP d))))) s (agn Z)
def Zk:ao:=Z.aw auB ac6 (bn (aI (aP b) .e) a (aI .e (aP c))) s (aJ Z DS)
def Zl:ao:=Z.aw auA SD (bn (aI (aP b) .e) a .e) s (aJ Z DS)
def f62(a b:ai)(s:aq):ao:=aV [a,b] 0 .e fun aC=>ax Z ac7 aC s (aJ Z DS)
def f63(a b:ai)(s:aq):ao:=aV [a,b] 0 .e fun aC=>ax Z ac8 aC s (aJ Z avK)
def auD:dp:=ca 54
def auE:dp:=ca 12598
def auF:cP:=cW (ax Z ade) (aJ Z xa)
def agp:cP:=bw 0 (auF Z)
def z1:dp:=ca 0x310e6
def agq:cP:=cx z1 (Z.a0 (ax Z NH) z1) (agp Z)
def Zm:ao:=Z.aw z1 ac9 (bn (aI (bn (aP d) b .e) .e) a (aI .e (aP c))) s (agq Z)
def Zn:ao:=Z.aw z1 ada (bn (aI (bn (aP d) b .e) .e) a (aI .e (aP c))) s (agq Z)
def Zo:ao:=Z.aw .e adb .e s (aJ Z xa)
def xV:ao:=Z.a0 (ax Z NH) z1 (bn (aI (bn (aP d) b .e) .e) a (aI .e (aP c))) s (agp Z)
def Zp:ao:=Z.aw auE adf (bn (aI (aP b) .e) a (aI .e (aP c))) s (aJ Z xa)
def Zq:ao:=Z.aw auD SE (bn (aI (aP b) .e) a .e) s (aJ Z xa)
def f64(a b:ai)(s:aq):ao:=aV [a,b] 0 .e fun aC=>ax Z adg aC s (aJ Z xa)
def auG:cP:=cW (ax Z adr) (aJ Z adt)
def agr:cP:=bw 0 (auG Z)
def ags:dp:=ca 3
def auH:dp:=ca 53586
def Zr:ao:=Z.aw ags ado (aP a) s (agr Z)
def Zs:ao:=Z.aw ags adq (aP a) s (aJ Z adt)
def EY:ao:=Z.aw auH adp (bn .e a (aI (aI (aI .e (aI (aP b) .e)) .e) .e)) s (agr Z)
def f67(a b c:ai)(s:aq):ao:=aV [a,b,c] 0 .e fun aC=>ax Z ads aC s (aJ Z adt)
def ao6:cP:=cW (ax Z SU) (aJ Z Gm)
def Zt:cP:=bw 0 (ao6 Z)
def ao7:dp:=ca 229
def ao8:dp:=ca 12625
def Jg:ao:=Z.aw .e SS .e s (aJ Z Gm)
def z2:ao:=Z.aw ao8 SQ (aI .e (aI (aI (aI .e (aP a)) .e) .e)) s (Zt Z)
def z3:ao:=Z.aw ao7 SR (aI (aI (bn (aP b) a .e) .e) .e) s (Zt Z)
def f102(a:ai)(s:aq):ao:=aV [a] 0 .e fun aC=>ax Z SV aC s (aJ Z Gm)
def ao9:cP:=cW (ax Z S1) (aJ Z Gn)
def Zu:cP:=bw 0 (ao9 Z)
def apa:dp:=ca 53557
def apb:dp:=ca 0x31135
def Jh:ao:=Z.aw .e SZ .e s (aJ Z Gn)
def z4:ao:=Z.aw apb SX (aI (aI (aP a) .e) (aI .e (aI .e (aP b)))) s (Zu Z)
def z5:ao:=Z.aw apa SY (aI (aI (aP a) .e) (aI .e (aI (aP b) .e))) s (Zu Z)
def f105(a:ai)(s:aq):ao:=aV [a] 0 .e fun aC=>ax Z S2 aC s (aJ Z Gn)
def f7(a b:ai)(s:aq):ao:=aV [a,b] 0 .e fun aC=>ax Z aqP aC s (aJ Z aws)
end
variable{a b c d e f g i j m o p q r t u w x y z A B C D E F H I J K L M N O P Q R S T U V:ai}{s:aq}
section
variable{Z}[h:Inhabited Z.uO]
include h
theorem Ji:Ho Z s=Z.aB false [some (.int .i64 1)] s:=h.1.cI
theorem Jj:Hp Z s=Z.aB false [some (.int .i64 1)] s:=h.1.cI
theorem Jk:Hq Z a b c d s=Z.ah s (fun e s=>sJ Z a b c e s) (al .add d (.int .i64 1)):=h.1.cI
theorem Jl:Hr Z a b e d s=Z.aY s (fun f s=>Z.ah s (fun g s=>Z.ah s (fun c s=>Z.aZ s (fun i s=>Z.aj s (fun j s=>Z.aZ s (fun m s=>Z.aj s (fun o s=>Z.ah s (fun p s=>Z.ay p (Z.aZ s (fun q s=>Z.aj s (fun r s=>Z.aZ s (fun t s=>Z.aj s (fun u s=>Z.ah s (fun w s=>Z.ay w (Z.aB false [some (.int .i64 (-1))] s) (Hp Z s)) (al .lss r u)) none t) 1 b c) none q) 1 a c) (Hq Z a b e d s)) (al .neq j o)) none m) 1 b c) none i) 1 a c) (al .sub g d)) (al .sub f (.int .i64 1))) false a:=h.1.cI
theorem Jm:Hs Z s=Z.aB false [some (.int .i64 0)] s:=h.1.cI
theorem v5:sJ Z c d a b s=Z.ah s (fun e s=>Z.ay e (Hr Z c d a b s) (Hs Z s)) (al .lss b a):=h.1.kr
theorem Jn:Ht Z a b s=Z.aY s (fun c s=>sJ Z a b c (.int .i64 0) s) false a:=h.1.cI
theorem Jo:Hu Z a b c d e f s=Z.ah s (fun g s=>sL Z a b c d e g s) (al .add f (.int .i64 1)):=h.1.cI
theorem Jp:Hv Z a b c e f d s=Z.aY s (fun j s=>Z.ah s (fun m s=>Z.ah s (fun g s=>Z.ah s (fun o s=>Z.aZ s (fun p s=>Z.aj s (fun q s=>Z.bm s (fun r s=>Z.ah s (fun i s=>Z.bm s (fun t s=>Z.ah s (fun u s=>Z.bm s (fun w s=>Z.aZ s (fun x s=>Z.a6 s (fun B s=>Z.bm s (fun y s=>Z.ah s (fun z s=>Hu Z a b c z f d s) (al .rem i y)) .u64 b) 1 x (ai.ak s.aa w)) 1 c g) .u32 u) (al .quo i t)) .u64 b) (al .or o r)) .u64 q) none p) 1 a g) (al .shl e (.int .u64 32))) (al .sub m d)) (al .sub j (.int .i64 1))) false a:=h.1.cI
theorem Jq:Hw Z a b s=Z.ar s (fun c s=>Z.bm s (fun d s=>Z.aB false [some c,some d] s) .u32 b) 191 [(ai.ak s.aa a)]:=h.1.cI
theorem v7:sL Z e f a b c d s=Z.ah s (fun g s=>Z.ay g (Hv Z e f a b c d s) (Hw Z a b s)) (al .lss d c):=h.1.kr
theorem Jr:Hx Z a b s=Z.ah s (fun c s=>sN Z a c s) (al .sub b (.int .i64 1)):=h.1.cI
theorem Js:zb Z a b s=Z.jy 1 a none (some b) none s (fun c s=>Z.aB false [some c] s):=h.1.cI
theorem v8:sN Z c b s=Z.ah s (fun a s=>Z.ae a true (fun k=>k c s) s (fun d s=>Z.ae a true (fun k=>k b s) s (fun e s=>Z.ae a true (fun k=>Z.ah s k (al .sub e (.int .i64 1))) s (fun f s=>Z.ae a true (fun k=>Z.aZ s k 1 d f) s (fun g s=>Z.ae a true (fun k=>Z.aj s k none g) s (fun i s=>Z.ae a true (fun k=>Z.ah s k (al .eql i (.int .u32 0))) s (fun j s=>Z.a2 s (fun m s=>Z.ay m (Hx Z c b s) (zb Z c b s)) a j (.bool false)))))))) (al .gtr b (.int .i64 0)):=h.1.kr
theorem Jt:Hy Z a b c d e s=Z.ah s (fun f s=>sP Z a b c d f s) (al .add e (.int .i64 1)):=h.1.cI
theorem Ju:Hz Z d a b e c s=Z.aZ s (fun i s=>Z.aj s (fun j s=>Z.bm s (fun m s=>Z.ah s (fun o s=>Z.ah s (fun f s=>Z.ah s (fun p s=>Z.ah s (fun g s=>Z.aZ s (fun q s=>Z.aj s (fun r s=>Z.bm s (fun t s=>Z.ah s (fun u s=>Z.aZ s (fun w s=>Z.a6 s (fun H s=>Z.ah s (fun x s=>Z.ah s (fun y s=>Z.ah s (fun z s=>Z.ah s (fun A s=>Z.bm s (fun B s=>Z.aZ s (fun C s=>Z.a6 s (fun H s=>Hy Z d a b e c s) 1 C (ai.ak s.aa B)) 1 b z) .u32 A) (al .shr f (.int .u64 32))) (al .add y (.int .i64 1))) (al .add c x)) (al .quo a (.int .i64 32))) 1 w (ai.ak s.aa u)) 1 b g) (al .or r t)) .u32 f) none q) 1 b g) (al .add c p)) (al .quo a (.int .i64 32))) (al .shl m o)) (al .rem a (.int .i64 32))) .u64 j) none i) 1 d c:=h.1.cI
theorem Jv:HA Z a s=Z.ar s (fun b s=>Z.aB false [some b] s) 191 [(ai.ak s.aa a)]:=h.1.cI
theorem v9:sP Z d e a b c s=Z.ah s (fun f s=>Z.ay f (Hz Z d e a b c s) (HA Z a s)) (al .lss c b):=h.1.kr
theorem Jw:HD Z a b c d e f g i s=Z.ah s (fun j s=>p3 Z a b c d e f g j s) (al .add i (.int .i64 1)):=h.1.cI
theorem Jx:HE Z b c d e f g i a s=Z.aZ s (fun o s=>Z.aj s (fun p s=>Z.bm s (fun q s=>Z.ah s (fun r s=>Z.ah s (fun j s=>Z.ah s (fun t s=>Z.ah s (fun u s=>Z.aZ s (fun w s=>Z.aj s (fun x s=>Z.bm s (fun y s=>Z.ah s (fun z s=>Z.ah s (fun A s=>Z.ah s (fun m s=>Z.ah s (fun B s=>Z.bm s (fun C s=>Z.aZ s (fun D s=>Z.a6 s (fun H s=>Z.ah s (fun E s=>HD Z b c d e t E i a s) (al .shr m (.int .u64 63))) 1 D (ai.ak s.aa C)) 1 b B) .u32 m) (al .add c a)) (al .sub A g)) (al .sub y z)) (al .and j (.int .u64 4294967295))) .u64 x) none w) 1 b u) (al .add c a)) (al .shr j (.int .u64 32))) (al .add r f)) (al .mul e q)) .u64 p) none o) 1 d a:=h.1.cI
theorem Jy:HF Z a b c d e f g s=Z.ah s (fun i s=>sR Z a b c d e f i s) (al .add g (.int .i64 1)):=h.1.cI
theorem Jz:HG Z b c d e f g a s=Z.ah s (fun j s=>Z.aZ s (fun m s=>Z.aj s (fun o s=>Z.bm s (fun p s=>Z.aZ s (fun q s=>Z.aj s (fun r s=>Z.bm s (fun t s=>Z.ah s (fun u s=>Z.ah s (fun i s=>Z.ah s (fun w s=>Z.bm s (fun x s=>Z.aZ s (fun y s=>Z.a6 s (fun B s=>Z.ah s (fun z s=>HF Z b c d e z g a s) (al .shr i (.int .u64 32))) 1 y (ai.ak s.aa x)) 1 b w) .u32 i) (al .add c a)) (al .add u f)) (al .add p t)) .u64 r) none q) 1 d a) .u64 o) none m) 1 b j) (al .add c a):=h.1.cI
theorem JA:HH Z a b c d e s=Z.aY s (fun g s=>Z.ah s (fun f s=>Z.aZ s (fun i s=>Z.aj s (fun j s=>Z.bm s (fun m s=>Z.ah s (fun o s=>Z.aZ s (fun p s=>Z.a6 s (fun u s=>Z.ah s (fun q s=>Z.bm s (fun r s=>Z.aB false [some r] s) .u32 q) (al .sub d (.int .u64 1))) 1 p (ai.ak s.aa o)) 1 a f) (al .add j m)) .u32 e) none i) 1 a f) (al .add b g)) false c:=h.1.cI
theorem wa:sR Z a b c d e f g s=Z.ah s (fun i s=>Z.ay i (HG Z a b c d e f g s) (HH Z a b c d e s)) (al .lss g f):=h.1.kr
theorem JB:zc Z b c a d s=Z.aY s (fun e s=>sR Z b c a d (.int .u64 0) e (.int .i64 0) s) false a:=h.1.cI
theorem JC:HI Z a b c d e f s=Z.aY s (fun i s=>Z.ah s (fun j s=>Z.aZ s (fun m s=>Z.aj s (fun o s=>Z.bm s (fun p s=>Z.ah s (fun q s=>Z.ah s (fun g s=>Z.aY s (fun r s=>Z.ah s (fun t s=>Z.bm s (fun u s=>Z.aZ s (fun w s=>Z.a6 s (fun B s=>Z.ah s (fun x s=>Z.ah s (fun y s=>Z.ay y (Z.bm s (fun z s=>Z.aB false [some z] s) .u32 d) (zc Z a b c d s)) (al .eql x (.int .u64 0))) (al .shr g (.int .u64 63))) 1 w (ai.ak s.aa u)) 1 a t) .u32 g) (al .add b r)) false c) (al .sub q f)) (al .sub p e)) .u64 o) none m) 1 a j) (al .add b i)) false c:=h.1.cI
theorem wb:p3 Z a b c d e f g i s=Z.ah s (fun j s=>Z.ay j (HE Z a b c d e f g i s) (HI Z a b c d e f s)) (al .lss i g):=h.1.kr
theorem wc:zd Z a s=Z.aB false [some a] s:=h.1.cI
theorem JD:ze Z c d a b e f s=Z.ah s (fun g s=>Z.ah s (fun j s=>Z.aZ s (fun m s=>Z.aj s (fun o s=>Z.bm s (fun p s=>Z.ah s (fun i s=>Z.ah s (fun q s=>Z.ay q (zd Z g s) (sS Z c d a b g i s)) (al .geq i (.int .u64 4294967296))) (al .add f p)) .u64 o) none m) 1 a j) (al .sub b (.int .i64 1))) (al .sub e (.int .u64 1)):=h.1.cI
theorem JE:sS Z d e f c b g s=Z.ah s (fun a s=>Z.ae a false (fun k=>k b s) s (fun i s=>Z.ae a false (fun k=>k f s) s (fun j s=>Z.ae a false (fun k=>k c s) s (fun m s=>Z.ae a false (fun k=>Z.ah s k (al .sub m (.int .i64 2))) s (fun o s=>Z.ae a false (fun k=>Z.aZ s k 1 j o) s (fun p s=>Z.ae a false (fun k=>Z.aj s k none p) s (fun q s=>Z.ae a false (fun k=>Z.bm s k .u64 q) s (fun r s=>Z.ae a false (fun k=>Z.ah s k (al .mul i r)) s (fun t s=>Z.ae a false (fun k=>k g s) s (fun u s=>Z.ae a false (fun k=>Z.ah s k (al .shl u (.int .u64 32))) s (fun w s=>Z.ae a false (fun k=>k d s) s (fun x s=>Z.ae a false (fun k=>k e s) s (fun y s=>Z.ae a false (fun k=>k c s) s (fun z s=>Z.ae a false (fun k=>Z.ah s k (al .add y z)) s (fun A s=>Z.ae a false (fun k=>Z.ah s k (al .sub A (.int .i64 2))) s (fun B s=>Z.ae a false (fun k=>Z.aZ s k 1 x B) s (fun C s=>Z.ae a false (fun k=>Z.aj s k none C) s (fun D s=>Z.ae a false (fun k=>Z.bm s k .u64 D) s (fun E s=>Z.ae a false (fun k=>Z.ah s k (al .or w E)) s (fun F s=>Z.ae a false (fun k=>Z.ah s k (al .gtr t F)) s (fun H s=>Z.a2 s (fun I s=>Z.ay I (ze Z d e f c b g s) (zd Z b s)) a (.bool true) H))))))))))))))))))))) (al .geq b (.int .u64 4294967296)):=h.1.kr
theorem JF:HJ Z a b c d e f g s=Z.ah s (fun i s=>p4 Z a b c d e f i s) (al .add g (.int .i64 1)):=h.1.cI
theorem JG:sU Z c a d e b f g i j s=Z.ah s (fun m s=>Z.ah s (fun o s=>Z.bm s (fun p s=>Z.aZ s (fun q s=>Z.a6 s (fun r s=>HJ Z c a d e b i j s) 1 q (ai.ak s.aa p)) 1 b f) .u32 o) (al .shr g m)) (al .rem a (.int .i64 32)):=h.1.cI
theorem JH:HK Z b d c e f g a s=Z.ah s (fun j s=>Z.aZ s (fun m s=>Z.aj s (fun o s=>Z.bm s (fun i s=>Z.ah s (fun p s=>Z.ah s (fun q s=>Z.aY s (fun r s=>Z.ah s (fun t s=>Z.ay t (Z.ah s (fun u s=>Z.ah s (fun w s=>Z.aZ s (fun x s=>Z.aj s (fun y s=>Z.bm s (fun z s=>Z.ah s (fun A s=>Z.ah s (fun B s=>sU Z b d c e f a B g a s) (al .or i A)) (al .shl z (.int .u64 32))) .u64 y) none x) 1 b w) (al .add u (.int .i64 1))) (al .add a c)) (sU Z b d c e f a i g a s)) (al .lss q r)) false b) (al .add p (.int .i64 1))) (al .add a c)) .u64 o) none m) 1 b j) (al .add a c):=h.1.cI
theorem JI:HL Z a b s=Z.ar s (fun c s=>Z.aB false [some c,some a] s) 191 [(ai.ak s.aa b)]:=h.1.cI
theorem we:p4 Z e f g a b c d s=Z.ah s (fun i s=>Z.ay i (HK Z e f g a b c d s) (HL Z a b s)) (al .lss d c):=h.1.kr
theorem JJ:HM Z b d c s=Z.jy 1 b none (some c) none s (fun g s=>Z.ar s (fun i s=>Z.aY s (fun j s=>Z.ah s (fun a s=>Z.ae a false (fun k=>k b s) s (fun m s=>Z.ae a false (fun k=>k c s) s (fun o s=>Z.ae a false (fun k=>Z.aZ s k 1 m o) s (fun p s=>Z.ae a false (fun k=>Z.aj s k none p) s (fun q s=>Z.ae a false (fun k=>k d s) s (fun r s=>Z.ae a false (fun k=>Z.ah s k (al .rem r (.int .i64 32))) s (fun t s=>Z.ae a false (fun k=>Z.ah s k (al .shl (.int .u32 1) t)) s (fun u s=>Z.ae a false (fun k=>Z.ah s k (al .sub u (.int .u32 1))) s (fun w s=>Z.ae a false (fun k=>Z.ah s k (al .and q w)) s (fun x s=>Z.ae a false (fun k=>Z.ah s k (al .neq x (.int .u32 0))) s (fun y s=>Z.a2 s (fun z s=>Z.aY s (fun A s=>Z.ah s (fun e s=>Z.jf s (fun f s=>Z.aY s (fun B s=>p4 Z b d c z f B (.int .i64 0) s) false f) [.int .u32 0] 4 e e) (al .sub A c)) false b) a (.bool true) y))))))))))) (al .gtr j (.int .i64 0))) false i) 191 [(ai.ak s.aa g)]):=h.1.cI
theorem JK:p5 Z a b s=Z.bm s (fun c s=>Z.db s (fun d s=>Z.bm s (fun e s=>Z.ah s (fun f s=>Z.aB false [some f] s) (al .add b e)) .i64 d) (.str [0,1,2,2,3,3,3,3,4,4,4,4,4,4,4,4,5,5,5,5,5,5,5,5,5,5,5,5,5,5,5,5,6,6,6,6,6,6,6,6,6,6,6,6,6,6,6,6,6,6,6,6,6,6,6,6,6,6,6,6,6,6,6,6,7,7,7,7,7,7,7,7,7,7,7,7,7,7,7,7,7,7,7,7,7,7,7,7,7,7,7,7,7,7,7,7,7,7,7,7,7,7,7,7,7,7,7,7,7,7,7,7,7,7,7,7,7,7,7,7,7,7,7,7,7,7,7,7,8,8,8,8,8,8,8,8,8,8,8,8,8,8,8,8,8,8,8,8,8,8,8,8,8,8,8,8,8,8,8,8,8,8,8,8,8,8,8,8,8,8,8,8,8,8,8,8,8,8,8,8,8,8,8,8,8,8,8,8,8,8,8,8,8,8,8,8,8,8,8,8,8,8,8,8,8,8,8,8,8,8,8,8,8,8,8,8,8,8,8,8,8,8,8,8,8,8,8,8,8,8,8,8,8,8,8,8,8,8,8,8,8,8,8,8,8,8,8,8,8,8,8,8,8,8,8,8]) c) .u8 a:=h.1.cI
theorem JL:oD Z a b s=Z.ah s (fun c s=>Z.ay c (Z.ah s (fun d s=>Z.ah s (fun e s=>p5 Z d e s) (al .add b (.int .i64 8))) (al .shr a (.int .u64 8))) (p5 Z a b s)) (al .geq a (.int .u32 256)):=h.1.cI
theorem JM:HN Z a s=Z.ag s (fun b s=>Z.aj s (fun c s=>Z.ag s (fun d s=>Z.aj s (fun e s=>Z.aY s (fun f s=>Z.ah s (fun g s=>Z.aZ s (fun i s=>Z.aj s (fun j s=>Z.ah s (fun m s=>Z.aB false [some m] s) (al .neq j (.int .u32 0))) none i) 1 c g) (al .sub f (.int .i64 1))) false e) none d) 1 a) none b) 1 a:=h.1.cI
theorem wg:HO Z a s=Z.ag s (fun b s=>Z.aj s (fun c s=>Z.aY s (fun d s=>Z.ah s (fun e s=>Z.ay e (Z.ag s (fun f s=>Z.aj s (fun g s=>Z.ah s (fun i s=>Z.aB false [some i] s) (iN .not g)) none f) 0 a) (HN Z a s)) (al .eql d (.int .i64 0))) false c) none b) 1 a:=h.1.cI
theorem wh:HP Z c b s=Z.ah s (fun a s=>Z.ae a true (fun k=>Z.ag s k 1 c) s (fun d s=>Z.ae a true (fun k=>Z.aj s k none d) s (fun e s=>Z.ae a true (fun k=>k b s) s (fun f s=>Z.ae a true (fun k=>Z.ah s k (al .sub f (.int .i64 1))) s (fun g s=>Z.ae a true (fun k=>Z.aZ s k 1 e g) s (fun i s=>Z.ae a true (fun k=>Z.aj s k none i) s (fun j s=>Z.ae a true (fun k=>Z.ah s k (al .neq j (.int .u32 0))) s (fun m s=>Z.a2 s (fun o s=>Z.aB false [some o] s) a m (.bool false))))))))) (al .leq b (.int .i64 128)):=h.1.cI
theorem JN:HS Z a b c d s=Z.ah s (fun e s=>sX Z a b c e s) (al .add d (.int .i64 1)):=h.1.cI
theorem JO:sV Z b c a d s=Z.ar s (fun e s=>Z.ar s (fun f s=>sW Z b f a d s) 158 [(ai.ak s.aa e)]) 160 [(ai.ak s.aa c),(ai.ak s.aa a)]:=h.1.cI
theorem JP:HT Z c a b d s=Z.ar s (fun e s=>Z.ah s (fun f s=>Z.ay f (sV Z c b a d s) (sV Z c a b d s)) (al .lss e (.int .i64 0))) 159 [(ai.ak s.aa a),(ai.ak s.aa b)]:=h.1.cI
theorem JQ:HU Z a b c s=Z.ar s (fun e s=>Z.ar s (fun d s=>Z.bh s (fun f s=>Z.bh s (fun g s=>Z.a6 s (fun r s=>Z.aB false [eF s a (some 2),some g] s) 2 a (ai.ak s.aa f)) 1 d) 0 d) 155 [(ai.ak s.aa (.bool false)),(ai.ak s.aa e)]) 161 [(ai.ak s.aa b),(ai.ak s.aa c)]:=h.1.cI
theorem JR:sW Z b a c d s=Z.ar s (fun e s=>Z.ah s (fun f s=>Z.ay f (HT Z b a c d s) (HU Z b a d s)) (al .neq e (.int .i64 0))) 159 [(ai.ak s.aa a),(ai.ak s.aa c)]:=h.1.kr
theorem JS:zf Z a b c d s=Z.ar s (fun e s=>Z.ar s (fun f s=>sW Z a e f d s) 158 [(ai.ak s.aa c)]) 158 [(ai.ak s.aa b)]:=h.1.cI
theorem qe:sX Z e c d a s=Z.ar s (fun f s=>Z.ah s (fun b s=>Z.ae b true (fun k=>k d s) s (fun g s=>Z.ae b true (fun k=>k a s) s (fun i s=>Z.ae b true (fun k=>Z.ar s k 157 [(ai.ak s.aa g),(ai.ak s.aa i)]) s (fun j s=>Z.ae b true (fun k=>Z.ah s k (al .eql j (.int .u32 0))) s (fun m s=>Z.a2 s (fun o s=>Z.ay o (HS Z e c d a s) (zf Z e c d a s)) b m (.bool false)))))) (al .eql f (.int .u32 0))) 157 [(ai.ak s.aa c),(ai.ak s.aa a)]:=h.1.kr
theorem JT:zg Z a b c s=sX Z a b c (.int .i64 0) s:=h.1.cI
theorem JU:HV Z e f a s=Z.av s (fun i s=>Z.ag s (fun j s=>Z.aj s (fun m s=>Z.cn s (fun c s=>Z.av s (fun o s=>Z.ag s (fun p s=>Z.aj s (fun q s=>Z.cn s (fun d s=>Z.aY s (fun r s=>Z.ah s (fun b s=>Z.ae b false (fun k=>k d s) s (fun t s=>Z.ae b false (fun k=>Z.aY s k false t) s (fun u s=>Z.ae b false (fun k=>Z.ah s k (al .eql u (.int .i64 0))) s (fun w s=>Z.a2 s (fun x s=>Z.ay x (Z.ar s (fun y s=>Z.ar s (fun g s=>Z.bh s (fun z s=>Z.bh s (fun A s=>Z.a6 s (fun B s=>Z.aB false [eF s a (some 2),some A] s) 2 a (ai.ak s.aa z)) 1 g) 0 g) 155 [(ai.ak s.aa (.bool false)),(ai.ak s.aa y)]) 156 [(ai.ak s.aa c),(ai.ak s.aa d)]) (zg Z a c d s)) b (.bool true) w)))) (al .eql r (.int .i64 0))) false c) 1 4 (some (.l 0)) o q) none p) 1 f) 1 []) 1 4 (some (.l 0)) i m) none j) 1 e) 1 []:=h.1.cI
theorem JV:zh Z b c a s=Z.ar s (fun d s=>Z.bh s (fun f s=>Z.bh s (fun e s=>s0 Z b a e s) 1 d) 0 d) 170 [(ai.ak s.aa c),(ai.ak s.aa a)]:=h.1.cI
theorem JW:HX Z b c a s=Z.ah s (fun d s=>sZ Z b a d s) (al .rem c a):=h.1.cI
theorem JX:HY Z a b s=Z.bm s (fun d s=>Z.ah s (fun e s=>Z.bm s (fun f s=>Z.av s (fun g s=>Z.ar s (fun c s=>Z.bh s (fun i s=>Z.bh s (fun j s=>Z.a6 s (fun r s=>Z.aB false [eF s a (some 2),some j] s) 2 a (ai.ak s.aa i)) 1 c) 0 c) 171 [(ai.ak s.aa (.bool false)),(ai.ak s.aa g)]) 1 [d,f]) .u32 e) (al .shr b (.int .u64 32))) .u32 b:=h.1.cI
theorem JY:sZ Z a b c s=Z.ah s (fun d s=>Z.ay d (HX Z a b c s) (HY Z a b s)) (al .gtr c (.int .u64 0)):=h.1.kr
theorem JZ:HZ Z a b c s=Z.ar s (fun d s=>Z.ar s (fun e s=>sZ Z a d e s) 172 [(ai.ak s.aa c)]) 172 [(ai.ak s.aa b)]:=h.1.cI
theorem wi:zi Z a b c s=Z.aY s (fun e s=>Z.ah s (fun f s=>Z.ay f (Z.ar s (fun d s=>Z.bh s (fun g s=>Z.bh s (fun i s=>Z.a6 s (fun r s=>Z.aB false [eF s a (some 2),some i] s) 2 a (ai.ak s.aa g)) 1 d) 0 d) 171 [(ai.ak s.aa (.bool false)),(ai.ak s.aa b)]) (HZ Z a b c s)) (al .gtr e (.int .i64 2))) false b:=h.1.cI
theorem nP:s0 Z e c b s=Z.aY s (fun f s=>Z.ah s (fun a s=>Z.ae a true (fun k=>k c s) s (fun g s=>Z.ae a true (fun k=>Z.aY s k false g) s (fun i s=>Z.ae a true (fun k=>Z.ah s k (al .gtr i (.int .i64 2))) s (fun j s=>Z.ae a true (fun k=>k j s) s (fun d s=>Z.ae d false (fun k=>k b s) s (fun m s=>Z.ae d false (fun k=>Z.aY s k false m) s (fun o s=>Z.ae d false (fun k=>Z.ah s k (al .gtr o (.int .i64 2))) s (fun p s=>Z.ae a true (fun k=>Z.a2 s k d (.bool true) p) s (fun q s=>Z.a2 s (fun r s=>Z.ay r (zh Z e c b s) (zi Z e c b s)) a q (.bool false)))))))))) (al .gtr f (.int .i64 0))) false b:=h.1.kr
theorem J0:H0 Z a b c s=Z.ag s (fun d s=>Z.aj s (fun e s=>Z.ag s (fun f s=>Z.aj s (fun g s=>s0 Z c e g s) none f) 1 b) none d) 1 a:=h.1.cI
theorem J1:H2 Z a b c s=Z.ae a true (fun k=>k b s) s (fun d s=>Z.ae a true (fun k=>Z.aY s k false d) s (fun e s=>Z.ae a true (fun k=>Z.ah s k (al .gtr e (.int .i64 0))) s (fun f s=>Z.a2 s (fun g s=>Z.av s (fun i s=>Z.cn s (fun j s=>Z.cH [.bool false,.aW 1 [] .nil] [(0,1,g),(1,1,j)] s (fun m s=>Z.a6 s (fun r s=>Z.aB false [eF s c (some 2),some (.int .i64 0)] s) 2 c (ai.ak s.aa m))) 1 4 (some (.l 0)) i b) 1 []) a f (.bool false)))):=h.1.cI
theorem J2:H3 Z a b c d e s=Z.ah s (fun f s=>s6 Z a b c d f s) (al .add e (.int .i64 1)):=h.1.cI
theorem J3:s4 Z d e a b c s=Z.bm s (fun f s=>Z.aZ s (fun g s=>Z.a6 s (fun r s=>Z.ah s (fun i s=>H3 Z d e a i b s) (al .quo c (.int .u64 4294967296))) 1 g (ai.ak s.aa f)) 1 a b) .u32 c:=h.1.cI
theorem J4:s5 Z c a d b e s=Z.aY s (fun f s=>Z.ah s (fun g s=>Z.ay g (Z.aZ s (fun i s=>Z.aj s (fun j s=>Z.bm s (fun m s=>Z.ah s (fun o s=>s4 Z c a d b o s) (al .add e m)) .u64 j) none i) 1 a b) (s4 Z c a d b e s)) (al .lss b f)) false a:=h.1.cI
theorem J5:H4 Z a c d e b s=Z.aY s (fun f s=>Z.ah s (fun g s=>Z.ay g (Z.aZ s (fun i s=>Z.aj s (fun j s=>Z.bm s (fun m s=>Z.ah s (fun o s=>s5 Z a c d b o s) (al .add e m)) .u64 j) none i) 1 a b) (s5 Z a c d b e s)) (al .lss b f)) false a:=h.1.cI
theorem J6:H5 Z a s=Z.ar s (fun b s=>Z.aB false [some b] s) 178 [(ai.ak s.aa a)]:=h.1.cI
theorem wj:s6 Z c d a e b s=Z.aY s (fun f s=>Z.ah s (fun g s=>Z.ay g (H4 Z c d a e b s) (H5 Z a s)) (al .lss b f)) false a:=h.1.kr
theorem J7:H6 Z b a s=Z.ah s (fun c s=>Z.aZ s (fun d s=>Z.aj s (fun e s=>Z.ah s (fun f s=>Z.ah s (fun g s=>Z.ah s (fun i s=>Z.aB false [some i] s) (al .and g (.int .u32 1))) (al .shr e f)) (al .rem a (.int .i64 32))) none d) 1 b c) (al .quo a (.int .i64 32)):=h.1.cI
theorem J8:H7 Z a b s=Z.ah s (fun c s=>s8 Z a c s) (al .add b (.int .i64 1)):=h.1.cI
theorem J9:H8 Z a b s=Z.ar s (fun c s=>Z.bh s (fun d s=>Z.bh s (fun e s=>Z.aB false [some d] s) 1 c) 0 c) 179 [(ai.ak s.aa a),(ai.ak s.aa b)]:=h.1.cI
theorem wk:s8 Z a b s=Z.ar s (fun c s=>Z.ah s (fun d s=>Z.ay d (H7 Z a b s) (H8 Z a b s)) (al .eql c (.int .u32 0))) 157 [(ai.ak s.aa a),(ai.ak s.aa b)]:=h.1.kr
theorem Ka:H9 Z s=Z.aB false [some (.int .i64 1)] s:=h.1.cI
theorem Kb:Ia Z a b c s=Z.ah s (fun d s=>s9 Z a b d s) (al .sub c (.int .i64 1)):=h.1.cI
theorem Kc:Ib Z b c a s=Z.aZ s (fun d s=>Z.aj s (fun e s=>Z.aZ s (fun f s=>Z.aj s (fun g s=>Z.ah s (fun i s=>Z.ay i (Z.aB false [some (.int .i64 1)] s) (Ia Z b c a s)) (al .gtr e g)) none f) 1 c a) none d) 1 b a:=h.1.cI
theorem Kd:Ic Z b c a s=Z.aZ s (fun d s=>Z.aj s (fun e s=>Z.aZ s (fun f s=>Z.aj s (fun g s=>Z.ah s (fun i s=>Z.ay i (Z.aB false [some (.int .i64 (-1))] s) (Ib Z b c a s)) (al .lss e g)) none f) 1 c a) none d) 1 b a:=h.1.cI
theorem Ke:Ie Z s=Z.aB false [some (.int .i64 0)] s:=h.1.cI
theorem wl:s9 Z b c a s=Z.ah s (fun d s=>Z.ay d (Ic Z b c a s) (Ie Z s)) (al .geq a (.int .i64 0)):=h.1.kr
theorem Kf:If Z a b s=Z.aY s (fun c s=>Z.ah s (fun d s=>s9 Z a b d s) (al .sub c (.int .i64 1))) false a:=h.1.cI
theorem wm:zj Z a b c d e s=Z.ah s (fun f s=>td Z a b c d f s) (al .add e (.int .i64 1)):=h.1.cI
theorem Kg:tc Z b e c a d s=Z.aZ s (fun f s=>Z.aj s (fun g s=>Z.bm s (fun i s=>Z.ah s (fun j s=>Z.ay j (Z.aZ s (fun m s=>Z.aj s (fun o s=>Z.bm s (fun p s=>Z.ah s (fun q s=>Z.ah s (fun r s=>Z.bm s (fun t s=>Z.aZ s (fun u s=>Z.a6 s (fun H s=>zj Z b e c (.int .u64 1) a s) 1 u (ai.ak s.aa t)) 1 c a) .u32 r) (al .sub q d)) (al .add p (.int .u64 4294967296))) .u64 o) none m) 1 b a) (Z.aZ s (fun w s=>Z.aj s (fun x s=>Z.bm s (fun y s=>Z.ah s (fun z s=>Z.bm s (fun A s=>Z.aZ s (fun B s=>Z.a6 s (fun H s=>zj Z b e c (.int .u64 0) a s) 1 B (ai.ak s.aa A)) 1 c a) .u32 z) (al .sub y d)) .u64 x) none w) 1 b a)) (al .lss i d)) .u64 g) none f) 1 b a:=h.1.cI
theorem Kh:Ig Z c a d e b s=Z.aY s (fun f s=>Z.ah s (fun g s=>Z.ay g (Z.aZ s (fun i s=>Z.aj s (fun j s=>Z.bm s (fun m s=>Z.ah s (fun o s=>tc Z c a d b o s) (al .add e m)) .u64 j) none i) 1 a b) (tc Z c a d b e s)) (al .lss b f)) false a:=h.1.cI
theorem Ki:Ih Z a s=Z.ar s (fun b s=>Z.aB false [some b] s) 178 [(ai.ak s.aa a)]:=h.1.cI
theorem wo:td Z a d b e c s=Z.aY s (fun f s=>Z.ah s (fun g s=>Z.ay g (Ig Z a d b e c s) (Ih Z b s)) (al .lss c f)) false a:=h.1.kr
theorem Kj:Ii Z a b c d s=Z.ah s (fun e s=>tf Z a b c e s) (al .add d (.int .i64 1)):=h.1.cI
theorem Kk:Ij Z d a c b s=Z.aZ s (fun f s=>Z.aj s (fun g s=>Z.bm s (fun i s=>Z.ah s (fun j s=>Z.ah s (fun e s=>Z.ah s (fun m s=>Z.ah s (fun o s=>Z.ah s (fun p s=>Z.ah s (fun q s=>Z.aZ s (fun r s=>Z.aj s (fun t s=>Z.bm s (fun u s=>Z.ah s (fun w s=>Z.aZ s (fun x s=>Z.a6 s (fun H s=>Z.ah s (fun y s=>Z.ah s (fun z s=>Z.ah s (fun A s=>Z.ah s (fun B s=>Z.bm s (fun C s=>Z.aZ s (fun D s=>Z.a6 s (fun H s=>Ii Z d a c b s) 1 D (ai.ak s.aa C)) 1 c A) .u32 B) (al .quo e (.int .u64 4294967296))) (al .add z (.int .i64 1))) (al .add b y)) (al .quo a (.int .i64 32))) 1 x (ai.ak s.aa w)) 1 c o) (al .or t u)) .u32 e) none r) 1 c q) (al .add b p)) (al .quo a (.int .i64 32))) (al .add b m)) (al .quo a (.int .i64 32))) (al .shl i j)) (al .rem a (.int .i64 32))) .u64 g) none f) 1 d b:=h.1.cI
theorem Kl:Ik Z a s=Z.ar s (fun b s=>Z.aB false [some b] s) 178 [(ai.ak s.aa a)]:=h.1.cI
theorem wq:tf Z a d b c s=Z.aY s (fun e s=>Z.ah s (fun f s=>Z.ay f (Ij Z a d b c s) (Ik Z b s)) (al .lss c e)) false a:=h.1.kr
theorem Km:Il Z a b c d e f s=Z.ah s (fun g s=>th Z a b c d e g s) (al .add f (.int .i64 1)):=h.1.cI
theorem Kn:Im Z f a b c g d s=Z.aY s (fun i s=>Z.ah s (fun j s=>Z.ah s (fun e s=>Z.ar s (fun m s=>Z.ar s (fun o s=>Z.aZ s (fun p s=>Z.a6 s (fun r s=>Il Z f a b c g d s) 1 p (ai.ak s.aa o)) 1 c e) 194 [(ai.ak s.aa b),(ai.ak s.aa e),(ai.ak s.aa a),(ai.ak s.aa m)]) 195 [(ai.ak s.aa b),(ai.ak s.aa e),(ai.ak s.aa a)]) (al .sub j d)) (al .sub i (.int .i64 1))) false c:=h.1.cI
theorem Ko:Io Z a b c s=Z.ar s (fun e s=>Z.ar s (fun d s=>Z.bh s (fun f s=>Z.bh s (fun i s=>Z.ar s (fun g s=>Z.aB false [some g,some f] s) 191 [(ai.ak s.aa c)]) 1 d) 0 d) 196 [(ai.ak s.aa e),(ai.ak s.aa a)]) 191 [(ai.ak s.aa b)]:=h.1.cI
theorem wt:th Z a f b c d e s=Z.ah s (fun g s=>Z.ay g (Im Z a f b c d e s) (Io Z a b c s)) (al .lss e d):=h.1.kr
theorem Kp:Ip Z b a s=Z.aY s (fun i s=>Z.ah s (fun j s=>Z.aZ s (fun m s=>Z.aj s (fun o s=>Z.ar s (fun c s=>Z.ar s (fun p s=>Z.aY s (fun q s=>Z.ah s (fun d s=>Z.jf s (fun e s=>Z.ar s (fun r s=>Z.sB s (fun y s=>Z.aY s (fun t s=>Z.aY s (fun u s=>Z.ah s (fun w s=>Z.ah s (fun f s=>Z.jf s (fun g s=>Z.aY s (fun x s=>th Z c p e g x (.int .i64 0) s) false g) [.int .u32 0] 4 f f) (al .add w (.int .i64 1))) (al .sub t u)) false a) false b) 1 e r) 193 [(ai.ak s.aa b),(ai.ak s.aa c)]) [.int .u32 0] 4 d d) (al .add q (.int .i64 1))) false b) 193 [(ai.ak s.aa a),(ai.ak s.aa c)]) 192 [(ai.ak s.aa o)]) none m) 1 a j) (al .sub i (.int .i64 1))) false a:=h.1.cI
theorem Kq:Iq Z b a s=Z.aY s (fun d s=>Z.ah s (fun e s=>Z.ay e (Z.aZ s (fun f s=>Z.aj s (fun g s=>Z.ar s (fun c s=>Z.bh s (fun i s=>Z.bh s (fun j s=>Z.av s (fun m s=>Z.ar s (fun o s=>Z.aB false [some i,some o] s) 191 [(ai.ak s.aa m)]) 1 [j]) 1 c) 0 c) 190 [(ai.ak s.aa b),(ai.ak s.aa g)]) none f) 1 a (.int .i64 0)) (Ip Z b a s)) (al .eql d (.int .i64 1))) false a:=h.1.cI
theorem Kr:Ir Z a b c s=Z.aY s (fun d s=>Z.jf s (fun e s=>Z.sB s (fun o s=>Z.ae a true (fun k=>k b s) s (fun f s=>Z.ae a true (fun k=>Z.aY s k false f) s (fun g s=>Z.ae a true (fun k=>Z.ah s k (al .gtr g (.int .i64 0))) s (fun i s=>Z.a2 s (fun j s=>Z.cH [.bool false,.aW 1 [] .nil] [(0,1,j),(1,1,e)] s (fun m s=>Z.a6 s (fun r s=>Z.aB false [eF s c (some 2),some (.int .i64 0)] s) 2 c (ai.ak s.aa m))) a i (.bool false))))) 1 e b) [.int .u32 0] 4 d d) false b:=h.1.cI
theorem Ks:Is Z a b c d s=Z.ah s (fun e s=>oE Z a b c e s) (al .add d (.int .i64 1)):=h.1.cI
theorem Kt:It Z b c d a s=Z.aZ s (fun e s=>Z.aj s (fun f s=>Z.bm s (fun g s=>Z.ah s (fun i s=>Z.ah s (fun j s=>Z.ah s (fun m s=>Is Z b m d a s) (al .or c j)) (al .shl g i)) (al .mul (.int .i64 32) a)) .u64 f) none e) 1 b a:=h.1.cI
theorem Ku:Iu Z a s=Z.aB false [some a] s:=h.1.cI
theorem wu:oE Z d a b c s=Z.ah s (fun e s=>Z.ay e (It Z d a b c s) (Iu Z a s)) (al .lss c b):=h.1.kr
theorem Kv:Iv Z a s=Z.aY s (fun b s=>Z.ah s (fun c s=>Z.jy 1 a none (some c) none s (fun d s=>tk Z d s)) (al .sub b (.int .i64 1))) false a:=h.1.cI
theorem wv:Iw Z a s=Z.aB false [some a] s:=h.1.cI
theorem ww:tk Z b s=Z.aY s (fun c s=>Z.ah s (fun a s=>Z.ae a true (fun k=>k b s) s (fun d s=>Z.ae a true (fun k=>k b s) s (fun e s=>Z.ae a true (fun k=>Z.aY s k false e) s (fun f s=>Z.ae a true (fun k=>Z.ah s k (al .sub f (.int .i64 1))) s (fun g s=>Z.ae a true (fun k=>Z.aZ s k 1 d g) s (fun i s=>Z.ae a true (fun k=>Z.aj s k none i) s (fun j s=>Z.ae a true (fun k=>Z.ah s k (al .eql j (.int .u32 0))) s (fun m s=>Z.a2 s (fun o s=>Z.ay o (Iv Z b s) (Iw Z b s)) a m (.bool false))))))))) (al .gtr c (.int .i64 0))) false b:=h.1.kr
theorem wx:Iy Z a b c d s=Z.ah s (fun e s=>to Z a b c e s) (al .add d (.int .i64 1)):=h.1.cI
theorem wy:Iz Z b d a c s=Z.ae a false (fun k=>k b s) s (fun e s=>Z.ae a false (fun k=>k c s) s (fun f s=>Z.ae a false (fun k=>Z.aZ s k 1 e f) s (fun g s=>Z.ae a false (fun k=>Z.aj s k none g) s (fun i s=>Z.ae a false (fun k=>Z.ah s k (al .neq i (.int .u32 0))) s (fun j s=>Z.a2 s (fun m s=>Iy Z b d m c s) a (.bool true) j))))):=h.1.cI
theorem Kw:IA Z a b c d e s=Z.ah s (fun f s=>tn Z a b c d f s) (al .add e (.int .i64 1)):=h.1.cI
theorem Kx:tm Z d a e b c f s=Z.ah s (fun g s=>Z.ah s (fun i s=>Z.bm s (fun j s=>Z.aZ s (fun m s=>Z.a6 s (fun r s=>IA Z d a e b c s) 1 m (ai.ak s.aa j)) 1 b c) .u32 i) (al .shr f g)) (al .rem a (.int .i64 32)):=h.1.cI
theorem Ky:IB Z a b d e c s=Z.ah s (fun g s=>Z.ah s (fun i s=>Z.aZ s (fun j s=>Z.aj s (fun m s=>Z.bm s (fun f s=>Z.ah s (fun o s=>Z.ah s (fun p s=>Z.ah s (fun q s=>Z.aY s (fun r s=>Z.ah s (fun t s=>Z.ay t (Z.ah s (fun u s=>Z.ah s (fun w s=>Z.ah s (fun x s=>Z.aZ s (fun y s=>Z.aj s (fun z s=>Z.bm s (fun A s=>Z.ah s (fun B s=>Z.ah s (fun C s=>tm Z a b d e c C s) (al .add f B)) (al .mul A (.int .u64 4294967296))) .u64 z) none y) 1 a x) (al .add w (.int .i64 1))) (al .add c u)) (al .quo b (.int .i64 32))) (tm Z a b d e c f s)) (al .lss q r)) false a) (al .add p (.int .i64 1))) (al .add c o)) (al .quo b (.int .i64 32))) .u64 m) none j) 1 a i) (al .add c g)) (al .quo b (.int .i64 32)):=h.1.cI
theorem ue:CG Z c b a d s=Z.ah s (fun e s=>Z.ah s (fun f s=>Z.ah s (fun g s=>Z.ar s (fun i s=>Z.ae a false (fun k=>k c s) s (fun j s=>Z.ae a false (fun k=>k b s) s (fun m s=>Z.ae a false (fun k=>Z.ah s k (al .quo m (.int .i64 32))) s (fun o s=>Z.ae a false (fun k=>Z.aZ s k 1 j o) s (fun p s=>Z.ae a false (fun k=>Z.aj s k none p) s (fun q s=>Z.ae a false (fun k=>Z.bm s k .u64 q) s (fun r s=>Z.ae a false (fun k=>k g s) s (fun t s=>Z.ae a false (fun k=>Z.ah s k (al .and r t)) s (fun u s=>Z.ae a false (fun k=>Z.ah s k (al .neq u (.int .u64 0))) s (fun w s=>Z.a2 s (fun x s=>Z.aB false [some i,some x] s) a (.bool true) w)))))))))) 178 [(ai.ak s.aa d)]) (al .sub f (.int .u64 1))) (al .shl (.int .u64 1) e)) (al .rem b (.int .i64 32)):=h.1.cI
theorem qf:tn Z b c d a e s=Z.aY s (fun f s=>Z.ah s (fun g s=>Z.ay g (IB Z b c d a e s) (CG Z b c d a s)) (al .lss e f)) false a:=h.1.kr
theorem Kz:zl Z a b c s=Z.aY s (fun e s=>Z.ah s (fun f s=>Z.ah s (fun d s=>Z.jf s (fun g s=>tn Z a b c g (.int .i64 0) s) [.int .u32 0] 4 d d) (al .sub e f)) (al .quo b (.int .i64 32))) false a:=h.1.cI
theorem qg:to Z b a c d s=Z.ah s (fun e s=>Z.ah s (fun f s=>Z.ay f (Iz Z b a c d s) (zl Z b a c s)) (al .lss d e)) (al .quo a (.int .i64 32)):=h.1.kr
theorem KA:IC Z a b s=to Z a b (.bool false) (.int .i64 0) s:=h.1.cI
theorem NV:Xv Z a s=Z.ag s (fun d s=>Z.aj s (fun e s=>Z.ag s (fun f s=>Z.aj s (fun g s=>Z.ar s (fun b s=>Z.bh s (fun i s=>Z.bh s (fun o s=>Z.eX (.ref (.l s.own.length) 0) (s.new (.cells [.bool false,.aW 1 [] .nil])) (fun c s=>Z.a6 s (fun r s=>Z.aj s (fun j s=>Z.ar s (fun m s=>Z.aB false [some m] s) 136 [(ai.ak s.aa j)]) (some 2) c) 2 c (ai.ak s.aa i))) 1 b) 0 b) 135 [(ai.ak s.aa e),(ai.ak s.aa g)]) (some 2) f) 2 a) (some 2) d) 0 a:=h.1.cI
theorem KB:ID Z a s=Z.ag s (fun d s=>Z.aj s (fun e s=>Z.ag s (fun f s=>Z.aj s (fun g s=>Z.ar s (fun b s=>Z.bh s (fun i s=>Z.bh s (fun o s=>Z.eX (.ref (.l s.own.length) 0) (s.new (.cells [.bool false,.aW 1 [] .nil])) (fun c s=>Z.a6 s (fun r s=>Z.aj s (fun j s=>Z.ar s (fun m s=>Z.aB false [some m] s) 149 [(ai.ak s.aa j)]) (some 2) c) 2 c (ai.ak s.aa i))) 1 b) 0 b) 150 [(ai.ak s.aa e),(ai.ak s.aa g)]) (some 2) f) 2 a) (some 2) d) 0 a:=h.1.cI
theorem KC:IE Z a s=Z.ag s (fun b s=>Z.aj s (fun c s=>Z.ar s (fun d s=>Z.ay d (Z.aB false [some (.bool true)] s) (ID Z a s)) 149 [(ai.ak s.aa c)]) (some 2) b) 2 a:=h.1.cI
theorem NW:Xx Z a b s=Z.ah s (fun c s=>xn Z a c s) (al .add b (.int .i64 1)):=h.1.cI
theorem NX:Xy Z a b s=Z.ar s (fun c s=>Z.ah s (fun d s=>Z.ay d (Z.aB false [some (.int .i64 120)] s) (Xx Z a b s)) (iN .not c)) 48 [(ai.ak s.aa a),(ai.ak s.aa b)]:=h.1.cI
theorem NY:Xz Z s=Z.aB false [some (.int .i64 0)] s:=h.1.cI
theorem NZ:EB Z c s=Z.aY s (fun d s=>Z.ah s (fun a s=>Z.ae a false (fun k=>k c s) s (fun e s=>Z.ae a false (fun k=>Z.ar s k 49 [(ai.ak s.aa e)]) s (fun f s=>Z.ae a false (fun k=>Z.aY s k false f) s (fun g s=>Z.ae a false (fun k=>Z.ah s k (al .gtr g (.int .i64 20))) s (fun i s=>Z.a2 s (fun b s=>Z.ae b false (fun k=>k c s) s (fun j s=>Z.ae b false (fun k=>Z.ar s k 50 [(ai.ak s.aa j)]) s (fun m s=>Z.ae b false (fun k=>Z.aY s k false m) s (fun o s=>Z.ae b false (fun k=>Z.ah s k (al .gtr o (.int .i64 5))) s (fun p s=>Z.a2 s (fun q s=>Z.ay q (Z.aB false [some (.int .i64 111)] s) (Xz Z s)) b (.bool true) p))))) a (.bool true) i))))) (al .gtr d (.int .i64 40))) false c:=h.1.cI
theorem z6:xn Z a b s=Z.aY s (fun c s=>Z.ah s (fun d s=>Z.ay d (Xy Z a b s) (EB Z a s)) (al .lss b c)) false a:=h.1.kr
theorem z7:EC Z a b c d e s=Z.ah s (fun f s=>xo Z a b c d f s) (al .add e (.int .i64 1)):=h.1.cI
theorem N0:XA Z a b f c d e s=Z.aj s (fun g s=>Z.ar s (fun i s=>Z.ay i (Z.ah s (fun j s=>EC Z a j c d e s) (al .add b (.int .i64 1))) (EC Z a b c d e s)) 71 [(ai.ak s.aa g)]) (some 12) f:=h.1.cI
theorem N1:XB Z b d c e a s=Z.aZ s (fun g s=>Z.aj s (fun i s=>Z.eX (.ref (.l s.own.length) 0) (s.new (.cells [.str [],.int .i64 0,.aW 1 [] .nil,.bool false,.aW 1 [] .nil,.bool false,.aW 1 [] .nil,.bool false,.aW 1 [] .nil,.bool false,.aW 1 [] .nil,.int .i64 0])) (fun f s=>Z.a6 s (fun r s=>Z.ah s (fun j s=>Z.jy 12 b none (some j) none s (fun m s=>Z.ar s (fun o s=>Z.ah s (fun p s=>Z.ay p (Z.aB false [some (.int .i64 120)] s) (XA Z b d f c e a s)) (iN .not o)) 70 [(ai.ak s.aa m)])) (al .add a (.int .i64 1))) 12 f (ai.ak s.aa i))) (some 12) g) 12 c a:=h.1.cI
theorem N2:XC Z s=Z.aB false [some (.int .i64 0)] s:=h.1.cI
theorem N3:ED Z b d s=Z.aY s (fun e s=>Z.ah s (fun c s=>Z.ae c false (fun k=>k d s) s (fun f s=>Z.ae c false (fun k=>Z.ah s k (al .gtr f (.int .i64 5))) s (fun g s=>Z.a2 s (fun a s=>Z.ae a false (fun k=>k b s) s (fun i s=>Z.ae a false (fun k=>Z.ar s k 72 [(ai.ak s.aa i)]) s (fun j s=>Z.ae a false (fun k=>Z.aY s k false j) s (fun m s=>Z.ae a false (fun k=>Z.ah s k (al .gtr m (.int .i64 20))) s (fun o s=>Z.a2 s (fun p s=>Z.ay p (Z.aB false [some (.int .i64 111)] s) (XC Z s)) a (.bool true) o))))) c (.bool true) g))) (al .gtr e (.int .i64 40))) false b:=h.1.cI
theorem z8:xo Z a b e c d s=Z.ah s (fun f s=>Z.ay f (XB Z a b e c d s) (ED Z a b s)) (al .lss d c):=h.1.kr
theorem N4:XD Z a b s=Z.aZ s (fun c s=>Z.aj s (fun d s=>Z.ar s (fun e s=>Z.aB false [some e,some (.int .i64 0)] s) 74 [(ai.ak s.aa d)]) (some 12) c) 12 a b:=h.1.cI
theorem N5:XH Z a b c d e f s=Z.ah s (fun g s=>xq Z a b c d e g s) (al .add f (.int .i64 1)):=h.1.cI
theorem N6:XI Z d e f g j b s=Z.ag s (fun m s=>Z.aj s (fun o s=>Z.aZ s (fun p s=>Z.aj s (fun i s=>Z.ah s (fun c s=>Z.ae c false (fun k=>k i s) s (fun q s=>Z.ae c false (fun k=>k e s) s (fun r s=>Z.ae c false (fun k=>Z.ah s k (al .geq q r)) s (fun t s=>Z.a2 s (fun a s=>Z.ae a false (fun k=>k d s) s (fun u s=>Z.ae a false (fun k=>k i s) s (fun w s=>Z.ae a false (fun k=>Z.aZ s k 12 u w) s (fun x s=>Z.ae a false (fun k=>Z.ag s k 1 x) s (fun y s=>Z.ae a false (fun k=>Z.aj s k none y) s (fun z s=>Z.ae a false (fun k=>Z.iR s k 85 [(ai.ak s.aa z)]) s (fun A s=>Z.ae a false (fun k=>k g s) s (fun B s=>Z.ae a false (fun k=>k b s) s (fun C s=>Z.ae a false (fun k=>Z.aZ s k 1 B C) s (fun D s=>Z.ae a false (fun k=>Z.aj s k none D) s (fun E s=>Z.ae a false (fun k=>Z.ar s k 84 [(ai.ak s.aa A),(ai.ak s.aa E)]) s (fun F s=>Z.ae a false (fun k=>Z.ah s k (iN .not F)) s (fun H s=>Z.a2 s (fun I s=>Z.ay I (Z.aB false [some (.bool false)] s) (XH Z d e f g j b s)) a (.bool true) H))))))))))))) c (.bool true) t)))) (al .lss i (.int .i64 0))) none p) 1 o b) none m) 2 f:=h.1.cI
theorem N7:XJ Z a b c d e s=Z.ah s (fun f s=>xp Z a b c d f s) (al .add e (.int .i64 1)):=h.1.cI
theorem N8:XK Z a d b e c s=Z.aZ s (fun f s=>Z.ag s (fun g s=>Z.aj s (fun i s=>Z.ag s (fun j s=>Z.aj s (fun m s=>Z.ah s (fun o s=>Z.ay o (Z.aB false [some (.bool false)] s) (XJ Z a d b e c s)) (al .eql i m)) none j) 0 b) none g) 0 f) 12 a c:=h.1.cI
theorem KD:IF Z b s=Z.ag s (fun c s=>Z.aj s (fun d s=>Z.ar s (fun a s=>Z.ae a true (fun k=>Z.ag s k 7 b) s (fun e s=>Z.ae a true (fun k=>Z.aj s k (some 4) e) s (fun f s=>Z.ae a true (fun k=>Z.ar s k 87 [(ai.ak s.aa f)]) s (fun g s=>Z.a2 s (fun i s=>Z.aB false [some i] s) a g (.bool false))))) 87 [(ai.ak s.aa d)]) (some 4) c) 3 b:=h.1.cI
theorem KE:zp Z a s=Z.ag s (fun e s=>Z.aj s (fun d s=>Z.ah s (fun f s=>Z.ay f (Z.ag s (fun g s=>Z.aj s (fun i s=>Z.ar s (fun b s=>Z.ae b true (fun k=>Z.ag s k 7 a) s (fun j s=>Z.ae b true (fun k=>Z.aj s k (some 4) j) s (fun m s=>Z.ae b true (fun k=>Z.ar s k 86 [(ai.ak s.aa m)]) s (fun o s=>Z.a2 s (fun p s=>Z.aB false [some p] s) b o (.bool false))))) 86 [(ai.ak s.aa i)]) (some 4) g) 3 a) (Z.ah s (fun q s=>Z.ay q (Z.ag s (fun r s=>Z.aj s (fun t s=>Z.ar s (fun c s=>Z.ae c true (fun k=>Z.ag s k 7 a) s (fun u s=>Z.ae c true (fun k=>Z.aj s k (some 4) u) s (fun w s=>Z.ae c true (fun k=>Z.ar s k 87 [(ai.ak s.aa w)]) s (fun x s=>Z.a2 s (fun y s=>Z.aB false [some y] s) c x (.bool false))))) 86 [(ai.ak s.aa t)]) (some 4) r) 3 a) (IF Z a s)) (al .eql d (.int .i64 2)))) (al .eql d (.int .i64 1))) none e) 1 a:=h.1.cI
theorem N9:EE Z b a s=Z.ae a true (fun k=>Z.ag s k 11 b) s (fun f s=>Z.ae a true (fun k=>Z.aj s k none f) s (fun g s=>Z.ae a true (fun k=>Z.ah s k (al .neq g (.int .i64 1))) s (fun i s=>Z.a2 s (fun d s=>Z.ae d true (fun k=>Z.ag s k 11 b) s (fun j s=>Z.ae d true (fun k=>Z.aj s k none j) s (fun m s=>Z.ae d true (fun k=>Z.ah s k (al .neq m (.int .i64 2))) s (fun o s=>Z.a2 s (fun c s=>Z.ae c false (fun k=>k a s) s (fun p s=>Z.ae c false (fun k=>Z.ah s k (iN .not p)) s (fun q s=>Z.ae c false (fun k=>k q s) s (fun e s=>Z.ae e true (fun k=>Z.ag s k 11 b) s (fun r s=>Z.ae e true (fun k=>Z.aj s k none r) s (fun t s=>Z.ae e true (fun k=>Z.ah s k (al .neq t (.int .i64 0))) s (fun u s=>Z.ae c false (fun k=>Z.a2 s k e u (.bool false)) s (fun w s=>Z.a2 s (fun x s=>Z.ay x (Z.aB false [some (.bool false)] s) (zp Z b s)) c (.bool true) w)))))))) d o (.bool false))))) a i (.bool false)))):=h.1.cI
theorem z9:xp Z e a b c d s=Z.ah s (fun f s=>Z.ay f (XK Z e a b c d s) (EE Z b c s)) (al .lss d a):=h.1.kr
theorem Oa:XL Z a b c d s=xp Z a b c d (.int .i64 0) s:=h.1.cI
theorem Aa:xq Z a b c d e f s=Z.aY s (fun g s=>Z.ah s (fun i s=>Z.ay i (XI Z a b c d e f s) (XL Z a b c e s)) (al .lss f g)) false d:=h.1.kr
theorem Ob:XM Z a b c d e s=xq Z a b c d e (.int .i64 0) s:=h.1.cI
theorem Ac:tq Z a b c s=Z.ah s (fun d s=>xr Z a b d s) (al .add c (.int .i64 1)):=h.1.cI
theorem Oc:XN Z b c a s=Z.aZ s (fun e s=>Z.ag s (fun f s=>Z.aj s (fun d s=>Z.ah s (fun g s=>Z.ay g (Z.cH [.int .i64 0,.int .i64 0] [(0,1,a),(1,1,(.int .i64 0))] s (fun i s=>Z.cH [.int .i64 0,.int .i64 0] [(0,1,a),(1,1,(.int .i64 1))] s (fun j s=>Z.av s (fun m s=>Z.cn s (fun o s=>tq Z b o a s) 2 16 (some (.l 0)) c m) 2 [i,j]))) (Z.ah s (fun p s=>Z.ay p (Z.cH [.int .i64 0,.int .i64 0] [(0,1,a),(1,1,(.int .i64 0))] s (fun q s=>Z.av s (fun r s=>Z.cn s (fun t s=>tq Z b t a s) 2 16 (some (.l 0)) c r) 2 [q])) (tq Z b c a s)) (al .eql d (.int .i64 2)))) (al .eql d (.int .i64 1))) none f) 1 e) 12 b a:=h.1.cI
theorem Od:XO Z a s=Z.aB false [some a] s:=h.1.cI
theorem Ad:xr Z a b c s=Z.aY s (fun d s=>Z.ah s (fun e s=>Z.ay e (XN Z a b c s) (XO Z b s)) (al .lss c d)) false a:=h.1.kr
theorem Ae:EF Z a b c s=Z.ah s (fun d s=>xt Z a b d s) (al .add c (.int .i64 1)):=h.1.cI
theorem Oe:XP Z b c a s=Z.aZ s (fun e s=>Z.ag s (fun f s=>Z.aj s (fun g s=>Z.ar s (fun d s=>Z.bh s (fun o s=>Z.bh s (fun p s=>Z.bh s (fun i s=>Z.ay i (Z.av s (fun j s=>Z.cn s (fun m s=>EF Z b m a s) 1 8 (some (.l 0)) c j) 1 [a]) (EF Z b c a s)) 2 d) 1 d) 0 d) 83 [(ai.ak s.aa g)]) none f) 1 e) 12 b a:=h.1.cI
theorem Of:XQ Z a s=Z.aB false [some a] s:=h.1.cI
theorem Af:xt Z a b c s=Z.aY s (fun d s=>Z.ah s (fun e s=>Z.ay e (XP Z a b c s) (XQ Z b s)) (al .lss c d)) false a:=h.1.kr
theorem Og:XR Z a b s=Z.aZ s (fun c s=>Z.ag s (fun d s=>Z.aj s (fun e s=>Z.ar s (fun f s=>Z.aB false [some f,some (.int .i64 0)] s) 85 [(ai.ak s.aa e)]) none d) 1 c) 12 a b:=h.1.cI
theorem Oh:XT Z a b c d e f g i s=Z.ah s (fun j s=>xu Z a b c d e f g j s) (al .add i (.int .i64 1)):=h.1.cI
theorem Oi:XU Z d e j f m g o b s=Z.aZ s (fun p s=>Z.aj s (fun i s=>Z.ah s (fun c s=>Z.ae c false (fun k=>k i s) s (fun q s=>Z.ae c false (fun k=>k e s) s (fun r s=>Z.ae c false (fun k=>Z.ah s k (al .geq q r)) s (fun t s=>Z.a2 s (fun a s=>Z.ae a false (fun k=>k f s) s (fun u s=>Z.ae a false (fun k=>k b s) s (fun w s=>Z.ae a false (fun k=>Z.aZ s k 1 u w) s (fun x s=>Z.ae a false (fun k=>Z.aj s k none x) s (fun y s=>Z.ae a false (fun k=>k d s) s (fun z s=>Z.ae a false (fun k=>k i s) s (fun A s=>Z.ae a false (fun k=>Z.aZ s k 12 z A) s (fun B s=>Z.ae a false (fun k=>Z.aj s k (some 12) B) s (fun C s=>Z.ae a false (fun k=>Z.iR s k 74 [(ai.ak s.aa C)]) s (fun D s=>Z.ae a false (fun k=>Z.ar s k 103 [(ai.ak s.aa y),(ai.ak s.aa D)]) s (fun E s=>Z.ae a false (fun k=>Z.ah s k (iN .not E)) s (fun F s=>Z.a2 s (fun H s=>Z.ay H (Z.aB false [some (.bool false)] s) (XT Z d e j f m g o b s)) a (.bool true) F)))))))))))) c (.bool true) t)))) (al .lss i (.int .i64 0))) none p) 1 g b:=h.1.cI
theorem Oj:EG Z a b c s=Z.jy 12 a none (some b) none s (fun d s=>Z.eX (.fn 119 [(ai.ak s.aa c)]) s (fun e s=>Z.ar s (fun f s=>Z.ah s (fun g s=>Z.aB false [some g] s) (iN .not f)) 118 [(ai.ak s.aa d),(ai.ak s.aa e)])):=h.1.cI
theorem Ok:EH Z m o a s=Z.ag s (fun q s=>Z.aj s (fun r s=>Z.ah s (fun i s=>Z.ae i false (fun k=>Z.ag s k 1 a) s (fun t s=>Z.ae i false (fun k=>Z.aj s k none t) s (fun u s=>Z.ae i false (fun k=>Z.ah s k (al .eql u (.int .i64 2))) s (fun w s=>Z.a2 s (fun b s=>Z.ag s (fun x s=>Z.aj s (fun y s=>Z.ah s (fun p s=>Z.ae b true (fun k=>Z.ag s k 3 a) s (fun z s=>Z.ae b true (fun k=>Z.aj s k (some 4) z) s (fun A s=>Z.ae b true (fun k=>Z.ar s k 116 [(ai.ak s.aa A)]) s (fun B s=>Z.ae b true (fun k=>Z.ah s k (iN .not B)) s (fun C s=>Z.a2 s (fun c s=>Z.ae c false (fun k=>k b s) s (fun D s=>Z.ae c false (fun k=>Z.ah s k (iN .not D)) s (fun E s=>Z.ae c false (fun k=>k E s) s (fun d s=>Z.ae d true (fun k=>Z.ag s k 3 a) s (fun F s=>Z.ae d true (fun k=>Z.aj s k (some 4) F) s (fun H s=>Z.ae d true (fun k=>Z.ar s k 117 [(ai.ak s.aa H)]) s (fun I s=>Z.ae d true (fun k=>Z.ah s k (iN .not I)) s (fun J s=>Z.ae c false (fun k=>Z.a2 s k d J (.bool false)) s (fun K s=>Z.a2 s (fun j s=>Z.ae j false (fun k=>k p s) s (fun L s=>Z.ae j false (fun k=>k L s) s (fun e s=>Z.ae e true (fun k=>Z.ag s k 7 a) s (fun M s=>Z.ae e true (fun k=>Z.aj s k (some 4) M) s (fun N s=>Z.ae e true (fun k=>Z.ar s k 116 [(ai.ak s.aa N)]) s (fun O s=>Z.ae e true (fun k=>Z.ah s k (iN .not O)) s (fun P s=>Z.ae j false (fun k=>Z.a2 s k e P (.bool false)) s (fun Q s=>Z.a2 s (fun f s=>Z.ae f false (fun k=>k p s) s (fun R s=>Z.ae f false (fun k=>Z.ah s k (iN .not R)) s (fun S s=>Z.ae f false (fun k=>k S s) s (fun g s=>Z.ae g true (fun k=>Z.ag s k 7 a) s (fun T s=>Z.ae g true (fun k=>Z.aj s k (some 4) T) s (fun U s=>Z.ae g true (fun k=>Z.ar s k 117 [(ai.ak s.aa U)]) s (fun V s=>Z.ae g true (fun k=>Z.ah s k (iN .not V)) s (fun W s=>Z.ae f false (fun k=>Z.a2 s k g W (.bool false)) s (fun Y s=>Z.a2 s (fun ab s=>Z.ay ab (Z.aB false [some (.bool false)] s) (EG Z m o a s)) f (.bool true) Y))))))))) j (.bool true) Q)))))))) c (.bool true) K))))))))) b C (.bool false)))))) (al .eql y (.int .i64 1))) none x) 1 a) i (.bool true) w)))) (al .eql r (.int .i64 1))) none q) 1 a:=h.1.cI
theorem Ol:EI Z f g a e s=Z.ag s (fun i s=>Z.aj s (fun j s=>Z.ah s (fun c s=>Z.ae c false (fun k=>Z.ag s k 11 a) s (fun m s=>Z.ae c false (fun k=>Z.aj s k none m) s (fun o s=>Z.ae c false (fun k=>Z.ah s k (al .eql o (.int .i64 2))) s (fun p s=>Z.a2 s (fun q s=>Z.ah s (fun b s=>Z.ae b false (fun k=>k e s) s (fun r s=>Z.ae b false (fun k=>Z.ah s k (iN .not r)) s (fun t s=>Z.ae b false (fun k=>k t s) s (fun d s=>Z.ae d true (fun k=>Z.ag s k 11 a) s (fun u s=>Z.ae d true (fun k=>Z.aj s k none u) s (fun w s=>Z.ae d true (fun k=>Z.ah s k (al .neq w (.int .i64 0))) s (fun x s=>Z.ae b false (fun k=>Z.a2 s k d x (.bool false)) s (fun y s=>Z.a2 s (fun z s=>Z.ay z (Z.aB false [some (.bool false)] s) (EH Z f g a s)) b (.bool true) y)))))))) ((pA .bool e q).map fun b=>.bool (bif true then !b else b))) c (.bool true) p)))) (al .eql j (.int .i64 1))) none i) 11 a:=h.1.cI
theorem Ag:xu Z a b c g d i e f s=Z.ah s (fun j s=>Z.ay j (XU Z a b c g d i e f s) (EI Z a b c d s)) (al .lss f e):=h.1.kr
theorem Om:XV Z b c a d e s=Z.ag s (fun g s=>Z.aj s (fun f s=>Z.aY s (fun i s=>xu Z b c a d e f i (.int .i64 0) s) false f) none g) 2 a:=h.1.cI
theorem Ah:tr Z a b c d s=Z.ah s (fun e s=>xv Z a b c e s) (al .add d (.int .i64 1)):=h.1.cI
theorem On:XW Z c b d a s=Z.aZ s (fun g s=>Z.aj s (fun i s=>Z.eX (.ref (.l s.own.length) 0) (s.new (.cells [.str [],.int .i64 0,.aW 1 [] .nil,.bool false,.aW 1 [] .nil,.bool false,.aW 1 [] .nil,.bool false,.aW 1 [] .nil,.bool false,.aW 1 [] .nil,.int .i64 0])) (fun e s=>Z.a6 s (fun y s=>Z.ag s (fun j s=>Z.aj s (fun f s=>Z.ah s (fun m s=>Z.ay m (Z.cH [.int .i64 0,.int .i64 0] [(0,1,a),(1,1,(.int .i64 0))] s (fun o s=>Z.cH [.int .i64 0,.int .i64 0] [(0,1,a),(1,1,(.int .i64 1))] s (fun p s=>Z.av s (fun q s=>Z.cn s (fun r s=>tr Z r b d a s) 2 16 (some (.l 0)) c q) 2 [o,p]))) (Z.ah s (fun t s=>Z.ay t (Z.cH [.int .i64 0,.int .i64 0] [(0,1,a),(1,1,(.int .i64 0))] s (fun u s=>Z.av s (fun w s=>Z.cn s (fun x s=>tr Z x b d a s) 2 16 (some (.l 0)) c w) 2 [u])) (tr Z c b d a s)) (al .eql f (.int .i64 2)))) (al .eql f (.int .i64 1))) none j) 1 e) 12 e (ai.ak s.aa i))) (some 12) g) 12 b a:=h.1.cI
theorem Oo:XX Z a s=Z.aB false [some a] s:=h.1.cI
theorem Ai:xv Z a d b c s=Z.ah s (fun e s=>Z.ay e (XW Z a d b c s) (XX Z a s)) (al .lss c b):=h.1.kr
theorem Oq:XY Z s=Z.aB false [some (.int .i64 0)] s:=h.1.cI
theorem Ot:EJ Z c b s=Z.ah s (fun a s=>Z.ae a false (fun k=>k b s) s (fun d s=>Z.ae a false (fun k=>k c s) s (fun e s=>Z.ae a false (fun k=>Z.aY s k false e) s (fun f s=>Z.ae a false (fun k=>Z.ah s k (al .geq d f)) s (fun g s=>Z.a2 s (fun i s=>Z.ay i (Z.aB false [some (.int .i64 1)] s) (XY Z s)) a (.bool true) g))))) (al .lss b (.int .i64 0)):=h.1.cI
theorem Ou:XZ Z s=Z.aB false [some (.aW 1 [] .nil),some (.int .i64 0),some (.bool false)] s:=h.1.cI
theorem Ov:EK Z a b s=Z.ay b (Z.av s (fun c s=>Z.aB false [some c,some (.int .i64 2),some (.bool false)] s) 1 [(.int .i64 1),(.int .i64 2)]) (Z.ah s (fun d s=>Z.ay d (Z.av s (fun e s=>Z.aB false [some e,some (.int .i64 1),some (.bool false)] s) 1 [(.int .i64 1),(.int .i64 1)]) (Z.ah s (fun f s=>Z.ay f (Z.av s (fun g s=>Z.aB false [some g,some (.int .i64 1),some (.bool false)] s) 1 [(.int .i64 1),(.int .i64 2)]) (Z.ah s (fun i s=>Z.ay i (Z.av s (fun j s=>Z.aB false [some j,some (.int .i64 2),some (.bool true)] s) 1 [(.int .i64 1),(.int .i64 1),(.int .i64 1)]) (Z.ah s (fun m s=>Z.ay m (Z.av s (fun o s=>Z.aB false [some o,some (.int .i64 2),some (.bool true)] s) 1 [(.int .i64 1),(.int .i64 3)]) (Z.ah s (fun p s=>Z.ay p (Z.av s (fun q s=>Z.aB false [some q,some (.int .i64 1),some (.bool false)] s) 1 [(.int .i64 3)]) (XZ Z s)) (al .eql a (.int .i64 16)))) (al .eql a (.int .i64 15)))) (al .eql a (.int .i64 14)))) (al .eql a (.int .i64 13)))) (al .eql a (.int .i64 12))):=h.1.cI
theorem Ow:EL Z a b s=Z.ay b (Z.av s (fun d s=>Z.aB false [some d,some (.int .i64 3),some (.bool false)] s) 1 [(.int .i64 1),(.int .i64 1),(.int .i64 1)]) (Z.ah s (fun e s=>Z.ay e (Z.av s (fun f s=>Z.aB false [some f,some (.int .i64 1),some (.bool true)] s) 1 [(.int .i64 2),(.int .i64 3)]) (Z.ah s (fun g s=>Z.ay g (Z.av s (fun i s=>Z.aB false [some i,some (.int .i64 1),some (.bool true)] s) 1 [(.int .i64 3),(.int .i64 3)]) (Z.ah s (fun c s=>Z.ay c (EK Z a c s) (Z.ah s (fun j s=>EK Z a j s) (al .eql a (.int .i64 11)))) (al .eql a (.int .i64 10)))) (al .eql a (.int .i64 9)))) (al .eql a (.int .i64 8))):=h.1.cI
theorem Ox:X0 Z a b s=Z.ah s (fun c s=>Z.aB false [some c] s) (al .eql a b):=h.1.cI
theorem wz:IG Z a s=Z.aB false [some a] s:=h.1.cI
theorem KF:IH Z s=Z.aB false [some (.aW 1 [] .nil),some (.int .i64 0),some (.bool false)] s:=h.1.cI
theorem KG:zu Z a b s=Z.ay b (Z.av s (fun c s=>Z.aB false [some c,some (.int .i64 2),some (.bool false)] s) 1 [(.int .i64 1),(.int .i64 2)]) (Z.ah s (fun d s=>Z.ay d (Z.av s (fun e s=>Z.aB false [some e,some (.int .i64 1),some (.bool false)] s) 1 [(.int .i64 1),(.int .i64 1)]) (Z.ah s (fun f s=>Z.ay f (Z.av s (fun g s=>Z.aB false [some g,some (.int .i64 1),some (.bool false)] s) 1 [(.int .i64 1),(.int .i64 2)]) (Z.ah s (fun i s=>Z.ay i (Z.av s (fun j s=>Z.aB false [some j,some (.int .i64 2),some (.bool true)] s) 1 [(.int .i64 1),(.int .i64 1),(.int .i64 1)]) (Z.ah s (fun m s=>Z.ay m (Z.av s (fun o s=>Z.aB false [some o,some (.int .i64 2),some (.bool true)] s) 1 [(.int .i64 1),(.int .i64 3)]) (Z.ah s (fun p s=>Z.ay p (Z.av s (fun q s=>Z.aB false [some q,some (.int .i64 1),some (.bool false)] s) 1 [(.int .i64 3)]) (IH Z s)) (al .eql a (.int .i64 16)))) (al .eql a (.int .i64 15)))) (al .eql a (.int .i64 14)))) (al .eql a (.int .i64 13)))) (al .eql a (.int .i64 12))):=h.1.cI
theorem KH:zv Z a b s=Z.ay b (Z.av s (fun d s=>Z.aB false [some d,some (.int .i64 3),some (.bool false)] s) 1 [(.int .i64 1),(.int .i64 1),(.int .i64 1)]) (Z.ah s (fun e s=>Z.ay e (Z.av s (fun f s=>Z.aB false [some f,some (.int .i64 1),some (.bool true)] s) 1 [(.int .i64 2),(.int .i64 3)]) (Z.ah s (fun g s=>Z.ay g (Z.av s (fun i s=>Z.aB false [some i,some (.int .i64 1),some (.bool true)] s) 1 [(.int .i64 3),(.int .i64 3)]) (Z.ah s (fun c s=>Z.ay c (zu Z a c s) (Z.ah s (fun j s=>zu Z a j s) (al .eql a (.int .i64 11)))) (al .eql a (.int .i64 10)))) (al .eql a (.int .i64 9)))) (al .eql a (.int .i64 8))):=h.1.cI
theorem KI:II Z a b c d s=Z.ah s (fun e s=>tu Z a b c e s) (al .add d (.int .i64 1)):=h.1.cI
theorem KJ:IJ Z b c d a s=Z.aZ s (fun e s=>Z.aj s (fun f s=>Z.iQ s (fun g s=>Z.ay g (Z.aB false [some a] s) (II Z b c d a s)) c [(ai.ak s.aa f)]) (some 12) e) 12 b a:=h.1.cI
theorem KK:IK Z s=Z.aB false [some (.int .i64 (-1))] s:=h.1.cI
theorem wA:tu Z c d a b s=Z.ah s (fun e s=>Z.ay e (IJ Z c d a b s) (IK Z s)) (al .lss b a):=h.1.kr
theorem KL:IL Z a b c s=Z.ah s (fun d s=>tx Z a b d s) (al .add c (.int .i64 1)):=h.1.cI
theorem KM:IM Z b c a s=Z.ag s (fun d s=>Z.aj s (fun e s=>Z.aZ s (fun f s=>Z.aj s (fun g s=>Z.ag s (fun i s=>Z.aj s (fun j s=>Z.aZ s (fun m s=>Z.aj s (fun o s=>Z.ah s (fun p s=>Z.ay p (Z.aB false [some (.bool false)] s) (IL Z b c a s)) (al .neq g o)) none m) 1 j a) none i) 1 c) none f) 1 e a) none d) 1 b:=h.1.cI
theorem KN:IN Z s=Z.aB false [some (.bool true)] s:=h.1.cI
theorem wB:tx Z a c b s=Z.ag s (fun d s=>Z.aj s (fun e s=>Z.aY s (fun f s=>Z.ah s (fun g s=>Z.ay g (IM Z a c b s) (IN Z s)) (al .lss b f)) false e) none d) 1 a:=h.1.kr
theorem KO:IP Z a b s=tx Z a b (.int .i64 0) s:=h.1.cI
theorem Oy:X9 Z a b c d e f g i j m o p s=Z.ah s (fun q s=>xy Z a b c d e f g i j m o q s) (al .add p (.int .i64 1)):=h.1.cI
theorem Oz:Ya Z a e b f g i j m o c p d s=Z.aZ s (fun t s=>Z.aj s (fun q s=>Z.ar s (fun r s=>Z.bh s (fun u s=>Z.bh s (fun H s=>Z.aE s (fun w s=>Z.ag s (fun x s=>Z.ag s (fun y s=>Z.aj s (fun z s=>Z.aZ s (fun A s=>Z.aj s (fun B s=>Z.av s (fun C s=>Z.cn s (fun D s=>Z.av s (fun E s=>Z.jz s (fun F s=>X9 Z a e b f D F j m o c p d s) 1 8 i E) 1 [u]) 1 24 (some (.l 0)) g C) 1 [B]) none A) 1 z q) none y) 2 x) 0 w) b) 1 r) 0 r) 43 [(ai.ak s.aa a),(ai.ak s.aa q)]) none t) 1 c d:=h.1.cI
theorem OA:xw Z a b c d e f s=Z.ah s (fun g s=>xz Z a b c d e g s) (al .add f (.int .i64 1)):=h.1.cI
theorem OB:tA Z e f a d g c i j m s=Z.aY s (fun o s=>Z.ah s (fun b s=>Z.ae b true (fun k=>k c s) s (fun p s=>Z.ae b true (fun k=>Z.aZ s k 1 p (.int .i64 0)) s (fun q s=>Z.ae b true (fun k=>Z.aj s k none q) s (fun r s=>Z.ae b true (fun k=>Z.ah s k (al .eql r (.int .i64 3))) s (fun t s=>Z.a2 s (fun u s=>Z.ag s (fun w s=>Z.aj s (fun x s=>Z.ah s (fun y s=>Z.ar s (fun N s=>Z.aE s (fun z s=>Z.ag s (fun A s=>Z.ag s (fun B s=>Z.aj s (fun C s=>Z.ag s (fun D s=>Z.aj s (fun E s=>Z.iR s (fun F s=>Z.ki s (fun H s=>Z.av s (fun I s=>Z.cn s (fun J s=>Z.aE s (fun K s=>Z.ag s (fun L s=>Z.ag s (fun M s=>Z.a6 s (fun O s=>xw Z e f a i j m s) 1 M (ai.ak s.aa J)) 2 L) 0 K) a) 1 24 (some (.l 0)) C I) 1 [H]) [(none,(mj a 2))] 45 [(ai.ak s.aa a),(ai.ak s.aa F)]) 46 [(ai.ak s.aa E),(ai.ak s.aa u)]) none D) 1 d) none (rV B a 2)) 2 A) 0 z) a) 44 [(ai.ak s.aa a),(ai.ak s.aa g),(ai.ak s.aa c),(ai.ak s.aa y)]) (al .eql x (.int .i64 4))) none w) 1 d) b t (.bool false)))))) (al .gtr o (.int .i64 0))) false c:=h.1.cI
theorem Aj:xx Z c d e b a f g i j s=Z.ag s (fun m s=>Z.aj s (fun o s=>Z.ah s (fun p s=>Z.ay p (Z.jy 1 a none (some (.int .i64 1)) (some (.int .i64 1)) s (fun q s=>Z.aZ s (fun r s=>Z.aj s (fun t s=>Z.aZ s (fun u s=>Z.aj s (fun w s=>Z.av s (fun x s=>Z.cn s (fun y s=>Z.av s (fun z s=>Z.jz s (fun A s=>tA Z c d e b y A g i j s) 1 8 f z) 1 [(.int .i64 1)]) 1 24 (some (.l 0)) q x) 1 [t,w]) none u) 1 a (.int .i64 1)) none r) 1 a (.int .i64 0))) (tA Z c d e b a f g i j s)) (al .eql o (.int .i64 5))) none m) 1 b:=h.1.cI
theorem Ak:xy Z a b c d e f g i j p m o s=Z.ah s (fun q s=>Z.ay q (Ya Z a b c d e f g i j p m o s) (xx Z a b c d e f g i j s)) (al .lss o m):=h.1.kr
theorem OC:EM Z d e f a g b s=Z.aZ s (fun j s=>Z.aj s (fun m s=>Z.eX (.ref (.l s.own.length) 0) (s.new (.cells [.str [],.int .i64 0,.aW 1 [] .nil,.bool false,.aW 1 [] .nil,.bool false,.aW 1 [] .nil,.bool false,.aW 1 [] .nil,.bool false,.aW 1 [] .nil,.int .i64 0])) (fun c s=>Z.a6 s (fun r s=>Z.ag s (fun o s=>Z.aj s (fun i s=>Z.aY s (fun p s=>xy Z d e f c (.aW 1 [] .nil) (.aW 1 [] .nil) a g b i p (.int .i64 0) s) false i) none o) 2 c) 12 c (ai.ak s.aa m))) (some 12) j) 12 a b:=h.1.cI
theorem KP:zx Z b a s=Z.aE s (fun c s=>Z.ag s (fun d s=>Z.aj s (fun e s=>Z.aE s (fun f s=>Z.ag s (fun g s=>Z.ag s (fun i s=>Z.a6 s (fun r s=>Z.aE s (fun j s=>Z.ag s (fun m s=>Z.aj s (fun o s=>Z.a6 s (fun r s=>Z.aB true [eF s b (some 4),some (.int .i64 0)] s) 4 b (ai.ak s.aa o)) (some 4) m) 0 j) a) 1 i (ai.ak s.aa e)) 0 g) 0 f) a) none d) 5 c) a:=h.1.cI
theorem Al:xz Z e a b f c d s=Z.ah s (fun g s=>Z.ay g (EM Z e a b f c d s) (zx Z a b s)) (al .lss d c):=h.1.kr
theorem OD:Yb Z a b s=Z.cH [.int .i64 0,.aW 3 [] .nil,.aW 1 [] .nil,.aW 1 [] .nil,.c4,.int .i64 0] [] s (fun c s=>Z.hO c s (fun d s=>Z.aY s (fun e s=>xz Z a b d a e (.int .i64 0) s) false a)):=h.1.cI
theorem OE:Yg Z a b c d e f g i j s=Z.ah s (fun m s=>qN Z a b c d e f g i m s) (al .add j (.int .i64 1)):=h.1.cI
theorem OF:xA Z c d e f a g b i j m s=Z.iv s (fun o s=>Z.aj s (fun p s=>Z.ah s (fun q s=>Z.iv s (fun r s=>Z.a6 s (fun u s=>Yg Z c d e f a g i j m s) 1 r (ai.ak s.aa q)) 1 4 a b) (al .add p (.int .i64 1))) none o) 1 4 a b:=h.1.cI
theorem OG:Yh Z e f b c g i d j a s=Z.aZ s (fun m s=>Z.aj s (fun o s=>Z.ay c (Z.aZ s (fun p s=>Z.a6 s (fun r s=>xA Z e f b c g i (.int .i64 1) d j a s) 1 p (ai.ak s.aa (.int .i64 1))) 1 b a) (xA Z e f b c g i o d j a s)) none m) 1 d a:=h.1.cI
theorem KQ:IQ Z a b c d e f g i j m o p q s=Z.ah s (fun r s=>xB Z a b c d e f g i j m o p r s) (al .add q (.int .i64 1)):=h.1.cI
theorem KR:IR Z b g i j c d e m o p f q a s=Z.aZ s (fun r s=>Z.aj s (fun t s=>Z.aE s (fun u s=>Z.ag s (fun w s=>Z.aj s (fun x s=>Z.iv s (fun y s=>Z.aj s (fun z s=>Z.aZ s (fun A s=>Z.aj s (fun B s=>Z.ah s (fun C s=>Z.kK s (fun H s=>IQ Z b g i j c d e m o p f q a s) .str x (ai.ak s.aa C) (ai.ak s.aa t)) (al .add B e)) none A) 1 z a) none y) 1 4 c d) none w) 4 u) b) none r) 1 f a:=h.1.cI
theorem KS:zz Z a b c d e f g i s=Z.ah s (fun j s=>qM Z a b c d e f g j s) (al .add i (.int .i64 1)):=h.1.cI
theorem Am:xB Z a b c d e o p f g i q j m s=Z.ah s (fun r s=>Z.ay r (IR Z a b c d e o p f g i q j m s) (zz Z a b c d e f g i s)) (al .lss m j):=h.1.kr
theorem OH:tD Z b c d e f a g i j m o s=Z.aY s (fun p s=>xB Z b c d e f g i j m o a p (.int .i64 0) s) false a:=h.1.cI
theorem OI:Yi Z g d e a i f j c s=Z.aZ s (fun o s=>Z.aj s (fun m s=>Z.aZ s (fun p s=>Z.aj s (fun b s=>Z.iv s (fun q s=>Z.aj s (fun r s=>Z.ah s (fun t s=>Z.iv s (fun u s=>Z.a6 s (fun H s=>Z.iv s (fun w s=>Z.aj s (fun x s=>Z.ah s (fun y s=>Z.ay y (Z.iv s (fun z s=>Z.aj s (fun A s=>Z.ar s (fun B s=>tD Z g d e a i m b B f j c s) 75 [(ai.ak s.aa A)]) none z) 1 4 a b) (tD Z g d e a i m b (.str []) f j c s)) (al .gtr x (.int .i64 1))) none w) 1 4 e b) 1 u (ai.ak s.aa t)) 1 4 a b) (al .add r (.int .i64 1))) none q) 1 4 a b) none p) 1 d c) none o) 1 f c:=h.1.cI
theorem An:qM Z c d e f g i a b s=Z.ah s (fun j s=>Z.ay j (Yi Z c d e f g i a b s) (Z.aB false [] s)) (al .lss b a):=h.1.kr
theorem OJ:xC Z b a c d e s=Z.av s (fun g s=>Z.av s (fun i s=>Z.av s (fun j s=>Z.cH [.aW 1 [] .nil,.aW 1 [] .nil,.aW 1 [] .nil,.aW 1 [] .nil] [(0,1,(.aW 1 [] .nil)),(1,1,g),(2,1,i),(3,1,j)] s (fun m s=>Z.eX (.ref (.l s.own.length) 0) (s.new (.cells [.aW 1 [] .nil,.aW 1 [] .nil,.aW 1 [] .nil,.aW 1 [] .nil])) (fun f s=>Z.a6 s (fun r s=>Z.aY s (fun o s=>qM Z b c d e f a o (.int .i64 0) s) false a) 4 f (ai.ak s.aa m)))) 1 [(.str [117]),(.str [112]),(.str [113]),(.str [114]),(.str [97,120]),(.str [97,121]),(.str [97,122])]) 1 [(.str [97]),(.str [98]),(.str [99])]) 1 [(.str [120]),(.str [121]),(.str [122])]:=h.1.cI
theorem Ao:qN Z a b c i d e j f g s=Z.ah s (fun m s=>Z.ay m (Yh Z a b c i d e j f g s) (xC Z a b c d e s)) (al .lss g f):=h.1.kr
theorem OK:tF Z a b c s=Z.ah s (fun d s=>tG Z a b d s) (al .add c (.int .i64 2)):=h.1.cI
theorem OL:EO Z a b c s=Z.ag s (fun f s=>Z.aj s (fun g s=>Z.aZ s (fun i s=>Z.aj s (fun d s=>Z.ag s (fun j s=>Z.aj s (fun m s=>Z.ah s (fun o s=>Z.aZ s (fun p s=>Z.aj s (fun e s=>Z.ah s (fun q s=>Z.ay q (Z.aE s (fun r s=>Z.ag s (fun t s=>Z.aj s (fun u s=>Z.aE s (fun w s=>Z.ag s (fun x s=>Z.aj s (fun y s=>Z.ki s (fun z s=>Z.kK s (fun ab s=>Z.aE s (fun A s=>Z.ag s (fun B s=>Z.aj s (fun C s=>Z.ah s (fun D s=>Z.aE s (fun E s=>Z.ag s (fun F s=>Z.a6 s (fun ab s=>tF Z a b c s) 1 F (ai.ak s.aa D)) 5 E) a) (al .add C (.int .i64 1))) none B) 5 A) a) .str u (ai.ak s.aa d) (ai.ak s.aa z)) [(none,(mj a 4))] 76 [(ai.ak s.aa a),(ai.ak s.aa (.int .i64 1)),(ai.ak s.aa y),(ai.ak s.aa (.int .i64 0))]) none x) 5 w) a) none (rV t a 4)) 4 r) a) (Z.db s (fun H s=>Z.ah s (fun I s=>Z.ay I (Z.aE s (fun J s=>Z.ag s (fun K s=>Z.aj s (fun L s=>Z.nf e (some (.int .i64 1)) none s (fun M s=>Z.ki s (fun N s=>Z.ki s (fun O s=>Z.kK s (fun ab s=>Z.aE s (fun P s=>Z.ag s (fun Q s=>Z.ag s (fun R s=>Z.aj s (fun S s=>Z.aE s (fun T s=>Z.ag s (fun U s=>Z.aj s (fun V s=>Z.lD s (fun W s=>Z.av s (fun Y s=>Z.cn s (fun ac s=>Z.aE s (fun ad s=>Z.ag s (fun ae s=>Z.ag s (fun af s=>Z.a6 s (fun ab s=>tF Z a b c s) 1 af (ai.ak s.aa ac)) 3 ae) 0 ad) a) 1 8 (B4 a) S Y) 1 [W]) .str (.int .i64 0) false V (ai.ak s.aa d)) none U) 4 T) a) none R) 3 Q) 0 P) a) .str L (ai.ak s.aa d) (ai.ak s.aa O)) [(none,(mj a 4))] 76 [(ai.ak s.aa a),(ai.ak s.aa (.int .i64 6)),(ai.ak s.aa N),(ai.ak s.aa (.int .i64 0))]) [(none,(mj a 4))] 77 [(ai.ak s.aa a),(ai.ak s.aa M)])) none (rV K a 4)) 4 J) a) (Z.aE s (fun am s=>Z.ag s (fun an s=>Z.aj s (fun ao s=>Z.ki s (fun ap s=>Z.kK s (fun ab s=>tF Z a b c s) .str ao (ai.ak s.aa d) (ai.ak s.aa ap)) [(none,(mj a 4))] 77 [(ai.ak s.aa a),(ai.ak s.aa e)]) none (rV an a 4)) 4 am) a)) (al .eql H (.int .u8 33))) e (.int .i64 0))) (al .eql e (.str [105,110]))) none p) 1 m o) (al .add c (.int .i64 1))) none j) 0 b) none i) 1 g c) none f) 0 b:=h.1.cI
theorem OM:Yl Z a b c d e s=Z.ah s (fun f s=>xD Z a b c d f s) (al .add e (.int .i64 1)):=h.1.cI
theorem ON:Ym Z a d b e c s=Z.aZ s (fun f s=>Z.aj s (fun g s=>Z.ar s (fun i s=>Z.av s (fun j s=>Z.cn s (fun m s=>Yl Z a m b e c s) 1 8 (some (.l 0)) d j) 1 [i]) 77 [(ai.ak s.aa a),(ai.ak s.aa g)]) none f) 1 b c:=h.1.cI
theorem OO:Yn Z a s=Z.aB false [some a] s:=h.1.cI
theorem Ap:xD Z d a e b c s=Z.ah s (fun f s=>Z.ay f (Ym Z d a e b c s) (Yn Z a s)) (al .lss c b):=h.1.kr
theorem OP:xE Z a b s=Z.ag s (fun d s=>Z.aj s (fun c s=>Z.aY s (fun e s=>xD Z a (.aW 1 [] .nil) c e (.int .i64 0) s) false c) none d) 1 b:=h.1.cI
theorem Aq:tG Z b a c s=Z.ah s (fun d s=>Z.ag s (fun e s=>Z.aj s (fun f s=>Z.aY s (fun g s=>Z.ah s (fun i s=>Z.ay i (EO Z b a c s) (xE Z b a s)) (al .lss d g)) false f) none e) 0 a) (al .add c (.int .i64 1)):=h.1.kr
theorem wC:oF Z a s=Z.aB false [some a] s:=h.1.cI
theorem qh:p7 Z b d c s=Z.aj s (fun f s=>Z.aE s (fun g s=>Z.ag s (fun i s=>Z.aj s (fun j s=>Z.aj s (fun m s=>Z.aE s (fun o s=>Z.ag s (fun p s=>Z.aj s (fun q s=>Z.aY s (fun r s=>Z.ah s (fun a s=>Z.ae a true (fun k=>Z.aj s k none b) s (fun t s=>Z.ae a true (fun k=>Z.aE s k t) s (fun u s=>Z.ae a true (fun k=>Z.ag s k 0 u) s (fun w s=>Z.ae a true (fun k=>Z.aj s k none w) s (fun x s=>Z.ae a true (fun k=>Z.aj s k none b) s (fun y s=>Z.ae a true (fun k=>Z.aE s k y) s (fun z s=>Z.ae a true (fun k=>Z.ag s k 1 z) s (fun A s=>Z.ae a true (fun k=>Z.aj s k none A) s (fun B s=>Z.ae a true (fun k=>Z.db s k x B) s (fun C s=>Z.ae a true (fun k=>Z.ah s k (al .eql C (.int .u8 94))) s (fun D s=>Z.a2 s (fun E s=>Z.ay E (Z.aj s (fun e s=>Z.aE s (fun F s=>Z.ag s (fun H s=>Z.aj s (fun I s=>Z.ah s (fun J s=>Z.aE s (fun K s=>Z.ag s (fun L s=>Z.a6 s (fun O s=>Z.aj s (fun M s=>Z.ar s (fun N s=>oF Z N s) 76 [(ai.ak s.aa M),(ai.ak s.aa (.int .i64 5)),(ai.ak s.aa c),(ai.ak s.aa c)]) none d) 1 L (ai.ak s.aa J)) 1 K) e) (al .add I (.int .i64 2))) none H) 1 F) e) none b) (oF Z c s)) a D (.bool false)))))))))))) (al .lss j r)) true q) none p) 0 o) m) none b) none i) 1 g) f) none b:=h.1.cI
theorem KT:IS Z a s=Z.aE s (fun b s=>Z.ag s (fun c s=>Z.aj s (fun d s=>Z.ah s (fun e s=>Z.aE s (fun f s=>Z.ag s (fun g s=>Z.a6 s (fun r s=>tH Z a s) 1 g (ai.ak s.aa e)) 1 f) a) (al .add d (.int .i64 1))) none c) 1 b) a:=h.1.cI
theorem KU:IT Z a s=Z.aE s (fun b s=>Z.ag s (fun c s=>Z.aj s (fun d s=>Z.aE s (fun e s=>Z.ag s (fun f s=>Z.aj s (fun g s=>Z.db s (fun i s=>Z.aB false [some i] s) d g) none f) 1 e) a) none c) 0 b) a:=h.1.cI
theorem KV:zB Z a s=Z.aE s (fun b s=>Z.ag s (fun c s=>Z.aj s (fun d s=>Z.aE s (fun e s=>Z.ag s (fun f s=>Z.aj s (fun g s=>Z.aY s (fun i s=>Z.ah s (fun j s=>Z.ay j (Z.aB false [some (.int .u8 0)] s) (IT Z a s)) (al .eql d i)) true g) none f) 0 e) a) none c) 1 b) a:=h.1.cI
theorem qi:tH Z b s=Z.aE s (fun c s=>Z.ag s (fun d s=>Z.aj s (fun e s=>Z.aE s (fun f s=>Z.ag s (fun g s=>Z.aj s (fun i s=>Z.aY s (fun j s=>Z.ah s (fun a s=>Z.ae a true (fun k=>k b s) s (fun m s=>Z.ae a true (fun k=>Z.aE s k m) s (fun o s=>Z.ae a true (fun k=>Z.ag s k 0 o) s (fun p s=>Z.ae a true (fun k=>Z.aj s k none p) s (fun q s=>Z.ae a true (fun k=>k b s) s (fun r s=>Z.ae a true (fun k=>Z.aE s k r) s (fun t s=>Z.ae a true (fun k=>Z.ag s k 1 t) s (fun u s=>Z.ae a true (fun k=>Z.aj s k none u) s (fun w s=>Z.ae a true (fun k=>Z.db s k q w) s (fun x s=>Z.ae a true (fun k=>Z.ah s k (al .eql x (.int .u8 32))) s (fun y s=>Z.a2 s (fun z s=>Z.ay z (IS Z b s) (zB Z b s)) a y (.bool false)))))))))))) (al .lss e j)) true i) none g) 0 f) b) none d) 1 c) b:=h.1.kr
theorem KW:p8 Z a b s=Z.aE s (fun c s=>Z.ag s (fun d s=>Z.aj s (fun e s=>Z.aE s (fun f s=>Z.ag s (fun g s=>Z.aj s (fun i s=>Z.nf e (some b) (some i) s (fun j s=>Z.aB false [some j] s)) none g) 1 f) a) none d) 0 c) a:=h.1.cI
theorem KX:zC Z a b s=Z.aE s (fun c s=>Z.ag s (fun d s=>Z.aj s (fun e s=>Z.ah s (fun f s=>Z.aE s (fun g s=>Z.ag s (fun i s=>Z.a6 s (fun r s=>tI Z a b s) 1 i (ai.ak s.aa f)) 1 g) a) (al .add e (.int .i64 1))) none d) 1 c) a:=h.1.cI
theorem KY:zD Z a d s=Z.aE s (fun g s=>Z.ag s (fun i s=>Z.aj s (fun j s=>Z.aE s (fun m s=>Z.ag s (fun o s=>Z.aj s (fun p s=>Z.db s (fun c s=>Z.ah s (fun e s=>Z.ae e false (fun k=>k c s) s (fun q s=>Z.ae e false (fun k=>Z.ah s k (al .gtr q (.int .u8 122))) s (fun r s=>Z.a2 s (fun b s=>Z.ae b true (fun k=>k c s) s (fun t s=>Z.ae b true (fun k=>Z.ah s k (al .lss t (.int .u8 48))) s (fun u s=>Z.ae b true (fun k=>k u s) s (fun f s=>Z.ae f false (fun k=>k c s) s (fun w s=>Z.ae f false (fun k=>Z.ah s k (al .gtr w (.int .u8 57))) s (fun x s=>Z.ae b true (fun k=>Z.a2 s k f (.bool true) x) s (fun y s=>Z.a2 s (fun z s=>Z.ay z (p8 Z a d s) (zC Z a d s)) b y (.bool false)))))))) e (.bool true) r))) (al .lss c (.int .u8 97))) j p) none o) 1 m) a) none i) 0 g) a:=h.1.cI
theorem wD:tI Z a b s=Z.aE s (fun c s=>Z.ag s (fun d s=>Z.aj s (fun e s=>Z.aE s (fun f s=>Z.ag s (fun g s=>Z.aj s (fun i s=>Z.aY s (fun j s=>Z.ah s (fun m s=>Z.ay m (zD Z a b s) (p8 Z a b s)) (al .lss e j)) true i) none g) 0 f) a) none d) 1 c) a:=h.1.kr
theorem KZ:IU Z b a c d s=Z.aj s (fun e s=>Z.ar s (fun f s=>p9 Z b a c d f s) 122 [(ai.ak s.aa e)]) none a:=h.1.cI
theorem K0:zE Z a c b d s=Z.aj s (fun e s=>Z.iQ s (fun f s=>Z.aj s (fun g s=>Z.ar s (fun i s=>IU Z a c b i s) 76 [(ai.ak s.aa g),(ai.ak s.aa (.int .i64 5)),(ai.ak s.aa d),(ai.ak s.aa f)]) none b) e []) none a:=h.1.cI
theorem wE:zF Z a s=Z.aB false [some a] s:=h.1.cI
theorem K1:p9 Z f g i b a s=Z.ah s (fun c s=>Z.ae c true (fun k=>k a s) s (fun j s=>Z.ae c true (fun k=>Z.ah s k (al .neq j (.int .u8 43))) s (fun m s=>Z.a2 s (fun d s=>Z.ae d true (fun k=>k a s) s (fun o s=>Z.ae d true (fun k=>Z.ah s k (al .neq o (.int .u8 45))) s (fun p s=>Z.a2 s (fun e s=>Z.ae e true (fun k=>k a s) s (fun q s=>Z.ae e true (fun k=>Z.ah s k (al .neq q (.int .u8 41))) s (fun r s=>Z.a2 s (fun t s=>Z.ay t (zE Z f g i b s) (zF Z b s)) e r (.bool false)))) d p (.bool false)))) c m (.bool false)))) (al .neq a (.int .u8 0)):=h.1.kr
theorem K2:IV Z a b c d s=Z.aj s (fun e s=>Z.ar s (fun f s=>oG Z a b c d f s) 122 [(ai.ak s.aa e)]) none a:=h.1.cI
theorem K3:tJ Z b a c d e f s=Z.aj s (fun g s=>Z.ar s (fun i s=>IV Z b a c i s) 76 [(ai.ak s.aa g),(ai.ak s.aa f),(ai.ak s.aa d),(ai.ak s.aa e)]) none a:=h.1.cI
theorem K4:tK Z a c b d e s=Z.aj s (fun f s=>Z.aE s (fun i s=>Z.ag s (fun j s=>Z.aj s (fun m s=>Z.ah s (fun o s=>Z.aE s (fun p s=>Z.ag s (fun q s=>Z.a6 s (fun u s=>Z.aj s (fun r s=>Z.iQ s (fun g s=>Z.ah s (fun t s=>Z.ay t (tJ Z a c b d g (.int .i64 4) s) (tJ Z a c b d g (.int .i64 3) s)) (al .eql e (.int .u8 45))) r []) none b) 1 q (ai.ak s.aa o)) 1 p) f) (al .add m (.int .i64 1))) none j) 1 i) f) none a:=h.1.cI
theorem wF:zG Z a s=Z.aB false [some a] s:=h.1.cI
theorem K5:oG Z d e f b a s=Z.ah s (fun c s=>Z.ae c false (fun k=>k a s) s (fun g s=>Z.ae c false (fun k=>Z.ah s k (al .eql g (.int .u8 45))) s (fun i s=>Z.a2 s (fun j s=>Z.ay j (tK Z d e f b a s) (zG Z b s)) c (.bool true) i))) (al .eql a (.int .u8 43)):=h.1.kr
theorem wG:zH Z a b c d s=Z.aj s (fun e s=>Z.ar s (fun f s=>oG Z a b c d f s) 122 [(ai.ak s.aa e)]) none a:=h.1.cI
theorem K6:IW Z a s=Z.aB false [some a,some .e2] s:=h.1.cI
theorem K7:IX Z a b c d e s=Z.ah s (fun f s=>tM Z a b c d f s) (al .add e (.int .i64 1)):=h.1.cI
theorem K8:IY Z a b c d e f s=Z.ah s (fun g s=>Z.bm s (fun i s=>Z.ah s (fun j s=>IX Z a j d e f s) (al .add g i)) .i64 c) (al .mul b (.int .i64 10)):=h.1.cI
theorem K9:IZ Z c d a e b s=Z.aZ s (fun g s=>Z.aj s (fun i s=>Z.ah s (fun f s=>Z.ah s (fun j s=>Z.ay j (Z.eX (.iface 188 (ai.ak s.aa (.int .i64 2))) s (fun m s=>Z.aB false [some (.int .i64 0),some m] s)) (IY Z c d f a e b s)) (al .gtr f (.int .u8 9))) (al .sub i (.int .u8 48))) none g) 1 a b:=h.1.cI
theorem La:qa Z a s=Z.aB false [some a,some .e2] s:=h.1.cI
theorem Lb:zI Z b a s=Z.db s (fun c s=>Z.ah s (fun d s=>Z.ay d (Z.ah s (fun e s=>qa Z e s) (iN .neg a)) (qa Z a s)) (al .eql c (.int .u8 45))) b (.int .i64 0):=h.1.cI
theorem wH:tM Z a b e c d s=Z.ah s (fun f s=>Z.ay f (IZ Z a b e c d s) (zI Z a b s)) (al .lss d c):=h.1.kr
theorem Lc:zJ Z a b s=Z.lN s (fun c s=>Z.aY s (fun d s=>tM Z b (.int .i64 0) c d (.int .i64 0) s) false c) a:=h.1.cI
theorem OQ:Yx Z a b c d s=Z.ah s (fun e s=>xH Z a b c e s) (al .add d (.int .i64 1)):=h.1.cI
theorem OR:Yy Z a d b c s=Z.ar s (fun e s=>Yx Z a d b c s) 47 [(ai.ak s.aa b),(ai.ak s.aa a),(ai.ak s.aa c)]:=h.1.cI
theorem OS:ES Z b a s=Z.aE s (fun c s=>Z.ag s (fun d s=>Z.aj s (fun e s=>Z.aE s (fun f s=>Z.ag s (fun g s=>Z.ag s (fun i s=>Z.a6 s (fun r s=>Z.aE s (fun j s=>Z.ag s (fun m s=>Z.aj s (fun o s=>Z.a6 s (fun r s=>Z.aB true [eF s b (some 4),some (.int .i64 0)] s) 4 b (ai.ak s.aa o)) (some 4) m) 0 j) a) 1 i (ai.ak s.aa e)) 0 g) 0 f) a) none d) 8 c) a:=h.1.cI
theorem Ar:xH Z a b c d s=Z.aY s (fun e s=>Z.ah s (fun f s=>Z.ay f (Yy Z a b c d s) (ES Z b c s)) (al .lss d e)) false a:=h.1.kr
theorem OT:Yz Z a b s=Z.cH [.int .i64 0,.aW 3 [] .nil,.aW 1 [] .nil,.aW 1 [] .nil,.aW 1 [] .nil,.aW 1 [] .nil,.str [],.int .i64 0,.int .i64 0] [] s (fun c s=>Z.hO c s (fun d s=>xH Z a b d (.int .i64 0) s)):=h.1.cI
theorem OU:YB Z a b c d e f s=Z.ah s (fun g s=>qQ Z a b c d e g s) (al .add f (.int .i64 1)):=h.1.cI
theorem OV:xI Z a b c d e f g s=Z.av s (fun i s=>Z.cn s (fun j s=>YB Z a b c d j f s) 1 8 (some (.l 0)) e i) 1 [g]:=h.1.cI
theorem OW:YC Z c a b f e d s=Z.aZ s (fun m s=>Z.ag s (fun o s=>Z.aj s (fun p s=>Z.aZ s (fun q s=>Z.aj s (fun g s=>Z.aE s (fun r s=>Z.ag s (fun t s=>Z.ag s (fun u s=>Z.aj s (fun w s=>Z.aZ s (fun x s=>Z.aj s (fun y s=>Z.av s (fun z s=>Z.cn s (fun i s=>Z.ar s (fun j s=>Z.bh s (fun A s=>Z.bh s (fun F s=>Z.aZ s (fun B s=>Z.ag s (fun C s=>Z.aj s (fun D s=>Z.ah s (fun E s=>Z.ay E (xI Z c a b i e d (.int .i64 1) s) (xI Z c a b i e d A s)) (al .eql D (.int .i64 4))) none C) 1 B) 12 a b) 1 j) 0 j) 65 [(ai.ak s.aa a),(ai.ak s.aa g)]) 1 24 (some (.l 0)) f z) 1 [y]) none x) 1 w g) none u) 2 t) 0 r) c) none q) 1 p d) none o) 2 m) 12 a b:=h.1.cI
theorem OX:tN Z a d e f c s=Z.ar s (fun F s=>Z.aY s (fun g s=>Z.ah s (fun b s=>Z.ae b true (fun k=>k c s) s (fun i s=>Z.ae b true (fun k=>Z.aZ s k 1 i (.int .i64 0)) s (fun j s=>Z.ae b true (fun k=>Z.aj s k none j) s (fun m s=>Z.ae b true (fun k=>Z.ah s k (al .eql m (.int .i64 3))) s (fun o s=>Z.a2 s (fun p s=>Z.aZ s (fun q s=>Z.ag s (fun r s=>Z.aj s (fun t s=>Z.ar s (fun u s=>Z.aE s (fun w s=>Z.ag s (fun x s=>Z.ag s (fun y s=>Z.aj s (fun z s=>Z.av s (fun A s=>Z.cn s (fun B s=>Z.aE s (fun C s=>Z.ag s (fun D s=>Z.ag s (fun E s=>Z.a6 s (fun H s=>Z.aB false [] s) 1 E (ai.ak s.aa B)) 2 D) 0 C) a) 1 24 (B4 a) z A) 1 [u]) none y) 2 x) 0 w) a) 82 [(ai.ak s.aa a),(ai.ak s.aa t),(ai.ak s.aa p)]) none r) 1 q) 12 d e) b o (.bool false)))))) (al .gtr g (.int .i64 0))) false c) 66 [(ai.ak s.aa a),(ai.ak s.aa f),(ai.ak s.aa c)]:=h.1.cI
theorem As:tO Z d b c a e s=Z.aZ s (fun f s=>Z.ag s (fun g s=>Z.aj s (fun i s=>Z.ah s (fun j s=>Z.ay j (Z.aZ s (fun m s=>Z.aj s (fun o s=>Z.aZ s (fun p s=>Z.aj s (fun q s=>Z.aZ s (fun r s=>Z.aj s (fun t s=>Z.av s (fun u s=>Z.av s (fun w s=>tN Z d b c u w s) 1 [(.int .i64 1),(.int .i64 1),(.int .i64 1)]) 1 [o,q,t]) none r) 1 a (.int .i64 1)) none p) 1 a (.int .i64 0)) none m) 1 a (.int .i64 0)) (tN Z d b c a e s)) (al .eql i (.int .i64 5))) none g) 1 f) 12 b c:=h.1.cI
theorem At:qQ Z c a b d e f s=Z.aZ s (fun g s=>Z.ag s (fun i s=>Z.aj s (fun j s=>Z.aY s (fun m s=>Z.ah s (fun o s=>Z.ay o (YC Z c a b d e f s) (tO Z c a b d e s)) (al .lss f m)) false j) none i) 2 g) 12 a b:=h.1.kr
theorem OY:tQ Z a b c d e f g s=Z.ah s (fun i s=>xK Z a b c d e f i s) (al .add g (.int .i64 1)):=h.1.cI
theorem OZ:YH Z d e a b g f c s=Z.aZ s (fun j s=>Z.aj s (fun m s=>Z.aZ s (fun o s=>Z.aj s (fun p s=>Z.ah s (fun q s=>Z.ay q (Z.ah s (fun i s=>Z.ah s (fun r s=>Z.ay r (Z.ah s (fun t s=>tQ Z d e a b i t c s) (al .add f (.int .i64 1))) (tQ Z d e a b i f c s)) (al .lss c b)) (al .add g (.int .i64 1))) (tQ Z d e a b g f c s)) (al .eql m p)) none o) 1 a b) none j) 1 a c:=h.1.cI
theorem Ld:I0 Z a b c d e f g s=Z.ah s (fun i s=>qb Z a b c d e f i s) (al .add g (.int .i64 1)):=h.1.cI
theorem Le:I1 Z b c g d e f a s=Z.aZ s (fun i s=>Z.aj s (fun j s=>Z.ah s (fun m s=>Z.aZ s (fun o s=>Z.aj s (fun p s=>Z.aZ s (fun q s=>Z.aj s (fun r s=>Z.ar s (fun t s=>I0 Z b c g d e f a s) 107 [(ai.ak s.aa b),(ai.ak s.aa m),(ai.ak s.aa r)]) none q) 1 p a) none o) 1 c d) (al .add j e)) none i) 1 f a:=h.1.cI
theorem Lf:zO Z a b c d s=Z.ah s (fun e s=>xL Z a b c e s) (al .add d (.int .i64 1)):=h.1.cI
theorem qj:qb Z e b f c i g d s=Z.aZ s (fun j s=>Z.aj s (fun m s=>Z.aY s (fun o s=>Z.ah s (fun a s=>Z.ae a true (fun k=>k d s) s (fun p s=>Z.ae a true (fun k=>k g s) s (fun q s=>Z.ae a true (fun k=>Z.aY s k false q) s (fun r s=>Z.ae a true (fun k=>Z.ah s k (al .lss p r)) s (fun t s=>Z.a2 s (fun u s=>Z.ay u (I1 Z e b f c i g d s) (zO Z e b f c s)) a t (.bool false)))))) (al .lss d o)) false m) none j) 1 b c:=h.1.kr
theorem rF:ET Z a b c d e f s=qb Z a b c d e f (.int .i64 0) s:=h.1.cI
theorem rG:EU Z c d a b e f s=Z.aZ s (fun g s=>Z.aj s (fun i s=>Z.ah s (fun j s=>Z.ay j (Z.av s (fun m s=>ET Z c d a b e m s) 1 [(.str [117]),(.str [112]),(.str [113]),(.str [114]),(.str [97,120]),(.str [97,121]),(.str [97,122])]) (ET Z c d a b e f s)) (al .eql i (.int .i64 3))) none g) 1 a b:=h.1.cI
theorem O0:tR Z c d a b e s=Z.av s (fun f s=>Z.aZ s (fun g s=>Z.aj s (fun i s=>Z.ah s (fun j s=>Z.ay j (Z.av s (fun m s=>EU Z c d a b e m s) 1 [(.str [97]),(.str [98]),(.str [99])]) (EU Z c d a b e f s)) (al .eql i (.int .i64 2))) none g) 1 a b) 1 [(.str [120]),(.str [121]),(.str [122])]:=h.1.cI
theorem O1:xJ Z a b c d e f s=Z.ah s (fun g s=>Z.ay g (Z.ah s (fun i s=>Z.bm s (fun j s=>Z.av s (fun m s=>Z.kh s (fun o s=>tR Z a b c d o s) m) 1 [j]) .u8 i) (al .add (.int .i64 48) f)) (tR Z a b c d (.str []) s)) (al .gtr e (.int .i64 1)):=h.1.cI
theorem Au:xK Z b c a d e f g s=Z.aY s (fun i s=>Z.ah s (fun j s=>Z.ay j (YH Z b c a d e f g s) (xJ Z b c a d e f s)) (al .lss g i)) false a:=h.1.kr
theorem O2:YI Z a b c d s=xK Z a b c d (.int .i64 0) (.int .i64 1) (.int .i64 0) s:=h.1.cI
theorem Av:xL Z c a d b s=Z.aY s (fun e s=>Z.ah s (fun f s=>Z.ay f (YI Z c a d b s) (Z.aB false [] s)) (al .lss b e)) false a:=h.1.kr
theorem O3:YJ Z a s=Z.av s (fun b s=>Z.ar s (fun c s=>Z.aB false [some c] s) 108 [(ai.ak s.aa a),(ai.ak s.aa b)]) 1 [(.str [45,112]),(.str [45,113]),(.str [50,32,117])]:=h.1.cI
theorem fH:EV Z a b c s=Z.ay c (Z.ar s (fun d s=>Z.aB false [some d] s) 129 [(ai.ak s.aa a)]) (Z.ah s (fun e s=>Z.ay e (Z.ar s (fun f s=>Z.aB false [some f] s) 130 [(ai.ak s.aa a)]) (Z.ah s (fun g s=>Z.ay g (Z.av s (fun i s=>Z.ar s (fun W s=>Z.av s (fun j s=>Z.ar s (fun Y s=>Z.ar s (fun m s=>Z.ar s (fun ab s=>Z.ar s (fun o s=>Z.ar s (fun p s=>Z.aB false [some p] s) 108 [(ai.ak s.aa a),(ai.ak s.aa o)]) 132 []) 110 [(ai.ak s.aa a),(ai.ak s.aa m)]) 131 []) 110 [(ai.ak s.aa a),(ai.ak s.aa j)]) 1 [(.str [117]),(.str [117,49]),(.str [112]),(.str [112,49]),(.str [113]),(.str [113,49]),(.str [114]),(.str [114,49])]) 110 [(ai.ak s.aa a),(ai.ak s.aa i)]) 1 [(.str [97]),(.str [117,50,32,112,49,32,45,32,117,49,32,112,50]),(.str [98]),(.str [117,50,32,113,49,32,45,32,117,49,32,113,50]),(.str [99]),(.str [117,50,32,114,49,32,45,32,117,49,32,114,50])]) (Z.ah s (fun q s=>Z.ay q (Z.ar s (fun r s=>Z.ar s (fun ac s=>Z.ar s (fun t s=>Z.ar s (fun u s=>Z.aB false [some u] s) 108 [(ai.ak s.aa a),(ai.ak s.aa t)]) 132 []) 110 [(ai.ak s.aa a),(ai.ak s.aa r)]) 131 []) (Z.ah s (fun w s=>Z.ay w (Z.av s (fun x s=>Z.ar s (fun ad s=>Z.av s (fun y s=>Z.ar s (fun z s=>Z.aB false [some z] s) 108 [(ai.ak s.aa a),(ai.ak s.aa y)]) 1 [(.str [121,32,111,32,45,32,122,32,98]),(.str [122,32,97,32,45,32,120,32,111]),(.str [120,32,98,32,45,32,121,32,97])]) 110 [(ai.ak s.aa a),(ai.ak s.aa x)]) 1 [(.str [111]),(.str [48])]) (Z.ah s (fun A s=>Z.ay A (Z.av s (fun B s=>Z.ar s (fun ae s=>Z.av s (fun C s=>Z.ar s (fun D s=>Z.aB false [some D] s) 108 [(ai.ak s.aa a),(ai.ak s.aa C)]) 1 [(.str [121,32,111,32,45,32,122,32,97]),(.str [122,32,101,32,45,32,120,32,111]),(.str [120,32,97,32,45,32,121,32,101])]) 110 [(ai.ak s.aa a),(ai.ak s.aa B)]) 1 [(.str [111]),(.str [48]),(.str [101]),(.str [111,32,45,32,98])]) (Z.ah s (fun E s=>Z.ay E (Z.av s (fun F s=>Z.ar s (fun H s=>Z.aB false [some H] s) 108 [(ai.ak s.aa a),(ai.ak s.aa F)]) 1 [(.str [120,49,32,122,50,32,43,32,120,50,32,122,49]),(.str [121,49,32,122,50,32,43,32,121,50,32,122,49]),(.str [50,32,122,49,32,122,50])]) (Z.ah s (fun I s=>Z.ay I (Z.av s (fun J s=>Z.ar s (fun af s=>Z.av s (fun K s=>Z.ar s (fun L s=>Z.aB false [some L] s) 108 [(ai.ak s.aa a),(ai.ak s.aa K)]) 1 [(.str [110,32,120,32,45,32,50,32,97,32,107]),(.str [110,32,121,32,45,32,50,32,98,32,107]),(.str [110,32,122])]) 110 [(ai.ak s.aa a),(ai.ak s.aa J)]) 1 [(.str [110]),(.str [97,94,50,32,43,32,98,94,50]),(.str [107]),(.str [97,32,120,32,43,32,98,32,121,32,43,32,99,32,122])]) (Z.ah s (fun M s=>Z.ay M (Z.av s (fun N s=>Z.ar s (fun ag s=>Z.av s (fun O s=>Z.ar s (fun P s=>Z.aB false [some P] s) 108 [(ai.ak s.aa a),(ai.ak s.aa O)]) 1 [(.str [45,122,50,32,100,121]),(.str [122,50,32,100,120]),(.str [120,50,32,100,121,32,45,32,121,50,32,100,120])]) 110 [(ai.ak s.aa a),(ai.ak s.aa N)]) 1 [(.str [118,120]),(.str [120,49,32,122,50,32,45,32,120,50,32,122,49]),(.str [118,121]),(.str [121,49,32,122,50,32,45,32,121,50,32,122,49]),(.str [119,120]),(.str [120,51,32,122,50,32,45,32,120,50,32,122,51]),(.str [119,121]),(.str [121,51,32,122,50,32,45,32,121,50,32,122,51]),(.str [118]),(.str [118,120,94,50,32,43,32,118,121,94,50]),(.str [119]),(.str [119,120,94,50,32,43,32,119,121,94,50]),(.str [115]),(.str [33,118,32,119]),(.str [100,120]),(.str [119,32,118,120,32,43,32,115,32,119,120]),(.str [100,121]),(.str [119,32,118,121,32,43,32,115,32,119,121])]) (Z.ah s (fun Q s=>Z.ay Q (Z.av s (fun R s=>Z.ar s (fun aj s=>Z.ar s (fun S s=>Z.ar s (fun am s=>Z.av s (fun T s=>Z.ar s (fun an s=>Z.av s (fun U s=>Z.ar s (fun V s=>Z.aB false [some V] s) 108 [(ai.ak s.aa a),(ai.ak s.aa U)]) 1 [(.str [50,32,117,32,116,120,32,43,32,112,32,116,122]),(.str [50,32,117,32,116,121,32,43,32,113,32,116,122]),(.str [112,32,116,120,32,43,32,113,32,116,121,32,43,32,50,32,114,32,116,122])]) 110 [(ai.ak s.aa a),(ai.ak s.aa T)]) 1 [(.str [116,120]),(.str [45,110,32,112,32,45,32,107,32,97,32,45,32,115,32,98]),(.str [116,121]),(.str [45,110,32,113,32,45,32,107,32,98,32,43,32,115,32,97]),(.str [116,122]),(.str [50,32,110,32,117])]) 110 [(ai.ak s.aa a),(ai.ak s.aa S)]) 131 []) 110 [(ai.ak s.aa a),(ai.ak s.aa R)]) 1 [(.str [97]),(.str [50,32,117,32,120,32,43,32,112,32,122]),(.str [98]),(.str [50,32,117,32,121,32,43,32,113,32,122]),(.str [99]),(.str [112,32,120,32,43,32,113,32,121,32,43,32,50,32,114,32,122])]) (YJ Z a s)) (al .eql b (.int .i64 15)))) (al .eql b (.int .i64 14)))) (al .eql b (.int .i64 13)))) (al .eql b (.int .i64 12)))) (al .eql b (.int .i64 11)))) (al .eql b (.int .i64 10)))) (al .eql b (.int .i64 8)))) (al .eql b (.int .i64 9)))) (al .eql b (.int .i64 7))):=h.1.cI
theorem fI:EW Z b a c s=Z.ay c (Z.ar s (fun e s=>Z.ar s (fun f s=>Z.aB false [some f] s) 108 [(ai.ak s.aa b),(ai.ak s.aa e)]) 109 []) (Z.ah s (fun d s=>Z.ay d (EV Z b a d s) (Z.ah s (fun g s=>EV Z b a g s) (al .eql a (.int .i64 6)))) (al .eql a (.int .i64 5))):=h.1.cI
theorem Lg:I2 Z a b c d s=Z.ah s (fun e s=>tT Z a b c e s) (al .add d (.int .i64 1)):=h.1.cI
theorem Lh:I3 Z a b d c s=Z.aZ s (fun e s=>Z.aj s (fun f s=>Z.ar s (fun g s=>Z.av s (fun i s=>Z.cn s (fun j s=>I2 Z a b j c s) 1 8 (some (.l 0)) d i) 1 [g]) 145 [(ai.ak s.aa a),(ai.ak s.aa f)]) none e) 1 b c:=h.1.cI
theorem Li:I4 Z a s=Z.aB false [some a] s:=h.1.cI
theorem wI:tT Z d a b c s=Z.aY s (fun e s=>Z.ah s (fun f s=>Z.ay f (I3 Z d a b c s) (I4 Z b s)) (al .lss c e)) false a:=h.1.kr
theorem Lj:tU Z a b c s=Z.ah s (fun d s=>tV Z a b d s) (al .add c (.int .i64 2)):=h.1.cI
theorem Lk:I5 Z a b c s=Z.ah s (fun d s=>Z.aZ s (fun e s=>Z.aj s (fun f s=>Z.ar s (fun g s=>Z.aZ s (fun i s=>Z.aj s (fun j s=>Z.ar s (fun m s=>tU Z a b c s) 107 [(ai.ak s.aa a),(ai.ak s.aa j),(ai.ak s.aa g)]) none i) 1 b c) 145 [(ai.ak s.aa a),(ai.ak s.aa f)]) none e) 1 b d) (al .add c (.int .i64 1)):=h.1.cI
theorem Ll:I6 Z a b c s=Z.ah s (fun e s=>Z.aZ s (fun f s=>Z.aj s (fun g s=>Z.db s (fun i s=>Z.ah s (fun j s=>Z.ay j (Z.ah s (fun m s=>Z.aZ s (fun o s=>Z.aj s (fun p s=>Z.nf p (some (.int .i64 1)) none s (fun q s=>Z.ar s (fun r s=>Z.ar s (fun d s=>Z.aE s (fun t s=>Z.ag s (fun u s=>Z.ag s (fun w s=>Z.aj s (fun x s=>Z.av s (fun y s=>Z.cn s (fun z s=>Z.aE s (fun A s=>Z.ag s (fun B s=>Z.ag s (fun C s=>Z.a6 s (fun H s=>Z.aZ s (fun D s=>Z.aj s (fun E s=>Z.ar s (fun F s=>tU Z a b c s) 107 [(ai.ak s.aa a),(ai.ak s.aa E),(ai.ak s.aa d)]) none D) 1 b c) 1 C (ai.ak s.aa z)) 3 B) 0 A) a) 1 8 (B4 a) x y) 1 [d]) none w) 3 u) 0 t) a) 146 [(ai.ak s.aa a),(ai.ak s.aa (.int .i64 6)),(ai.ak s.aa r),(ai.ak s.aa (.int .i64 0))]) 145 [(ai.ak s.aa a),(ai.ak s.aa q)])) none o) 1 b m) (al .add c (.int .i64 1))) (I5 Z a b c s)) (al .eql i (.int .u8 33))) g (.int .i64 0)) none f) 1 b e) (al .add c (.int .i64 1)):=h.1.cI
theorem wJ:tV Z c a b s=Z.ah s (fun d s=>Z.aY s (fun e s=>Z.ah s (fun f s=>Z.ay f (I6 Z c a b s) (Z.aB false [] s)) (al .lss d e)) false a) (al .add b (.int .i64 1)):=h.1.kr
theorem Lm:zP Z a b c s=Z.ah s (fun d s=>tX Z a b d s) (al .add c (.int .i64 1)):=h.1.cI
theorem Ln:zQ Z b d c s=Z.ah s (fun e s=>Z.bm s (fun f s=>Z.av s (fun g s=>Z.kh s (fun a s=>Z.ah s (fun i s=>Z.ah s (fun j s=>Z.ah s (fun m s=>Z.ah s (fun o s=>Z.ah s (fun p s=>Z.ah s (fun q s=>Z.ah s (fun r s=>Z.ah s (fun t s=>Z.ah s (fun u s=>Z.ah s (fun w s=>Z.ah s (fun x s=>Z.ah s (fun y s=>Z.ah s (fun z s=>Z.ah s (fun A s=>Z.ah s (fun B s=>Z.ah s (fun C s=>Z.av s (fun D s=>Z.ar s (fun E s=>zP Z b d c s) 110 [(ai.ak s.aa b),(ai.ak s.aa D)]) 1 [i,p,q,u,w,z,A,C]) (al .add B (.str [94,50]))) (al .add (.str [122]) a)) (al .add (.str [104]) a)) (al .add y a)) (al .add x (.str [32,122]))) (al .add (.str [121]) a)) (al .add (.str [103]) a)) (al .add t a)) (al .add r (.str [32,122]))) (al .add (.str [120]) a)) (al .add (.str [102]) a)) (al .add o (.str [94,50]))) (al .add m a)) (al .add j (.str [94,50,32,43,32,121]))) (al .add (.str [120]) a)) (al .add (.str [115]) a)) g) 1 [f]) .u8 e) (al .add (.int .i64 48) c):=h.1.cI
theorem wK:tX Z c a b s=Z.ah s (fun d s=>Z.ay d (zQ Z c a b s) (Z.aB false [] s)) (al .leq b a):=h.1.kr
theorem Lo:I7 Z a s=Z.av s (fun b s=>Z.ar s (fun e s=>Z.av s (fun c s=>Z.ar s (fun d s=>Z.aB false [some d] s) 108 [(ai.ak s.aa a),(ai.ak s.aa c)]) 1 [(.str [45,112,32,97,122,32,109,32,43,32,107,32,100,120,32,45,32,50,32,116,32,100,121]),(.str [45,113,32,97,122,32,109,32,43,32,50,32,116,32,100,120,32,43,32,107,32,100,121]),(.str [50,32,117,32,97,122,32,109])]) 110 [(ai.ak s.aa a),(ai.ak s.aa b)]) 1 [(.str [109]),(.str [49,32,43,32,116,94,50]),(.str [107]),(.str [49,32,45,32,116,94,50]),(.str [100,120]),(.str [50,32,117,32,97,120,32,43,32,112,32,97,122]),(.str [100,121]),(.str [50,32,117,32,97,121,32,43,32,113,32,97,122])]:=h.1.cI
theorem Lp:I8 Z a b s=Z.ar s (fun c s=>Z.ar s (fun d s=>oH Z a d s) 146 [(ai.ak s.aa a),(ai.ak s.aa (.int .i64 4)),(ai.ak s.aa b),(ai.ak s.aa c)]) 188 [(ai.ak s.aa a)]:=h.1.cI
theorem wL:zR Z a b s=Z.ar s (fun c s=>Z.ah s (fun d s=>Z.ay d (Z.aB false [some b] s) (I8 Z a b s)) (iN .not c)) 187 [(ai.ak s.aa a),(ai.ak s.aa (.int .u8 45))]:=h.1.cI
theorem Lq:oH Z a b s=Z.ar s (fun c s=>Z.ay c (Z.ar s (fun d s=>Z.ar s (fun e s=>oH Z a e s) 146 [(ai.ak s.aa a),(ai.ak s.aa (.int .i64 3)),(ai.ak s.aa b),(ai.ak s.aa d)]) 188 [(ai.ak s.aa a)]) (zR Z a b s)) 187 [(ai.ak s.aa a),(ai.ak s.aa (.int .u8 43))]:=h.1.kr
theorem wM:zS Z a b s=oH Z a b s:=h.1.cI
theorem wN:I9 Z s=Z.aB false [some (.bool false)] s:=h.1.cI
theorem Lr:zT Z a b s=Z.ar s (fun c s=>Z.ar s (fun d s=>tY Z a d s) 146 [(ai.ak s.aa a),(ai.ak s.aa (.int .i64 5)),(ai.ak s.aa b),(ai.ak s.aa c)]) 203 [(ai.ak s.aa a)]:=h.1.cI
theorem Ls:tY Z a e s=Z.ar s (fun ab s=>Z.aE s (fun f s=>Z.ag s (fun g s=>Z.aj s (fun i s=>Z.aE s (fun j s=>Z.ag s (fun m s=>Z.aj s (fun o s=>Z.aY s (fun p s=>Z.ah s (fun b s=>Z.ae b false (fun k=>k a s) s (fun q s=>Z.ae b false (fun k=>Z.aE s k q) s (fun r s=>Z.ae b false (fun k=>Z.ag s k 6 r) s (fun t s=>Z.ae b false (fun k=>Z.aj s k none t) s (fun u s=>Z.ae b false (fun k=>k a s) s (fun w s=>Z.ae b false (fun k=>Z.aE s k w) s (fun x s=>Z.ae b false (fun k=>Z.ag s k 7 x) s (fun y s=>Z.ae b false (fun k=>Z.aj s k none y) s (fun z s=>Z.ae b false (fun k=>Z.db s k u z) s (fun A s=>Z.ae b false (fun k=>Z.ah s k (al .eql A (.int .u8 43))) s (fun B s=>Z.a2 s (fun c s=>Z.ae c false (fun k=>k a s) s (fun C s=>Z.ae c false (fun k=>Z.aE s k C) s (fun D s=>Z.ae c false (fun k=>Z.ag s k 6 D) s (fun E s=>Z.ae c false (fun k=>Z.aj s k none E) s (fun F s=>Z.ae c false (fun k=>k a s) s (fun H s=>Z.ae c false (fun k=>Z.aE s k H) s (fun I s=>Z.ae c false (fun k=>Z.ag s k 7 I) s (fun J s=>Z.ae c false (fun k=>Z.aj s k none J) s (fun K s=>Z.ae c false (fun k=>Z.db s k F K) s (fun L s=>Z.ae c false (fun k=>Z.ah s k (al .eql L (.int .u8 45))) s (fun M s=>Z.a2 s (fun d s=>Z.ae d false (fun k=>k a s) s (fun N s=>Z.ae d false (fun k=>Z.aE s k N) s (fun O s=>Z.ae d false (fun k=>Z.ag s k 6 O) s (fun P s=>Z.ae d false (fun k=>Z.aj s k none P) s (fun Q s=>Z.ae d false (fun k=>k a s) s (fun R s=>Z.ae d false (fun k=>Z.aE s k R) s (fun S s=>Z.ae d false (fun k=>Z.ag s k 7 S) s (fun T s=>Z.ae d false (fun k=>Z.aj s k none T) s (fun U s=>Z.ae d false (fun k=>Z.db s k Q U) s (fun V s=>Z.ae d false (fun k=>Z.ah s k (al .eql V (.int .u8 41))) s (fun W s=>Z.a2 s (fun Y s=>Z.ay Y (Z.aB false [some e] s) (zT Z a e s)) d (.bool true) W))))))))))) c (.bool true) M))))))))))) b (.bool true) B))))))))))) (al .eql i p)) true o) none m) 6 j) a) none g) 7 f) a) 202 [(ai.ak s.aa a)]:=h.1.kr
theorem Lt:Ja Z a s=Z.aE s (fun b s=>Z.ag s (fun c s=>Z.aj s (fun d s=>Z.ah s (fun e s=>Z.aE s (fun f s=>Z.ag s (fun g s=>Z.a6 s (fun r s=>tZ Z a s) 1 g (ai.ak s.aa e)) 7 f) a) (al .add d (.int .i64 1))) none c) 7 b) a:=h.1.cI
theorem qk:tZ Z b s=Z.aE s (fun c s=>Z.ag s (fun d s=>Z.aj s (fun e s=>Z.aE s (fun f s=>Z.ag s (fun g s=>Z.aj s (fun i s=>Z.aY s (fun j s=>Z.ah s (fun a s=>Z.ae a true (fun k=>k b s) s (fun m s=>Z.ae a true (fun k=>Z.aE s k m) s (fun o s=>Z.ae a true (fun k=>Z.ag s k 6 o) s (fun p s=>Z.ae a true (fun k=>Z.aj s k none p) s (fun q s=>Z.ae a true (fun k=>k b s) s (fun r s=>Z.ae a true (fun k=>Z.aE s k r) s (fun t s=>Z.ae a true (fun k=>Z.ag s k 7 t) s (fun u s=>Z.ae a true (fun k=>Z.aj s k none u) s (fun w s=>Z.ae a true (fun k=>Z.db s k q w) s (fun x s=>Z.ae a true (fun k=>Z.ah s k (al .eql x (.int .u8 32))) s (fun y s=>Z.a2 s (fun z s=>Z.ay z (Ja Z b s) (Z.aB false [] s)) a y (.bool false)))))))))))) (al .lss e j)) true i) none g) 6 f) b) none d) 7 c) b:=h.1.kr
theorem ql:zU Z a s=Z.aB false [some a] s:=h.1.cI
theorem Lu:zV Z a b s=Z.aE s (fun c s=>Z.ag s (fun d s=>Z.aj s (fun e s=>Z.ah s (fun f s=>Z.aE s (fun g s=>Z.ag s (fun i s=>Z.a6 s (fun r s=>qd Z a b s) 1 i (ai.ak s.aa f)) 7 g) a) (al .add e (.int .i64 1))) none d) 7 c) a:=h.1.cI
theorem Lv:Jb Z a b s=Z.ar s (fun c s=>Z.aB false [some c] s) 208 [(ai.ak s.aa a),(ai.ak s.aa b)]:=h.1.cI
theorem Lw:qc Z a d s=Z.aE s (fun e s=>Z.ag s (fun f s=>Z.aj s (fun g s=>Z.aE s (fun i s=>Z.ag s (fun j s=>Z.aj s (fun m s=>Z.nf g (some d) (some m) s (fun b s=>Z.db s (fun o s=>Z.ah s (fun c s=>Z.ae c true (fun k=>k b s) s (fun p s=>Z.ae c true (fun k=>Z.db s k p (.int .i64 0)) s (fun q s=>Z.ae c true (fun k=>Z.ah s k (al .leq q (.int .u8 57))) s (fun r s=>Z.a2 s (fun t s=>Z.ay t (Z.db s (fun u s=>Z.ah s (fun w s=>Z.bm s (fun x s=>Z.ar s (fun y s=>Z.aB false [some y] s) 146 [(ai.ak s.aa a),(ai.ak s.aa (.int .i64 2)),(ai.ak s.aa x),(ai.ak s.aa (.int .i64 0))]) .i64 w) (al .sub u (.int .u8 48))) b (.int .i64 0)) (Jb Z a b s)) c r (.bool false))))) (al .geq o (.int .u8 48))) b (.int .i64 0))) none j) 7 i) a) none f) 6 e) a:=h.1.cI
theorem wO:qd Z b f s=Z.aE s (fun g s=>Z.ag s (fun i s=>Z.aj s (fun j s=>Z.aE s (fun m s=>Z.ag s (fun o s=>Z.aj s (fun p s=>Z.aY s (fun q s=>Z.ah s (fun a s=>Z.ae a true (fun k=>k b s) s (fun r s=>Z.ae a true (fun k=>Z.aE s k r) s (fun t s=>Z.ae a true (fun k=>Z.ag s k 6 t) s (fun u s=>Z.ae a true (fun k=>Z.aj s k none u) s (fun w s=>Z.ae a true (fun k=>k b s) s (fun x s=>Z.ae a true (fun k=>Z.aE s k x) s (fun y s=>Z.ae a true (fun k=>Z.ag s k 7 y) s (fun z s=>Z.ae a true (fun k=>Z.aj s k none z) s (fun A s=>Z.ae a true (fun k=>Z.db s k w A) s (fun B s=>Z.ae a true (fun k=>Z.ah s k (al .geq B (.int .u8 97))) s (fun C s=>Z.ae a true (fun k=>k C s) s (fun d s=>Z.ae d true (fun k=>k b s) s (fun D s=>Z.ae d true (fun k=>Z.aE s k D) s (fun E s=>Z.ae d true (fun k=>Z.ag s k 6 E) s (fun F s=>Z.ae d true (fun k=>Z.aj s k none F) s (fun H s=>Z.ae d true (fun k=>k b s) s (fun I s=>Z.ae d true (fun k=>Z.aE s k I) s (fun J s=>Z.ae d true (fun k=>Z.ag s k 7 J) s (fun K s=>Z.ae d true (fun k=>Z.aj s k none K) s (fun L s=>Z.ae d true (fun k=>Z.db s k H L) s (fun M s=>Z.ae d true (fun k=>Z.ah s k (al .leq M (.int .u8 122))) s (fun N s=>Z.ae a true (fun k=>Z.a2 s k d N (.bool false)) s (fun O s=>Z.ae a true (fun k=>k O s) s (fun c s=>Z.ae c false (fun k=>k b s) s (fun P s=>Z.ae c false (fun k=>Z.aE s k P) s (fun Q s=>Z.ae c false (fun k=>Z.ag s k 6 Q) s (fun R s=>Z.ae c false (fun k=>Z.aj s k none R) s (fun S s=>Z.ae c false (fun k=>k b s) s (fun T s=>Z.ae c false (fun k=>Z.aE s k T) s (fun U s=>Z.ae c false (fun k=>Z.ag s k 7 U) s (fun V s=>Z.ae c false (fun k=>Z.aj s k none V) s (fun W s=>Z.ae c false (fun k=>Z.db s k S W) s (fun Y s=>Z.ae c false (fun k=>Z.ah s k (al .geq Y (.int .u8 48))) s (fun aa s=>Z.ae c false (fun k=>k aa s) s (fun e s=>Z.ae e true (fun k=>k b s) s (fun ab s=>Z.ae e true (fun k=>Z.aE s k ab) s (fun ac s=>Z.ae e true (fun k=>Z.ag s k 6 ac) s (fun ad s=>Z.ae e true (fun k=>Z.aj s k none ad) s (fun af s=>Z.ae e true (fun k=>k b s) s (fun ai s=>Z.ae e true (fun k=>Z.aE s k ai) s (fun ak s=>Z.ae e true (fun k=>Z.ag s k 7 ak) s (fun am s=>Z.ae e true (fun k=>Z.aj s k none am) s (fun an s=>Z.ae e true (fun k=>Z.db s k af an) s (fun ao s=>Z.ae e true (fun k=>Z.ah s k (al .leq ao (.int .u8 57))) s (fun ap s=>Z.ae c false (fun k=>Z.a2 s k e ap (.bool false)) s (fun aq s=>Z.ae a true (fun k=>Z.a2 s k c (.bool true) aq) s (fun ar s=>Z.a2 s (fun as s=>Z.ay as (zV Z b f s) (qc Z b f s)) a ar (.bool false)))))))))))))))))))))))))))))))))))))))))))))))) (al .lss j q)) true p) none o) 6 m) b) none i) 7 g) b:=h.1.kr
theorem Lx:Jc Z a s=Z.aE s (fun b s=>Z.ag s (fun c s=>Z.aj s (fun d s=>qd Z a d s) none c) 7 b) a:=h.1.cI
theorem Ly:Jd Z a b c s=Z.ah s (fun d s=>ua Z a b d s) (al .sub c (.int .i64 1)):=h.1.cI
theorem Lz:Je Z a c b s=Z.aE s (fun d s=>Z.ag s (fun e s=>Z.aj s (fun f s=>Z.aZ s (fun g s=>Z.aj s (fun i s=>Z.ah s (fun j s=>Z.ay j (Z.aE s (fun m s=>Z.ag s (fun o s=>Z.aj s (fun p s=>Z.aZ s (fun q s=>Z.aj s (fun r s=>Z.aB false [some r] s) none q) 1 p b) none o) 5 m) a) (Jd Z a c b s)) (al .eql i c)) none g) 1 f b) none e) 4 d) a:=h.1.cI
theorem LA:Jf Z s=Z.aB false [some (.int .i64 0)] s:=h.1.cI
theorem wP:ua Z b c a s=Z.ah s (fun d s=>Z.ay d (Je Z b c a s) (Jf Z s)) (al .geq a (.int .i64 0)):=h.1.kr
theorem O4:YY Z a b c s=Z.ah s (fun d s=>xO Z a b d s) (al .add c (.int .i64 1)):=h.1.cI
theorem O5:YZ Z b c a s=Z.ag s (fun d s=>Z.aj s (fun e s=>Z.aZ s (fun f s=>Z.aj s (fun g s=>Z.ag s (fun i s=>Z.aj s (fun j s=>Z.aZ s (fun m s=>Z.aj s (fun o s=>Z.ah s (fun p s=>Z.ay p (Z.aB false [some (.bool false)] s) (YY Z b c a s)) ((pA (.agg [.int .i64,.int .i64,.int .i64]) g o).map fun b=>.bool (bif true then !b else b))) (some 3) m) 3 j a) none i) 1 c) (some 3) f) 3 e a) none d) 1 b:=h.1.cI
theorem O6:Y0 Z a b c s=Z.ah s (fun d s=>uc Z a b d s) (al .add c (.int .i64 1)):=h.1.cI
theorem O7:Y1 Z b c a s=Z.ag s (fun d s=>Z.aj s (fun e s=>Z.aZ s (fun f s=>Z.aj s (fun g s=>Z.ag s (fun i s=>Z.aj s (fun j s=>Z.aZ s (fun m s=>Z.aj s (fun o s=>Z.ar s (fun p s=>Z.ah s (fun q s=>Z.ay q (Z.aB false [some (.bool false)] s) (Y0 Z b c a s)) (iN .not p)) 32 [(ai.ak s.aa g),(ai.ak s.aa o)]) none m) 1 j a) none i) 2 c) none f) 1 e a) none d) 2 b:=h.1.cI
theorem O8:Y2 Z a b s=Z.ag s (fun c s=>Z.aj s (fun d s=>Z.ag s (fun e s=>Z.aj s (fun f s=>Z.ar s (fun g s=>Z.aB false [some g] s) 32 [(ai.ak s.aa d),(ai.ak s.aa f)]) none e) 3 b) none c) 3 a:=h.1.cI
theorem Aw:uc Z a b c s=Z.ag s (fun d s=>Z.aj s (fun e s=>Z.aY s (fun f s=>Z.ah s (fun g s=>Z.ay g (Y1 Z a b c s) (Y2 Z a b s)) (al .lss c f)) false e) none d) 2 a:=h.1.kr
theorem O9:Y3 Z a b s=uc Z a b (.int .i64 0) s:=h.1.cI
theorem Ax:xO Z a b c s=Z.ag s (fun d s=>Z.aj s (fun e s=>Z.aY s (fun f s=>Z.ah s (fun g s=>Z.ay g (YZ Z a b c s) (Y3 Z a b s)) (al .lss c f)) false e) none d) 1 a:=h.1.kr
theorem Pa:Y4 Z a b s=xO Z a b (.int .i64 0) s:=h.1.cI
theorem Pb:Y5 Z a b c s=Z.ah s (fun d s=>xP Z a b d s) (al .add c (.int .i64 1)):=h.1.cI
theorem Pc:Y6 Z b c a s=Z.aZ s (fun d s=>Z.aj s (fun e s=>Z.aZ s (fun f s=>Z.aj s (fun g s=>Z.ah s (fun i s=>Z.ay i (Z.aB false [some (.bool false)] s) (Y5 Z b c a s)) (al .neq e g)) none f) 1 c a) none d) 1 b a:=h.1.cI
theorem Pd:Y7 Z s=Z.aB false [some (.bool true)] s:=h.1.cI
theorem Ay:xP Z a c b s=Z.aY s (fun d s=>Z.ah s (fun e s=>Z.ay e (Y6 Z a c b s) (Y7 Z s)) (al .lss b d)) false a:=h.1.kr
theorem Pe:Y8 Z a b s=xP Z a b (.int .i64 0) s:=h.1.cI
theorem Pf:Y9 Z a b c d e f g i j m s=Z.ah s (fun o s=>xR Z a b c d e f g i j o s) (al .add m (.int .i64 1)):=h.1.cI
theorem Pg:Za Z a e f b g i j c m d s=Z.aZ s (fun q s=>Z.aj s (fun o s=>Z.ar s (fun p s=>Z.bh s (fun r s=>Z.bh s (fun C s=>Z.ag s (fun t s=>Z.aj s (fun u s=>Z.aZ s (fun w s=>Z.aj s (fun x s=>Z.av s (fun y s=>Z.cn s (fun z s=>Z.av s (fun A s=>Z.jz s (fun B s=>Y9 Z a e f b g z B c m d s) 1 8 j A) 1 [r]) 1 24 (some (.l 0)) i y) 1 [x]) none w) 1 u o) none t) 2 b) 1 p) 0 p) 43 [(ai.ak s.aa a),(ai.ak s.aa o)]) none q) 1 c d:=h.1.cI
theorem Ph:xQ Z d e b f c s=Z.aY s (fun g s=>Z.ah s (fun a s=>Z.ae a true (fun k=>k c s) s (fun i s=>Z.ae a true (fun k=>Z.aZ s k 1 i (.int .i64 1)) s (fun j s=>Z.ae a true (fun k=>Z.aj s k none j) s (fun m s=>Z.ae a true (fun k=>Z.ah s k (al .eql m (.int .i64 3))) s (fun o s=>Z.a2 s (fun p s=>Z.ag s (fun q s=>Z.aj s (fun r s=>Z.ah s (fun t s=>Z.ar s (fun C s=>Z.ag s (fun u s=>Z.aj s (fun w s=>Z.iR s (fun x s=>Z.ar s (fun y s=>Z.aE s (fun z s=>Z.ag s (fun A s=>Z.aj s (fun B s=>Z.a6 s (fun H s=>Z.aB false [eF s e (some 4),some y,some (.int .i64 0)] s) 4 e (ai.ak s.aa B)) (some 4) A) 0 z) b) 45 [(ai.ak s.aa b),(ai.ak s.aa x)]) 63 [(ai.ak s.aa w),(ai.ak s.aa p)]) none u) 0 d) 44 [(ai.ak s.aa b),(ai.ak s.aa f),(ai.ak s.aa c),(ai.ak s.aa t)]) (al .eql r (.int .i64 7))) none q) 0 d) a o (.bool false)))))) (al .eql g (.int .i64 2))) false c:=h.1.cI
theorem Az:xR Z i a b j c d e m f g s=Z.ah s (fun o s=>Z.ay o (Za Z i a b j c d e m f g s) (xQ Z a b c d e s)) (al .lss g f):=h.1.kr
theorem Pj:Zb Z c a d b s=Z.aj s (fun f s=>Z.cH [.int .i64 0,.aW 3 [] .nil,.aW 1 [] .nil,.aW 1 [] .nil,.c4,.int .i64 0] [(0,4,f)] s (fun g s=>Z.hO g s (fun i s=>Z.ag s (fun j s=>Z.aj s (fun e s=>Z.aY s (fun m s=>xR Z c a d b i (.aW 1 [] .nil) (.aW 1 [] .nil) e m (.int .i64 0) s) false e) none j) 1 a))) (some 4) b:=h.1.cI
theorem Pk:Zc Z b c a d s=Z.aj s (fun f s=>Z.ar s (fun e s=>Z.ah s (fun g s=>Z.ay g (Z.cH [.int .i64 0,.aW 3 [] .nil,.aW 1 [] .nil,.aW 1 [] .nil] [] s (fun i s=>Z.a6 s (fun r s=>Z.aB false [eF s a (some 4),some (.aW 1 [] .nil),some e] s) 4 a (ai.ak s.aa i))) (Zb Z b c a d s)) (al .neq e (.int .i64 0))) 62 [(ai.ak s.aa b),(ai.ak s.aa f)]) (some 2) c:=h.1.cI
theorem Pl:Zd Z a b c d e f g i s=Z.ah s (fun j s=>xT Z a b c d e f g j s) (al .add i (.int .i64 1)):=h.1.cI
theorem Pm:xS Z a b c d e f g i j s=Z.av s (fun m s=>Z.cn s (fun o s=>Zd Z a b c d e f o i s) 1 8 (some (.l 0)) g m) 1 [j]:=h.1.cI
theorem Pn:Ze Z c a e d f i g b s=Z.ag s (fun o s=>Z.aj s (fun p s=>Z.ag s (fun q s=>Z.aj s (fun r s=>Z.aZ s (fun t s=>Z.aj s (fun u s=>Z.aZ s (fun w s=>Z.aj s (fun x s=>Z.av s (fun y s=>Z.cn s (fun j s=>Z.ag s (fun z s=>Z.aj s (fun A s=>Z.aZ s (fun B s=>Z.aj s (fun C s=>Z.ar s (fun m s=>Z.bh s (fun D s=>Z.bh s (fun I s=>Z.ag s (fun E s=>Z.aj s (fun F s=>Z.ah s (fun H s=>Z.ay H (xS Z c a e d f j g b (.int .i64 1) s) (xS Z c a e d f j g b D s)) (al .eql F (.int .i64 7))) none E) 0 a) 1 m) 0 m) 65 [(ai.ak s.aa c),(ai.ak s.aa C)]) none B) 1 A b) none z) 1 a) 1 24 (some (.l 0)) i y) 1 [x]) none w) 1 p u) none t) 1 r b) none q) 1 a) none o) 2 d:=h.1.cI
theorem Po:ud Z e d b f c s=Z.ar s (fun y s=>Z.aY s (fun g s=>Z.ah s (fun a s=>Z.ae a true (fun k=>k c s) s (fun i s=>Z.ae a true (fun k=>Z.aZ s k 1 i (.int .i64 1)) s (fun j s=>Z.ae a true (fun k=>Z.aj s k none j) s (fun m s=>Z.ae a true (fun k=>Z.ah s k (al .eql m (.int .i64 3))) s (fun o s=>Z.a2 s (fun p s=>Z.ag s (fun q s=>Z.aj s (fun r s=>Z.ar s (fun t s=>Z.aE s (fun u s=>Z.ag s (fun w s=>Z.aj s (fun x s=>Z.a6 s (fun B s=>Z.aB false [eF s d (some 4),some t,some (.int .i64 0)] s) 4 d (ai.ak s.aa x)) (some 4) w) 0 u) b) 67 [(ai.ak s.aa b),(ai.ak s.aa r),(ai.ak s.aa p)]) none q) 0 e) a o (.bool false)))))) (al .eql g (.int .i64 2))) false c) 66 [(ai.ak s.aa b),(ai.ak s.aa f),(ai.ak s.aa c)]:=h.1.cI
theorem AA:xT Z g a b i c d e f s=Z.ag s (fun j s=>Z.aj s (fun m s=>Z.aY s (fun o s=>Z.ah s (fun p s=>Z.ay p (Ze Z g a b i c d e f s) (ud Z a b c d e s)) (al .lss f o)) false m) none j) 1 a:=h.1.kr
theorem Pp:Zf Z b c d a s=Z.aj s (fun e s=>Z.cH [.int .i64 0,.aW 3 [] .nil,.aW 1 [] .nil,.aW 1 [] .nil,.aW 1 [] .nil,.aW 1 [] .nil,.str [],.int .i64 0,.int .i64 0] [(0,4,e)] s (fun f s=>Z.hO f s (fun g s=>xT Z b c d a g (.aW 1 [] .nil) (.aW 1 [] .nil) (.int .i64 0) s))) (some 4) a:=h.1.cI
theorem Pq:Zg Z b c a d s=Z.aj s (fun f s=>Z.ar s (fun e s=>Z.ah s (fun g s=>Z.ay g (Z.cH [.int .i64 0,.aW 3 [] .nil,.aW 1 [] .nil,.aW 1 [] .nil] [] s (fun i s=>Z.a6 s (fun r s=>Z.aB false [eF s a (some 4),some (.aW 1 [] .nil),some e] s) 4 a (ai.ak s.aa i))) (Zf Z b c a d s)) (al .neq e (.int .i64 0))) 64 [(ai.ak s.aa b),(ai.ak s.aa f)]) (some 2) c:=h.1.cI
theorem Pr:Zh Z a b c d e s=Z.ah s (fun f s=>xU Z a b c d f s) (al .add e (.int .i64 1)):=h.1.cI
theorem Ps:Zi Z c e f i d s=Z.aZ s (fun j s=>Z.aj s (fun g s=>Z.ah s (fun b s=>Z.ae b false (fun k=>k g s) s (fun m s=>Z.ae b false (fun k=>k c s) s (fun o s=>Z.ae b false (fun k=>Z.aY s k false o) s (fun p s=>Z.ae b false (fun k=>Z.ah s k (al .geq m p)) s (fun q s=>Z.a2 s (fun a s=>Z.ae a false (fun k=>k e s) s (fun r s=>Z.ae a false (fun k=>k d s) s (fun t s=>Z.ae a false (fun k=>Z.aZ s k 1 r t) s (fun u s=>Z.ae a false (fun k=>Z.aj s k none u) s (fun w s=>Z.ae a false (fun k=>k c s) s (fun x s=>Z.ae a false (fun k=>k g s) s (fun y s=>Z.ae a false (fun k=>Z.aZ s k 12 x y) s (fun z s=>Z.ae a false (fun k=>Z.aj s k (some 12) z) s (fun A s=>Z.ae a false (fun k=>Z.iR s k 74 [(ai.ak s.aa A)]) s (fun B s=>Z.ae a false (fun k=>Z.ar s k 103 [(ai.ak s.aa w),(ai.ak s.aa B)]) s (fun C s=>Z.ae a false (fun k=>Z.ah s k (iN .not C)) s (fun D s=>Z.a2 s (fun E s=>Z.ay E (Z.aB false [some (.int .i64 102)] s) (Zh Z c e f i d s)) a (.bool true) D)))))))))))) b (.bool true) q))))) (al .lss g (.int .i64 0))) none j) 1 f d:=h.1.cI
theorem Pt:Zj Z s=Z.aB false [some (.int .i64 0)] s:=h.1.cI
theorem AB:xU Z c d e a b s=Z.ah s (fun f s=>Z.ay f (Zi Z c d e a b s) (Zj Z s)) (al .lss b a):=h.1.kr
theorem Pu:Zk Z a b c s=Z.ag s (fun e s=>Z.aj s (fun d s=>Z.aY s (fun f s=>xU Z a c d f (.int .i64 0) s) false d) none e) 1 b:=h.1.cI
theorem Pv:Zl Z d b s=Z.ag s (fun e s=>Z.aj s (fun f s=>Z.iR s (fun c s=>Z.aY s (fun g s=>Z.ah s (fun a s=>Z.ae a false (fun k=>k c s) s (fun i s=>Z.ae a false (fun k=>Z.aY s k false i) s (fun j s=>Z.ae a false (fun k=>Z.ag s k 1 b) s (fun m s=>Z.ae a false (fun k=>Z.aj s k none m) s (fun o s=>Z.ae a false (fun k=>Z.aY s k false o) s (fun p s=>Z.ae a false (fun k=>Z.ah s k (al .neq j p)) s (fun q s=>Z.a2 s (fun r s=>Z.ay r (Z.aB false [some (.int .i64 102)] s) (Zk Z d b c s)) a (.bool true) q))))))) (al .eql g (.int .i64 0))) false c) 102 [(ai.ak s.aa f)]) none e) 0 b:=h.1.cI
theorem Pw:Zm Z a b c d s=Z.ah s (fun e s=>xV Z a b c e s) (al .add d (.int .i64 1)):=h.1.cI
theorem Px:Zn Z c e f d s=Z.ag s (fun i s=>Z.aj s (fun j s=>Z.aZ s (fun m s=>Z.aj s (fun g s=>Z.ah s (fun b s=>Z.ae b false (fun k=>k g s) s (fun o s=>Z.ae b false (fun k=>k c s) s (fun p s=>Z.ae b false (fun k=>Z.aY s k false p) s (fun q s=>Z.ae b false (fun k=>Z.ah s k (al .geq o q)) s (fun r s=>Z.a2 s (fun a s=>Z.ae a false (fun k=>k c s) s (fun t s=>Z.ae a false (fun k=>k g s) s (fun u s=>Z.ae a false (fun k=>Z.aZ s k 12 t u) s (fun w s=>Z.ae a false (fun k=>Z.ag s k 1 w) s (fun x s=>Z.ae a false (fun k=>Z.aj s k none x) s (fun y s=>Z.ae a false (fun k=>Z.iR s k 85 [(ai.ak s.aa y)]) s (fun z s=>Z.ae a false (fun k=>k f s) s (fun A s=>Z.ae a false (fun k=>k d s) s (fun B s=>Z.ae a false (fun k=>Z.aZ s k 1 A B) s (fun C s=>Z.ae a false (fun k=>Z.aj s k none C) s (fun D s=>Z.ae a false (fun k=>Z.ar s k 84 [(ai.ak s.aa z),(ai.ak s.aa D)]) s (fun E s=>Z.ae a false (fun k=>Z.ah s k (iN .not E)) s (fun F s=>Z.a2 s (fun H s=>Z.ay H (Z.aB false [some (.int .i64 102)] s) (Zm Z c e f d s)) a (.bool true) F))))))))))))) b (.bool true) r))))) (al .lss g (.int .i64 0))) none m) 1 j d) none i) 1 e:=h.1.cI
theorem Py:Zo Z s=Z.aB false [some (.int .i64 0)] s:=h.1.cI
theorem AC:xV Z c d a b s=Z.aY s (fun e s=>Z.ah s (fun f s=>Z.ay f (Zn Z c d a b s) (Zo Z s)) (al .lss b e)) false a:=h.1.kr
theorem Pz:Zp Z a b c s=xV Z a b c (.int .i64 0) s:=h.1.cI
theorem PA:Zq Z d b s=Z.ag s (fun e s=>Z.aj s (fun f s=>Z.iR s (fun c s=>Z.aY s (fun g s=>Z.ah s (fun a s=>Z.ae a false (fun k=>Z.ag s k 1 b) s (fun i s=>Z.ae a false (fun k=>Z.aj s k none i) s (fun j s=>Z.ae a false (fun k=>Z.aY s k false j) s (fun m s=>Z.ae a false (fun k=>k c s) s (fun o s=>Z.ae a false (fun k=>Z.aY s k false o) s (fun p s=>Z.ae a false (fun k=>Z.ah s k (al .neq m p)) s (fun q s=>Z.a2 s (fun r s=>Z.ay r (Z.aB false [some (.int .i64 102)] s) (Zp Z d b c s)) a (.bool true) q))))))) (al .eql g (.int .i64 0))) false c) 105 [(ai.ak s.aa f)]) none e) 0 b:=h.1.cI
theorem jD:Zr Z a s=Z.av s (fun b s=>Z.ar s (fun c s=>Z.aB false [some c] s) 108 [(ai.ak s.aa a),(ai.ak s.aa b)]) 1 [(.str [97,32,120,32,43,32,98,32,121,32,43,32,99,32,122])]:=h.1.cI
theorem PB:Zs Z a s=Z.ar s (fun d s=>Z.av s (fun b s=>Z.ar s (fun c s=>Z.aB false [some c] s) 108 [(ai.ak s.aa a),(ai.ak s.aa b)]) 1 [(.str [115,49,32,40,102,50,32,40,103,51,32,104,52,32,45,32,104,51,32,103,52,41,32,45,32,103,50,32,40,102,51,32,104,52,32,45,32,104,51,32,102,52,41,32,43,32,104,50,32,40,102,51,32,103,52,32,45,32,103,51,32,102,52,41,41,32,45,32,102,49,32,40,115,50,32,40,103,51,32,104,52,32,45,32,104,51,32,103,52,41,32,45,32,103,50,32,40,115,51,32,104,52,32,45,32,104,51,32,115,52,41,32,43,32,104,50,32,40,115,51,32,103,52,32,45,32,103,51,32,115,52,41,41,32,43,32,103,49,32,40,115,50,32,40,102,51,32,104,52,32,45,32,104,51,32,102,52,41,32,45,32,102,50,32,40,115,51,32,104,52,32,45,32,104,51,32,115,52,41,32,43,32,104,50,32,40,115,51,32,102,52,32,45,32,102,51,32,115,52,41,41,32,45,32,104,49,32,40,115,50,32,40,102,51,32,103,52,32,45,32,103,51,32,102,52,41,32,45,32,102,50,32,40,115,51,32,103,52,32,45,32,103,51,32,115,52,41,32,43,32,103,50,32,40,115,51,32,102,52,32,45,32,102,51,32,115,52,41,41])]) 111 [(ai.ak s.aa a),(ai.ak s.aa (.int .i64 4))]:=h.1.cI
theorem jE:EY Z a b s=Z.ay b (Z.av s (fun c s=>Z.ar s (fun d s=>Z.aB false [some d] s) 108 [(ai.ak s.aa a),(ai.ak s.aa c)]) 1 [(.str [120,49,32,40,121,50,32,122,51,32,45,32,122,50,32,121,51,41,32,45,32,121,49,32,40,120,50,32,122,51,32,45,32,122,50,32,120,51,41,32,43,32,122,49,32,40,120,50,32,121,51,32,45,32,121,50,32,120,51,41])]) (Zs Z a s):=h.1.cI
theorem LB:Jg Z s=Z.aB false [some (.aW 1 [] .nil)] s:=h.1.cI
theorem LC:z2 Z a s=Z.ay a (Z.av s (fun b s=>Z.ar s (fun c s=>Z.aB false [some c] s) 144 [(ai.ak s.aa b),(ai.ak s.aa (.int .i64 4))]) 1 [(.int .i64 1)]) (Jg Z s):=h.1.cI
theorem LD:z3 Z a b s=Z.ay b (Z.av s (fun d s=>Z.ar s (fun e s=>Z.aB false [some e] s) 144 [(ai.ak s.aa d),(ai.ak s.aa (.int .i64 2))]) 1 [(.int .i64 2)]) (Z.ah s (fun f s=>Z.ay f (Z.av s (fun g s=>Z.ar s (fun i s=>Z.aB false [some i] s) 144 [(ai.ak s.aa g),(ai.ak s.aa (.int .i64 3))]) 1 [(.int .i64 2)]) (Z.ah s (fun j s=>Z.ay j (Z.av s (fun m s=>Z.ar s (fun o s=>Z.aB false [some o] s) 144 [(ai.ak s.aa m),(ai.ak s.aa (.int .i64 2))]) 1 [(.int .i64 1)]) (Z.ah s (fun p s=>Z.ay p (Z.av s (fun q s=>Z.ar s (fun r s=>Z.aB false [some r] s) 144 [(ai.ak s.aa q),(ai.ak s.aa (.int .i64 3))]) 1 [(.int .i64 1)]) (Z.ah s (fun c s=>Z.ay c (z2 Z c s) (Z.ah s (fun t s=>z2 Z t s) (al .eql a (.int .i64 8)))) (al .eql a (.int .i64 5)))) (al .eql a (.int .i64 6)))) (al .eql a (.int .i64 1)))) (al .eql a (.int .i64 7))):=h.1.cI
theorem LF:Jh Z s=Z.aB false [some (.aW 1 [] .nil)] s:=h.1.cI
theorem LG:z4 Z a b s=Z.ay b (Z.av s (fun c s=>Z.aB false [some c] s) 1 [(.int .i64 1),(.int .i64 1),(.int .i64 1),(.int .i64 1)]) (Z.ah s (fun d s=>Z.ay d (Z.av s (fun e s=>Z.aB false [some e] s) 1 [(.int .i64 1),(.int .i64 1),(.int .i64 1)]) (Z.ah s (fun f s=>Z.ay f (Z.av s (fun g s=>Z.aB false [some g] s) 1 [(.int .i64 2),(.int .i64 2),(.int .i64 2)]) (Jh Z s)) (al .eql a (.int .i64 7)))) (al .eql a (.int .i64 6))):=h.1.cI
theorem LH:z5 Z a b s=Z.ay b (Z.av s (fun d s=>Z.aB false [some d] s) 1 [(.int .i64 2),(.int .i64 2)]) (Z.ah s (fun c s=>Z.ay c (z4 Z a c s) (Z.ah s (fun e s=>z4 Z a e s) (al .eql a (.int .i64 8)))) (al .eql a (.int .i64 5))):=h.1.cI
end
variable(G:Nat→ai)(X:Nat→List ai→aq→ao)
theorem agt:f189 Z a b s=Z.aY s (fun c s=>Z.aY s (fun d s=>Z.ah s (fun e s=>Z.ay e (Z.aY s (fun f s=>Z.aY s (fun g s=>Z.ah s (fun i s=>Z.ay i (Z.aB false [some (.int .i64 (-1))] s) (Ho Z s)) (al .lss f g)) false b) false a) (Ht Z a b s)) (al .neq c d)) false b) false a:=by kernel_rfl
theorem PC:az au G X 189 [a,b] s=f189 (aH au G X) a b s.af:=aR au G X (fn:=y8)
theorem agu:f190 Z a b s=Z.aY s (fun c s=>Z.jf s (fun d s=>Z.aY s (fun e s=>sL Z a b d (.int .u64 0) e (.int .i64 0) s) false a) [.int .u32 0] 4 c c) false a:=by kernel_rfl
theorem PD:az au G X 190 [a,b] s=f190 (aH au G X) a b s.af:=aR au G X (fn:=Hc)
theorem agv:f191 Z a s=Z.aY s (fun b s=>sN Z a b s) false a:=by kernel_rfl
theorem PE:az au G X 191 [a] s=f191 (aH au G X) a s.af:=aR au G X (fn:=Hd)
theorem agw:f192 Z a s=Z.ar s (fun b s=>Z.ah s (fun c s=>Z.aB false [some c] s) (al .sub (.int .i64 32) b)) 204 [(ai.ak s.aa a)]:=by kernel_rfl
theorem PF:az au G X 192 [a] s=f192 (aH au G X) a s.af:=aR au G X (fn:=aeO)
theorem agx:f193 Z a b s=Z.aY s (fun d s=>Z.ah s (fun e s=>Z.ah s (fun f s=>Z.ah s (fun c s=>Z.jf s (fun g s=>Z.aY s (fun i s=>sP Z a b g i (.int .i64 0) s) false a) [.int .u32 0] 4 c c) (al .add f (.int .i64 1))) (al .add d e)) (al .quo b (.int .i64 32))) false a:=by kernel_rfl
theorem PG:az au G X 193 [a,b] s=f193 (aH au G X) a b s.af:=aR au G X (fn:=He)
theorem agy:f194 Z b c a d s=Z.aY s (fun e s=>p3 Z b c a d (.int .u64 0) (.int .u64 0) e (.int .i64 0) s) false a:=by kernel_rfl
theorem PH:az au G X 194 [a,b,c,d] s=f194 (aH au G X) a b c d s.af:=aR au G X (fn:=v3)
theorem agz:f195 Z c d a s=Z.aY s (fun b s=>Z.ah s (fun f s=>Z.aZ s (fun g s=>Z.aj s (fun i s=>Z.bm s (fun j s=>Z.ah s (fun m s=>Z.ah s (fun o s=>Z.ah s (fun p s=>Z.aZ s (fun q s=>Z.aj s (fun r s=>Z.bm s (fun t s=>Z.ah s (fun e s=>Z.ah s (fun u s=>Z.aZ s (fun w s=>Z.aj s (fun x s=>Z.bm s (fun y s=>Z.ah s (fun z s=>Z.ah s (fun A s=>Z.aZ s (fun B s=>Z.aj s (fun C s=>Z.bm s (fun D s=>Z.ah s (fun E s=>sS Z c d a b z E s) (al .rem e D)) .u64 C) none B) 1 a A) (al .sub b (.int .i64 1))) (al .quo e y)) .u64 x) none w) 1 a u) (al .sub b (.int .i64 1))) (al .or m t)) .u64 r) none q) 1 c p) (al .sub o (.int .i64 1))) (al .add d b)) (al .shl j (.int .u64 32))) .u64 i) none g) 1 c f) (al .add d b)) false a:=by kernel_rfl
theorem PI:az au G X 195 [a,b,c] s=f195 (aH au G X) a b c s.af:=aR au G X (fn:=Hk)
theorem agA:f196 Z a b s=Z.ah s (fun c s=>Z.aY s (fun d s=>Z.ah s (fun e s=>Z.ay e (Z.aY s (fun f s=>Z.ah s (fun g s=>Z.aB false [some (.aW 1 [] .nil),some g] s) (al .gtr f (.int .i64 0))) false a) (HM Z a b c s)) (al .geq c d)) false a) (al .quo b (.int .i64 32)):=by kernel_rfl
theorem PJ:az au G X 196 [a,b] s=f196 (aH au G X) a b s.af:=aR au G X (fn:=CF)
theorem agB:f204 Z a s=Z.ah s (fun b s=>Z.ay b (Z.ah s (fun c s=>oD Z c (.int .i64 16) s) (al .shr a (.int .u64 16))) (oD Z a (.int .i64 0) s)) (al .geq a (.int .u32 65536)):=by kernel_rfl
theorem PK:az au G X 204 [a] s=f204 (aH au G X) a s.af:=aR au G X (fn:=Hm)
theorem agC:f133 Z a s=Z.dn a s (fun b s=>Z.ag s (fun c s=>Z.aj s (fun d s=>Z.aY s (fun e s=>Z.ah s (fun f s=>Z.ay f (Z.aB false [some (.bool false)] s) (HO Z b s)) (al .gtr e (.int .i64 128))) false d) none c) 1 b):=by kernel_rfl
theorem PL:az au G X 133 [a] s=f133 (aH au G X) a s.af:=aR au G X (fn:=Gv)
theorem agD:f147 Z b s=Z.dn b s (fun a s=>Z.ag s (fun d s=>Z.aj s (fun e s=>Z.aY s (fun c s=>Z.ah s (fun f s=>Z.ay f (Z.ag s (fun g s=>Z.aj s (fun i s=>Z.ah s (fun j s=>Z.aB false [some j] s) (iN .not i)) none g) 0 a) (HP Z a c s)) (al .eql c (.int .i64 0))) false e) none d) 1 a):=by kernel_rfl
theorem PM:az au G X 147 [a] s=f147 (aH au G X) a s.af:=aR au G X (fn:=Uo)
theorem agE:f135 Z c d s=Z.dn c s (fun e s=>Z.dn d s (fun f s=>Z.eX (.ref (.l s.own.length) 0) (s.new (.cells [.bool false,.aW 1 [] .nil])) (fun b s=>Z.aj s (fun g s=>Z.ar s (fun i s=>Z.ah s (fun a s=>Z.ae a false (fun k=>Z.aj s k (some 2) f) s (fun j s=>Z.ae a false (fun k=>Z.ar s k 133 [(ai.ak s.aa j)]) s (fun m s=>Z.ae a false (fun k=>Z.ah s k (iN .not m)) s (fun o s=>Z.a2 s (fun p s=>Z.ay p (Z.cH [.bool false,.aW 1 [] .nil] [] s (fun q s=>Z.a6 s (fun h s=>Z.aB false [eF s b (some 2),some (.int .i64 1)] s) 2 b (ai.ak s.aa q))) (HV Z e f b s)) a (.bool true) o)))) (iN .not i)) 133 [(ai.ak s.aa g)]) (some 2) e))):=by kernel_rfl
theorem PN:az au G X 135 [a,b] s=f135 (aH au G X) a b s.af:=aR au G X (fn:=sG)
theorem agF:f150 Z b c s=Z.dn b s (fun d s=>Z.dn c s (fun e s=>Z.eX (.ref (.l s.own.length) 0) (s.new (.cells [.bool false,.aW 1 [] .nil])) (fun a s=>Z.aj s (fun f s=>Z.aj s (fun g s=>Z.ar s (fun i s=>Z.ah s (fun j s=>Z.ay j (Z.cH [.bool false,.aW 1 [] .nil] [] s (fun m s=>Z.a6 s (fun h s=>Z.aB false [eF s a (some 2),some (.int .i64 1)] s) 2 a (ai.ak s.aa m))) (H0 Z d e a s)) (iN .not i)) 169 [(ai.ak s.aa f),(ai.ak s.aa g)]) (some 2) e) (some 2) d))):=by kernel_rfl
theorem PO:az au G X 150 [a,b] s=f150 (aH au G X) a b s.af:=aR au G X (fn:=sH)
theorem agG:f155 Z b c s=Z.eX (.ref (.l s.own.length) 0) (s.new (.cells [.bool false,.aW 1 [] .nil])) (fun a s=>Z.ar s (fun d s=>Z.aY s (fun e s=>Z.ah s (fun f s=>Z.ay f (Z.cH [.bool false,.aW 1 [] .nil] [] s (fun g s=>Z.a6 s (fun h s=>Z.aB false [eF s a (some 2),some (.int .i64 2)] s) 2 a (ai.ak s.aa g))) (H2 Z b d a s)) (al .gtr e (.int .i64 128))) false d) 178 [(ai.ak s.aa c)]):=by kernel_rfl
theorem PP:az au G X 155 [a,b] s=f155 (aH au G X) a b s.af:=aR au G X (fn:=UO)
theorem agH:f156 Z a b s=Z.aY s (fun d s=>Z.aY s (fun e s=>Z.sC s (fun f s=>Z.ah s (fun c s=>Z.jf s (fun g s=>s6 Z a b g (.int .u64 0) (.int .i64 0) s) [.int .u32 0] 4 c c) (al .add f (.int .i64 1))) max2 [(ai.ak s.aa d),(ai.ak s.aa e)]) false b) false a:=by kernel_rfl
theorem PQ:az au G X 156 [a,b] s=f156 (aH au G X) a b s.af:=aR au G X (fn:=GP)
theorem agI:f157 Z a b s=Z.ah s (fun c s=>Z.aY s (fun d s=>Z.ah s (fun e s=>Z.ay e (Z.aB false [some (.int .u32 0)] s) (H6 Z a b s)) (al .geq c d)) false a) (al .quo b (.int .i64 32)):=by kernel_rfl
theorem PR:az au G X 157 [a,b] s=f157 (aH au G X) a b s.af:=aR au G X (fn:=UY)
theorem agJ:f158 Z a s=s8 Z a (.int .i64 0) s:=by kernel_rfl
theorem PS:az au G X 158 [a] s=f158 (aH au G X) a s.af:=aR au G X (fn:=GQ)
theorem agK:f159 Z a b s=Z.aY s (fun c s=>Z.aY s (fun d s=>Z.ah s (fun e s=>Z.ay e (Z.aY s (fun f s=>Z.aY s (fun g s=>Z.ah s (fun i s=>Z.ay i (Z.aB false [some (.int .i64 (-1))] s) (H9 Z s)) (al .lss f g)) false b) false a) (If Z a b s)) (al .neq c d)) false b) false a:=by kernel_rfl
theorem PT:az au G X 159 [a,b] s=f159 (aH au G X) a b s.af:=aR au G X (fn:=y5)
theorem agL:f160 Z a b s=Z.aY s (fun c s=>Z.jf s (fun d s=>td Z a b d (.int .u64 0) (.int .i64 0) s) [.int .u32 0] 4 c c) false a:=by kernel_rfl
theorem PU:az au G X 160 [a,b] s=f160 (aH au G X) a b s.af:=aR au G X (fn:=GW)
theorem agM:f161 Z a b s=Z.aY s (fun d s=>Z.ah s (fun e s=>Z.ah s (fun f s=>Z.ah s (fun c s=>Z.jf s (fun g s=>tf Z a b g (.int .i64 0) s) [.int .u32 0] 4 c c) (al .add f (.int .i64 1))) (al .add d e)) (al .quo b (.int .i64 32))) false a:=by kernel_rfl
theorem PV:az au G X 161 [a,b] s=f161 (aH au G X) a b s.af:=aR au G X (fn:=GX)
theorem agN:f169 Z b c s=Z.dn b s (fun d s=>Z.dn c s (fun e s=>Z.aj s (fun f s=>Z.ar s (fun a s=>Z.ae a true (fun k=>Z.aj s k (some 2) e) s (fun g s=>Z.ae a true (fun k=>Z.ar s k 147 [(ai.ak s.aa g)]) s (fun i s=>Z.a2 s (fun j s=>Z.aB false [some j] s) a i (.bool false)))) 147 [(ai.ak s.aa f)]) (some 2) d)):=by kernel_rfl
theorem PW:az au G X 169 [a,b] s=f169 (aH au G X) a b s.af:=aR au G X (fn:=aeF)
theorem agO:f170 Z a b s=Z.ar s (fun c s=>Z.ah s (fun d s=>Z.ay d (Z.aB false [some (.aW 1 [] .nil),some a] s) (Iq Z a b s)) (al .lss c (.int .i64 0))) 189 [(ai.ak s.aa a),(ai.ak s.aa b)]:=by kernel_rfl
theorem PX:az au G X 170 [a,b] s=f170 (aH au G X) a b s.af:=aR au G X (fn:=y6)
theorem agP:f171 Z b c s=Z.eX (.ref (.l s.own.length) 0) (s.new (.cells [.bool false,.aW 1 [] .nil])) (fun a s=>Z.ar s (fun d s=>Z.aY s (fun e s=>Z.ah s (fun f s=>Z.ay f (Z.cH [.bool false,.aW 1 [] .nil] [] s (fun g s=>Z.a6 s (fun h s=>Z.aB false [eF s a (some 2),some (.int .i64 2)] s) 2 a (ai.ak s.aa g))) (Ir Z b d a s)) (al .gtr e (.int .i64 128))) false d) 191 [(ai.ak s.aa c)]):=by kernel_rfl
theorem PY:az au G X 171 [a,b] s=f171 (aH au G X) a b s.af:=aR au G X (fn:=VI)
theorem agQ:f172 Z a s=Z.aY s (fun b s=>oE Z a (.int .u64 0) b (.int .i64 0) s) false a:=by kernel_rfl
theorem PZ:az au G X 172 [a] s=f172 (aH au G X) a s.af:=aR au G X (fn:=G0)
theorem agR:f178 Z a s=tk Z a s:=by kernel_rfl
theorem P0:az au G X 178 [a] s=f178 (aH au G X) a s.af:=aR au G X (fn:=G1)
theorem agS:f179 Z a b s=Z.ah s (fun c s=>Z.aY s (fun d s=>Z.ah s (fun e s=>Z.ay e (Z.aY s (fun f s=>Z.ah s (fun g s=>Z.aB false [some (.aW 1 [] .nil),some g] s) (al .gtr f (.int .i64 0))) false a) (IC Z a b s)) (al .geq c d)) false a) (al .quo b (.int .i64 32)):=by kernel_rfl
theorem P1:az au G X 179 [a,b] s=f179 (aH au G X) a b s.af:=aR au G X (fn:=v0)
theorem apc:f86 Z e s=Z.dn e s (fun a s=>Z.ag s (fun f s=>Z.aj s (fun g s=>Z.ar s (fun i s=>Z.ag s (fun j s=>Z.aj s (fun m s=>Z.ar s (fun o s=>Z.ah s (fun d s=>Z.ae d false (fun k=>k o s) s (fun p s=>Z.ae d false (fun k=>Z.ah s k (iN .not p)) s (fun q s=>Z.a2 s (fun b s=>Z.ae b false (fun k=>Z.ag s k 2 a) s (fun r s=>Z.ae b false (fun k=>Z.ag s k 0 r) s (fun t s=>Z.ae b false (fun k=>Z.aj s k none t) s (fun u s=>Z.a2 s (fun c s=>Z.ae c false (fun k=>Z.ag s k 2 a) s (fun w s=>Z.ae c false (fun k=>Z.aj s k (some 2) w) s (fun x s=>Z.ae c false (fun k=>Z.ar s k 134 [(ai.ak s.aa x)]) s (fun y s=>Z.a2 s (fun z s=>Z.ay z (Z.aB false [some (.bool false)] s) (Xv Z a s)) c (.bool true) y)))) b (.bool true) u)))) d (.bool true) q))) (iN .not i)) 133 [(ai.ak s.aa m)]) (some 2) j) 2 a) 133 [(ai.ak s.aa g)]) (some 2) f) 0 a):=by kernel_rfl
theorem aai:az au G X 86 [a] s=f86 (aH au G X) a s.af:=aR au G X (fn:=ajZ)
theorem agT:f116 Z e s=Z.dn e s (fun a s=>Z.ag s (fun f s=>Z.aj s (fun g s=>Z.ar s (fun i s=>Z.ah s (fun b s=>Z.ae b false (fun k=>Z.ag s k 2 a) s (fun j s=>Z.ae b false (fun k=>Z.aj s k (some 2) j) s (fun m s=>Z.ae b false (fun k=>Z.ar s k 147 [(ai.ak s.aa m)]) s (fun o s=>Z.ae b false (fun k=>Z.ah s k (iN .not o)) s (fun p s=>Z.a2 s (fun c s=>Z.ae c false (fun k=>Z.ag s k 2 a) s (fun q s=>Z.ae c false (fun k=>Z.ag s k 0 q) s (fun r s=>Z.ae c false (fun k=>Z.aj s k none r) s (fun t s=>Z.a2 s (fun d s=>Z.ae d false (fun k=>Z.ag s k 2 a) s (fun u s=>Z.ae d false (fun k=>Z.aj s k (some 2) u) s (fun w s=>Z.ae d false (fun k=>Z.ar s k 148 [(ai.ak s.aa w)]) s (fun x s=>Z.a2 s (fun y s=>Z.ay y (Z.aB false [some (.bool false)] s) (IE Z a s)) d (.bool true) x)))) c (.bool true) t)))) b (.bool true) p))))) (iN .not i)) 147 [(ai.ak s.aa g)]) (some 2) f) 0 a):=by kernel_rfl
theorem P2:az au G X 116 [a] s=f116 (aH au G X) a s.af:=aR au G X (fn:=Gq)
theorem agU:f134 Z a s=Z.dn a s (fun b s=>Z.ag s (fun c s=>Z.aj s (fun d s=>Z.aY s (fun e s=>Z.ah s (fun f s=>Z.aB false [some f] s) (al .eql e (.int .i64 0))) false d) none c) 1 b):=by kernel_rfl
theorem P3:az au G X 134 [a] s=f134 (aH au G X) a s.af:=aR au G X (fn:=aei)
theorem agV:f136 Z d s=Z.dn d s (fun c s=>Z.ag s (fun e s=>Z.aj s (fun f s=>Z.ah s (fun b s=>Z.ae b true (fun k=>Z.ag s k 1 c) s (fun g s=>Z.ae b true (fun k=>Z.aj s k none g) s (fun i s=>Z.ae b true (fun k=>Z.aY s k false i) s (fun j s=>Z.ae b true (fun k=>Z.ah s k (al .eql j (.int .i64 1))) s (fun m s=>Z.a2 s (fun a s=>Z.ae a true (fun k=>Z.ag s k 1 c) s (fun o s=>Z.ae a true (fun k=>Z.aj s k none o) s (fun p s=>Z.ae a true (fun k=>Z.aZ s k 1 p (.int .i64 0)) s (fun q s=>Z.ae a true (fun k=>Z.aj s k none q) s (fun r s=>Z.ae a true (fun k=>Z.ah s k (al .eql r (.int .u32 1))) s (fun t s=>Z.a2 s (fun u s=>Z.aB false [some u] s) a t (.bool false))))))) b m (.bool false)))))) (iN .not f)) none e) 0 c):=by kernel_rfl
theorem P4:az au G X 136 [a] s=f136 (aH au G X) a s.af:=aR au G X (fn:=ael)
theorem agW:f148 Z a s=Z.dn a s (fun b s=>Z.ag s (fun c s=>Z.aj s (fun d s=>Z.aY s (fun e s=>Z.ah s (fun f s=>Z.aB false [some f] s) (al .eql e (.int .i64 0))) false d) none c) 1 b):=by kernel_rfl
theorem P5:az au G X 148 [a] s=f148 (aH au G X) a s.af:=aR au G X (fn:=aep)
theorem agX:f149 Z d s=Z.dn d s (fun c s=>Z.ag s (fun e s=>Z.aj s (fun f s=>Z.ah s (fun b s=>Z.ae b true (fun k=>Z.ag s k 1 c) s (fun g s=>Z.ae b true (fun k=>Z.aj s k none g) s (fun i s=>Z.ae b true (fun k=>Z.aY s k false i) s (fun j s=>Z.ae b true (fun k=>Z.ah s k (al .eql j (.int .i64 1))) s (fun m s=>Z.a2 s (fun a s=>Z.ae a true (fun k=>Z.ag s k 1 c) s (fun o s=>Z.ae a true (fun k=>Z.aj s k none o) s (fun p s=>Z.ae a true (fun k=>Z.aZ s k 1 p (.int .i64 0)) s (fun q s=>Z.ae a true (fun k=>Z.aj s k none q) s (fun r s=>Z.ae a true (fun k=>Z.ah s k (al .eql r (.int .u32 1))) s (fun t s=>Z.a2 s (fun u s=>Z.aB false [some u] s) a t (.bool false))))))) b m (.bool false)))))) (iN .not f)) none e) 0 c):=by kernel_rfl
theorem P6:az au G X 149 [a] s=f149 (aH au G X) a s.af:=aR au G X (fn:=aeq)
theorem apd:f14 Z a s=xn Z a (.int .i64 0) s:=by kernel_rfl
theorem aaj:az au G X 14 [a] s=f14 (aH au G X) a s.af:=aR au G X (fn:=aad)
theorem ape:f42 Z a s=Z.aY s (fun b s=>xo Z a (.int .i64 0) a b (.int .i64 0) s) false a:=by kernel_rfl
theorem aak:az au G X 42 [a] s=f42 (aH au G X) a s.af:=aR au G X (fn:=aaf)
theorem apf:f43 Z a b s=Z.ar s (fun c s=>Z.ah s (fun d s=>Z.ay d (Z.aB false [some (.int .i64 0),some c] s) (XD Z a b s)) (al .neq c (.int .i64 0))) 73 [(ai.ak s.aa a),(ai.ak s.aa b)]:=by kernel_rfl
theorem aal:az au G X 43 [a,b] s=f43 (aH au G X) a b s.af:=aR au G X (fn:=ajo)
theorem apg:f48 Z e f s=Z.aZ s (fun j s=>Z.aj s (fun m s=>Z.eX (.ref (.l s.own.length) 0) (s.new (.cells [.str [],.int .i64 0,.aW 1 [] .nil,.bool false,.aW 1 [] .nil,.bool false,.aW 1 [] .nil,.bool false,.aW 1 [] .nil,.bool false,.aW 1 [] .nil,.int .i64 0])) (fun a s=>Z.a6 s (fun h s=>Z.ag s (fun o s=>Z.aj s (fun p s=>Z.ar s (fun g s=>Z.bh s (fun i s=>Z.bh s (fun J s=>Z.bh s (fun q s=>Z.ag s (fun r s=>Z.aj s (fun t s=>Z.ah s (fun c s=>Z.ae c false (fun k=>Z.ag s k 1 a) s (fun u s=>Z.ae c false (fun k=>Z.aj s k none u) s (fun w s=>Z.ae c false (fun k=>Z.ah s k (al .gtr w (.int .i64 16))) s (fun x s=>Z.a2 s (fun b s=>Z.ae b false (fun k=>Z.ag s k 2 a) s (fun y s=>Z.ae b false (fun k=>Z.aj s k none y) s (fun z s=>Z.ae b false (fun k=>Z.aY s k false z) s (fun A s=>Z.ae b false (fun k=>k i s) s (fun B s=>Z.ae b false (fun k=>Z.aY s k false B) s (fun C s=>Z.ae b false (fun k=>Z.ah s k (al .neq A C)) s (fun D s=>Z.a2 s (fun d s=>Z.ae d false (fun k=>Z.ag s k 0 a) s (fun E s=>Z.ae d false (fun k=>Z.aj s k none E) s (fun F s=>Z.ae d false (fun k=>Z.ah s k (al .eql F (.str []))) s (fun H s=>Z.a2 s (fun I s=>Z.ay I (Z.aB false [some (.bool false)] s) (XM Z e f a i q s)) d (.bool true) H)))) b (.bool true) D))))))) c (.bool true) x)))) (al .lss t (.int .i64 1))) none r) 1 a) 2 g) 1 g) 0 g) 83 [(ai.ak s.aa p)]) none o) 1 a) 12 a (ai.ak s.aa m))) (some 12) j) 12 e f:=by kernel_rfl
theorem aam:az au G X 48 [a,b] s=f48 (aH au G X) a b s.af:=aR au G X (fn:=w9)
theorem aph:f49 Z a s=xr Z a (.aW 2 [] .nil) (.int .i64 0) s:=by kernel_rfl
theorem aan:az au G X 49 [a] s=f49 (aH au G X) a s.af:=aR au G X (fn:=acV)
theorem api:f50 Z a s=xt Z a (.aW 1 [] .nil) (.int .i64 0) s:=by kernel_rfl
theorem aao:az au G X 50 [a] s=f50 (aH au G X) a s.af:=aR au G X (fn:=ac1)
theorem apj:f65 Z a b s=Z.ar s (fun c s=>Z.ah s (fun d s=>Z.ay d (Z.aB false [some (.int .i64 0),some c] s) (XR Z a b s)) (al .neq c (.int .i64 0))) 106 [(ai.ak s.aa a),(ai.ak s.aa b)]:=by kernel_rfl
theorem aap:az au G X 65 [a,b] s=f65 (aH au G X) a b s.af:=aR au G X (fn:=xb)
theorem apk:f70 Z c s=Z.aY s (fun i s=>Z.ah s (fun f s=>Z.aZ s (fun j s=>Z.aj s (fun m s=>Z.eX (.ref (.l s.own.length) 0) (s.new (.cells [.str [],.int .i64 0,.aW 1 [] .nil,.bool false,.aW 1 [] .nil,.bool false,.aW 1 [] .nil,.bool false,.aW 1 [] .nil,.bool false,.aW 1 [] .nil,.int .i64 0])) (fun b s=>Z.a6 s (fun h s=>Z.ag s (fun o s=>Z.aj s (fun p s=>Z.ar s (fun e s=>Z.bh s (fun g s=>Z.bh s (fun q s=>Z.bh s (fun r s=>Z.ah s (fun a s=>Z.ae a false (fun k=>k g s) s (fun t s=>Z.ae a false (fun k=>Z.aY s k false t) s (fun u s=>Z.ae a false (fun k=>Z.ag s k 2 b) s (fun w s=>Z.ae a false (fun k=>Z.aj s k none w) s (fun x s=>Z.ae a false (fun k=>Z.aY s k false x) s (fun y s=>Z.ae a false (fun k=>Z.ah s k (al .neq u y)) s (fun z s=>Z.a2 s (fun d s=>Z.ae d false (fun k=>Z.ag s k 0 b) s (fun A s=>Z.ae d false (fun k=>Z.aj s k none A) s (fun B s=>Z.ae d false (fun k=>Z.ah s k (al .eql B (.str []))) s (fun C s=>Z.a2 s (fun D s=>Z.ay D (Z.aB false [some (.bool false)] s) (XV Z c f b g r s)) d (.bool true) C)))) a (.bool true) z))))))) (al .eql q (.int .i64 0))) 2 e) 1 e) 0 e) 115 [(ai.ak s.aa p)]) none o) 1 b) 12 b (ai.ak s.aa m))) (some 12) j) 12 c f) (al .sub i (.int .i64 1))) false c:=by kernel_rfl
theorem aaq:az au G X 70 [a] s=f70 (aH au G X) a s.af:=aR au G X (fn:=B6)
theorem apl:f71 Z b s=Z.dn b s (fun c s=>Z.ag s (fun d s=>Z.aj s (fun e s=>Z.ar s (fun a s=>Z.bh s (fun g s=>Z.bh s (fun i s=>Z.bh s (fun f s=>Z.aB false [some f] s) 2 a) 1 a) 0 a) 115 [(ai.ak s.aa e)]) none d) 1 c):=by kernel_rfl
theorem aar:az au G X 71 [a] s=f71 (aH au G X) a s.af:=aR au G X (fn:=adA)
theorem apm:f72 Z a s=Z.aY s (fun b s=>xv Z (.aW 2 [] .nil) a b (.int .i64 0) s) false a:=by kernel_rfl
theorem aas:az au G X 72 [a] s=f72 (aH au G X) a s.af:=aR au G X (fn:=adG)
theorem apn:f73 Z a b s=Z.ar s (fun c s=>Z.ah s (fun d s=>Z.ay d (Z.aB false [some c] s) (EJ Z a b s)) (al .neq c (.int .i64 0))) 42 [(ai.ak s.aa a)]:=by kernel_rfl
theorem aat:az au G X 73 [a,b] s=f73 (aH au G X) a b s.af:=aR au G X (fn:=adK)
theorem apo:f74 Z b s=Z.dn b s (fun c s=>Z.ag s (fun d s=>Z.aj s (fun e s=>Z.ar s (fun a s=>Z.bh s (fun g s=>Z.bh s (fun f s=>Z.bh s (fun i s=>Z.aB false [some f] s) 2 a) 1 a) 0 a) 115 [(ai.ak s.aa e)]) none d) 1 c):=by kernel_rfl
theorem aau:az au G X 74 [a] s=f74 (aH au G X) a s.af:=aR au G X (fn:=NL)
theorem apq:f83 Z a s=Z.ah s (fun c s=>Z.ay c (Z.aB false [some (.aW 1 [] .nil),some (.int .i64 1),some (.bool false)] s) (Z.ah s (fun d s=>Z.ay d (Z.av s (fun e s=>Z.aB false [some e,some (.int .i64 1),some (.bool false)] s) 1 [(.int .i64 0)]) (Z.ah s (fun f s=>Z.ay f (Z.av s (fun g s=>Z.aB false [some g,some (.int .i64 2),some (.bool false)] s) 1 [(.int .i64 1),(.int .i64 1)]) (Z.ah s (fun i s=>Z.ay i (Z.av s (fun j s=>Z.aB false [some j,some (.int .i64 1),some (.bool false)] s) 1 [(.int .i64 2),(.int .i64 2)]) (Z.ah s (fun m s=>Z.ay m (Z.av s (fun o s=>Z.aB false [some o,some (.int .i64 3),some (.bool false)] s) 1 [(.int .i64 1),(.int .i64 1)]) (Z.ah s (fun b s=>Z.ay b (EL Z a b s) (Z.ah s (fun p s=>EL Z a p s) (al .eql a (.int .i64 7)))) (al .eql a (.int .i64 6)))) (al .eql a (.int .i64 5)))) (al .eql a (.int .i64 4)))) (al .eql a (.int .i64 3)))) (al .eql a (.int .i64 2)))) (al .eql a (.int .i64 1)):=by kernel_rfl
theorem aav:az au G X 83 [a] s=f83 (aH au G X) a s.af:=aR au G X (fn:=DV)
theorem apr:f84 Z a b s=Z.ah s (fun d s=>Z.ay d (Z.ah s (fun c s=>Z.ae c false (fun k=>k a s) s (fun e s=>Z.ae c false (fun k=>Z.ah s k (al .eql e (.int .i64 3))) s (fun f s=>Z.a2 s (fun g s=>Z.aB false [some g] s) c (.bool true) f))) (al .eql a (.int .i64 2))) (X0 Z a b s)) (al .eql b (.int .i64 0)):=by kernel_rfl
theorem aaw:az au G X 84 [a,b] s=f84 (aH au G X) a b s.af:=aR au G X (fn:=Gl)
theorem aps:f85 Z b s=Z.ar s (fun a s=>Z.bh s (fun d s=>Z.bh s (fun c s=>Z.bh s (fun e s=>Z.aB false [some c] s) 2 a) 1 a) 0 a) 83 [(ai.ak s.aa b)]:=by kernel_rfl
theorem aax:az au G X 85 [a] s=f85 (aH au G X) a s.af:=aR au G X (fn:=NM)
theorem apt:f87 Z a s=Z.dn a s (fun b s=>Z.aj s (fun c s=>Z.cH [.bool false,.aW 1 [] .nil,.bool false,.aW 1 [] .nil] [] s (fun d s=>Z.ar s (fun e s=>Z.aB false [some e] s) 137 [(ai.ak s.aa c),(ai.ak s.aa d)])) (some 4) b):=by kernel_rfl
theorem aay:az au G X 87 [a] s=f87 (aH au G X) a s.af:=aR au G X (fn:=atB)
theorem agY:f103 Z d c s=Z.ah s (fun a s=>Z.ae a false (fun k=>k d s) s (fun f s=>Z.ae a false (fun k=>Z.ah s k (al .eql f (.int .i64 0))) s (fun g s=>Z.ae a false (fun k=>k g s) s (fun b s=>Z.ae b true (fun k=>k c s) s (fun i s=>Z.ae b true (fun k=>Z.ah s k (al .eql i (.int .i64 2))) s (fun j s=>Z.ae b true (fun k=>k j s) s (fun e s=>Z.ae e false (fun k=>k c s) s (fun m s=>Z.ae e false (fun k=>Z.ah s k (al .eql m (.int .i64 3))) s (fun o s=>Z.ae b true (fun k=>Z.a2 s k e (.bool true) o) s (fun p s=>Z.ae a false (fun k=>Z.a2 s k b p (.bool false)) s (fun q s=>Z.a2 s (fun r s=>Z.aB false [some r] s) a (.bool true) q))))))))))) (al .eql c d):=by kernel_rfl
theorem P7:az au G X 103 [a,b] s=f103 (aH au G X) a b s.af:=aR au G X (fn:=y3)
theorem agZ:f106 Z c d s=Z.ar s (fun e s=>Z.ah s (fun a s=>Z.ae a true (fun k=>k d s) s (fun f s=>Z.ae a true (fun k=>Z.ah s k (al .lss f (.int .i64 0))) s (fun g s=>Z.ae a true (fun k=>k g s) s (fun b s=>Z.ae b false (fun k=>k d s) s (fun i s=>Z.ae b false (fun k=>k c s) s (fun j s=>Z.ae b false (fun k=>Z.aY s k false j) s (fun m s=>Z.ae b false (fun k=>Z.ah s k (al .geq i m)) s (fun o s=>Z.ae a true (fun k=>Z.a2 s k b (.bool true) o) s (fun p s=>Z.a2 s (fun q s=>Z.ay q (Z.aB false [some (.int .i64 1)] s) (IG Z e s)) a p (.bool false)))))))))) (al .eql e (.int .i64 0))) 14 [(ai.ak s.aa c)]:=by kernel_rfl
theorem P8:az au G X 106 [a,b] s=f106 (aH au G X) a b s.af:=aR au G X (fn:=S5)
theorem ag0:f115 Z a s=Z.ah s (fun c s=>Z.ay c (Z.aB false [some (.aW 1 [] .nil),some (.int .i64 1),some (.bool false)] s) (Z.ah s (fun d s=>Z.ay d (Z.av s (fun e s=>Z.aB false [some e,some (.int .i64 1),some (.bool false)] s) 1 [(.int .i64 0)]) (Z.ah s (fun f s=>Z.ay f (Z.av s (fun g s=>Z.aB false [some g,some (.int .i64 2),some (.bool false)] s) 1 [(.int .i64 1),(.int .i64 1)]) (Z.ah s (fun i s=>Z.ay i (Z.av s (fun j s=>Z.aB false [some j,some (.int .i64 1),some (.bool false)] s) 1 [(.int .i64 2),(.int .i64 2)]) (Z.ah s (fun m s=>Z.ay m (Z.av s (fun o s=>Z.aB false [some o,some (.int .i64 3),some (.bool false)] s) 1 [(.int .i64 1),(.int .i64 1)]) (Z.ah s (fun b s=>Z.ay b (zv Z a b s) (Z.ah s (fun p s=>zv Z a p s) (al .eql a (.int .i64 7)))) (al .eql a (.int .i64 6)))) (al .eql a (.int .i64 5)))) (al .eql a (.int .i64 4)))) (al .eql a (.int .i64 3)))) (al .eql a (.int .i64 2)))) (al .eql a (.int .i64 1)):=by kernel_rfl
theorem P9:az au G X 115 [a] s=f115 (aH au G X) a s.af:=aR au G X (fn:=y4)
theorem ag1:f117 Z e s=Z.dn e s (fun d s=>Z.ag s (fun f s=>Z.ag s (fun g s=>Z.aj s (fun i s=>Z.ah s (fun c s=>Z.ae c true (fun k=>Z.ag s k 2 d) s (fun j s=>Z.ae c true (fun k=>Z.ag s k 0 j) s (fun m s=>Z.ae c true (fun k=>Z.aj s k none m) s (fun o s=>Z.ae c true (fun k=>Z.ah s k (iN .not o)) s (fun p s=>Z.a2 s (fun a s=>Z.ae a true (fun k=>Z.ag s k 0 d) s (fun q s=>Z.ae a true (fun k=>Z.ag s k 1 q) s (fun r s=>Z.ae a true (fun k=>Z.aj s k none r) s (fun t s=>Z.ae a true (fun k=>Z.aY s k false t) s (fun u s=>Z.ae a true (fun k=>Z.ah s k (al .eql u (.int .i64 0))) s (fun w s=>Z.a2 s (fun b s=>Z.ae b true (fun k=>Z.ag s k 2 d) s (fun x s=>Z.ae b true (fun k=>Z.ag s k 1 x) s (fun y s=>Z.ae b true (fun k=>Z.aj s k none y) s (fun z s=>Z.ae b true (fun k=>Z.aY s k false z) s (fun A s=>Z.ae b true (fun k=>Z.ah s k (al .eql A (.int .i64 0))) s (fun B s=>Z.a2 s (fun C s=>Z.aB false [some C] s) b B (.bool false))))))) a w (.bool false))))))) c p (.bool false)))))) (iN .not i)) none g) 0 f) 0 d):=by kernel_rfl
theorem Qa:az au G X 117 [a] s=f117 (aH au G X) a s.af:=aR au G X (fn:=ad8)
theorem ag2:f118 Z a b s=Z.ar s (fun c s=>Z.ah s (fun d s=>Z.aB false [some d] s) (al .geq c (.int .i64 0))) 151 [(ai.ak s.aa a),(ai.ak s.aa b)]:=by kernel_rfl
theorem Qb:az au G X 118 [a,b] s=f118 (aH au G X) a b s.af:=aR au G X (fn:=ad9)
theorem ag3:f119 Z a b s=Z.dn a s (fun c s=>Z.ag s (fun d s=>Z.aj s (fun e s=>Z.ag s (fun f s=>Z.aj s (fun g s=>Z.ah s (fun i s=>Z.aB false [some i] s) (al .eql e g)) none f) 0 b) none d) 0 c):=by kernel_rfl
theorem Qc:az au G X 119 [a,b] s=f119 (aH au G X) a b s.af:=aR au G X (fn:=aea)
theorem ag4:f137 Z a b s=Z.dn a s (fun c s=>Z.dn b s (fun d s=>Z.ag s (fun f s=>Z.aj s (fun g s=>Z.ag s (fun i s=>Z.aj s (fun j s=>Z.ar s (fun e s=>Z.ag s (fun m s=>Z.aj s (fun o s=>Z.ag s (fun p s=>Z.aj s (fun q s=>Z.ar s (fun r s=>Z.ae e true (fun k=>k r s) s (fun t s=>Z.a2 s (fun u s=>Z.aB false [some u] s) e t (.bool false))) 162 [(ai.ak s.aa o),(ai.ak s.aa q)]) (some 2) p) 2 d) (some 2) m) 2 c) 162 [(ai.ak s.aa g),(ai.ak s.aa j)]) (some 2) i) 0 d) (some 2) f) 0 c)):=by kernel_rfl
theorem Qd:az au G X 137 [a,b] s=f137 (aH au G X) a b s.af:=aR au G X (fn:=aem)
theorem ag5:f151 Z a b s=Z.aY s (fun c s=>tu Z a b c (.int .i64 0) s) false a:=by kernel_rfl
theorem Qe:az au G X 151 [a,b] s=f151 (aH au G X) a b s.af:=aR au G X (fn:=GF)
theorem ag6:f162 Z d e s=Z.dn d s (fun b s=>Z.dn e s (fun c s=>Z.ag s (fun f s=>Z.aj s (fun g s=>Z.ag s (fun i s=>Z.aj s (fun j s=>Z.ah s (fun a s=>Z.ae a false (fun k=>Z.ag s k 1 b) s (fun m s=>Z.ae a false (fun k=>Z.aj s k none m) s (fun o s=>Z.ae a false (fun k=>Z.aY s k false o) s (fun p s=>Z.ae a false (fun k=>Z.ag s k 1 c) s (fun q s=>Z.ae a false (fun k=>Z.aj s k none q) s (fun r s=>Z.ae a false (fun k=>Z.aY s k false r) s (fun t s=>Z.ae a false (fun k=>Z.ah s k (al .neq p t)) s (fun u s=>Z.a2 s (fun w s=>Z.ay w (Z.aB false [some (.bool false)] s) (IP Z b c s)) a (.bool true) u)))))))) ((pA .bool g j).map fun b=>.bool (bif true then !b else b))) none i) 0 c) none f) 0 b)):=by kernel_rfl
theorem Qf:az au G X 162 [a,b] s=f162 (aH au G X) a b s.af:=aR au G X (fn:=CE)
theorem Zv:f11 Z a s=Z.eX (.ref (.l s.own.length) 0) (s.new (.cells [.int .i64 0,.aW 3 [] .nil,.aW 1 [] .nil,.aW 1 [] .nil])) (fun b s=>Z.ar s (fun c s=>Z.ah s (fun d s=>Z.ay d (Z.cH [.int .i64 0,.aW 3 [] .nil,.aW 1 [] .nil,.aW 1 [] .nil] [] s (fun e s=>Z.a6 s (fun h s=>Z.aB true [eF s b (some 4),some c] s) 4 b (ai.ak s.aa e))) (Yb Z a b s)) (al .neq c (.int .i64 0))) 42 [(ai.ak s.aa a)]):=by kernel_rfl
theorem CH:az au G X 11 [a] s=f11 (aH au G X) a s:=aR au G X (fn:=aab)
theorem apu:f44 Z a c b d s=Z.o9 s (fun e s=>Z.aE s (fun f s=>Z.ag s (fun g s=>Z.a6 s (fun h s=>Z.eX (.ref (.l s.own.length) 0) (s.new (.cells [.int .i64 0,.int .i64 0,.int .i64 0,.int .i64 0])) (fun i s=>Z.eX (.ref (.l s.own.length) 0) (s.new (.cells [.int .i64 0,.int .i64 0,.int .i64 0,.int .i64 0])) (fun j s=>Z.aY s (fun m s=>qN Z a c b d i j b m (.int .i64 0) s) false b))) 1 g (ai.ak s.aa e)) 4 f) a) (B4 a):=by kernel_rfl
theorem aaz:az au G X 44 [a,b,c,d] s=f44 (aH au G X) a b c d s.af:=aR au G X (fn:=aag)
theorem apv:f45 Z a b s=Z.dn b s (fun c s=>tG Z a c (.int .i64 0) s):=by kernel_rfl
theorem aaA:az au G X 45 [a,b] s=f45 (aH au G X) a b s.af:=aR au G X (fn:=NB)
theorem apw:f76 Z a b c d s=Z.aE s (fun e s=>Z.ag s (fun f s=>Z.ag s (fun g s=>Z.aj s (fun i s=>Z.cH [.int .i64 0,.int .i64 0,.int .i64 0] [(0,1,b),(1,1,c),(2,1,d)] s (fun j s=>Z.av s (fun m s=>Z.cn s (fun o s=>Z.aE s (fun p s=>Z.ag s (fun q s=>Z.ag s (fun r s=>Z.a6 s (fun h s=>Z.aE s (fun t s=>Z.ag s (fun u s=>Z.ag s (fun w s=>Z.aj s (fun x s=>Z.aY s (fun y s=>Z.ah s (fun z s=>Z.aB false [some z] s) (al .sub y (.int .i64 1))) false x) none w) 1 u) 0 t) a) 1 r (ai.ak s.aa o)) 1 q) 0 p) a) 3 24 (B4 a) i m) 3 [j])) none g) 1 f) 0 e) a:=by kernel_rfl
theorem aaB:az au G X 76 [a,b,c,d] s=f76 (aH au G X) a b c d s.af:=aR au G X (fn:=atg)
theorem apx:f77 Z d e s=Z.dn d s (fun b s=>Z.cH [.str [],.int .i64 0] [(0,1,e)] s (fun i s=>Z.hO i s (fun j s=>Z.eX (.ref (.l s.own.length) 0) (s.new (.cells [.gU])) (fun a s=>Z.a6 s (fun h s=>Z.eX (.ref (.l s.own.length) 0) (s.new (.cells [.fx])) (fun c s=>Z.eX (.fn 121 [(ai.ak s.aa a),(ai.ak s.aa c),(ai.ak s.aa b)]) s (fun m s=>Z.eX (.ref (.l s.own.length) 0) (s.new (.cells [.fx])) (fun f s=>Z.a6 s (fun h s=>Z.eX (.fn 125 [(ai.ak s.aa f),(ai.ak s.aa a),(ai.ak s.aa b)]) s (fun o s=>Z.eX (.ref (.l s.own.length) 0) (s.new (.cells [.fx])) (fun g s=>Z.a6 s (fun h s=>Z.eX (.fn 126 [(ai.ak s.aa a),(ai.ak s.aa b),(ai.ak s.aa g)]) s (fun p s=>Z.a6 s (fun h s=>Z.aj s (fun q s=>Z.iQ s (fun r s=>Z.aB false [some r] s) q []) none c) 1 c (ai.ak s.aa p))) 1 g (ai.ak s.aa o)))) 1 f (ai.ak s.aa m))))) 1 a (ai.ak s.aa j))))):=by kernel_rfl
theorem aaC:az au G X 77 [a,b] s=f77 (aH au G X) a b s.af:=aR au G X (fn:=ath)
theorem ag7:f121 Z a d b s=Z.aj s (fun i s=>Z.ar s (fun j s=>Z.ah s (fun m s=>Z.ay m (Z.aj s (fun e s=>Z.aE s (fun o s=>Z.ag s (fun p s=>Z.aj s (fun q s=>Z.ah s (fun r s=>Z.aE s (fun t s=>Z.ag s (fun u s=>Z.a6 s (fun h s=>Z.aj s (fun w s=>Z.iQ s (fun x s=>Z.aj s (fun y s=>Z.ar s (fun R s=>Z.aj s (fun f s=>Z.aE s (fun z s=>Z.ag s (fun A s=>Z.aj s (fun B s=>Z.ah s (fun C s=>Z.aE s (fun D s=>Z.ag s (fun E s=>Z.a6 s (fun h s=>p7 Z a b x s) 1 E (ai.ak s.aa C)) 1 D) f) (al .add B (.int .i64 1))) none A) 1 z) f) none a) 122 [(ai.ak s.aa y)]) none a) w []) none d) 1 u (ai.ak s.aa r)) 1 t) e) (al .add q (.int .i64 1))) none p) 1 o) e) none a) (Z.aj s (fun F s=>Z.ar s (fun c s=>Z.db s (fun H s=>Z.ah s (fun I s=>Z.ay I (Z.ar s (fun g s=>Z.bh s (fun J s=>Z.bh s (fun S s=>Z.aj s (fun K s=>Z.ar s (fun L s=>p7 Z a b L s) 76 [(ai.ak s.aa K),(ai.ak s.aa (.int .i64 2)),(ai.ak s.aa J),(ai.ak s.aa (.int .i64 0))]) none b) 1 g) 0 g) 124 [(ai.ak s.aa c)]) (Z.aj s (fun M s=>Z.aE s (fun N s=>Z.ag s (fun O s=>Z.aj s (fun P s=>Z.lD s (fun Q s=>p7 Z a b Q s) .str (.int .i64 0) false P (ai.ak s.aa c)) none O) 4 N) M) none b)) (al .leq H (.int .u8 57))) c (.int .i64 0)) 123 [(ai.ak s.aa F)]) none a)) (al .eql j (.int .u8 40))) 122 [(ai.ak s.aa i)]) none a:=by kernel_rfl
theorem Qg:az au G X 121 [a,b,c] s=f121 (aH au G X) a b c s.af:=aR au G X (fn:=Gr)
theorem ag8:f122 Z a s=tH Z a s:=by kernel_rfl
theorem Qh:az au G X 122 [a] s=f122 (aH au G X) a s.af:=aR au G X (fn:=CC)
theorem ag9:f123 Z a s=Z.ar s (fun e s=>Z.aE s (fun b s=>Z.ag s (fun c s=>Z.aj s (fun d s=>tI Z a d s) none c) 1 b) a) 122 [(ai.ak s.aa a)]:=by kernel_rfl
theorem Qi:az au G X 123 [a] s=f123 (aH au G X) a s.af:=aR au G X (fn:=Gs)
theorem aha:f125 Z a b c s=Z.aj s (fun d s=>Z.iQ s (fun e s=>Z.aj s (fun f s=>Z.ar s (fun g s=>p9 Z a b c e g s) 122 [(ai.ak s.aa f)]) none b) d []) none a:=by kernel_rfl
theorem Qj:az au G X 125 [a,b,c] s=f125 (aH au G X) a b c s.af:=aR au G X (fn:=Gt)
theorem ahb:f126 Z b a c s=Z.aj s (fun e s=>Z.ar s (fun f s=>Z.ah s (fun g s=>Z.ay g (Z.aj s (fun d s=>Z.aE s (fun i s=>Z.ag s (fun j s=>Z.aj s (fun m s=>Z.ah s (fun o s=>Z.aE s (fun p s=>Z.ag s (fun q s=>Z.a6 s (fun h s=>Z.aj s (fun r s=>Z.ar s (fun t s=>Z.aj s (fun u s=>Z.aj s (fun w s=>Z.oA s (fun x s=>Z.ar s (fun y s=>zH Z b a c y s) 76 [(ai.ak s.aa u),(ai.ak s.aa (.int .i64 4)),(ai.ak s.aa t),(ai.ak s.aa x)]) [(none,a)] w []) none c) none a) 76 [(ai.ak s.aa r),(ai.ak s.aa (.int .i64 2)),(ai.ak s.aa (.int .i64 0)),(ai.ak s.aa (.int .i64 0))]) none a) 1 q (ai.ak s.aa o)) 1 p) d) (al .add m (.int .i64 1))) none j) 1 i) d) none b) (Z.aj s (fun z s=>Z.iQ s (fun A s=>zH Z b a c A s) z []) none c)) (al .eql f (.int .u8 45))) 122 [(ai.ak s.aa e)]) none b:=by kernel_rfl
theorem Qk:az au G X 126 [a,b,c] s=f126 (aH au G X) a b c s.af:=aR au G X (fn:=CD)
theorem ahc:f124 Z a s=Z.ar s (fun b s=>Z.bh s (fun c s=>Z.bh s (fun d s=>Z.ah s (fun e s=>Z.ay e (Z.ar s (fun f s=>Z.aB false [some c,some f] s) 154 [(ai.ak s.aa (.str [65,116,111,105])),(ai.ak s.aa a),(ai.ak s.aa (.int .i64 0)),(ai.ak s.aa (.int .i64 0)),(ai.ak s.aa d)]) (IW Z c s)) (uQ true d)) 1 b) 0 b) 153 [(ai.ak s.aa a)]:=by kernel_rfl
theorem Ql:az au G X 124 [a] s=f124 (aH au G X) a s.af:=aR au G X (fn:=TO)
theorem ahd:f153 Z a s=Z.aY s (fun c s=>Z.ae (.bool false) true (fun k=>k c s) s (fun j s=>Z.ae (.bool false) true (fun k=>Z.ah s k (al .lss (.int .i64 0) j)) s (fun m s=>Z.ae (.bool false) true (fun k=>k m s) s (fun e s=>Z.ae e true (fun k=>k c s) s (fun o s=>Z.ae e true (fun k=>Z.ah s k (al .lss o (.int .i64 10))) s (fun p s=>Z.ae (.bool false) true (fun k=>Z.a2 s k e p (.bool false)) s (fun q s=>Z.a2 s (fun f s=>Z.ae f false (fun k=>k (.bool true) s) s (fun b s=>Z.ae b true (fun k=>k c s) s (fun r s=>Z.ae b true (fun k=>Z.ah s k (al .lss (.int .i64 0) r)) s (fun t s=>Z.ae b true (fun k=>k t s) s (fun g s=>Z.ae g true (fun k=>k c s) s (fun u s=>Z.ae g true (fun k=>Z.ah s k (al .lss u (.int .i64 19))) s (fun w s=>Z.ae b true (fun k=>Z.a2 s k g w (.bool false)) s (fun x s=>Z.ae f false (fun k=>Z.a2 s k b x (.bool false)) s (fun y s=>Z.a2 s (fun z s=>Z.ay z (Z.db s (fun A s=>Z.ah s (fun d s=>Z.ae d false (fun k=>k a s) s (fun B s=>Z.ae d false (fun k=>Z.db s k B (.int .i64 0)) s (fun C s=>Z.ae d false (fun k=>Z.ah s k (al .eql C (.int .u8 43))) s (fun D s=>Z.a2 s (fun E s=>Z.ay E (Z.nf a (some (.int .i64 1)) none s (fun i s=>Z.aY s (fun F s=>Z.ah s (fun H s=>Z.ay H (Z.eX (.iface 188 (ai.ak s.aa (.int .i64 2))) s (fun I s=>Z.aB false [some (.int .i64 0),some I] s)) (zJ Z i a s)) (al .lss F (.int .i64 1))) true i)) (zJ Z a a s)) d (.bool true) D)))) (al .eql A (.int .u8 45))) a (.int .i64 0)) (af2 Z a s)) f (.bool true) y))))))))) (.bool false) q (.bool false)))))))) true a:=by kernel_rfl
theorem Qm:az au G X 153 [a] s=f153 (aH au G X) a s.af:=aR au G X (fn:=GM)
theorem apy:f75 Z a s=Z.ar s (fun b s=>Z.aB false [some b] s) 120 [(ai.ak s.aa a)]:=by kernel_rfl
theorem aaD:az au G X 75 [a] s=f75 (aH au G X) a s.af:=aR au G X (fn:=atf)
theorem ahe:f120 Z a s=Z.ar s (fun b s=>Z.aB false [some b] s) 152 [(ai.ak s.aa a),(ai.ak s.aa (.int .i64 10))]:=by kernel_rfl
theorem Qn:az au G X 120 [a] s=f120 (aH au G X) a s.af:=aR au G X (fn:=aeb)
theorem ahf:f152 Z a b s=Z.ah s (fun d s=>Z.ay d (Z.ah s (fun c s=>Z.ae c true (fun k=>k a s) s (fun e s=>Z.ae c true (fun k=>Z.ah s k (al .lss e (.int .i64 100))) s (fun f s=>Z.a2 s (fun g s=>Z.ay g (Z.ar s (fun i s=>Z.aB false [some i] s) 163 [(ai.ak s.aa a)]) (af3 Z a s)) c f (.bool false)))) (al .leq (.int .i64 0) a)) (af4 Z a b s)) (al .eql b (.int .i64 10)):=by kernel_rfl
theorem Qo:az au G X 152 [a,b] s=f152 (aH au G X) a b s.af:=aR au G X (fn:=GG)
theorem ahg:f163 Z a s=Z.ah s (fun b s=>Z.ay b (Z.ah s (fun c s=>Z.nf (.str [48,49,50,51,52,53,54,55,56,57,97,98,99,100,101,102,103,104,105,106,107,108,109,110,111,112,113,114,115,116,117,118,119,120,121,122]) (some a) (some c) s (fun d s=>Z.aB false [some d] s)) (al .add a (.int .i64 1))) (af5 Z a s)) (al .lss a (.int .i64 10)):=by kernel_rfl
theorem Qp:az au G X 163 [a] s=f163 (aH au G X) a s.af:=aR au G X (fn:=Vu)
theorem Zw:f12 Z a s=Z.eX (.ref (.l s.own.length) 0) (s.new (.cells [.int .i64 0,.aW 3 [] .nil,.aW 1 [] .nil,.aW 1 [] .nil])) (fun b s=>Z.ar s (fun c s=>Z.ah s (fun d s=>Z.ay d (Z.cH [.int .i64 0,.aW 3 [] .nil,.aW 1 [] .nil,.aW 1 [] .nil] [] s (fun e s=>Z.a6 s (fun h s=>Z.aB true [eF s b (some 4),some c] s) 4 b (ai.ak s.aa e))) (Yz Z a b s)) (al .neq c (.int .i64 0))) 14 [(ai.ak s.aa a)]):=by kernel_rfl
theorem CI:az au G X 12 [a] s=f12 (aH au G X) a s:=aR au G X (fn:=aac)
theorem apz:f47 Z a b c s=Z.aE s (fun d s=>Z.ag s (fun e s=>Z.a6 s (fun h s=>Z.aE s (fun f s=>Z.ag s (fun g s=>Z.a6 s (fun h s=>qQ Z a b c (.aW 1 [] .nil) (.aW 1 [] .nil) (.int .i64 0) s) 1 g (ai.ak s.aa (.aW 1 [] .nil))) 5 f) a) 1 e (ai.ak s.aa (.aW 1 [] .nil))) 4 d) a:=by kernel_rfl
theorem aaE:az au G X 47 [a,b,c] s=f47 (aH au G X) a b c s.af:=aR au G X (fn:=aah)
theorem apA:f66 Z a b c s=xL Z a b c (.int .i64 0) s:=by kernel_rfl
theorem aaF:az au G X 66 [a,b,c] s=f66 (aH au G X) a b c s.af:=aR au G X (fn:=ajX)
theorem ig:f82 Z a b c s=Z.ah s (fun e s=>Z.ay e (Z.ar s (fun o s=>Z.ar s (fun p s=>Z.av s (fun f s=>Z.ar s (fun g s=>Z.aB false [some g] s) 108 [(ai.ak s.aa a),(ai.ak s.aa f)]) 1 [(.str [120,120]),(.str [121,121]),(.str [49])]) 127 [(ai.ak s.aa a),(ai.ak s.aa (.str [121,121]))]) 127 [(ai.ak s.aa a),(ai.ak s.aa (.str [120,120]))]) (Z.ah s (fun i s=>Z.ay i (Z.ar s (fun j s=>Z.aB false [some j] s) 128 [(ai.ak s.aa a),(ai.ak s.aa c)]) (Z.ah s (fun d s=>Z.ay d (EW Z a b d s) (Z.ah s (fun m s=>EW Z a b m s) (al .eql b (.int .i64 4)))) (al .eql b (.int .i64 3)))) (al .eql b (.int .i64 2)))) (al .eql b (.int .i64 1)):=by kernel_rfl
theorem aaG:az au G X 82 [a,b,c] s=f82 (aH au G X) a b c s.af:=aR au G X (fn:=adU)
theorem ahh:f107 Z a b c s=Z.aE s (fun d s=>Z.ag s (fun e s=>Z.aj s (fun f s=>Z.av s (fun g s=>Z.cn s (fun i s=>Z.aE s (fun j s=>Z.ag s (fun m s=>Z.a6 s (fun h s=>Z.aE s (fun o s=>Z.ag s (fun p s=>Z.aj s (fun q s=>Z.av s (fun r s=>Z.cn s (fun t s=>Z.aE s (fun u s=>Z.ag s (fun w s=>Z.a6 s (fun h s=>Z.aB false [] s) 1 w (ai.ak s.aa t)) 5 u) a) 1 8 (B4 a) q r) 1 [c]) none p) 5 o) a) 1 m (ai.ak s.aa i)) 4 j) a) 1 16 (B4 a) f g) 1 [b]) none e) 4 d) a:=by kernel_rfl
theorem Qq:az au G X 107 [a,b,c] s=f107 (aH au G X) a b c s.af:=aR au G X (fn:=ad6)
theorem ahi:f108 Z a b s=tT Z a b (.aW 1 [] .nil) (.int .i64 0) s:=by kernel_rfl
theorem Qr:az au G X 108 [a,b] s=f108 (aH au G X) a b s.af:=aR au G X (fn:=Gp)
theorem ahj:f109 Z s=Z.av s (fun a s=>Z.aB false [some a] s) 1 [(.str [121,49,32,122,50,32,45,32,122,49,32,121,50]),(.str [122,49,32,120,50,32,45,32,120,49,32,122,50]),(.str [120,49,32,121,50,32,45,32,121,49,32,120,50])]:=by kernel_rfl
theorem Qs:az au G X 109 [] s=f109 (aH au G X) s.af:=aR au G X (fn:=ad7)
theorem ahk:f110 Z a b s=tV Z a b (.int .i64 0) s:=by kernel_rfl
theorem Qt:az au G X 110 [a,b] s=f110 (aH au G X) a b s.af:=aR au G X (fn:=Ti)
theorem ahl:f111 Z a b s=tX Z a b (.int .i64 1) s:=by kernel_rfl
theorem Qu:az au G X 111 [a,b] s=f111 (aH au G X) a b s.af:=aR au G X (fn:=Tm)
theorem ahm:f127 Z a b s=Z.aE s (fun c s=>Z.ag s (fun d s=>Z.aj s (fun e s=>Z.ar s (fun f s=>Z.aE s (fun g s=>Z.ag s (fun i s=>Z.aj s (fun j s=>Z.ah s (fun m s=>Z.aE s (fun o s=>Z.ag s (fun p s=>Z.a6 s (fun h s=>Z.ar s (fun q s=>Z.aB false [] s) 107 [(ai.ak s.aa a),(ai.ak s.aa b),(ai.ak s.aa f)]) 1 p (ai.ak s.aa m)) 8 o) a) (al .add j (.int .i64 1))) none i) 8 g) a) 146 [(ai.ak s.aa a),(ai.ak s.aa (.int .i64 1)),(ai.ak s.aa e),(ai.ak s.aa (.int .i64 0))]) none d) 8 c) a:=by kernel_rfl
theorem Qv:az au G X 127 [a,b] s=f127 (aH au G X) a b s.af:=aR au G X (fn:=aed)
theorem ahn:f128 Z a b s=Z.ar s (fun g s=>Z.ah s (fun c s=>Z.ay c (Z.av s (fun d s=>Z.ar s (fun i s=>Z.av s (fun e s=>Z.ar s (fun f s=>Z.aB false [some f] s) 108 [(ai.ak s.aa a),(ai.ak s.aa e)]) 1 [(.str [45,97,32,99,32,45,32,116,32,98,32,110]),(.str [45,98,32,99,32,43,32,116,32,97,32,110]),(.str [110])]) 110 [(ai.ak s.aa a),(ai.ak s.aa d)]) 1 [(.str [110]),(.str [97,94,50,32,43,32,98,94,50])]) (I7 Z a s)) (iN .not b)) 127 [(ai.ak s.aa a),(ai.ak s.aa (.str [116]))]:=by kernel_rfl
theorem Qw:az au G X 128 [a,b] s=f128 (aH au G X) a b s.af:=aR au G X (fn:=T4)
theorem aho:f129 Z a s=Z.av s (fun b s=>Z.ar s (fun e s=>Z.av s (fun c s=>Z.ar s (fun d s=>Z.aB false [some d] s) 108 [(ai.ak s.aa a),(ai.ak s.aa c)]) 1 [(.str [103,32,118]),(.str [45,50,32,120,49,32,122,49,32,118]),(.str [45,50,32,121,49,32,122,49,32,118]),(.str [40,120,49,94,50,32,43,32,121,49,94,50,41,32,118,32,45,32,103,32,100]),(.str [120,49,32,119,32,43,32,122,49,32,101,120]),(.str [121,49,32,119,32,43,32,122,49,32,101,121]),(.str [122,49,32,119])]) 110 [(ai.ak s.aa a),(ai.ak s.aa b)]) 1 [(.str [119]),(.str [122,50,32,122,51]),(.str [101,120]),(.str [120,51,32,122,50,32,45,32,120,50,32,122,51]),(.str [101,121]),(.str [121,51,32,122,50,32,45,32,121,50,32,122,51]),(.str [100]),(.str [101,120,94,50,32,43,32,101,121,94,50]),(.str [118]),(.str [119,94,50]),(.str [103]),(.str [122,49,94,50])]:=by kernel_rfl
theorem Qx:az au G X 129 [a] s=f129 (aH au G X) a s.af:=aR au G X (fn:=aee)
theorem ahp:f130 Z a s=Z.ar s (fun d s=>Z.av s (fun b s=>Z.ar s (fun c s=>Z.aB false [some c] s) 108 [(ai.ak s.aa a),(ai.ak s.aa b)]) 1 [(.str [102,49,32,40,103,50,32,104,51,32,45,32,104,50,32,103,51,41,32,45,32,103,49,32,40,102,50,32,104,51,32,45,32,104,50,32,102,51,41,32,43,32,104,49,32,40,102,50,32,103,51,32,45,32,103,50,32,102,51,41]),(.str [45,40,115,49,32,40,103,50,32,104,51,32,45,32,104,50,32,103,51,41,32,45,32,103,49,32,40,115,50,32,104,51,32,45,32,104,50,32,115,51,41,32,43,32,104,49,32,40,115,50,32,103,51,32,45,32,103,50,32,115,51,41,41]),(.str [115,49,32,40,102,50,32,104,51,32,45,32,104,50,32,102,51,41,32,45,32,102,49,32,40,115,50,32,104,51,32,45,32,104,50,32,115,51,41,32,43,32,104,49,32,40,115,50,32,102,51,32,45,32,102,50,32,115,51,41]),(.str [45,40,115,49,32,40,102,50,32,103,51,32,45,32,103,50,32,102,51,41,32,45,32,102,49,32,40,115,50,32,103,51,32,45,32,103,50,32,115,51,41,32,43,32,103,49,32,40,115,50,32,102,51,32,45,32,102,50,32,115,51,41,41]),(.str [120,49]),(.str [121,49]),(.str [122,49])]) 111 [(ai.ak s.aa a),(ai.ak s.aa (.int .i64 3))]:=by kernel_rfl
theorem Qy:az au G X 130 [a] s=f130 (aH au G X) a s.af:=aR au G X (fn:=aef)
theorem ahq:f131 Z s=Z.av s (fun a s=>Z.aB false [some a] s) 1 [(.str [110]),(.str [97,94,50,32,43,32,98,94,50]),(.str [107]),(.str [50,32,117,32,99,32,45,32,97,32,112,32,45,32,98,32,113]),(.str [100]),(.str [112,94,50,32,43,32,113,94,50,32,45,32,52,32,117,32,114]),(.str [115]),(.str [33,110,32,100,32,45,32,107,94,50])]:=by kernel_rfl
theorem Qz:az au G X 131 [] s=f131 (aH au G X) s.af:=aR au G X (fn:=aeg)
theorem ahr:f132 Z s=Z.av s (fun a s=>Z.aB false [some a] s) 1 [(.str [45,110,32,112,32,45,32,107,32,97,32,45,32,115,32,98]),(.str [45,110,32,113,32,45,32,107,32,98,32,43,32,115,32,97]),(.str [50,32,110,32,117])]:=by kernel_rfl
theorem QA:az au G X 132 [] s=f132 (aH au G X) s.af:=aR au G X (fn:=aeh)
theorem ahs:f145 Z a b s=Z.aE s (fun c s=>Z.ag s (fun d s=>Z.a6 s (fun h s=>Z.aE s (fun e s=>Z.ag s (fun f s=>Z.a6 s (fun h s=>Z.ar s (fun g s=>Z.aB false [some g] s) 168 [(ai.ak s.aa a)]) 1 f (ai.ak s.aa (.int .i64 0))) 7 e) a) 1 d (ai.ak s.aa b)) 6 c) a:=by kernel_rfl
theorem QB:az au G X 145 [a,b] s=f145 (aH au G X) a b s.af:=aR au G X (fn:=aen)
theorem aht:f146 Z a b c d s=Z.aE s (fun e s=>Z.ag s (fun f s=>Z.ag s (fun g s=>Z.aj s (fun i s=>Z.cH [.int .i64 0,.int .i64 0,.int .i64 0] [(0,1,b),(1,1,c),(2,1,d)] s (fun j s=>Z.av s (fun m s=>Z.cn s (fun o s=>Z.aE s (fun p s=>Z.ag s (fun q s=>Z.ag s (fun r s=>Z.a6 s (fun h s=>Z.aE s (fun t s=>Z.ag s (fun u s=>Z.ag s (fun w s=>Z.aj s (fun x s=>Z.aY s (fun y s=>Z.ah s (fun z s=>Z.aB false [some z] s) (al .sub y (.int .i64 1))) false x) none w) 1 u) 0 t) a) 1 r (ai.ak s.aa o)) 1 q) 0 p) a) 3 24 (B4 a) i m) 3 [j])) none g) 1 f) 0 e) a:=by kernel_rfl
theorem QC:az au G X 146 [a,b,c,d] s=f146 (aH au G X) a b c d s.af:=aR au G X (fn:=aeo)
theorem ahu:f168 Z a s=Z.ar s (fun b s=>Z.ay b (Z.ar s (fun c s=>Z.ar s (fun d s=>Z.ar s (fun e s=>zS Z a e s) 146 [(ai.ak s.aa a),(ai.ak s.aa (.int .i64 4)),(ai.ak s.aa c),(ai.ak s.aa d)]) 188 [(ai.ak s.aa a)]) 146 [(ai.ak s.aa a),(ai.ak s.aa (.int .i64 2)),(ai.ak s.aa (.int .i64 0)),(ai.ak s.aa (.int .i64 0))]) (Z.ar s (fun f s=>zS Z a f s) 188 [(ai.ak s.aa a)])) 187 [(ai.ak s.aa a),(ai.ak s.aa (.int .u8 45))]:=by kernel_rfl
theorem QD:az au G X 168 [a] s=f168 (aH au G X) a s.af:=aR au G X (fn:=GY)
theorem ahv:f187 Z b c s=Z.ar s (fun J s=>Z.aE s (fun d s=>Z.ag s (fun e s=>Z.aj s (fun f s=>Z.aE s (fun g s=>Z.ag s (fun i s=>Z.aj s (fun j s=>Z.aY s (fun m s=>Z.ah s (fun a s=>Z.ae a true (fun k=>k b s) s (fun o s=>Z.ae a true (fun k=>Z.aE s k o) s (fun p s=>Z.ae a true (fun k=>Z.ag s k 6 p) s (fun q s=>Z.ae a true (fun k=>Z.aj s k none q) s (fun r s=>Z.ae a true (fun k=>k b s) s (fun t s=>Z.ae a true (fun k=>Z.aE s k t) s (fun u s=>Z.ae a true (fun k=>Z.ag s k 7 u) s (fun w s=>Z.ae a true (fun k=>Z.aj s k none w) s (fun x s=>Z.ae a true (fun k=>Z.db s k r x) s (fun y s=>Z.ae a true (fun k=>k c s) s (fun z s=>Z.ae a true (fun k=>Z.ah s k (al .eql y z)) s (fun A s=>Z.a2 s (fun B s=>Z.ay B (Z.aE s (fun C s=>Z.ag s (fun D s=>Z.aj s (fun E s=>Z.ah s (fun F s=>Z.aE s (fun H s=>Z.ag s (fun I s=>Z.a6 s (fun h s=>Z.aB false [some (.bool true)] s) 1 I (ai.ak s.aa F)) 7 H) b) (al .add E (.int .i64 1))) none D) 7 C) b) (I9 Z s)) a A (.bool false))))))))))))) (al .lss f m)) true j) none i) 6 g) b) none e) 7 d) b) 202 [(ai.ak s.aa b)]:=by kernel_rfl
theorem QE:az au G X 187 [a,b] s=f187 (aH au G X) a b s.af:=aR au G X (fn:=V0)
theorem ahw:f188 Z a s=Z.ar s (fun b s=>tY Z a b s) 203 [(ai.ak s.aa a)]:=by kernel_rfl
theorem QF:az au G X 188 [a] s=f188 (aH au G X) a s.af:=aR au G X (fn:=V3)
theorem ahx:f202 Z a s=tZ Z a s:=by kernel_rfl
theorem QG:az au G X 202 [a] s=f202 (aH au G X) a s.af:=aR au G X (fn:=WI)
theorem ahy:f203 Z b s=Z.ar s (fun c s=>Z.aE s (fun d s=>Z.ag s (fun e s=>Z.aj s (fun f s=>Z.aE s (fun g s=>Z.ag s (fun i s=>Z.aj s (fun j s=>Z.aY s (fun m s=>Z.ah s (fun a s=>Z.ae a true (fun k=>k b s) s (fun o s=>Z.ae a true (fun k=>Z.aE s k o) s (fun p s=>Z.ae a true (fun k=>Z.ag s k 6 p) s (fun q s=>Z.ae a true (fun k=>Z.aj s k none q) s (fun r s=>Z.ae a true (fun k=>k b s) s (fun t s=>Z.ae a true (fun k=>Z.aE s k t) s (fun u s=>Z.ae a true (fun k=>Z.ag s k 7 u) s (fun w s=>Z.ae a true (fun k=>Z.aj s k none w) s (fun x s=>Z.ae a true (fun k=>Z.db s k r x) s (fun y s=>Z.ae a true (fun k=>Z.ah s k (al .eql y (.int .u8 94))) s (fun z s=>Z.a2 s (fun A s=>Z.ay A (Z.aE s (fun B s=>Z.ag s (fun C s=>Z.aj s (fun D s=>Z.ah s (fun E s=>Z.aE s (fun F s=>Z.ag s (fun H s=>Z.a6 s (fun h s=>Z.ar s (fun I s=>zU Z I s) 146 [(ai.ak s.aa b),(ai.ak s.aa (.int .i64 5)),(ai.ak s.aa c),(ai.ak s.aa c)]) 1 H (ai.ak s.aa E)) 7 F) b) (al .add D (.int .i64 2))) none C) 7 B) b) (zU Z c s)) a z (.bool false)))))))))))) (al .lss f m)) true j) none i) 6 g) b) none e) 7 d) b) 207 [(ai.ak s.aa b)]:=by kernel_rfl
theorem QH:az au G X 203 [a] s=f203 (aH au G X) a s.af:=aR au G X (fn:=WL)
theorem ahz:f207 Z a s=Z.ar s (fun b s=>Z.ay b (Z.ar s (fun c s=>Z.ar s (fun d s=>Z.aB false [some c] s) 187 [(ai.ak s.aa a),(ai.ak s.aa (.int .u8 41))]) 168 [(ai.ak s.aa a)]) (Jc Z a s)) 187 [(ai.ak s.aa a),(ai.ak s.aa (.int .u8 40))]:=by kernel_rfl
theorem QI:az au G X 207 [a] s=f207 (aH au G X) a s.af:=aR au G X (fn:=za)
theorem ahA:f208 Z a b s=Z.aE s (fun c s=>Z.ag s (fun d s=>Z.aj s (fun e s=>Z.aY s (fun f s=>Z.ah s (fun g s=>ua Z a b g s) (al .sub f (.int .i64 1))) false e) none d) 4 c) a:=by kernel_rfl
theorem QJ:az au G X 208 [a,b] s=f208 (aH au G X) a b s.af:=aR au G X (fn:=Hn)
theorem apB:f13 Z f g s=Z.dn f s (fun d s=>Z.dn g s (fun e s=>Z.ag s (fun i s=>Z.aj s (fun j s=>Z.ag s (fun m s=>Z.aj s (fun o s=>Z.ah s (fun a s=>Z.ae a false (fun k=>Z.ag s k 1 d) s (fun p s=>Z.ae a false (fun k=>Z.aj s k none p) s (fun q s=>Z.ae a false (fun k=>Z.aY s k false q) s (fun r s=>Z.ae a false (fun k=>Z.ag s k 1 e) s (fun t s=>Z.ae a false (fun k=>Z.aj s k none t) s (fun u s=>Z.ae a false (fun k=>Z.aY s k false u) s (fun w s=>Z.ae a false (fun k=>Z.ah s k (al .neq r w)) s (fun x s=>Z.a2 s (fun b s=>Z.ae b false (fun k=>Z.ag s k 2 d) s (fun y s=>Z.ae b false (fun k=>Z.aj s k none y) s (fun z s=>Z.ae b false (fun k=>Z.aY s k false z) s (fun A s=>Z.ae b false (fun k=>Z.ag s k 2 e) s (fun B s=>Z.ae b false (fun k=>Z.aj s k none B) s (fun C s=>Z.ae b false (fun k=>Z.aY s k false C) s (fun D s=>Z.ae b false (fun k=>Z.ah s k (al .neq A D)) s (fun E s=>Z.a2 s (fun c s=>Z.ae c false (fun k=>Z.ag s k 3 d) s (fun F s=>Z.ae c false (fun k=>Z.aj s k none F) s (fun H s=>Z.ae c false (fun k=>Z.aY s k false H) s (fun I s=>Z.ae c false (fun k=>Z.ag s k 3 e) s (fun J s=>Z.ae c false (fun k=>Z.aj s k none J) s (fun K s=>Z.ae c false (fun k=>Z.aY s k false K) s (fun L s=>Z.ae c false (fun k=>Z.ah s k (al .neq I L)) s (fun M s=>Z.a2 s (fun N s=>Z.ay N (Z.aB false [some (.bool false)] s) (Y4 Z d e s)) c (.bool true) M)))))))) b (.bool true) E)))))))) a (.bool true) x)))))))) (al .neq j o)) none m) 0 e) none i) 0 d)):=by kernel_rfl
theorem aaH:az au G X 13 [a,b] s=f13 (aH au G X) a b s.af:=aR au G X (fn:=Gk)
theorem apC:f32 Z a b s=Z.aY s (fun c s=>Z.aY s (fun d s=>Z.ah s (fun e s=>Z.ay e (Z.aB false [some (.bool false)] s) (Y8 Z a b s)) (al .neq c d)) false b) false a:=by kernel_rfl
theorem aaI:az au G X 32 [a,b] s=f32 (aH au G X) a b s.af:=aR au G X (fn:=aae)
theorem apD:f35 Z a c s=Z.dn c s (fun g s=>Z.eX (.ref (.l s.own.length) 0) (s.new (.cells [.int .i64 0,.aW 3 [] .nil,.aW 1 [] .nil,.aW 1 [] .nil])) (fun b s=>Z.ar s (fun d s=>Z.bh s (fun i s=>Z.bh s (fun e s=>Z.eX (.ref (.l s.own.length) 0) (s.new (.cells [.int .i64 0,.aW 3 [] .nil,.aW 1 [] .nil,.aW 1 [] .nil])) (fun f s=>Z.a6 s (fun h s=>Z.ah s (fun j s=>Z.ay j (Z.cH [.int .i64 0,.aW 3 [] .nil,.aW 1 [] .nil,.aW 1 [] .nil] [] s (fun m s=>Z.a6 s (fun h s=>Z.aB false [eF s b (some 4),some (.aW 1 [] .nil),some e] s) 4 b (ai.ak s.aa m))) (Zc Z a g b f s)) (al .neq e (.int .i64 0))) 4 f (ai.ak s.aa i))) 1 d) 0 d) 11 [(ai.ak s.aa a)])):=by kernel_rfl
theorem aaJ:az au G X 35 [a,b] s=f35 (aH au G X) a b s.af:=aR au G X (fn:=Nv)
theorem apE:f36 Z a c s=Z.dn c s (fun g s=>Z.eX (.ref (.l s.own.length) 0) (s.new (.cells [.int .i64 0,.aW 3 [] .nil,.aW 1 [] .nil,.aW 1 [] .nil])) (fun b s=>Z.ar s (fun d s=>Z.bh s (fun i s=>Z.bh s (fun e s=>Z.eX (.ref (.l s.own.length) 0) (s.new (.cells [.int .i64 0,.aW 3 [] .nil,.aW 1 [] .nil,.aW 1 [] .nil])) (fun f s=>Z.a6 s (fun h s=>Z.ah s (fun j s=>Z.ay j (Z.cH [.int .i64 0,.aW 3 [] .nil,.aW 1 [] .nil,.aW 1 [] .nil] [] s (fun m s=>Z.a6 s (fun h s=>Z.aB false [eF s b (some 4),some (.aW 1 [] .nil),some e] s) 4 b (ai.ak s.aa m))) (Zg Z a g b f s)) (al .neq e (.int .i64 0))) 4 f (ai.ak s.aa i))) 1 d) 0 d) 12 [(ai.ak s.aa a)])):=by kernel_rfl
theorem aaK:az au G X 36 [a,b] s=f36 (aH au G X) a b s.af:=aR au G X (fn:=Nx)
theorem apF:f62 Z a b s=Z.dn b s (fun d s=>Z.ar s (fun c s=>Z.ah s (fun e s=>Z.ay e (Z.aB false [some c] s) (Zl Z a d s)) (al .neq c (.int .i64 0))) 42 [(ai.ak s.aa a)]):=by kernel_rfl
theorem aaL:az au G X 62 [a,b] s=f62 (aH au G X) a b s.af:=aR au G X (fn:=DS)
theorem apG:f64 Z a b s=Z.dn b s (fun d s=>Z.ar s (fun c s=>Z.ah s (fun e s=>Z.ay e (Z.aB false [some c] s) (Zq Z a d s)) (al .neq c (.int .i64 0))) 14 [(ai.ak s.aa a)]):=by kernel_rfl
theorem aaM:az au G X 64 [a,b] s=f64 (aH au G X) a b s.af:=aR au G X (fn:=xa)
theorem mF:f67 Z a b c s=Z.ah s (fun e s=>Z.ay e (Z.ar s (fun f s=>Z.ar s (fun g s=>Z.aB false [some g] s) 108 [(ai.ak s.aa a),(ai.ak s.aa f)]) 109 []) (Z.ah s (fun i s=>Z.ay i (Z.ay c (Z.av s (fun j s=>Z.ar s (fun m s=>Z.aB false [some m] s) 108 [(ai.ak s.aa a),(ai.ak s.aa j)]) 1 [(.str [117,32,40,120,94,50,32,43,32,121,94,50,41,32,43,32,112,32,120,32,122,32,43,32,113,32,121,32,122,32,43,32,114,32,122,94,50])]) (Zr Z a s)) (Z.ah s (fun o s=>Z.ay o (Z.av s (fun p s=>Z.ar s (fun q s=>Z.aB false [some q] s) 108 [(ai.ak s.aa a),(ai.ak s.aa p)]) 1 [(.str [97,49,32,98,50,32,45,32,97,50,32,98,49])]) (Z.ah s (fun r s=>Z.ay r (Z.av s (fun t s=>Z.ar s (fun u s=>Z.aB false [some u] s) 108 [(ai.ak s.aa a),(ai.ak s.aa t)]) 1 [(.str [97,49,32,97,50,32,43,32,98,49,32,98,50])]) (Z.ah s (fun w s=>Z.ay w (Z.av s (fun x s=>Z.ar s (fun B s=>Z.av s (fun y s=>Z.ar s (fun z s=>Z.aB false [some z] s) 108 [(ai.ak s.aa a),(ai.ak s.aa y)]) 1 [(.str [40,101,120,94,50,32,43,32,101,121,94,50,41,32,118,94,50,32,45,32,40,102,120,94,50,32,43,32,102,121,94,50,41,32,119,94,50])]) 110 [(ai.ak s.aa a),(ai.ak s.aa x)]) 1 [(.str [101,120]),(.str [120,49,32,122,50,32,45,32,120,50,32,122,49]),(.str [101,121]),(.str [121,49,32,122,50,32,45,32,121,50,32,122,49]),(.str [102,120]),(.str [120,51,32,122,52,32,45,32,120,52,32,122,51]),(.str [102,121]),(.str [121,51,32,122,52,32,45,32,121,52,32,122,51]),(.str [118]),(.str [122,51,32,122,52]),(.str [119]),(.str [122,49,32,122,50])]) (Z.ah s (fun d s=>Z.ay d (EY Z a d s) (Z.ah s (fun A s=>EY Z a A s) (al .eql b (.int .i64 7)))) (al .eql b (.int .i64 6)))) (al .eql b (.int .i64 5)))) (al .eql b (.int .i64 4)))) (al .eql b (.int .i64 3)))) (al .eql b (.int .i64 2)))) (al .eql b (.int .i64 1)):=by kernel_rfl
theorem aaN:az au G X 67 [a,b,c] s=f67 (aH au G X) a b c s.af:=aR au G X (fn:=adt)
theorem ahB:f102 Z a s=Z.ah s (fun c s=>Z.ay c (Z.av s (fun d s=>Z.aB false [some d] s) 1 [(.int .i64 1),(.int .i64 0)]) (Z.ah s (fun b s=>Z.ay b (z3 Z a b s) (Z.ah s (fun e s=>z3 Z a e s) (al .eql a (.int .i64 4)))) (al .eql a (.int .i64 3)))) (al .eql a (.int .i64 2)):=by kernel_rfl
theorem QK:az au G X 102 [a] s=f102 (aH au G X) a s.af:=aR au G X (fn:=Gm)
theorem ahC:f105 Z a s=Z.ah s (fun c s=>Z.ay c (Z.av s (fun d s=>Z.aB false [some d] s) 1 [(.int .i64 1),(.int .i64 1)]) (Z.ah s (fun e s=>Z.ay e (Z.av s (fun f s=>Z.aB false [some f] s) 1 [(.int .i64 1),(.int .i64 0)]) (Z.ah s (fun b s=>Z.ay b (z5 Z a b s) (Z.ah s (fun g s=>z5 Z a g s) (al .eql a (.int .i64 4)))) (al .eql a (.int .i64 3)))) (al .eql a (.int .i64 2)))) (al .eql a (.int .i64 1)):=by kernel_rfl
theorem QL:az au G X 105 [a] s=f105 (aH au G X) a s.af:=aR au G X (fn:=Gn)
theorem auI:f7 Z d g s=Z.dn g s (fun i s=>Z.iR s (fun a s=>Z.aj s (fun o s=>Z.ar s (fun e s=>Z.bh s (fun p s=>Z.bh s (fun q s=>Z.bh s (fun r s=>Z.eX (.ref (.l s.own.length) 0) (s.new (.cells [.int .i64 0,.aW 3 [] .nil,.aW 1 [] .nil,.aW 1 [] .nil])) (fun j s=>Z.a6 s (fun h s=>Z.aj s (fun t s=>Z.ar s (fun f s=>Z.bh s (fun u s=>Z.bh s (fun w s=>Z.bh s (fun x s=>Z.eX (.ref (.l s.own.length) 0) (s.new (.cells [.int .i64 0,.aW 3 [] .nil,.aW 1 [] .nil,.aW 1 [] .nil])) (fun m s=>Z.a6 s (fun h s=>Z.ae a true (fun k=>k r s) s (fun y s=>Z.ae a true (fun k=>k x s) s (fun z s=>Z.ae a true (fun k=>Z.ah s k (al .eql y z)) s (fun A s=>Z.a2 s (fun b s=>Z.ae b true (fun k=>Z.aj s k (some 4) j) s (fun B s=>Z.ae b true (fun k=>Z.aj s k (some 4) m) s (fun C s=>Z.ae b true (fun k=>Z.ar s k 13 [(ai.ak s.aa B),(ai.ak s.aa C)]) s (fun D s=>Z.a2 s (fun c s=>Z.ae c true (fun k=>k q s) s (fun E s=>Z.ae c true (fun k=>k w s) s (fun F s=>Z.ae c true (fun k=>Z.ar s k 32 [(ai.ak s.aa E),(ai.ak s.aa F)]) s (fun H s=>Z.a2 s (fun I s=>Z.aB false [some I] s) c H (.bool false))))) b D (.bool false))))) a A (.bool false))))) 4 m (ai.ak s.aa u))) 2 f) 1 f) 0 f) 36 [(ai.ak s.aa d),(ai.ak s.aa t)]) (some 2) i) 4 j (ai.ak s.aa p))) 2 e) 1 e) 0 e) 35 [(ai.ak s.aa d),(ai.ak s.aa o)]) (some 2) i) 10 []):=by kernel_rfl
theorem ahD:az au G X 7 [a,b] s=f7 (aH au G X) a b s.af:=aR au G X (fn:=aws)
end
end Go.h6
end
section
namespace Go.h6
end Go.h6
end
