/- A part of the proof: no condition. -/
import Derived.Test.YtgdnbfijkagodaaGreatDoorA4
import Derived.Test.YtgdnbfijkagodaaGreatDoorA2
import Derived.KernelRfl
set_option linter.unusedSectionVars false
set_option linter.unusedSimpArgs false
set_option linter.unusedVariables false
section
namespace Go.f0
noncomputable section
open Go.Ab
set_option maxRecDepth 100000
variable(Z:m8)
section
variable(a b c d e f g i j m o p q r t u w x y z A B C D E F H I J K L M N O P Q R S T U V:ae)(s:ag)
def QD:hc:=hL (a1 Z zr) (co Z uH)
def QE:g6:=fN 14
def QF:hc:=hL (a1 Z zp) (co Z uH)
def E1:hc:=eP 0 (QF Z)
def qN:g6:=fN 0x3510d1a
def xY:hc:=fk qN (Z.dH (a1 Z xR) qN) (E1 Z)
def QG:hc:=hL (a1 Z Et) (xY Z)
def Kk:hc:=eP 1 (QG Z)
def zC:ah:=Z.ba .e Ep .e s (QD Z)
def zD:ah:=Z.ba .e Er .e s (Kk Z)
def zE:ah:=Z.ba qN Es (eH (eH (bK .e (bK (dg d) .e)) b .e) a (bK .e (bK (bK (dg c) .e) .e))) s (xY Z)
def zF:ah:=Z.ba qN Eu (eH (eH (bK .e (bK (dg d) .e)) b .e) a (bK .e (bK (bK (dg c) .e) .e))) s (xY Z)
def zG:ah:=Z.ba .e zo .e s (co Z uH)
def qO:ah:=Z.dH (a1 Z xR) qN (eH (eH (bK .e (bK (dg d) .e)) b .e) a (bK .e (bK (bK (dg c) .e) .e))) s (E1 Z)
def zH:ah:=Z.ba QE zq (eH (dg b) a .e) s (co Z uH)
def f133(a b:ae)(s:ag):ah:=cG [a,b] 0 .e fun an=>a1 Z Ev an s (co Z uH)
def QH:hc:=hL (a1 Z Ez) (co Z zs)
def E2:hc:=eP 0 (QH Z)
def qP:g6:=fN 0x30d5039a
def E3:hc:=fk qP (Z.dH (a1 Z xS) qP) (E2 Z)
def QI:g6:=fN 0x310d5
def zI:ah:=Z.ba qP Ew (eH (eH (bK (eH (dg e) d .e) .e) b .e) a (bK (bK (bK (dg f) .e) .e) (dg c))) s (E3 Z)
def zJ:ah:=Z.ba qP Ex (eH (eH (bK (eH (dg e) d .e) .e) b .e) a (bK (bK (bK (dg f) .e) .e) (dg c))) s (E3 Z)
def zK:ah:=Z.ba QI Ey (bK (bK (bK (dg b) .e) .e) (bK .e (dg a))) s (co Z zs)
def qQ:ah:=Z.dH (a1 Z xS) qP (eH (eH (bK (eH (dg e) d .e) .e) b .e) a (bK (bK (bK (dg f) .e) .e) (dg c))) s (E2 Z)
def f134(a b:ae)(s:ag):ah:=cG [a,b] 0 .e fun an=>a1 Z EA an s (co Z zs)
def QJ:hc:=hL (a1 Z ED) (co Z zt)
def E4:hc:=eP 0 (QJ Z)
def qR:g6:=fN 54
def QK:hc:=fk qR (Z.dH (a1 Z xT) qR) (E4 Z)
def zL:ah:=Z.ba qR EB (eH (bK (dg b) .e) a .e) s (QK Z)
def uJ:ah:=Z.ba qR EC (eH (bK (dg b) .e) a .e) s (co Z zt)
def qS:ah:=Z.dH (a1 Z xT) qR (eH (bK (dg b) .e) a .e) s (E4 Z)
def f135(a:ae)(s:ag):ah:=cG [a] 0 .e fun an=>a1 Z EE an s (co Z zt)
def f136(a:ae)(s:ag):ah:=cG [a] 0 .e fun an=>a1 Z EF an s (co Z J2)
def QL:hc:=hL (a1 Z EJ) (co Z zu)
def E5:hc:=eP 0 (QL Z)
def qT:g6:=fN 0xd50d8a
def E6:hc:=fk qT (Z.dH (a1 Z xU) qT) (E5 Z)
def QM:g6:=fN 197
def zM:ah:=Z.ba qT EG (eH (eH .e b (eH (bK (dg e) .e) c .e)) a (bK (bK (bK (dg d) .e) .e) .e)) s (E6 Z)
def zN:ah:=Z.ba qT EH (eH (eH .e b (eH (bK (dg e) .e) c .e)) a (bK (bK (bK (dg d) .e) .e) .e)) s (E6 Z)
def zO:ah:=Z.ba QM EI (bK (bK .e (dg a)) .e) s (co Z zu)
def qU:ah:=Z.dH (a1 Z xU) qT (eH (eH .e b (eH (bK (dg e) .e) c .e)) a (bK (bK (bK (dg d) .e) .e) .e)) s (E5 Z)
def f137(a b:ae)(s:ag):ah:=cG [a,b] 0 .e fun an=>a1 Z EK an s (co Z zu)
def QN:hc:=hL (a1 Z zz) (co Z sv)
def E7:hc:=eP 0 (QN Z)
def qV:g6:=fN 0x39234d2a
def E8:hc:=fk qV (Z.dH (a1 Z xV) qV) (E7 Z)
def QO:g6:=fN 0xd237a
def Kl:g6:=fN 826
def Km:hc:=hL (a1 Z zw) (co Z sv)
def zP:hc:=eP 2 (Km Z)
def oA:g6:=fN 0xd15203467a
def zQ:hc:=fk oA (Z.dH (a1 Z uI) oA) (zP Z)
def Kn:g6:=fN 13178
def zR:ah:=Z.ba qV EL (eH (eH (eH .e d (bK (dg i) .e)) b (bK (dg e) .e)) a (eH .e c (bK (eH (dg g) f .e) .e))) s (E8 Z)
def zS:ah:=Z.ba qV EM (eH (eH (eH .e d (bK (dg i) .e)) b (bK (dg e) .e)) a (eH .e c (bK (eH (dg g) f .e) .e))) s (E8 Z)
def zT:ah:=Z.ba oA EN (eH (eH (dg d) b (bK (eH (bK .e (bK (dg f) .e)) e .e) .e)) a (eH .e c (bK (bK (bK .e (bK (dg g) .e)) .e) .e))) s (zQ Z)
def zU:ah:=Z.ba oA EO (eH (eH (dg d) b (bK (eH (bK .e (bK (dg f) .e)) e .e) .e)) a (eH .e c (bK (bK (bK .e (bK (dg g) .e)) .e) .e))) s (zQ Z)
def zV:ah:=Z.ba Kn zv (eH (eH (dg d) b (bK (dg e) .e)) a (dg c)) s (co Z sv)
def qW:ah:=Z.dH (a1 Z uI) oA (eH (eH (dg d) b (bK (eH (bK .e (bK (dg f) .e)) e .e) .e)) a (eH .e c (bK (bK (bK .e (bK (dg g) .e)) .e) .e))) s (zP Z)
def uK:ah:=Z.ba Kl zx (eH (eH (dg d) b .e) a (dg c)) s (co Z sv)
def zW:ah:=Z.ba QO zy (eH (eH (dg d) b (bK (dg e) .e)) a (eH .e c (bK (dg f) .e))) s (co Z sv)
def oB:ah:=Z.dH (a1 Z xV) qV (eH (eH (eH .e d (bK (dg i) .e)) b (bK (dg e) .e)) a (eH .e c (bK (eH (dg g) f .e) .e))) s (E7 Z)
def f138(a b c d:ae)(s:ag):ah:=cG [a,b,c,d] 0 .e fun an=>a1 Z EP an s (co Z sv)
def QP:hc:=hL (a1 Z ES) (co Z zA)
def E9:hc:=eP 0 (QP Z)
def tc:g6:=fN 0xd234da
def QQ:hc:=fk tc (Z.dH (a1 Z xW) tc) (E9 Z)
def QR:g6:=fN 837
def uL:ah:=Z.ba QR ER (bK (bK .e (bK (dg a) .e)) .e) s (co Z zA)
def uM:ah:=Z.ba tc EQ (eH (eH (bK (dg d) .e) b (bK (dg e) .e)) a (eH .e c (bK (dg f) .e))) s (QQ Z)
def qX:ah:=Z.dH (a1 Z xW) tc (eH (eH (bK (dg d) .e) b (bK (dg e) .e)) a (eH .e c (bK (dg f) .e))) s (E9 Z)
def f139(a b c:ae)(s:ag):ah:=cG [a,b,c] 0 .e fun an=>a1 Z ET an s (co Z zA)
def QS:g6:=fN 798
def QT:hc:=hL (a1 Z EZ) (co Z wR)
def Fa:hc:=eP 0 (QT Z)
def qY:g6:=fN 0x334753444da
def xZ:hc:=fk qY (Z.dH (a1 Z xX) qY) (Fa Z)
def QU:hc:=hL (a1 Z EW) (xZ Z)
def QV:hc:=eP 1 (QU Z)
def Ko:g6:=fN 0xe34753474da
def Kp:g6:=fN 0x350d5
def zX:ah:=Z.ba qY EV (eH (eH (bK (dg d) .e) b (bK .e (bK .e (bK (dg g) .e)))) a (bK (bK (dg e) (bK .e (bK (dg f) .e))) (dg c))) s (xZ Z)
def qZ:ah:=Z.ba Ko EU (eH (eH (bK (dg d) .e) b (bK (dg f) (bK .e (bK (dg j) .e)))) a (bK (bK (dg e) (bK .e (bK (dg i) .e))) (eH (dg g) c .e))) s (QV Z)
def zY:ah:=Z.ba qY EX (eH (eH (bK (dg d) .e) b (bK .e (bK .e (bK (dg g) .e)))) a (bK (bK (dg e) (bK .e (bK (dg f) .e))) (dg c))) s (xZ Z)
def zZ:ah:=Z.ba Kp EY (bK (bK (bK (dg a) .e) .e) (bK (bK (dg b) .e) .e)) s (co Z wR)
def oC:ah:=Z.dH (a1 Z xX) qY (eH (eH (bK (dg d) .e) b (bK .e (bK .e (bK (dg g) .e)))) a (bK (bK (dg e) (bK .e (bK (dg f) .e))) (dg c))) s (Fa Z)
def z0:ah:=Z.ba QS zB (eH (dg b) a (bK .e (dg c))) s (co Z wR)
def f140(a b:ae)(s:ag):ah:=cG [a,b] 0 .e fun an=>a1 Z E0 an s (co Z wR)
def Fb:g6:=fN 50
def oD:ah:=Z.ba Fb D0 (eH .e a (dg b)) s (co Z zl)
def ng:ah:=Z.ba Fb D1 (eH .e a (dg b)) s (co Z zl)
def f111(a:ae)(s:ag):ah:=cG [a] 0 .e fun an=>a1 Z D2 an s (co Z zl)
def Wd:g6:=fN 57
def Fc:ah:=Z.ba Wd II (bK (eH (dg b) a .e) .e) s (co Z Mq)
def f87(a:ae)(s:ag):ah:=cG [a] 0 .e fun an=>a1 Z IJ an s (co Z Mq)
def We:g6:=fN 3637
def Wf:hc:=hL (a1 Z DY) (co Z xO)
def Kq:hc:=eP 0 (Wf Z)
def rV:g6:=fN 0x3d0d5
def Wg:hc:=fk rV (Z.dH (a1 Z Cg) rV) (Kq Z)
def QW:hc:=hL (a1 Z IQ) (co Z xO)
def Fe:hc:=eP 2 (QW Z)
def td:g6:=fN 0xdd315
def QX:hc:=fk td (Z.dH (a1 Z Ch) td) (Fe Z)
def QY:g6:=fN 3537
def x0:ah:=Z.ba rV IM (bK (bK (bK (dg c) .e) .e) (bK (dg a) (dg b))) s (Wg Z)
def Ff:ah:=Z.ba td IN (bK (bK (bK .e (dg c)) .e) (bK (dg a) (bK (dg b) .e))) s (QX Z)
def Fg:ah:=Z.ba QY IP (bK .e (bK (dg a) (bK (dg b) .e))) s (co Z xO)
def te:ah:=Z.dH (a1 Z Ch) td (bK (bK (bK .e (dg c)) .e) (bK (dg a) (bK (dg b) .e))) s (Fe Z)
def Fh:ah:=Z.ba rV IR (bK (bK (bK (dg c) .e) .e) (bK (dg a) (dg b))) s (co Z xO)
def x1:ah:=Z.ba rV DX (bK (bK (bK (dg c) .e) .e) (bK (dg a) (dg b))) s (co Z xO)
def tf:ah:=Z.dH (a1 Z Cg) rV (bK (bK (bK (dg c) .e) .e) (bK (dg a) (dg b))) s (Kq Z)
def Fi:ah:=Z.ba We DZ (bK (bK (dg b) .e) (eH (dg c) a .e)) s (co Z xO)
def f90(a b:ae)(s:ag):ah:=cG [a,b] 0 .e fun an=>a1 Z IS an s (co Z xO)
def f113(a b:ae)(s:ag):ah:=cG [a,b] 0 .e fun an=>a1 Z D7 an s (co Z JS)
def Fj:g6:=fN 14
def QZ:hc:=hL (a1 Z Eb) (co Z uG)
def Fk:hc:=eP 0 (QZ Z)
def q0:g6:=fN 0xd00d653703555
def Fl:hc:=fk q0 (Z.dH (a1 Z xP) q0) (Fk Z)
def Kr:g6:=fN 0xd35315
def z1:ah:=Z.ba q0 D8 (bK (bK (bK (bK (bK (bK (dg e) .e) .e) .e) (dg d)) (bK (dg b) .e)) (bK (bK (eH (bK (bK (dg f) .e) .e) a .e) .e) (bK (dg c) .e))) s (Fl Z)
def z2:ah:=Z.ba q0 D9 (bK (bK (bK (bK (bK (bK (dg e) .e) .e) .e) (dg d)) (bK (dg b) .e)) (bK (bK (eH (bK (bK (dg f) .e) .e) a .e) .e) (bK (dg c) .e))) s (Fl Z)
def z3:ah:=Z.ba Kr Ea (bK (bK (bK .e (dg c)) .e) (bK (bK (dg a) .e) (bK (dg b) .e))) s (co Z uG)
def q1:ah:=Z.dH (a1 Z xP) q0 (bK (bK (bK (bK (bK (bK (dg e) .e) .e) .e) (dg d)) (bK (dg b) .e)) (bK (bK (eH (bK (bK (dg f) .e) .e) a .e) .e) (bK (dg c) .e))) s (Fk Z)
def z4:ah:=Z.ba Fj Ec (eH (dg b) a .e) s (co Z uG)
def z5:ah:=Z.ba Fj zm (eH (dg b) a .e) s (co Z uG)
def f114(a b:ae)(s:ag):ah:=cG [a,b] 0 .e fun an=>a1 Z Ed an s (co Z uG)
def Q0:g6:=fN 222
def z6:ah:=Z.ba Q0 Ee (eH (dg b) a (bK (dg c) .e)) s (co Z wQ)
def f115(a b:ae)(s:ag):ah:=cG [a,b] 0 .e fun an=>a1 Z Ef an s (co Z wQ)
def Q1:hc:=hL (a1 Z Ej) (co Z zn)
def Fm:hc:=eP 0 (Q1 Z)
def q2:g6:=fN 0x310e6
def Fo:hc:=fk q2 (Z.dH (a1 Z xQ) q2) (Fm Z)
def Q2:g6:=fN 53
def z7:ah:=Z.ba q2 Eg (eH (bK (eH (dg d) b .e) .e) a (bK .e (dg c))) s (Fo Z)
def z8:ah:=Z.ba q2 Eh (eH (bK (eH (dg d) b .e) .e) a (bK .e (dg c))) s (Fo Z)
def z9:ah:=Z.ba Q2 Ei (bK (bK (dg a) .e) .e) s (co Z zn)
def nh:ah:=Z.dH (a1 Z xQ) q2 (eH (bK (eH (dg d) b .e) .e) a (bK .e (dg c))) s (Fm Z)
def f116(a:ae)(s:ag):ah:=cG [a] 0 .e fun an=>a1 Z Ek an s (co Z zn)
def Ks:g6:=fN 13
def Fp:ah:=Z.ba Ks Iu (bK (dg a) .e) s (co Z Cf)
def Fq:ah:=Z.ba Ks Iv (bK (dg a) .e) s (co Z Cf)
def f71(a:ae)(s:ag):ah:=cG [a] 0 .e fun an=>a1 Z Iw an s (co Z Cf)
def f88(a:ae)(s:ag):ah:=cG [a] 0 .e fun an=>a1 Z IK an s (co Z VC)
def f89(a:ae)(s:ag):ah:=cG [a] 0 .e fun an=>a1 Z IL an s (co Z VD)
def Wh:hc:=hL (a1 Z DT) (co Z xM)
def Kt:hc:=eP 0 (Wh Z)
def uN:g6:=fN 0x3350e6
def Ck:hc:=fk uN (Z.dH (a1 Z Cb) uN) (Kt Z)
def Wi:hc:=hL (a1 Z HU) (Ck Z)
def Wj:hc:=eP 1 (Wi Z)
def Wk:g6:=fN 0x335ce6
def Q3:g6:=fN 54
def x2:ah:=Z.ba uN HT (eH (bK (eH (dg d) b .e) .e) a (bK (bK (dg e) .e) (dg c))) s (Ck Z)
def Fs:ah:=Z.ba Wk HS (eH (bK (eH (dg e) b .e) (dg c)) a (bK (bK (dg f) .e) (dg d))) s (Wj Z)
def Ft:ah:=Z.ba uN HV (eH (bK (eH (dg d) b .e) .e) a (bK (bK (dg e) .e) (dg c))) s (Ck Z)
def Fu:ah:=Z.ba .e HW .e s (co Z xM)
def x3:ah:=Z.ba Q3 DS (eH (bK (dg b) .e) a .e) s (co Z xM)
def tg:ah:=Z.dH (a1 Z Cb) uN (eH (bK (eH (dg d) b .e) .e) a (bK (bK (dg e) .e) (dg c))) s (Kt Z)
def f16(a:ae)(s:ag):ah:=cG [a] 0 .e fun an=>a1 Z HX an s (co Z xM)
def Wl:g6:=fN 56550
def Wm:hc:=hL (a1 Z DV) (co Z zk)
def Ku:hc:=eP 0 (Wm Z)
def uO:g6:=fN 0x3453449cd1e6
def Kv:hc:=fk uO (Z.dH (a1 Z Cc) uO) (Ku Z)
def Q4:g6:=fN 53478
def Fv:g6:=fN 3382
def Fw:ah:=Z.ba uO H7 (eH (bK (eH (dg e) b (bK .e (bK (dg g) .e))) (dg d)) a (bK (eH .e c (bK .e (bK (dg i) .e))) (bK (bK .e (bK (dg f) .e)) .e))) s (Kv Z)
def Fx:ah:=Z.ba uO H8 (eH (bK (eH (dg e) b (bK .e (bK (dg g) .e))) (dg d)) a (bK (eH .e c (bK .e (bK (dg i) .e))) (bK (bK .e (bK (dg f) .e)) .e))) s (Kv Z)
def x4:ah:=Z.ba Fv H9 (eH (bK (dg b) .e) a (bK (dg c) .e)) s (co Z zk)
def x5:ah:=Z.ba Fv Ia (eH (bK (dg b) .e) a (bK (dg c) .e)) s (co Z zk)
def x6:ah:=Z.ba Q4 DU (eH (bK (eH (dg d) b .e) .e) a (bK (dg c) .e)) s (co Z zk)
def th:ah:=Z.dH (a1 Z Cc) uO (eH (bK (eH (dg e) b (bK .e (bK (dg g) .e))) (dg d)) a (bK (eH .e c (bK .e (bK (dg i) .e))) (bK (bK .e (bK (dg f) .e)) .e))) s (Ku Z)
def Fy:ah:=Z.ba Wl DW (eH (bK (eH (dg e) b .e) (dg d)) a (bK (dg c) .e)) s (co Z zk)
def f42(a:ae)(s:ag):ah:=cG [a] 0 .e fun an=>a1 Z Ib an s (co Z zk)
def f43(a:ae)(s:ag):ah:=cG [a] 0 .e fun an=>a1 Z Ic an s (co Z Ul)
def Wn:hc:=hL (a1 Z Ih) (co Z Ij)
def Kw:hc:=eP 0 (Wn Z)
def uP:g6:=fN 0x3350e5
def Kx:hc:=fk uP (Z.dH (a1 Z Cd) uP) (Kw Z)
def Wo:g6:=fN 53
def q3:ah:=Z.ba uP Ie (bK (bK (eH (dg c) a .e) .e) (bK (bK (dg d) .e) (dg b))) s (Kx Z)
def Fz:ah:=Z.ba uP If (bK (bK (eH (dg c) a .e) .e) (bK (bK (dg d) .e) (dg b))) s (Kx Z)
def FA:ah:=Z.ba Wo Ig (bK (bK (dg a) .e) .e) s (co Z Ij)
def ti:ah:=Z.dH (a1 Z Cd) uP (bK (bK (eH (dg c) a .e) .e) (bK (bK (dg d) .e) (dg b))) s (Kw Z)
def f44(a:ae)(s:ag):ah:=cG [a] 0 .e fun an=>a1 Z Ii an s (co Z Ij)
def f48(a:ae)(s:ag):ah:=cG [a] 0 .e fun an=>a1 Z Il an s (co Z Uq)
def f50(a b:ae)(s:ag):ah:=cG [a,b] 0 .e fun an=>a1 Z Im an s (co Z Uy)
def Wp:hc:=hL (a1 Z H4) (co Z H6)
def Ky:hc:=eP 0 (Wp Z)
def Wq:g6:=fN 0x345c5
def Wr:g6:=fN 0x3111c5
def FB:ah:=Z.ba .e H3 .e s (co Z H6)
def x7:ah:=Z.ba Wr H0 (bK (bK .e (dg a)) (bK .e (bK .e (bK .e (dg b))))) s (Ky Z)
def x8:ah:=Z.ba Wq H2 (bK (bK .e (dg a)) (bK (bK .e (bK (dg b) .e)) .e)) s (Ky Z)
def f21(a:ae)(s:ag):ah:=cG [a] 0 .e fun an=>a1 Z H5 an s (co Z H6)
def f72(a:ae)(s:ag):ah:=cG [a] 0 .e fun an=>a1 Z Ix an s (co Z UU)
def f73(a b:ae)(s:ag):ah:=cG [a,b] 0 .e fun an=>a1 Z Iy an s (co Z UW)
def f74(a b:ae)(s:ag):ah:=cG [a,b] 0 .e fun an=>a1 Z Iz an s (co Z IA)
def Ws:hc:=hL (a1 Z Ir) (co Z It)
def Kz:hc:=eP 0 (Ws Z)
def uQ:g6:=fN 0x350da
def KA:hc:=fk uQ (Z.dH (a1 Z Ce) uQ) (Kz Z)
def FC:ah:=Z.ba uQ Io (eH (eH (bK (dg c) .e) b .e) a (bK (bK (dg d) .e) .e)) s (KA Z)
def FD:ah:=Z.ba uQ Ip (eH (eH (bK (dg c) .e) b .e) a (bK (bK (dg d) .e) .e)) s (KA Z)
def FE:ah:=Z.ba .e Iq .e s (co Z It)
def tj:ah:=Z.dH (a1 Z Ce) uQ (eH (eH (bK (dg c) .e) b .e) a (bK (bK (dg d) .e) .e)) s (Kz Z)
def f62(a b:ae)(s:ag):ah:=cG [a,b] 0 .e fun an=>a1 Z Is an s (co Z It)
def f19(a:ae)(s:ag):ah:=cG [a] 0 .e fun an=>a1 Z HZ an s (co Z xN)
def f47(a:ae)(s:ag):ah:=cG [a] 0 .e fun an=>a1 Z Ik an s (co Z Up)
def Cl:hc:=hL (a1 Z IF) (co Z IH)
def Wt:g6:=fN 3
def Wu:g6:=fN 12742
def Wv:g6:=fN 3285
def Ww:g6:=fN 14
def FF:ah:=Z.ba Wv IB (bK (bK (bK (dg b) .e) (dg a)) .e) s (Cl Z)
def x9:ah:=Z.ba Wu IC (eH (bK .e (dg b)) a (bK .e (dg c))) s (Cl Z)
def FG:ah:=Z.ba Wt ID (dg a) s (Cl Z)
def Q5:ah:=Z.ba Ww IE (eH (dg b) a .e) s (co Z IH)
def f77(a b:ae)(s:ag):ah:=cG [a,b] 0 .e fun an=>a1 Z IG an s (co Z IH)
def Wx:g6:=fN 3
def FH:ah:=Z.ba Wx IT (dg a) s (co Z Mt)
def f95(a:ae)(s:ag):ah:=cG [a] 0 .e fun an=>a1 Z IU an s (co Z Mt)
def f96(a:ae)(s:ag):ah:=cG [a] 0 .e fun an=>a1 Z IV an s (co Z VW)
def Wy:hc:=hL (a1 Z I0) (co Z Cj)
def KB:hc:=eP 0 (Wy Z)
def uR:g6:=fN 222
def Wz:hc:=fk uR (Z.dH (a1 Z Ci) uR) (KB Z)
def KC:g6:=fN 3218
def Q6:ah:=Z.ba uR IW (eH (dg b) a (bK (dg c) .e)) s (Wz Z)
def nK:ah:=Z.ba KC IX (eH .e a (bK (eH .e b (dg c)) .e)) s (co Z Cj)
def nL:ah:=Z.ba KC IY (eH .e a (bK (eH .e b (dg c)) .e)) s (co Z Cj)
def tk:ah:=Z.ba uR IZ (eH (dg b) a (bK (dg c) .e)) s (co Z Cj)
def FI:ah:=Z.dH (a1 Z Ci) uR (eH (dg b) a (bK (dg c) .e)) s (KB Z)
def f97(a b:ae)(s:ag):ah:=cG [a,b] 0 .e fun an=>a1 Z I1 an s (co Z Cj)
def ya:g6:=fN 50
def q4:ah:=Z.ba ya D3 (eH .e a (dg b)) s (co Z wP)
def q5:ah:=Z.ba ya D4 (eH .e a (dg b)) s (co Z wP)
def uS:ah:=Z.ba ya D5 (eH .e a (dg b)) s (co Z wP)
def f112(a:ae)(s:ag):ah:=cG [a] 0 .e fun an=>a1 Z D6 an s (co Z wP)
def f120(a:ae)(s:ag):ah:=cG [a] 0 .e fun an=>a1 Z El an s (co Z J1)
def Aa:ah:=Z.ba .e Em .e s (co Z Eo)
def f121(a:ae)(s:ag):ah:=cG [a] 0 .e fun an=>a1 Z En an s (co Z Eo)
def WA:g6:=fN 14
def yb:ah:=Z.ba WA HQ (eH (dg b) a .e) s (co Z LX)
def f14(a b:ae)(s:ag):ah:=cG [a,b] 0 .e fun an=>a1 Z HR an s (co Z LX)
def X4:g6:=fN 826
def X5:hc:=hL (a1 Z HO) (co Z o7)
def Sm:hc:=eP 0 (X5 Z)
def Ac:g6:=fN 0xdc5f725
def Sn:hc:=fk Ac (Z.dH (a1 Z HE) Ac) (Sm Z)
def Cm:g6:=fN 0xdc53725
def WB:hc:=hL (a1 Z HM) (co Z o7)
def KD:hc:=eP 2 (WB Z)
def uT:g6:=fN 0x3dc53725
def KE:hc:=fk uT (Z.dH (a1 Z B9) uT) (KD Z)
def WC:hc:=hL (a1 Z HK) (co Z o7)
def KF:hc:=eP 4 (WC Z)
def uU:g6:=fN 0xdc537365
def KG:hc:=fk uU (Z.dH (a1 Z Ca) uU) (KF Z)
def WD:g6:=fN 0xdcd5315
def WE:g6:=fN 3409
def KH:ah:=Z.ba Ac Sh (bK (bK (eH .e a (dg d)) (bK (dg b) (dg f))) (bK (bK .e (dg e)) (bK (dg c) .e))) s (Sn Z)
def KI:ah:=Z.ba Ac Si (bK (bK (eH .e a (dg d)) (bK (dg b) (dg f))) (bK (bK .e (dg e)) (bK (dg c) .e))) s (Sn Z)
def KJ:ah:=Z.ba uT Sj (bK (bK (eH .e a (dg d)) (bK (dg b) .e)) (bK (bK .e (dg e)) (bK (dg c) (dg f)))) s (KE Z)
def KK:ah:=Z.ba uT Sk (bK (bK (eH .e a (dg d)) (bK (dg b) .e)) (bK (bK .e (dg e)) (bK (dg c) (dg f)))) s (KE Z)
def FJ:ah:=Z.ba uU HF (bK (bK (eH (bK (dg f) .e) a (dg d)) (bK (dg b) .e)) (bK (bK .e (dg e)) (bK (dg c) .e))) s (KG Z)
def FK:ah:=Z.ba uU HG (bK (bK (eH (bK (dg f) .e) a (dg d)) (bK (dg b) .e)) (bK (bK .e (dg e)) (bK (dg c) .e))) s (KG Z)
def FL:ah:=Z.ba WE HH (bK .e (bK (bK (bK (dg a) .e) .e) .e)) s (co Z o7)
def FM:ah:=Z.ba WD HI (bK (bK (bK .e (dg b)) .e) (bK (bK (bK (dg d) .e) (dg c)) (bK (dg a) .e))) s (co Z o7)
def tl:ah:=Z.ba Cm HJ (bK (bK (eH .e a (dg d)) (bK (dg b) .e)) (bK (bK .e (dg e)) (bK (dg c) .e))) s (co Z o7)
def tm:ah:=Z.dH (a1 Z Ca) uU (bK (bK (eH (bK (dg f) .e) a (dg d)) (bK (dg b) .e)) (bK (bK .e (dg e)) (bK (dg c) .e))) s (KF Z)
def Cn:ah:=Z.ba Cm HL (bK (bK (eH .e a (dg d)) (bK (dg b) .e)) (bK (bK .e (dg e)) (bK (dg c) .e))) s (co Z o7)
def yc:ah:=Z.dH (a1 Z B9) uT (bK (bK (eH .e a (dg d)) (bK (dg b) .e)) (bK (bK .e (dg e)) (bK (dg c) (dg f)))) s (KD Z)
def Co:ah:=Z.ba Cm HN (bK (bK (eH .e a (dg d)) (bK (dg b) .e)) (bK (bK .e (dg e)) (bK (dg c) .e))) s (co Z o7)
def yd:ah:=Z.dH (a1 Z HE) Ac (bK (bK (eH .e a (dg d)) (bK (dg b) (dg f))) (bK (bK .e (dg e)) (bK (dg c) .e))) s (Sm Z)
def KL:ah:=Z.ba X4 HP (eH (eH (dg d) b .e) a (dg c)) s (co Z o7)
def f5(a b c d:ae)(s:ag):ah:=cG [a,b,c,d] 0 .e fun an=>a1 Z Sl an s (co Z o7)
def f18(s:ag):ah:=cG [] 0 .e fun an=>a1 Z HY an s (co Z Te)
end
variable{a b c d e f g i j m o p q r t u w x y z A B C D E F H I J K L M N O P Q R S T U V:ae}{s:ag}
section
variable{Z}[h:Inhabited Z.oO]
include h
theorem Ad:zC Z s=Z.bw false [some (.int .i64 1)] s:=h.1.hi
theorem Ae:zD Z s=Z.bw false [some (.int .i64 1)] s:=h.1.hi
theorem Af:zE Z a b c d s=Z.ai s (fun e s=>qO Z a b c e s) (ao .add d (.int .i64 1)):=h.1.hi
theorem Ag:zF Z a b e d s=Z.dz s (fun f s=>Z.ai s (fun g s=>Z.ai s (fun c s=>Z.c7 s (fun i s=>Z.aK s (fun j s=>Z.c7 s (fun m s=>Z.aK s (fun o s=>Z.ai s (fun p s=>Z.bt p (Z.c7 s (fun q s=>Z.aK s (fun r s=>Z.c7 s (fun t s=>Z.aK s (fun u s=>Z.ai s (fun w s=>Z.bt w (Z.bw false [some (.int .i64 (-1))] s) (zD Z s)) (ao .lss r u)) none t) 1 b c) none q) 1 a c) (zE Z a b e d s)) (ao .neq j o)) none m) 1 b c) none i) 1 a c) (ao .sub g d)) (ao .sub f (.int .i64 1))) false a:=h.1.hi
theorem Ah:zG Z s=Z.bw false [some (.int .i64 0)] s:=h.1.hi
theorem sw:qO Z c d a b s=Z.ai s (fun e s=>Z.bt e (zF Z c d a b s) (zG Z s)) (ao .lss b a):=h.1.wH
theorem Ai:zH Z a b s=Z.dz s (fun c s=>qO Z a b c (.int .i64 0) s) false a:=h.1.hi
theorem Aj:zI Z a b c d e f s=Z.ai s (fun g s=>qQ Z a b c d e g s) (ao .add f (.int .i64 1)):=h.1.hi
theorem Ak:zJ Z a b c e f d s=Z.dz s (fun j s=>Z.ai s (fun m s=>Z.ai s (fun g s=>Z.ai s (fun o s=>Z.c7 s (fun p s=>Z.aK s (fun q s=>Z.bT s (fun r s=>Z.ai s (fun i s=>Z.bT s (fun t s=>Z.ai s (fun u s=>Z.bT s (fun w s=>Z.c7 s (fun x s=>Z.dy s (fun A s=>Z.bT s (fun y s=>Z.ai s (fun z s=>zI Z a b c z f d s) (ao .rem i y)) .u64 b) 1 x (ae.aq s.aa w)) 1 c g) .u32 u) (ao .quo i t)) .u64 b) (ao .or o r)) .u64 q) none p) 1 a g) (ao .shl e (.int .u64 32))) (ao .sub m d)) (ao .sub j (.int .i64 1))) false a:=h.1.hi
theorem Al:zK Z a b s=Z.cn s (fun c s=>Z.bT s (fun d s=>Z.bw false [some c,some d] s) .u32 b) 135 [(ae.aq s.aa a)]:=h.1.hi
theorem sx:qQ Z e f a b c d s=Z.ai s (fun g s=>Z.bt g (zJ Z e f a b c d s) (zK Z a b s)) (ao .lss d c):=h.1.wH
theorem Am:zL Z a b s=Z.ai s (fun c s=>qS Z a c s) (ao .sub b (.int .i64 1)):=h.1.hi
theorem An:uJ Z a b s=Z.jr 1 a none (some b) none s (fun c s=>Z.bw false [some c] s):=h.1.hi
theorem sy:qS Z c b s=Z.ai s (fun a s=>Z.af a true (fun k=>k c s) s (fun d s=>Z.af a true (fun k=>k b s) s (fun e s=>Z.af a true (fun k=>Z.ai s k (ao .sub e (.int .i64 1))) s (fun f s=>Z.af a true (fun k=>Z.c7 s k 1 d f) s (fun g s=>Z.af a true (fun k=>Z.aK s k none g) s (fun i s=>Z.af a true (fun k=>Z.ai s k (ao .eql i (.int .u32 0))) s (fun j s=>Z.cq s (fun m s=>Z.bt m (zL Z c b s) (uJ Z c b s)) a j (.bool false)))))))) (ao .gtr b (.int .i64 0)):=h.1.wH
theorem Ao:zM Z a b c d e s=Z.ai s (fun f s=>qU Z a b c d f s) (ao .add e (.int .i64 1)):=h.1.hi
theorem Ap:zN Z d a b e c s=Z.c7 s (fun i s=>Z.aK s (fun j s=>Z.bT s (fun m s=>Z.ai s (fun o s=>Z.ai s (fun f s=>Z.ai s (fun p s=>Z.ai s (fun g s=>Z.c7 s (fun q s=>Z.aK s (fun r s=>Z.bT s (fun t s=>Z.ai s (fun u s=>Z.c7 s (fun w s=>Z.dy s (fun F s=>Z.ai s (fun x s=>Z.ai s (fun y s=>Z.ai s (fun z s=>Z.ai s (fun A s=>Z.bT s (fun B s=>Z.c7 s (fun C s=>Z.dy s (fun F s=>zM Z d a b e c s) 1 C (ae.aq s.aa B)) 1 b z) .u32 A) (ao .shr f (.int .u64 32))) (ao .add y (.int .i64 1))) (ao .add c x)) (ao .quo a (.int .i64 32))) 1 w (ae.aq s.aa u)) 1 b g) (ao .or r t)) .u32 f) none q) 1 b g) (ao .add c p)) (ao .quo a (.int .i64 32))) (ao .shl m o)) (ao .rem a (.int .i64 32))) .u64 j) none i) 1 d c:=h.1.hi
theorem Aq:zO Z a s=Z.cn s (fun b s=>Z.bw false [some b] s) 135 [(ae.aq s.aa a)]:=h.1.hi
theorem sA:qU Z d e a b c s=Z.ai s (fun f s=>Z.bt f (zN Z d e a b c s) (zO Z a s)) (ao .lss c b):=h.1.wH
theorem Ar:zR Z a b c d e f g i s=Z.ai s (fun j s=>oB Z a b c d e f g j s) (ao .add i (.int .i64 1)):=h.1.hi
theorem As:zS Z b c d e f g i a s=Z.c7 s (fun o s=>Z.aK s (fun p s=>Z.bT s (fun q s=>Z.ai s (fun r s=>Z.ai s (fun j s=>Z.ai s (fun t s=>Z.ai s (fun u s=>Z.c7 s (fun w s=>Z.aK s (fun x s=>Z.bT s (fun y s=>Z.ai s (fun z s=>Z.ai s (fun A s=>Z.ai s (fun m s=>Z.ai s (fun B s=>Z.bT s (fun C s=>Z.c7 s (fun D s=>Z.dy s (fun F s=>Z.ai s (fun E s=>zR Z b c d e t E i a s) (ao .shr m (.int .u64 63))) 1 D (ae.aq s.aa C)) 1 b B) .u32 m) (ao .add c a)) (ao .sub A g)) (ao .sub y z)) (ao .and j (.int .u64 4294967295))) .u64 x) none w) 1 b u) (ao .add c a)) (ao .shr j (.int .u64 32))) (ao .add r f)) (ao .mul e q)) .u64 p) none o) 1 d a:=h.1.hi
theorem At:zT Z a b c d e f g s=Z.ai s (fun i s=>qW Z a b c d e f i s) (ao .add g (.int .i64 1)):=h.1.hi
theorem Au:zU Z b c d e f g a s=Z.ai s (fun j s=>Z.c7 s (fun m s=>Z.aK s (fun o s=>Z.bT s (fun p s=>Z.c7 s (fun q s=>Z.aK s (fun r s=>Z.bT s (fun t s=>Z.ai s (fun u s=>Z.ai s (fun i s=>Z.ai s (fun w s=>Z.bT s (fun x s=>Z.c7 s (fun y s=>Z.dy s (fun A s=>Z.ai s (fun z s=>zT Z b c d e z g a s) (ao .shr i (.int .u64 32))) 1 y (ae.aq s.aa x)) 1 b w) .u32 i) (ao .add c a)) (ao .add u f)) (ao .add p t)) .u64 r) none q) 1 d a) .u64 o) none m) 1 b j) (ao .add c a):=h.1.hi
theorem Av:zV Z a b c d e s=Z.dz s (fun g s=>Z.ai s (fun f s=>Z.c7 s (fun i s=>Z.aK s (fun j s=>Z.bT s (fun m s=>Z.ai s (fun o s=>Z.c7 s (fun p s=>Z.dy s (fun y s=>Z.ai s (fun q s=>Z.bT s (fun r s=>Z.bw false [some r] s) .u32 q) (ao .sub d (.int .u64 1))) 1 p (ae.aq s.aa o)) 1 a f) (ao .add j m)) .u32 e) none i) 1 a f) (ao .add b g)) false c:=h.1.hi
theorem sB:qW Z a b c d e f g s=Z.ai s (fun i s=>Z.bt i (zU Z a b c d e f g s) (zV Z a b c d e s)) (ao .lss g f):=h.1.wH
theorem Aw:uK Z b c a d s=Z.dz s (fun e s=>qW Z b c a d (.int .u64 0) e (.int .i64 0) s) false a:=h.1.hi
theorem Ax:zW Z a b c d e f s=Z.dz s (fun i s=>Z.ai s (fun j s=>Z.c7 s (fun m s=>Z.aK s (fun o s=>Z.bT s (fun p s=>Z.ai s (fun q s=>Z.ai s (fun g s=>Z.dz s (fun r s=>Z.ai s (fun t s=>Z.bT s (fun u s=>Z.c7 s (fun w s=>Z.dy s (fun A s=>Z.ai s (fun x s=>Z.ai s (fun y s=>Z.bt y (Z.bT s (fun z s=>Z.bw false [some z] s) .u32 d) (uK Z a b c d s)) (ao .eql x (.int .u64 0))) (ao .shr g (.int .u64 63))) 1 w (ae.aq s.aa u)) 1 a t) .u32 g) (ao .add b r)) false c) (ao .sub q f)) (ao .sub p e)) .u64 o) none m) 1 a j) (ao .add b i)) false c:=h.1.hi
theorem sC:oB Z a b c d e f g i s=Z.ai s (fun j s=>Z.bt j (zS Z a b c d e f g i s) (zW Z a b c d e f s)) (ao .lss i g):=h.1.wH
theorem sD:uL Z a s=Z.bw false [some a] s:=h.1.hi
theorem Ay:uM Z c d a b e f s=Z.ai s (fun g s=>Z.ai s (fun j s=>Z.c7 s (fun m s=>Z.aK s (fun o s=>Z.bT s (fun p s=>Z.ai s (fun i s=>Z.ai s (fun q s=>Z.bt q (uL Z g s) (qX Z c d a b g i s)) (ao .geq i (.int .u64 4294967296))) (ao .add f p)) .u64 o) none m) 1 a j) (ao .sub b (.int .i64 1))) (ao .sub e (.int .u64 1)):=h.1.hi
theorem Az:qX Z d e f c b g s=Z.ai s (fun a s=>Z.af a false (fun k=>k b s) s (fun i s=>Z.af a false (fun k=>k f s) s (fun j s=>Z.af a false (fun k=>k c s) s (fun m s=>Z.af a false (fun k=>Z.ai s k (ao .sub m (.int .i64 2))) s (fun o s=>Z.af a false (fun k=>Z.c7 s k 1 j o) s (fun p s=>Z.af a false (fun k=>Z.aK s k none p) s (fun q s=>Z.af a false (fun k=>Z.bT s k .u64 q) s (fun r s=>Z.af a false (fun k=>Z.ai s k (ao .mul i r)) s (fun t s=>Z.af a false (fun k=>k g s) s (fun u s=>Z.af a false (fun k=>Z.ai s k (ao .shl u (.int .u64 32))) s (fun w s=>Z.af a false (fun k=>k d s) s (fun x s=>Z.af a false (fun k=>k e s) s (fun y s=>Z.af a false (fun k=>k c s) s (fun z s=>Z.af a false (fun k=>Z.ai s k (ao .add y z)) s (fun A s=>Z.af a false (fun k=>Z.ai s k (ao .sub A (.int .i64 2))) s (fun B s=>Z.af a false (fun k=>Z.c7 s k 1 x B) s (fun C s=>Z.af a false (fun k=>Z.aK s k none C) s (fun D s=>Z.af a false (fun k=>Z.bT s k .u64 D) s (fun E s=>Z.af a false (fun k=>Z.ai s k (ao .or w E)) s (fun F s=>Z.af a false (fun k=>Z.ai s k (ao .gtr t F)) s (fun H s=>Z.cq s (fun I s=>Z.bt I (uM Z d e f c b g s) (uL Z b s)) a (.bool true) H))))))))))))))))))))) (ao .geq b (.int .u64 4294967296)):=h.1.wH
theorem AA:zX Z a b c d e f g s=Z.ai s (fun i s=>oC Z a b c d e f i s) (ao .add g (.int .i64 1)):=h.1.hi
theorem AB:qZ Z c a d e b f g i j s=Z.ai s (fun m s=>Z.ai s (fun o s=>Z.bT s (fun p s=>Z.c7 s (fun q s=>Z.dy s (fun r s=>zX Z c a d e b i j s) 1 q (ae.aq s.aa p)) 1 b f) .u32 o) (ao .shr g m)) (ao .rem a (.int .i64 32)):=h.1.hi
theorem AC:zY Z b d c e f g a s=Z.ai s (fun j s=>Z.c7 s (fun m s=>Z.aK s (fun o s=>Z.bT s (fun i s=>Z.ai s (fun p s=>Z.ai s (fun q s=>Z.dz s (fun r s=>Z.ai s (fun t s=>Z.bt t (Z.ai s (fun u s=>Z.ai s (fun w s=>Z.c7 s (fun x s=>Z.aK s (fun y s=>Z.bT s (fun z s=>Z.ai s (fun A s=>Z.ai s (fun B s=>qZ Z b d c e f a B g a s) (ao .or i A)) (ao .shl z (.int .u64 32))) .u64 y) none x) 1 b w) (ao .add u (.int .i64 1))) (ao .add a c)) (qZ Z b d c e f a i g a s)) (ao .lss q r)) false b) (ao .add p (.int .i64 1))) (ao .add a c)) .u64 o) none m) 1 b j) (ao .add a c):=h.1.hi
theorem AD:zZ Z a b s=Z.cn s (fun c s=>Z.bw false [some c,some a] s) 135 [(ae.aq s.aa b)]:=h.1.hi
theorem sE:oC Z e f g a b c d s=Z.ai s (fun i s=>Z.bt i (zY Z e f g a b c d s) (zZ Z a b s)) (ao .lss d c):=h.1.wH
theorem AE:z0 Z b d c s=Z.jr 1 b none (some c) none s (fun g s=>Z.cn s (fun i s=>Z.dz s (fun j s=>Z.ai s (fun a s=>Z.af a false (fun k=>k b s) s (fun m s=>Z.af a false (fun k=>k c s) s (fun o s=>Z.af a false (fun k=>Z.c7 s k 1 m o) s (fun p s=>Z.af a false (fun k=>Z.aK s k none p) s (fun q s=>Z.af a false (fun k=>k d s) s (fun r s=>Z.af a false (fun k=>Z.ai s k (ao .rem r (.int .i64 32))) s (fun t s=>Z.af a false (fun k=>Z.ai s k (ao .shl (.int .u32 1) t)) s (fun u s=>Z.af a false (fun k=>Z.ai s k (ao .sub u (.int .u32 1))) s (fun w s=>Z.af a false (fun k=>Z.ai s k (ao .and q w)) s (fun x s=>Z.af a false (fun k=>Z.ai s k (ao .neq x (.int .u32 0))) s (fun y s=>Z.cq s (fun z s=>Z.dz s (fun A s=>Z.ai s (fun e s=>Z.kP s (fun f s=>Z.dz s (fun B s=>oC Z b d c z f B (.int .i64 0) s) false f) [.int .u32 0] 4 e e) (ao .sub A c)) false b) a (.bool true) y))))))))))) (ao .gtr j (.int .i64 0))) false i) 135 [(ae.aq s.aa g)]):=h.1.hi
theorem AF:oD Z a b s=Z.bT s (fun c s=>Z.g5 s (fun d s=>Z.bT s (fun e s=>Z.ai s (fun f s=>Z.bw false [some f] s) (ao .add b e)) .i64 d) (.str [0,1,2,2,3,3,3,3,4,4,4,4,4,4,4,4,5,5,5,5,5,5,5,5,5,5,5,5,5,5,5,5,6,6,6,6,6,6,6,6,6,6,6,6,6,6,6,6,6,6,6,6,6,6,6,6,6,6,6,6,6,6,6,6,7,7,7,7,7,7,7,7,7,7,7,7,7,7,7,7,7,7,7,7,7,7,7,7,7,7,7,7,7,7,7,7,7,7,7,7,7,7,7,7,7,7,7,7,7,7,7,7,7,7,7,7,7,7,7,7,7,7,7,7,7,7,7,7,8,8,8,8,8,8,8,8,8,8,8,8,8,8,8,8,8,8,8,8,8,8,8,8,8,8,8,8,8,8,8,8,8,8,8,8,8,8,8,8,8,8,8,8,8,8,8,8,8,8,8,8,8,8,8,8,8,8,8,8,8,8,8,8,8,8,8,8,8,8,8,8,8,8,8,8,8,8,8,8,8,8,8,8,8,8,8,8,8,8,8,8,8,8,8,8,8,8,8,8,8,8,8,8,8,8,8,8,8,8,8,8,8,8,8,8,8,8,8,8,8,8,8,8,8,8,8,8]) c) .u8 a:=h.1.hi
theorem AG:ng Z a b s=Z.ai s (fun c s=>Z.bt c (Z.ai s (fun d s=>Z.ai s (fun e s=>oD Z d e s) (ao .add b (.int .i64 8))) (ao .shr a (.int .u64 8))) (oD Z a b s)) (ao .geq a (.int .u32 256)):=h.1.hi
theorem uV:Fc Z c b s=Z.ai s (fun a s=>Z.af a true (fun k=>Z.a7 s k 1 c) s (fun d s=>Z.af a true (fun k=>Z.aK s k none d) s (fun e s=>Z.af a true (fun k=>k b s) s (fun f s=>Z.af a true (fun k=>Z.ai s k (ao .sub f (.int .i64 1))) s (fun g s=>Z.af a true (fun k=>Z.c7 s k 1 e g) s (fun i s=>Z.af a true (fun k=>Z.aK s k none i) s (fun j s=>Z.af a true (fun k=>Z.ai s k (ao .neq j (.int .u32 0))) s (fun m s=>Z.cq s (fun o s=>Z.bw false [some o] s) a m (.bool false))))))))) (ao .leq b (.int .i64 128)):=h.1.hi
theorem Cp:x0 Z b c a s=Z.cn s (fun d s=>Z.de s (fun f s=>Z.de s (fun e s=>tf Z b a e s) 1 d) 0 d) 114 [(ae.aq s.aa c),(ae.aq s.aa a)]:=h.1.hi
theorem Cq:Ff Z b c a s=Z.ai s (fun d s=>te Z b a d s) (ao .rem c a):=h.1.hi
theorem Cr:Fg Z a b s=Z.bT s (fun d s=>Z.ai s (fun e s=>Z.bT s (fun f s=>Z.bG s (fun g s=>Z.cn s (fun c s=>Z.de s (fun i s=>Z.de s (fun j s=>Z.dy s (fun p s=>Z.bw false [lb s a (some 2),some j] s) 2 a (ae.aq s.aa i)) 1 c) 0 c) 115 [(ae.aq s.aa (.bool false)),(ae.aq s.aa g)]) 1 [d,f]) .u32 e) (ao .shr b (.int .u64 32))) .u32 b:=h.1.hi
theorem Cs:te Z a b c s=Z.ai s (fun d s=>Z.bt d (Ff Z a b c s) (Fg Z a b s)) (ao .gtr c (.int .u64 0)):=h.1.wH
theorem Ct:Fh Z a b c s=Z.cn s (fun d s=>Z.cn s (fun e s=>te Z a d e s) 116 [(ae.aq s.aa c)]) 116 [(ae.aq s.aa b)]:=h.1.hi
theorem uW:x1 Z a b c s=Z.dz s (fun e s=>Z.ai s (fun f s=>Z.bt f (Z.cn s (fun d s=>Z.de s (fun g s=>Z.de s (fun i s=>Z.dy s (fun p s=>Z.bw false [lb s a (some 2),some i] s) 2 a (ae.aq s.aa g)) 1 d) 0 d) 115 [(ae.aq s.aa (.bool false)),(ae.aq s.aa b)]) (Fh Z a b c s)) (ao .gtr e (.int .i64 2))) false b:=h.1.hi
theorem nM:tf Z e c b s=Z.dz s (fun f s=>Z.ai s (fun a s=>Z.af a true (fun k=>k c s) s (fun g s=>Z.af a true (fun k=>Z.dz s k false g) s (fun i s=>Z.af a true (fun k=>Z.ai s k (ao .gtr i (.int .i64 2))) s (fun j s=>Z.af a true (fun k=>k j s) s (fun d s=>Z.af d false (fun k=>k b s) s (fun m s=>Z.af d false (fun k=>Z.dz s k false m) s (fun o s=>Z.af d false (fun k=>Z.ai s k (ao .gtr o (.int .i64 2))) s (fun p s=>Z.af a true (fun k=>Z.cq s k d (.bool true) p) s (fun q s=>Z.cq s (fun r s=>Z.bt r (x0 Z e c b s) (x1 Z e c b s)) a q (.bool false)))))))))) (ao .gtr f (.int .i64 0))) false b:=h.1.wH
theorem Cu:Fi Z a b c s=Z.a7 s (fun d s=>Z.aK s (fun e s=>Z.a7 s (fun f s=>Z.aK s (fun g s=>tf Z c e g s) none f) 1 b) none d) 1 a:=h.1.hi
theorem AH:z1 Z a b c d e f s=Z.ai s (fun g s=>q1 Z a b c d e g s) (ao .add f (.int .i64 1)):=h.1.hi
theorem AI:z2 Z f a b c g d s=Z.dz s (fun i s=>Z.ai s (fun j s=>Z.ai s (fun e s=>Z.cn s (fun m s=>Z.cn s (fun o s=>Z.c7 s (fun p s=>Z.dy s (fun q s=>z1 Z f a b c g d s) 1 p (ae.aq s.aa o)) 1 c e) 138 [(ae.aq s.aa b),(ae.aq s.aa e),(ae.aq s.aa a),(ae.aq s.aa m)]) 139 [(ae.aq s.aa b),(ae.aq s.aa e),(ae.aq s.aa a)]) (ao .sub j d)) (ao .sub i (.int .i64 1))) false c:=h.1.hi
theorem AJ:z3 Z a b c s=Z.cn s (fun e s=>Z.cn s (fun d s=>Z.de s (fun f s=>Z.de s (fun i s=>Z.cn s (fun g s=>Z.bw false [some g,some f] s) 135 [(ae.aq s.aa c)]) 1 d) 0 d) 140 [(ae.aq s.aa e),(ae.aq s.aa a)]) 135 [(ae.aq s.aa b)]:=h.1.hi
theorem sF:q1 Z a f b c d e s=Z.ai s (fun g s=>Z.bt g (z2 Z a f b c d e s) (z3 Z a b c s)) (ao .lss e d):=h.1.wH
theorem AK:z4 Z b a s=Z.dz s (fun i s=>Z.ai s (fun j s=>Z.c7 s (fun m s=>Z.aK s (fun o s=>Z.cn s (fun c s=>Z.cn s (fun p s=>Z.dz s (fun q s=>Z.ai s (fun d s=>Z.kP s (fun e s=>Z.cn s (fun r s=>Z.qG s (fun y s=>Z.dz s (fun t s=>Z.dz s (fun u s=>Z.ai s (fun w s=>Z.ai s (fun f s=>Z.kP s (fun g s=>Z.dz s (fun x s=>q1 Z c p e g x (.int .i64 0) s) false g) [.int .u32 0] 4 f f) (ao .add w (.int .i64 1))) (ao .sub t u)) false a) false b) 1 e r) 137 [(ae.aq s.aa b),(ae.aq s.aa c)]) [.int .u32 0] 4 d d) (ao .add q (.int .i64 1))) false b) 137 [(ae.aq s.aa a),(ae.aq s.aa c)]) 136 [(ae.aq s.aa o)]) none m) 1 a j) (ao .sub i (.int .i64 1))) false a:=h.1.hi
theorem AL:z5 Z b a s=Z.dz s (fun d s=>Z.ai s (fun e s=>Z.bt e (Z.c7 s (fun f s=>Z.aK s (fun g s=>Z.cn s (fun c s=>Z.de s (fun i s=>Z.de s (fun j s=>Z.bG s (fun m s=>Z.cn s (fun o s=>Z.bw false [some i,some o] s) 135 [(ae.aq s.aa m)]) 1 [j]) 1 c) 0 c) 134 [(ae.aq s.aa b),(ae.aq s.aa g)]) none f) 1 a (.int .i64 0)) (z4 Z b a s)) (ao .eql d (.int .i64 1))) false a:=h.1.hi
theorem AM:z6 Z a b c s=Z.dz s (fun d s=>Z.kP s (fun e s=>Z.qG s (fun o s=>Z.af a true (fun k=>k b s) s (fun f s=>Z.af a true (fun k=>Z.dz s k false f) s (fun g s=>Z.af a true (fun k=>Z.ai s k (ao .gtr g (.int .i64 0))) s (fun i s=>Z.cq s (fun j s=>Z.eh [.bool false,.cm 1 [] .nil] [(0,1,j),(1,1,e)] s (fun m s=>Z.dy s (fun p s=>Z.bw false [lb s c (some 2),some (.int .i64 0)] s) 2 c (ae.aq s.aa m))) a i (.bool false))))) 1 e b) [.int .u32 0] 4 d d) false b:=h.1.hi
theorem AN:z7 Z a b c d s=Z.ai s (fun e s=>nh Z a b c e s) (ao .add d (.int .i64 1)):=h.1.hi
theorem AO:z8 Z b c d a s=Z.c7 s (fun e s=>Z.aK s (fun f s=>Z.bT s (fun g s=>Z.ai s (fun i s=>Z.ai s (fun j s=>Z.ai s (fun m s=>z7 Z b m d a s) (ao .or c j)) (ao .shl g i)) (ao .mul (.int .i64 32) a)) .u64 f) none e) 1 b a:=h.1.hi
theorem AP:z9 Z a s=Z.bw false [some a] s:=h.1.hi
theorem sG:nh Z d a b c s=Z.ai s (fun e s=>Z.bt e (z8 Z d a b c s) (z9 Z a s)) (ao .lss c b):=h.1.wH
theorem Cv:Fp Z a s=Z.a7 s (fun d s=>Z.aK s (fun e s=>Z.a7 s (fun f s=>Z.aK s (fun g s=>Z.cn s (fun b s=>Z.de s (fun i s=>Z.de s (fun o s=>Z.iP (.ref (.l s.own.length) 0) (s.new (.cells [.bool false,.cm 1 [] .nil])) (fun c s=>Z.dy s (fun p s=>Z.aK s (fun j s=>Z.cn s (fun m s=>Z.bw false [some m] s) 89 [(ae.aq s.aa j)]) (some 2) c) 2 c (ae.aq s.aa i))) 1 b) 0 b) 90 [(ae.aq s.aa e),(ae.aq s.aa g)]) (some 2) f) 2 a) (some 2) d) 0 a:=h.1.hi
theorem Cw:Fq Z a s=Z.a7 s (fun b s=>Z.aK s (fun c s=>Z.cn s (fun d s=>Z.bt d (Z.bw false [some (.bool true)] s) (Fp Z a s)) 89 [(ae.aq s.aa c)]) (some 2) b) 2 a:=h.1.hi
theorem uX:x2 Z a b c d e s=Z.ai s (fun f s=>tg Z a b c d f s) (ao .add e (.int .i64 1)):=h.1.hi
theorem Cx:Fs Z a b f c d e s=Z.aK s (fun g s=>Z.cn s (fun i s=>Z.bt i (Z.ai s (fun j s=>x2 Z a j c d e s) (ao .add b (.int .i64 1))) (x2 Z a b c d e s)) 43 [(ae.aq s.aa g)]) (some 12) f:=h.1.hi
theorem Cy:Ft Z b d c e a s=Z.c7 s (fun g s=>Z.aK s (fun i s=>Z.iP (.ref (.l s.own.length) 0) (s.new (.cells [.str [],.int .i64 0,.cm 1 [] .nil,.bool false,.cm 1 [] .nil,.bool false,.cm 1 [] .nil,.bool false,.cm 1 [] .nil,.bool false,.cm 1 [] .nil,.int .i64 0])) (fun f s=>Z.dy s (fun q s=>Z.ai s (fun j s=>Z.jr 12 b none (some j) none s (fun m s=>Z.cn s (fun o s=>Z.ai s (fun p s=>Z.bt p (Z.bw false [some (.int .i64 120)] s) (Fs Z b d f c e a s)) (kl .not o)) 42 [(ae.aq s.aa m)])) (ao .add a (.int .i64 1))) 12 f (ae.aq s.aa i))) (some 12) g) 12 c a:=h.1.hi
theorem Cz:Fu Z s=Z.bw false [some (.int .i64 0)] s:=h.1.hi
theorem CA:x3 Z b d s=Z.dz s (fun e s=>Z.ai s (fun c s=>Z.af c false (fun k=>k d s) s (fun f s=>Z.af c false (fun k=>Z.ai s k (ao .gtr f (.int .i64 5))) s (fun g s=>Z.cq s (fun a s=>Z.af a false (fun k=>k b s) s (fun i s=>Z.af a false (fun k=>Z.cn s k 44 [(ae.aq s.aa i)]) s (fun j s=>Z.af a false (fun k=>Z.dz s k false j) s (fun m s=>Z.af a false (fun k=>Z.ai s k (ao .gtr m (.int .i64 20))) s (fun o s=>Z.cq s (fun p s=>Z.bt p (Z.bw false [some (.int .i64 111)] s) (Fu Z s)) a (.bool true) o))))) c (.bool true) g))) (ao .gtr e (.int .i64 40))) false b:=h.1.hi
theorem uY:tg Z a b e c d s=Z.ai s (fun f s=>Z.bt f (Ft Z a b e c d s) (x3 Z a b s)) (ao .lss d c):=h.1.wH
theorem CB:Fw Z a b c d e f g i s=Z.ai s (fun j s=>th Z a b c d e f g j s) (ao .add i (.int .i64 1)):=h.1.hi
theorem CC:Fx Z d e j f m g o b s=Z.c7 s (fun p s=>Z.aK s (fun i s=>Z.ai s (fun c s=>Z.af c false (fun k=>k i s) s (fun q s=>Z.af c false (fun k=>k e s) s (fun r s=>Z.af c false (fun k=>Z.ai s k (ao .geq q r)) s (fun t s=>Z.cq s (fun a s=>Z.af a false (fun k=>k f s) s (fun u s=>Z.af a false (fun k=>k b s) s (fun w s=>Z.af a false (fun k=>Z.c7 s k 1 u w) s (fun x s=>Z.af a false (fun k=>Z.aK s k none x) s (fun y s=>Z.af a false (fun k=>k d s) s (fun z s=>Z.af a false (fun k=>k i s) s (fun A s=>Z.af a false (fun k=>Z.c7 s k 12 z A) s (fun B s=>Z.af a false (fun k=>Z.aK s k (some 12) B) s (fun C s=>Z.af a false (fun k=>Z.fI s k 48 [(ae.aq s.aa C)]) s (fun D s=>Z.af a false (fun k=>Z.cn s k 50 [(ae.aq s.aa y),(ae.aq s.aa D)]) s (fun E s=>Z.af a false (fun k=>Z.ai s k (kl .not E)) s (fun F s=>Z.cq s (fun H s=>Z.bt H (Z.bw false [some (.bool false)] s) (Fw Z d e j f m g o b s)) a (.bool true) F)))))))))))) c (.bool true) t)))) (ao .lss i (.int .i64 0))) none p) 1 g b:=h.1.hi
theorem CD:x4 Z a b c s=Z.jr 12 a none (some b) none s (fun d s=>Z.iP (.fn 74 [(ae.aq s.aa c)]) s (fun e s=>Z.cn s (fun f s=>Z.ai s (fun g s=>Z.bw false [some g] s) (kl .not f)) 73 [(ae.aq s.aa d),(ae.aq s.aa e)])):=h.1.hi
theorem CE:x5 Z m o a s=Z.a7 s (fun q s=>Z.aK s (fun r s=>Z.ai s (fun i s=>Z.af i false (fun k=>Z.a7 s k 1 a) s (fun t s=>Z.af i false (fun k=>Z.aK s k none t) s (fun u s=>Z.af i false (fun k=>Z.ai s k (ao .eql u (.int .i64 2))) s (fun w s=>Z.cq s (fun b s=>Z.a7 s (fun x s=>Z.aK s (fun y s=>Z.ai s (fun p s=>Z.af b true (fun k=>Z.a7 s k 3 a) s (fun z s=>Z.af b true (fun k=>Z.aK s k (some 4) z) s (fun A s=>Z.af b true (fun k=>Z.cn s k 71 [(ae.aq s.aa A)]) s (fun B s=>Z.af b true (fun k=>Z.ai s k (kl .not B)) s (fun C s=>Z.cq s (fun c s=>Z.af c false (fun k=>k b s) s (fun D s=>Z.af c false (fun k=>Z.ai s k (kl .not D)) s (fun E s=>Z.af c false (fun k=>k E s) s (fun d s=>Z.af d true (fun k=>Z.a7 s k 3 a) s (fun F s=>Z.af d true (fun k=>Z.aK s k (some 4) F) s (fun H s=>Z.af d true (fun k=>Z.cn s k 72 [(ae.aq s.aa H)]) s (fun I s=>Z.af d true (fun k=>Z.ai s k (kl .not I)) s (fun J s=>Z.af c false (fun k=>Z.cq s k d J (.bool false)) s (fun K s=>Z.cq s (fun j s=>Z.af j false (fun k=>k p s) s (fun L s=>Z.af j false (fun k=>k L s) s (fun e s=>Z.af e true (fun k=>Z.a7 s k 7 a) s (fun M s=>Z.af e true (fun k=>Z.aK s k (some 4) M) s (fun N s=>Z.af e true (fun k=>Z.cn s k 71 [(ae.aq s.aa N)]) s (fun O s=>Z.af e true (fun k=>Z.ai s k (kl .not O)) s (fun P s=>Z.af j false (fun k=>Z.cq s k e P (.bool false)) s (fun Q s=>Z.cq s (fun f s=>Z.af f false (fun k=>k p s) s (fun R s=>Z.af f false (fun k=>Z.ai s k (kl .not R)) s (fun S s=>Z.af f false (fun k=>k S s) s (fun g s=>Z.af g true (fun k=>Z.a7 s k 7 a) s (fun T s=>Z.af g true (fun k=>Z.aK s k (some 4) T) s (fun U s=>Z.af g true (fun k=>Z.cn s k 72 [(ae.aq s.aa U)]) s (fun V s=>Z.af g true (fun k=>Z.ai s k (kl .not V)) s (fun W s=>Z.af f false (fun k=>Z.cq s k g W (.bool false)) s (fun Y s=>Z.cq s (fun kZ s=>Z.bt kZ (Z.bw false [some (.bool false)] s) (x4 Z m o a s)) f (.bool true) Y))))))))) j (.bool true) Q)))))))) c (.bool true) K))))))))) b C (.bool false)))))) (ao .eql y (.int .i64 1))) none x) 1 a) i (.bool true) w)))) (ao .eql r (.int .i64 1))) none q) 1 a:=h.1.hi
theorem CF:x6 Z f g a e s=Z.a7 s (fun i s=>Z.aK s (fun j s=>Z.ai s (fun c s=>Z.af c false (fun k=>Z.a7 s k 11 a) s (fun m s=>Z.af c false (fun k=>Z.aK s k none m) s (fun o s=>Z.af c false (fun k=>Z.ai s k (ao .eql o (.int .i64 2))) s (fun p s=>Z.cq s (fun q s=>Z.ai s (fun b s=>Z.af b false (fun k=>k e s) s (fun r s=>Z.af b false (fun k=>Z.ai s k (kl .not r)) s (fun t s=>Z.af b false (fun k=>k t s) s (fun d s=>Z.af d true (fun k=>Z.a7 s k 11 a) s (fun u s=>Z.af d true (fun k=>Z.aK s k none u) s (fun w s=>Z.af d true (fun k=>Z.ai s k (ao .neq w (.int .i64 0))) s (fun x s=>Z.af b false (fun k=>Z.cq s k d x (.bool false)) s (fun y s=>Z.cq s (fun z s=>Z.bt z (Z.bw false [some (.bool false)] s) (x5 Z f g a s)) b (.bool true) y)))))))) ((pt .bool e q).map fun b=>.bool (bif true then !b else b))) c (.bool true) p)))) (ao .eql j (.int .i64 1))) none i) 11 a:=h.1.hi
theorem uZ:th Z a b c g d i e f s=Z.ai s (fun j s=>Z.bt j (Fx Z a b c g d i e f s) (x6 Z a b c d s)) (ao .lss f e):=h.1.wH
theorem CG:Fy Z b c a d e s=Z.a7 s (fun g s=>Z.aK s (fun f s=>Z.dz s (fun i s=>th Z b c a d e f i (.int .i64 0) s) false f) none g) 2 a:=h.1.hi
theorem u0:q3 Z a b c d s=Z.ai s (fun e s=>ti Z a b c e s) (ao .add d (.int .i64 1)):=h.1.hi
theorem CH:Fz Z c b d a s=Z.c7 s (fun g s=>Z.aK s (fun i s=>Z.iP (.ref (.l s.own.length) 0) (s.new (.cells [.str [],.int .i64 0,.cm 1 [] .nil,.bool false,.cm 1 [] .nil,.bool false,.cm 1 [] .nil,.bool false,.cm 1 [] .nil,.bool false,.cm 1 [] .nil,.int .i64 0])) (fun e s=>Z.dy s (fun y s=>Z.a7 s (fun j s=>Z.aK s (fun f s=>Z.ai s (fun m s=>Z.bt m (Z.eh [.int .i64 0,.int .i64 0] [(0,1,a),(1,1,(.int .i64 0))] s (fun o s=>Z.eh [.int .i64 0,.int .i64 0] [(0,1,a),(1,1,(.int .i64 1))] s (fun p s=>Z.bG s (fun q s=>Z.hs s (fun r s=>q3 Z r b d a s) 2 16 (some (.l 0)) c q) 2 [o,p]))) (Z.ai s (fun t s=>Z.bt t (Z.eh [.int .i64 0,.int .i64 0] [(0,1,a),(1,1,(.int .i64 0))] s (fun u s=>Z.bG s (fun w s=>Z.hs s (fun x s=>q3 Z x b d a s) 2 16 (some (.l 0)) c w) 2 [u])) (q3 Z c b d a s)) (ao .eql f (.int .i64 2)))) (ao .eql f (.int .i64 1))) none j) 1 e) 12 e (ae.aq s.aa i))) (some 12) g) 12 b a:=h.1.hi
theorem CI:FA Z a s=Z.bw false [some a] s:=h.1.hi
theorem u1:ti Z a d b c s=Z.ai s (fun e s=>Z.bt e (Fz Z a d b c s) (FA Z a s)) (ao .lss c b):=h.1.wH
theorem CJ:FB Z s=Z.bw false [some (.cm 1 [] .nil),some (.int .i64 0),some (.bool false)] s:=h.1.hi
theorem CK:x7 Z a b s=Z.bt b (Z.bG s (fun c s=>Z.bw false [some c,some (.int .i64 2),some (.bool false)] s) 1 [(.int .i64 1),(.int .i64 2)]) (Z.ai s (fun d s=>Z.bt d (Z.bG s (fun e s=>Z.bw false [some e,some (.int .i64 1),some (.bool false)] s) 1 [(.int .i64 1),(.int .i64 1)]) (Z.ai s (fun f s=>Z.bt f (Z.bG s (fun g s=>Z.bw false [some g,some (.int .i64 1),some (.bool false)] s) 1 [(.int .i64 1),(.int .i64 2)]) (Z.ai s (fun i s=>Z.bt i (Z.bG s (fun j s=>Z.bw false [some j,some (.int .i64 2),some (.bool true)] s) 1 [(.int .i64 1),(.int .i64 1),(.int .i64 1)]) (Z.ai s (fun m s=>Z.bt m (Z.bG s (fun o s=>Z.bw false [some o,some (.int .i64 2),some (.bool true)] s) 1 [(.int .i64 1),(.int .i64 3)]) (Z.ai s (fun p s=>Z.bt p (Z.bG s (fun q s=>Z.bw false [some q,some (.int .i64 1),some (.bool false)] s) 1 [(.int .i64 3)]) (FB Z s)) (ao .eql a (.int .i64 16)))) (ao .eql a (.int .i64 15)))) (ao .eql a (.int .i64 14)))) (ao .eql a (.int .i64 13)))) (ao .eql a (.int .i64 12))):=h.1.hi
theorem CL:x8 Z a b s=Z.bt b (Z.bG s (fun d s=>Z.bw false [some d,some (.int .i64 3),some (.bool false)] s) 1 [(.int .i64 1),(.int .i64 1),(.int .i64 1)]) (Z.ai s (fun e s=>Z.bt e (Z.bG s (fun f s=>Z.bw false [some f,some (.int .i64 1),some (.bool true)] s) 1 [(.int .i64 2),(.int .i64 3)]) (Z.ai s (fun g s=>Z.bt g (Z.bG s (fun i s=>Z.bw false [some i,some (.int .i64 1),some (.bool true)] s) 1 [(.int .i64 3),(.int .i64 3)]) (Z.ai s (fun c s=>Z.bt c (x7 Z a c s) (Z.ai s (fun j s=>x7 Z a j s) (ao .eql a (.int .i64 11)))) (ao .eql a (.int .i64 10)))) (ao .eql a (.int .i64 9)))) (ao .eql a (.int .i64 8))):=h.1.hi
theorem CM:FC Z a b c d s=Z.ai s (fun e s=>tj Z a b c e s) (ao .add d (.int .i64 1)):=h.1.hi
theorem CN:FD Z b c d a s=Z.c7 s (fun e s=>Z.aK s (fun f s=>Z.qF s (fun g s=>Z.bt g (Z.bw false [some a] s) (FC Z b c d a s)) c [(ae.aq s.aa f)]) (some 12) e) 12 b a:=h.1.hi
theorem CO:FE Z s=Z.bw false [some (.int .i64 (-1))] s:=h.1.hi
theorem u2:tj Z c d a b s=Z.ai s (fun e s=>Z.bt e (FD Z c d a b s) (FE Z s)) (ao .lss b a):=h.1.wH
theorem CP:FF Z a b s=Z.ai s (fun c s=>Z.lN 1 24 a (some (.int .i64 1)) (some c) none s (fun d s=>Z.kO s (fun e s=>Z.bw false [some e] s) d)) (ao .add (.int .i64 1) b):=h.1.hi
theorem CQ:x9 Z d a b s=Z.cn s (fun c s=>Z.ai s (fun e s=>Z.lN 1 24 a (some (.int .i64 1)) (some e) none s (fun f s=>Z.cn s (fun p s=>Z.ai s (fun g s=>Z.bt g (Z.lM s (fun i s=>Z.dy s (fun q s=>Z.ai s (fun j s=>Z.lN 1 24 a none (some j) none s (fun m s=>Z.kO s (fun o s=>Z.bw false [some o] s) m)) (ao .add (.int .i64 1) c)) 1 i (ae.aq s.aa (.int .u8 45))) 1 24 a (.int .i64 0)) (FF Z a c s)) (ao .lss d (.int .i64 0))) 97 [(ae.aq s.aa f),(ae.aq s.aa b)])) (ao .add (.int .i64 1) c)) 96 [(ae.aq s.aa b)]:=h.1.hi
theorem CR:FG Z a s=Z.iP (.ref (.l s.own.length) 0) (s.new (.cells [.int .u8 0,.int .u8 0,.int .u8 0,.int .u8 0,.int .u8 0,.int .u8 0,.int .u8 0,.int .u8 0,.int .u8 0,.int .u8 0,.int .u8 0,.int .u8 0,.int .u8 0,.int .u8 0,.int .u8 0,.int .u8 0,.int .u8 0,.int .u8 0,.int .u8 0,.int .u8 0,.int .u8 0,.int .u8 0,.int .u8 0,.int .u8 0])) (fun b s=>Z.bT s (fun c s=>Z.ai s (fun d s=>Z.bt d (Z.ai s (fun e s=>x9 Z a b e s) (kl .neg c)) (x9 Z a b c s)) (ao .lss a (.int .i64 0))) .u64 a):=h.1.hi
theorem CS:FH Z a s=Z.ai s (fun b s=>Z.ai s (fun c s=>Z.ai s (fun d s=>Z.us (.str [48,48,48,49,48,50,48,51,48,52,48,53,48,54,48,55,48,56,48,57,49,48,49,49,49,50,49,51,49,52,49,53,49,54,49,55,49,56,49,57,50,48,50,49,50,50,50,51,50,52,50,53,50,54,50,55,50,56,50,57,51,48,51,49,51,50,51,51,51,52,51,53,51,54,51,55,51,56,51,57,52,48,52,49,52,50,52,51,52,52,52,53,52,54,52,55,52,56,52,57,53,48,53,49,53,50,53,51,53,52,53,53,53,54,53,55,53,56,53,57,54,48,54,49,54,50,54,51,54,52,54,53,54,54,54,55,54,56,54,57,55,48,55,49,55,50,55,51,55,52,55,53,55,54,55,55,55,56,55,57,56,48,56,49,56,50,56,51,56,52,56,53,56,54,56,55,56,56,56,57,57,48,57,49,57,50,57,51,57,52,57,53,57,54,57,55,57,56,57,57]) (some b) (some d) s (fun e s=>Z.bw false [some e] s)) (ao .add c (.int .i64 2))) (ao .mul a (.int .i64 2))) (ao .mul a (.int .i64 2)):=h.1.hi
theorem u3:nK Z a b c s=Z.ai s (fun d s=>Z.bt d (Z.ai s (fun e s=>Z.bT s (fun f s=>Z.c7 s (fun g s=>Z.dy s (fun p s=>Z.bw false [] s) 1 g (ae.aq s.aa f)) 1 a (.int .i64 0)) .u8 e) (ao .add (.int .u32 48) c)) (Z.bw false [] s)) (ao .gtr b (.int .i64 0)):=h.1.hi
theorem u4:nL Z b a c s=Z.ai s (fun e s=>Z.bt e (Z.ai s (fun f s=>Z.ai s (fun d s=>Z.ai s (fun g s=>Z.ai s (fun i s=>Z.ai s (fun j s=>Z.ai s (fun m s=>Z.g5 s (fun o s=>Z.g5 s (fun p s=>Z.c7 s (fun q s=>Z.dy s (fun y s=>Z.c7 s (fun r s=>Z.dy s (fun y s=>Z.ai s (fun t s=>nK Z b t g s) (ao .sub a (.int .i64 2))) 1 r (ae.aq s.aa p)) 1 b j) 1 q (ae.aq s.aa o)) 1 b i) (.str [48,48,48,49,48,50,48,51,48,52,48,53,48,54,48,55,48,56,48,57,49,48,49,49,49,50,49,51,49,52,49,53,49,54,49,55,49,56,49,57,50,48,50,49,50,50,50,51,50,52,50,53,50,54,50,55,50,56,50,57,51,48,51,49,51,50,51,51,51,52,51,53,51,54,51,55,51,56,51,57,52,48,52,49,52,50,52,51,52,52,52,53,52,54,52,55,52,56,52,57,53,48,53,49,53,50,53,51,53,52,53,53,53,54,53,55,53,56,53,57,54,48,54,49,54,50,54,51,54,52,54,53,54,54,54,55,54,56,54,57,55,48,55,49,55,50,55,51,55,52,55,53,55,54,55,55,55,56,55,57,56,48,56,49,56,50,56,51,56,52,56,53,56,54,56,55,56,56,56,57,57,48,57,49,57,50,57,51,57,52,57,53,57,54,57,55,57,56,57,57]) d) (.str [48,48,48,49,48,50,48,51,48,52,48,53,48,54,48,55,48,56,48,57,49,48,49,49,49,50,49,51,49,52,49,53,49,54,49,55,49,56,49,57,50,48,50,49,50,50,50,51,50,52,50,53,50,54,50,55,50,56,50,57,51,48,51,49,51,50,51,51,51,52,51,53,51,54,51,55,51,56,51,57,52,48,52,49,52,50,52,51,52,52,52,53,52,54,52,55,52,56,52,57,53,48,53,49,53,50,53,51,53,52,53,53,53,54,53,55,53,56,53,57,54,48,54,49,54,50,54,51,54,52,54,53,54,54,54,55,54,56,54,57,55,48,55,49,55,50,55,51,55,52,55,53,55,54,55,55,55,56,55,57,56,48,56,49,56,50,56,51,56,52,56,53,56,54,56,55,56,56,56,57,57,48,57,49,57,50,57,51,57,52,57,53,57,54,57,55,57,56,57,57]) m) (ao .add d (.int .u32 1))) (ao .sub a (.int .i64 2))) (ao .sub a (.int .i64 1))) (ao .quo c (.int .u32 100))) (ao .mul f (.int .u32 2))) (ao .rem c (.int .u32 100))) (nK Z b a c s)) (ao .geq a (.int .i64 2)):=h.1.hi
theorem u5:tk Z b d a s=Z.bT s (fun c s=>Z.ai s (fun i s=>Z.bt i (Z.ai s (fun e s=>Z.ai s (fun j s=>Z.ai s (fun m s=>Z.ai s (fun f s=>Z.ai s (fun o s=>Z.ai s (fun g s=>Z.ai s (fun p s=>Z.ai s (fun q s=>Z.ai s (fun r s=>Z.g5 s (fun t s=>Z.g5 s (fun u s=>Z.c7 s (fun w s=>Z.dy s (fun H s=>Z.c7 s (fun x s=>Z.dy s (fun H s=>Z.ai s (fun y s=>Z.ai s (fun z s=>Z.ai s (fun A s=>Z.g5 s (fun B s=>Z.g5 s (fun C s=>Z.c7 s (fun D s=>Z.dy s (fun H s=>Z.c7 s (fun E s=>Z.dy s (fun H s=>Z.ai s (fun F s=>nL Z b F j s) (ao .sub a (.int .i64 4))) 1 E (ae.aq s.aa C)) 1 b z) 1 D (ae.aq s.aa B)) 1 b y) (.str [48,48,48,49,48,50,48,51,48,52,48,53,48,54,48,55,48,56,48,57,49,48,49,49,49,50,49,51,49,52,49,53,49,54,49,55,49,56,49,57,50,48,50,49,50,50,50,51,50,52,50,53,50,54,50,55,50,56,50,57,51,48,51,49,51,50,51,51,51,52,51,53,51,54,51,55,51,56,51,57,52,48,52,49,52,50,52,51,52,52,52,53,52,54,52,55,52,56,52,57,53,48,53,49,53,50,53,51,53,52,53,53,53,54,53,55,53,56,53,57,54,48,54,49,54,50,54,51,54,52,54,53,54,54,54,55,54,56,54,57,55,48,55,49,55,50,55,51,55,52,55,53,55,54,55,55,55,56,55,57,56,48,56,49,56,50,56,51,56,52,56,53,56,54,56,55,56,56,56,57,57,48,57,49,57,50,57,51,57,52,57,53,57,54,57,55,57,56,57,57]) f) (.str [48,48,48,49,48,50,48,51,48,52,48,53,48,54,48,55,48,56,48,57,49,48,49,49,49,50,49,51,49,52,49,53,49,54,49,55,49,56,49,57,50,48,50,49,50,50,50,51,50,52,50,53,50,54,50,55,50,56,50,57,51,48,51,49,51,50,51,51,51,52,51,53,51,54,51,55,51,56,51,57,52,48,52,49,52,50,52,51,52,52,52,53,52,54,52,55,52,56,52,57,53,48,53,49,53,50,53,51,53,52,53,53,53,54,53,55,53,56,53,57,54,48,54,49,54,50,54,51,54,52,54,53,54,54,54,55,54,56,54,57,55,48,55,49,55,50,55,51,55,52,55,53,55,54,55,55,55,56,55,57,56,48,56,49,56,50,56,51,56,52,56,53,56,54,56,55,56,56,56,57,57,48,57,49,57,50,57,51,57,52,57,53,57,54,57,55,57,56,57,57]) A) (ao .add f (.int .u32 1))) (ao .sub a (.int .i64 4))) (ao .sub a (.int .i64 3))) 1 x (ae.aq s.aa u)) 1 b q) 1 w (ae.aq s.aa t)) 1 b p) (.str [48,48,48,49,48,50,48,51,48,52,48,53,48,54,48,55,48,56,48,57,49,48,49,49,49,50,49,51,49,52,49,53,49,54,49,55,49,56,49,57,50,48,50,49,50,50,50,51,50,52,50,53,50,54,50,55,50,56,50,57,51,48,51,49,51,50,51,51,51,52,51,53,51,54,51,55,51,56,51,57,52,48,52,49,52,50,52,51,52,52,52,53,52,54,52,55,52,56,52,57,53,48,53,49,53,50,53,51,53,52,53,53,53,54,53,55,53,56,53,57,54,48,54,49,54,50,54,51,54,52,54,53,54,54,54,55,54,56,54,57,55,48,55,49,55,50,55,51,55,52,55,53,55,54,55,55,55,56,55,57,56,48,56,49,56,50,56,51,56,52,56,53,56,54,56,55,56,56,56,57,57,48,57,49,57,50,57,51,57,52,57,53,57,54,57,55,57,56,57,57]) g) (.str [48,48,48,49,48,50,48,51,48,52,48,53,48,54,48,55,48,56,48,57,49,48,49,49,49,50,49,51,49,52,49,53,49,54,49,55,49,56,49,57,50,48,50,49,50,50,50,51,50,52,50,53,50,54,50,55,50,56,50,57,51,48,51,49,51,50,51,51,51,52,51,53,51,54,51,55,51,56,51,57,52,48,52,49,52,50,52,51,52,52,52,53,52,54,52,55,52,56,52,57,53,48,53,49,53,50,53,51,53,52,53,53,53,54,53,55,53,56,53,57,54,48,54,49,54,50,54,51,54,52,54,53,54,54,54,55,54,56,54,57,55,48,55,49,55,50,55,51,55,52,55,53,55,54,55,55,55,56,55,57,56,48,56,49,56,50,56,51,56,52,56,53,56,54,56,55,56,56,56,57,57,48,57,49,57,50,57,51,57,52,57,53,57,54,57,55,57,56,57,57]) r) (ao .add g (.int .u32 1))) (ao .sub a (.int .i64 2))) (ao .sub a (.int .i64 1))) (ao .mul o (.int .u32 2))) (ao .rem e (.int .u32 100))) (ao .mul m (.int .u32 2))) (ao .quo e (.int .u32 100))) (ao .quo c (.int .u32 10000))) (ao .rem c (.int .u32 10000))) (nL Z b a c s)) (ao .geq a (.int .i64 4))) .u32 d:=h.1.hi
theorem CT:FI Z b c a s=Z.ai s (fun d s=>Z.bt d (Q6 Z b c a s) (tk Z b c a s)) (ao .geq a (.int .i64 8)):=h.1.wH
theorem AQ:q4 Z a b s=Z.bT s (fun c s=>Z.g5 s (fun d s=>Z.bT s (fun e s=>Z.ai s (fun f s=>Z.bw false [some f] s) (ao .add b e)) .i64 d) (.str [0,1,2,2,3,3,3,3,4,4,4,4,4,4,4,4,5,5,5,5,5,5,5,5,5,5,5,5,5,5,5,5,6,6,6,6,6,6,6,6,6,6,6,6,6,6,6,6,6,6,6,6,6,6,6,6,6,6,6,6,6,6,6,6,7,7,7,7,7,7,7,7,7,7,7,7,7,7,7,7,7,7,7,7,7,7,7,7,7,7,7,7,7,7,7,7,7,7,7,7,7,7,7,7,7,7,7,7,7,7,7,7,7,7,7,7,7,7,7,7,7,7,7,7,7,7,7,7,8,8,8,8,8,8,8,8,8,8,8,8,8,8,8,8,8,8,8,8,8,8,8,8,8,8,8,8,8,8,8,8,8,8,8,8,8,8,8,8,8,8,8,8,8,8,8,8,8,8,8,8,8,8,8,8,8,8,8,8,8,8,8,8,8,8,8,8,8,8,8,8,8,8,8,8,8,8,8,8,8,8,8,8,8,8,8,8,8,8,8,8,8,8,8,8,8,8,8,8,8,8,8,8,8,8,8,8,8,8,8,8,8,8,8,8,8,8,8,8,8,8,8,8,8,8,8,8]) c) .u8 a:=h.1.hi
theorem sH:q5 Z a b s=Z.ai s (fun c s=>Z.bt c (Z.ai s (fun d s=>Z.ai s (fun e s=>q4 Z d e s) (ao .add b (.int .i64 8))) (ao .shr a (.int .u64 8))) (q4 Z a b s)) (ao .geq a (.int .u64 256)):=h.1.hi
theorem AR:uS Z a b s=Z.ai s (fun c s=>Z.bt c (Z.ai s (fun d s=>Z.ai s (fun e s=>q5 Z d e s) (ao .add b (.int .i64 16))) (ao .shr a (.int .u64 16))) (q5 Z a b s)) (ao .geq a (.int .u64 65536)):=h.1.hi
theorem AS:Aa Z s=Z.bw false [some (.int .i64 0)] s:=h.1.hi
theorem u6:yb Z a b s=Z.ai s (fun c s=>Z.bw false [some c] s) (ao .rem a b):=h.1.hi
theorem Gp:KH Z a b c d e f s=Z.ai s (fun g s=>yd Z a b c d e g s) (ao .add f (.int .i64 1)):=h.1.hi
theorem Gq:KI Z c a d e f b s=Z.fI s (fun g s=>Z.ai s (fun i s=>Z.c7 s (fun j s=>Z.a7 s (fun m s=>Z.aK s (fun o s=>Z.c7 s (fun p s=>Z.a7 s (fun q s=>Z.aK s (fun r s=>Z.eh [.str [],.int .i64 0,.cm 1 [] .nil,.bool false,.cm 1 [] .nil,.bool false,.cm 1 [] .nil,.bool false,.cm 1 [] .nil,.bool false,.cm 1 [] .nil,.int .i64 0] [(0,1,i),(1,1,(.int .i64 1)),(3,4,o),(7,4,r)] s (fun t s=>Z.bG s (fun u s=>Z.hs s (fun w s=>KH Z c w d e f b s) 12 184 (some (.l 0)) a u) 12 [t])) (some 4) q) 3 p) 12 a (.int .i64 1)) (some 4) m) 3 j) 12 a (.int .i64 0)) (ao .add (.str [102]) g)) 19 [(ae.aq s.aa b)]:=h.1.hi
theorem Gr:KJ Z a b c d e f s=Z.ai s (fun g s=>yc Z a b c d e g s) (ao .add f (.int .i64 1)):=h.1.hi
theorem Gs:KK Z b c d e f a s=Z.fI s (fun g s=>Z.ai s (fun i s=>Z.bG s (fun j s=>Z.eh [.str [],.int .i64 0,.cm 1 [] .nil,.bool false,.cm 1 [] .nil,.bool false,.cm 1 [] .nil,.bool false,.cm 1 [] .nil,.bool false,.cm 1 [] .nil,.int .i64 0] [(0,1,i),(1,1,(.int .i64 8)),(2,1,j),(11,1,(.int .i64 1))] s (fun m s=>Z.bG s (fun o s=>Z.hs s (fun p s=>KJ Z b p d e f a s) 12 184 (some (.l 0)) c o) 12 [m])) 1 [(.int .i64 2),(.int .i64 3)]) (ao .add (.str [114]) g)) 19 [(ae.aq s.aa a)]:=h.1.hi
theorem CU:FJ Z a b c d e f s=Z.ai s (fun g s=>tm Z a b c d e g s) (ao .add f (.int .i64 1)):=h.1.hi
theorem CV:FK Z b c d e f a s=Z.fI s (fun g s=>Z.ai s (fun i s=>Z.bG s (fun j s=>Z.eh [.str [],.int .i64 0,.cm 1 [] .nil,.bool false,.cm 1 [] .nil,.bool false,.cm 1 [] .nil,.bool false,.cm 1 [] .nil,.bool false,.cm 1 [] .nil,.int .i64 0] [(0,1,i),(1,1,(.int .i64 11)),(2,1,j)] s (fun m s=>Z.bG s (fun o s=>Z.hs s (fun p s=>FJ Z b p d e f a s) 12 184 (some (.l 0)) c o) 12 [m])) 1 [(.int .i64 0),(.int .i64 2)]) (ao .add (.str [108]) g)) 19 [(ae.aq s.aa a)]:=h.1.hi
theorem CW:FL Z a s=Z.ai s (fun b s=>Z.bw false [some b] s) (ao .eql a (.int .i64 0)):=h.1.hi
theorem CX:FM Z b c f d s=Z.ai s (fun g s=>Z.ai s (fun i s=>Z.ai s (fun j s=>Z.ai s (fun a s=>Z.af a false (fun k=>k b s) s (fun m s=>Z.af a false (fun k=>Z.ai s k (ao .mul (.int .i64 2) m)) s (fun o s=>Z.af a false (fun k=>Z.ai s k (ao .add (.int .i64 4) o)) s (fun p s=>Z.af a false (fun k=>Z.ai s k (ao .gtr p (.int .i64 20))) s (fun q s=>Z.cq s (fun e s=>Z.af e false (fun k=>k c s) s (fun r s=>Z.af e false (fun k=>Z.ai s k (ao .gtr r (.int .i64 5))) s (fun t s=>Z.cq s (fun u s=>Z.bt u (Z.ai s (fun w s=>Z.bw false [some w] s) (ao .eql d (.int .i64 111))) (FL Z d s)) e (.bool true) t))) a (.bool true) q))))) (ao .gtr j (.int .i64 40))) (ao .add i f)) (ao .add g c)) (ao .add (.int .i64 4) b):=h.1.hi
theorem CY:tl Z b a c d e s=Z.cn s (fun f s=>Z.bt b (Z.bG s (fun g s=>Z.eh [.str [],.int .i64 0,.cm 1 [] .nil,.bool false,.cm 1 [] .nil,.bool false,.cm 1 [] .nil,.bool false,.cm 1 [] .nil,.bool false,.cm 1 [] .nil,.int .i64 0] [(0,1,(.str [65])),(1,1,(.int .i64 12)),(2,1,g)] s (fun i s=>Z.bG s (fun j s=>Z.hs s (fun m s=>Z.cn s (fun o s=>Z.ai s (fun p s=>Z.bw false [some p] s) (ao .eql o (.int .i64 120))) 16 [(ae.aq s.aa (n2 m))]) 12 184 (some (.l 0)) a j) 12 [i])) 1 [(.int .i64 0),(.int .i64 1)]) (FM Z c d e f s)) 16 [(ae.aq s.aa (n2 a))]:=h.1.hi
theorem u7:tm Z b c d e a f s=Z.ai s (fun g s=>Z.bt g (FK Z b c d e a f s) (tl Z b c d e a s)) (ao .lss f a):=h.1.wH
theorem Gt:Cn Z a b c d e s=tm Z a b c d e (.int .i64 0) s:=h.1.hi
theorem wS:yc Z b c d a e f s=Z.ai s (fun g s=>Z.bt g (KK Z b c d a e f s) (Cn Z b c d a e s)) (ao .lss f a):=h.1.wH
theorem Gu:Co Z a b c d e s=yc Z a b c d e (.int .i64 0) s:=h.1.hi
theorem wT:yd Z b c a d e f s=Z.ai s (fun g s=>Z.bt g (KI Z b c a d e f s) (Co Z b c a d e s)) (ao .lss f a):=h.1.wH
theorem Gv:KL Z a b c d s=Z.cn s (fun e s=>Z.jr 12 e none (some (.int .i64 4)) none s (fun f s=>Z.qE s (fun g s=>Z.cn s (fun i s=>Z.cn s (fun j s=>Z.cn s (fun m s=>yd Z d g i j m (.int .i64 0) s) 14 [(ae.aq s.aa c),(ae.aq s.aa (.int .i64 34))]) 14 [(ae.aq s.aa b),(ae.aq s.aa (.int .i64 7))]) 14 [(ae.aq s.aa a),(ae.aq s.aa (.int .i64 11))]) f)) 18 []:=h.1.hi
end
variable(G:Nat→ae)(X:Nat→List ae→ag→ah)
theorem KM:f133 Z a b s=Z.dz s (fun c s=>Z.dz s (fun d s=>Z.ai s (fun e s=>Z.bt e (Z.dz s (fun f s=>Z.dz s (fun g s=>Z.ai s (fun i s=>Z.bt i (Z.bw false [some (.int .i64 (-1))] s) (zC Z s)) (ao .lss f g)) false b) false a) (zH Z a b s)) (ao .neq c d)) false b) false a:=by kernel_rfl
theorem CZ:aX a4 G X 133 [a,b] s=f133 (a3 a4 G X) a b s.ak:=c9 a4 G X (fn:=uH)
theorem KN:f134 Z a b s=Z.dz s (fun c s=>Z.kP s (fun d s=>Z.dz s (fun e s=>qQ Z a b d (.int .u64 0) e (.int .i64 0) s) false a) [.int .u32 0] 4 c c) false a:=by kernel_rfl
theorem C0:aX a4 G X 134 [a,b] s=f134 (a3 a4 G X) a b s.ak:=c9 a4 G X (fn:=zs)
theorem KO:f135 Z a s=Z.dz s (fun b s=>qS Z a b s) false a:=by kernel_rfl
theorem C1:aX a4 G X 135 [a] s=f135 (a3 a4 G X) a s.ak:=c9 a4 G X (fn:=zt)
theorem KP:f136 Z a s=Z.cn s (fun b s=>Z.ai s (fun c s=>Z.bw false [some c] s) (ao .sub (.int .i64 32) b)) 111 [(ae.aq s.aa a)]:=by kernel_rfl
theorem C2:aX a4 G X 136 [a] s=f136 (a3 a4 G X) a s.ak:=c9 a4 G X (fn:=J2)
theorem KQ:f137 Z a b s=Z.dz s (fun d s=>Z.ai s (fun e s=>Z.ai s (fun f s=>Z.ai s (fun c s=>Z.kP s (fun g s=>Z.dz s (fun i s=>qU Z a b g i (.int .i64 0) s) false a) [.int .u32 0] 4 c c) (ao .add f (.int .i64 1))) (ao .add d e)) (ao .quo b (.int .i64 32))) false a:=by kernel_rfl
theorem C3:aX a4 G X 137 [a,b] s=f137 (a3 a4 G X) a b s.ak:=c9 a4 G X (fn:=zu)
theorem KR:f138 Z b c a d s=Z.dz s (fun e s=>oB Z b c a d (.int .u64 0) (.int .u64 0) e (.int .i64 0) s) false a:=by kernel_rfl
theorem C4:aX a4 G X 138 [a,b,c,d] s=f138 (a3 a4 G X) a b c d s.ak:=c9 a4 G X (fn:=sv)
theorem KS:f139 Z c d a s=Z.dz s (fun b s=>Z.ai s (fun f s=>Z.c7 s (fun g s=>Z.aK s (fun i s=>Z.bT s (fun j s=>Z.ai s (fun m s=>Z.ai s (fun o s=>Z.ai s (fun p s=>Z.c7 s (fun q s=>Z.aK s (fun r s=>Z.bT s (fun t s=>Z.ai s (fun e s=>Z.ai s (fun u s=>Z.c7 s (fun w s=>Z.aK s (fun x s=>Z.bT s (fun y s=>Z.ai s (fun z s=>Z.ai s (fun A s=>Z.c7 s (fun B s=>Z.aK s (fun C s=>Z.bT s (fun D s=>Z.ai s (fun E s=>qX Z c d a b z E s) (ao .rem e D)) .u64 C) none B) 1 a A) (ao .sub b (.int .i64 1))) (ao .quo e y)) .u64 x) none w) 1 a u) (ao .sub b (.int .i64 1))) (ao .or m t)) .u64 r) none q) 1 c p) (ao .sub o (.int .i64 1))) (ao .add d b)) (ao .shl j (.int .u64 32))) .u64 i) none g) 1 c f) (ao .add d b)) false a:=by kernel_rfl
theorem C5:aX a4 G X 139 [a,b,c] s=f139 (a3 a4 G X) a b c s.ak:=c9 a4 G X (fn:=zA)
theorem KT:f140 Z a b s=Z.ai s (fun c s=>Z.dz s (fun d s=>Z.ai s (fun e s=>Z.bt e (Z.dz s (fun f s=>Z.ai s (fun g s=>Z.bw false [some (.cm 1 [] .nil),some g] s) (ao .gtr f (.int .i64 0))) false a) (z0 Z a b c s)) (ao .geq c d)) false a) (ao .quo b (.int .i64 32)):=by kernel_rfl
theorem C6:aX a4 G X 140 [a,b] s=f140 (a3 a4 G X) a b s.ak:=c9 a4 G X (fn:=wR)
theorem KU:f111 Z a s=Z.ai s (fun b s=>Z.bt b (Z.ai s (fun c s=>ng Z c (.int .i64 16) s) (ao .shr a (.int .u64 16))) (ng Z a (.int .i64 0) s)) (ao .geq a (.int .u32 65536)):=by kernel_rfl
theorem C7:aX a4 G X 111 [a] s=f111 (a3 a4 G X) a s.ak:=c9 a4 G X (fn:=zl)
theorem Q7:f87 Z b s=Z.fc b s (fun a s=>Z.a7 s (fun d s=>Z.aK s (fun e s=>Z.dz s (fun c s=>Z.ai s (fun f s=>Z.bt f (Z.a7 s (fun g s=>Z.aK s (fun i s=>Z.ai s (fun j s=>Z.bw false [some j] s) (kl .not i)) none g) 0 a) (Fc Z a c s)) (ao .eql c (.int .i64 0))) false e) none d) 1 a):=by kernel_rfl
theorem Gw:aX a4 G X 87 [a] s=f87 (a3 a4 G X) a s.ak:=c9 a4 G X (fn:=Mq)
theorem Q8:f90 Z b c s=Z.fc b s (fun d s=>Z.fc c s (fun e s=>Z.iP (.ref (.l s.own.length) 0) (s.new (.cells [.bool false,.cm 1 [] .nil])) (fun a s=>Z.aK s (fun f s=>Z.aK s (fun g s=>Z.cn s (fun i s=>Z.ai s (fun j s=>Z.bt j (Z.eh [.bool false,.cm 1 [] .nil] [] s (fun m s=>Z.dy s (fun h s=>Z.bw false [lb s a (some 2),some (.int .i64 1)] s) 2 a (ae.aq s.aa m))) (Fi Z d e a s)) (kl .not i)) 113 [(ae.aq s.aa f),(ae.aq s.aa g)]) (some 2) e) (some 2) d))):=by kernel_rfl
theorem Gx:aX a4 G X 90 [a,b] s=f90 (a3 a4 G X) a b s.ak:=c9 a4 G X (fn:=xO)
theorem KV:f113 Z b c s=Z.fc b s (fun d s=>Z.fc c s (fun e s=>Z.aK s (fun f s=>Z.cn s (fun a s=>Z.af a true (fun k=>Z.aK s k (some 2) e) s (fun g s=>Z.af a true (fun k=>Z.cn s k 87 [(ae.aq s.aa g)]) s (fun i s=>Z.cq s (fun j s=>Z.bw false [some j] s) a i (.bool false)))) 87 [(ae.aq s.aa f)]) (some 2) d)):=by kernel_rfl
theorem C8:aX a4 G X 113 [a,b] s=f113 (a3 a4 G X) a b s.ak:=c9 a4 G X (fn:=JS)
theorem KW:f114 Z a b s=Z.cn s (fun c s=>Z.ai s (fun d s=>Z.bt d (Z.bw false [some (.cm 1 [] .nil),some a] s) (z5 Z a b s)) (ao .lss c (.int .i64 0))) 133 [(ae.aq s.aa a),(ae.aq s.aa b)]:=by kernel_rfl
theorem C9:aX a4 G X 114 [a,b] s=f114 (a3 a4 G X) a b s.ak:=c9 a4 G X (fn:=uG)
theorem KX:f115 Z b c s=Z.iP (.ref (.l s.own.length) 0) (s.new (.cells [.bool false,.cm 1 [] .nil])) (fun a s=>Z.cn s (fun d s=>Z.dz s (fun e s=>Z.ai s (fun f s=>Z.bt f (Z.eh [.bool false,.cm 1 [] .nil] [] s (fun g s=>Z.dy s (fun h s=>Z.bw false [lb s a (some 2),some (.int .i64 2)] s) 2 a (ae.aq s.aa g))) (z6 Z b d a s)) (ao .gtr e (.int .i64 128))) false d) 135 [(ae.aq s.aa c)]):=by kernel_rfl
theorem Da:aX a4 G X 115 [a,b] s=f115 (a3 a4 G X) a b s.ak:=c9 a4 G X (fn:=wQ)
theorem KY:f116 Z a s=Z.dz s (fun b s=>nh Z a (.int .u64 0) b (.int .i64 0) s) false a:=by kernel_rfl
theorem Db:aX a4 G X 116 [a] s=f116 (a3 a4 G X) a s.ak:=c9 a4 G X (fn:=zn)
theorem Q9:f71 Z e s=Z.fc e s (fun a s=>Z.a7 s (fun f s=>Z.aK s (fun g s=>Z.cn s (fun i s=>Z.ai s (fun b s=>Z.af b false (fun k=>Z.a7 s k 2 a) s (fun j s=>Z.af b false (fun k=>Z.aK s k (some 2) j) s (fun m s=>Z.af b false (fun k=>Z.cn s k 87 [(ae.aq s.aa m)]) s (fun o s=>Z.af b false (fun k=>Z.ai s k (kl .not o)) s (fun p s=>Z.cq s (fun c s=>Z.af c false (fun k=>Z.a7 s k 2 a) s (fun q s=>Z.af c false (fun k=>Z.a7 s k 0 q) s (fun r s=>Z.af c false (fun k=>Z.aK s k none r) s (fun t s=>Z.cq s (fun d s=>Z.af d false (fun k=>Z.a7 s k 2 a) s (fun u s=>Z.af d false (fun k=>Z.aK s k (some 2) u) s (fun w s=>Z.af d false (fun k=>Z.cn s k 88 [(ae.aq s.aa w)]) s (fun x s=>Z.cq s (fun y s=>Z.bt y (Z.bw false [some (.bool false)] s) (Fq Z a s)) d (.bool true) x)))) c (.bool true) t)))) b (.bool true) p))))) (kl .not i)) 87 [(ae.aq s.aa g)]) (some 2) f) 0 a):=by kernel_rfl
theorem Gy:aX a4 G X 71 [a] s=f71 (a3 a4 G X) a s.ak:=c9 a4 G X (fn:=Cf)
theorem Ra:f88 Z a s=Z.fc a s (fun b s=>Z.a7 s (fun c s=>Z.aK s (fun d s=>Z.dz s (fun e s=>Z.ai s (fun f s=>Z.bw false [some f] s) (ao .eql e (.int .i64 0))) false d) none c) 1 b):=by kernel_rfl
theorem Gz:aX a4 G X 88 [a] s=f88 (a3 a4 G X) a s.ak:=c9 a4 G X (fn:=VC)
theorem Rb:f89 Z d s=Z.fc d s (fun c s=>Z.a7 s (fun e s=>Z.aK s (fun f s=>Z.ai s (fun b s=>Z.af b true (fun k=>Z.a7 s k 1 c) s (fun g s=>Z.af b true (fun k=>Z.aK s k none g) s (fun i s=>Z.af b true (fun k=>Z.dz s k false i) s (fun j s=>Z.af b true (fun k=>Z.ai s k (ao .eql j (.int .i64 1))) s (fun m s=>Z.cq s (fun a s=>Z.af a true (fun k=>Z.a7 s k 1 c) s (fun o s=>Z.af a true (fun k=>Z.aK s k none o) s (fun p s=>Z.af a true (fun k=>Z.c7 s k 1 p (.int .i64 0)) s (fun q s=>Z.af a true (fun k=>Z.aK s k none q) s (fun r s=>Z.af a true (fun k=>Z.ai s k (ao .eql r (.int .u32 1))) s (fun t s=>Z.cq s (fun u s=>Z.bw false [some u] s) a t (.bool false))))))) b m (.bool false)))))) (kl .not f)) none e) 0 c):=by kernel_rfl
theorem GA:aX a4 G X 89 [a] s=f89 (a3 a4 G X) a s.ak:=c9 a4 G X (fn:=VD)
theorem Rc:f16 Z a s=Z.dz s (fun b s=>tg Z a (.int .i64 0) a b (.int .i64 0) s) false a:=by kernel_rfl
theorem GB:aX a4 G X 16 [a] s=f16 (a3 a4 G X) a s.ak:=c9 a4 G X (fn:=xM)
theorem Rd:f42 Z c s=Z.dz s (fun i s=>Z.ai s (fun f s=>Z.c7 s (fun j s=>Z.aK s (fun m s=>Z.iP (.ref (.l s.own.length) 0) (s.new (.cells [.str [],.int .i64 0,.cm 1 [] .nil,.bool false,.cm 1 [] .nil,.bool false,.cm 1 [] .nil,.bool false,.cm 1 [] .nil,.bool false,.cm 1 [] .nil,.int .i64 0])) (fun b s=>Z.dy s (fun h s=>Z.a7 s (fun o s=>Z.aK s (fun p s=>Z.cn s (fun e s=>Z.de s (fun g s=>Z.de s (fun q s=>Z.de s (fun r s=>Z.ai s (fun a s=>Z.af a false (fun k=>k g s) s (fun t s=>Z.af a false (fun k=>Z.dz s k false t) s (fun u s=>Z.af a false (fun k=>Z.a7 s k 2 b) s (fun w s=>Z.af a false (fun k=>Z.aK s k none w) s (fun x s=>Z.af a false (fun k=>Z.dz s k false x) s (fun y s=>Z.af a false (fun k=>Z.ai s k (ao .neq u y)) s (fun z s=>Z.cq s (fun d s=>Z.af d false (fun k=>Z.a7 s k 0 b) s (fun A s=>Z.af d false (fun k=>Z.aK s k none A) s (fun B s=>Z.af d false (fun k=>Z.ai s k (ao .eql B (.str []))) s (fun C s=>Z.cq s (fun D s=>Z.bt D (Z.bw false [some (.bool false)] s) (Fy Z c f b g r s)) d (.bool true) C)))) a (.bool true) z))))))) (ao .eql q (.int .i64 0))) 2 e) 1 e) 0 e) 21 [(ae.aq s.aa p)]) none o) 1 b) 12 b (ae.aq s.aa m))) (some 12) j) 12 c f) (ao .sub i (.int .i64 1))) false c:=by kernel_rfl
theorem GC:aX a4 G X 42 [a] s=f42 (a3 a4 G X) a s.ak:=c9 a4 G X (fn:=zk)
theorem Re:f43 Z b s=Z.fc b s (fun c s=>Z.a7 s (fun d s=>Z.aK s (fun e s=>Z.cn s (fun a s=>Z.de s (fun g s=>Z.de s (fun i s=>Z.de s (fun f s=>Z.bw false [some f] s) 2 a) 1 a) 0 a) 21 [(ae.aq s.aa e)]) none d) 1 c):=by kernel_rfl
theorem GD:aX a4 G X 43 [a] s=f43 (a3 a4 G X) a s.ak:=c9 a4 G X (fn:=Ul)
theorem Rg:f44 Z a s=Z.dz s (fun b s=>ti Z (.cm 2 [] .nil) a b (.int .i64 0) s) false a:=by kernel_rfl
theorem GF:aX a4 G X 44 [a] s=f44 (a3 a4 G X) a s.ak:=c9 a4 G X (fn:=Ij)
theorem Rh:f48 Z b s=Z.fc b s (fun c s=>Z.a7 s (fun d s=>Z.aK s (fun e s=>Z.cn s (fun a s=>Z.de s (fun g s=>Z.de s (fun f s=>Z.de s (fun i s=>Z.bw false [some f] s) 2 a) 1 a) 0 a) 21 [(ae.aq s.aa e)]) none d) 1 c):=by kernel_rfl
theorem GG:aX a4 G X 48 [a] s=f48 (a3 a4 G X) a s.ak:=c9 a4 G X (fn:=Uq)
theorem Ri:f50 Z d c s=Z.ai s (fun a s=>Z.af a false (fun k=>k d s) s (fun f s=>Z.af a false (fun k=>Z.ai s k (ao .eql f (.int .i64 0))) s (fun g s=>Z.af a false (fun k=>k g s) s (fun b s=>Z.af b true (fun k=>k c s) s (fun i s=>Z.af b true (fun k=>Z.ai s k (ao .eql i (.int .i64 2))) s (fun j s=>Z.af b true (fun k=>k j s) s (fun e s=>Z.af e false (fun k=>k c s) s (fun m s=>Z.af e false (fun k=>Z.ai s k (ao .eql m (.int .i64 3))) s (fun o s=>Z.af b true (fun k=>Z.cq s k e (.bool true) o) s (fun p s=>Z.af a false (fun k=>Z.cq s k b p (.bool false)) s (fun q s=>Z.cq s (fun r s=>Z.bw false [some r] s) a (.bool true) q))))))))))) (ao .eql c d):=by kernel_rfl
theorem GH:aX a4 G X 50 [a,b] s=f50 (a3 a4 G X) a b s.ak:=c9 a4 G X (fn:=Uy)
theorem Rj:f21 Z a s=Z.ai s (fun c s=>Z.bt c (Z.bw false [some (.cm 1 [] .nil),some (.int .i64 1),some (.bool false)] s) (Z.ai s (fun d s=>Z.bt d (Z.bG s (fun e s=>Z.bw false [some e,some (.int .i64 1),some (.bool false)] s) 1 [(.int .i64 0)]) (Z.ai s (fun f s=>Z.bt f (Z.bG s (fun g s=>Z.bw false [some g,some (.int .i64 2),some (.bool false)] s) 1 [(.int .i64 1),(.int .i64 1)]) (Z.ai s (fun i s=>Z.bt i (Z.bG s (fun j s=>Z.bw false [some j,some (.int .i64 1),some (.bool false)] s) 1 [(.int .i64 2),(.int .i64 2)]) (Z.ai s (fun m s=>Z.bt m (Z.bG s (fun o s=>Z.bw false [some o,some (.int .i64 3),some (.bool false)] s) 1 [(.int .i64 1),(.int .i64 1)]) (Z.ai s (fun b s=>Z.bt b (x8 Z a b s) (Z.ai s (fun p s=>x8 Z a p s) (ao .eql a (.int .i64 7)))) (ao .eql a (.int .i64 6)))) (ao .eql a (.int .i64 5)))) (ao .eql a (.int .i64 4)))) (ao .eql a (.int .i64 3)))) (ao .eql a (.int .i64 2)))) (ao .eql a (.int .i64 1)):=by kernel_rfl
theorem GI:aX a4 G X 21 [a] s=f21 (a3 a4 G X) a s.ak:=c9 a4 G X (fn:=H6)
theorem Rk:f72 Z e s=Z.fc e s (fun d s=>Z.a7 s (fun f s=>Z.a7 s (fun g s=>Z.aK s (fun i s=>Z.ai s (fun c s=>Z.af c true (fun k=>Z.a7 s k 2 d) s (fun j s=>Z.af c true (fun k=>Z.a7 s k 0 j) s (fun m s=>Z.af c true (fun k=>Z.aK s k none m) s (fun o s=>Z.af c true (fun k=>Z.ai s k (kl .not o)) s (fun p s=>Z.cq s (fun a s=>Z.af a true (fun k=>Z.a7 s k 0 d) s (fun q s=>Z.af a true (fun k=>Z.a7 s k 1 q) s (fun r s=>Z.af a true (fun k=>Z.aK s k none r) s (fun t s=>Z.af a true (fun k=>Z.dz s k false t) s (fun u s=>Z.af a true (fun k=>Z.ai s k (ao .eql u (.int .i64 0))) s (fun w s=>Z.cq s (fun b s=>Z.af b true (fun k=>Z.a7 s k 2 d) s (fun x s=>Z.af b true (fun k=>Z.a7 s k 1 x) s (fun y s=>Z.af b true (fun k=>Z.aK s k none y) s (fun z s=>Z.af b true (fun k=>Z.dz s k false z) s (fun A s=>Z.af b true (fun k=>Z.ai s k (ao .eql A (.int .i64 0))) s (fun B s=>Z.cq s (fun C s=>Z.bw false [some C] s) b B (.bool false))))))) a w (.bool false))))))) c p (.bool false)))))) (kl .not i)) none g) 0 f) 0 d):=by kernel_rfl
theorem GJ:aX a4 G X 72 [a] s=f72 (a3 a4 G X) a s.ak:=c9 a4 G X (fn:=UU)
theorem Rl:f73 Z a b s=Z.cn s (fun c s=>Z.ai s (fun d s=>Z.bw false [some d] s) (ao .geq c (.int .i64 0))) 62 [(ae.aq s.aa a),(ae.aq s.aa b)]:=by kernel_rfl
theorem GK:aX a4 G X 73 [a,b] s=f73 (a3 a4 G X) a b s.ak:=c9 a4 G X (fn:=UW)
theorem Rm:f74 Z a b s=Z.fc a s (fun c s=>Z.a7 s (fun d s=>Z.aK s (fun e s=>Z.a7 s (fun f s=>Z.aK s (fun g s=>Z.ai s (fun i s=>Z.bw false [some i] s) (ao .eql e g)) none f) 0 b) none d) 0 c):=by kernel_rfl
theorem GL:aX a4 G X 74 [a,b] s=f74 (a3 a4 G X) a b s.ak:=c9 a4 G X (fn:=IA)
theorem Rn:f62 Z a b s=Z.dz s (fun c s=>tj Z a b c (.int .i64 0) s) false a:=by kernel_rfl
theorem GM:aX a4 G X 62 [a,b] s=f62 (a3 a4 G X) a b s.ak:=c9 a4 G X (fn:=It)
theorem Ro:f19 Z a s=Z.cn s (fun b s=>Z.bw false [some b] s) 47 [(ae.aq s.aa a)]:=by kernel_rfl
theorem GN:aX a4 G X 19 [a] s=f19 (a3 a4 G X) a s.ak:=c9 a4 G X (fn:=xN)
theorem Rp:f47 Z a s=Z.cn s (fun b s=>Z.bw false [some b] s) 77 [(ae.aq s.aa a),(ae.aq s.aa (.int .i64 10))]:=by kernel_rfl
theorem GO:aX a4 G X 47 [a] s=f47 (a3 a4 G X) a s.ak:=c9 a4 G X (fn:=Up)
theorem Rq:f77 Z a b s=Z.ai s (fun d s=>Z.bt d (Z.ai s (fun c s=>Z.af c true (fun k=>k a s) s (fun e s=>Z.af c true (fun k=>Z.ai s k (ao .lss e (.int .i64 100))) s (fun f s=>Z.cq s (fun g s=>Z.bt g (Z.cn s (fun i s=>Z.bw false [some i] s) 95 [(ae.aq s.aa a)]) (FG Z a s)) c f (.bool false)))) (ao .leq (.int .i64 0) a)) (Q5 Z a b s)) (ao .eql b (.int .i64 10)):=by kernel_rfl
theorem GP:aX a4 G X 77 [a,b] s=f77 (a3 a4 G X) a b s.ak:=c9 a4 G X (fn:=IH)
theorem Rr:f95 Z a s=Z.ai s (fun b s=>Z.bt b (Z.ai s (fun c s=>Z.us (.str [48,49,50,51,52,53,54,55,56,57,97,98,99,100,101,102,103,104,105,106,107,108,109,110,111,112,113,114,115,116,117,118,119,120,121,122]) (some a) (some c) s (fun d s=>Z.bw false [some d] s)) (ao .add a (.int .i64 1))) (FH Z a s)) (ao .lss a (.int .i64 10)):=by kernel_rfl
theorem GQ:aX a4 G X 95 [a] s=f95 (a3 a4 G X) a s.ak:=c9 a4 G X (fn:=Mt)
theorem Rs:f96 Z a s=Z.cn s (fun c s=>Z.cn s (fun b s=>Z.lM s (fun d s=>Z.aK s (fun e s=>Z.ai s (fun f s=>Z.cn s (fun g s=>Z.ai s (fun i s=>Z.bw false [some i] s) (ao .add b g)) 121 [(ae.aq s.aa f)]) (ao .geq a e)) none d) 1 20 (Z.bi 0) b) 120 [(ae.aq s.aa c)]) 112 [(ae.aq s.aa a)]:=by kernel_rfl
theorem GR:aX a4 G X 96 [a] s=f96 (a3 a4 G X) a s.ak:=c9 a4 G X (fn:=VW)
theorem Ru:f97 Z a b s=Z.dz s (fun c s=>FI Z a b c s) false a:=by kernel_rfl
theorem GS:aX a4 G X 97 [a,b] s=f97 (a3 a4 G X) a b s.ak:=c9 a4 G X (fn:=Cj)
theorem KZ:f112 Z a s=Z.ai s (fun b s=>Z.bt b (Z.ai s (fun c s=>uS Z c (.int .i64 32) s) (ao .shr a (.int .u64 32))) (uS Z a (.int .i64 0) s)) (ao .geq a (.int .u64 4294967296)):=by kernel_rfl
theorem Dc:aX a4 G X 112 [a] s=f112 (a3 a4 G X) a s.ak:=c9 a4 G X (fn:=wP)
theorem K0:f120 Z a s=Z.ai s (fun b s=>Z.ai s (fun c s=>Z.bw false [some c] s) (ao .shr b (.int .u64 18))) (ao .mul a (.int .i64 78913)):=by kernel_rfl
theorem Dd:aX a4 G X 120 [a] s=f120 (a3 a4 G X) a s.ak:=c9 a4 G X (fn:=J1)
theorem K1:f121 Z a s=Z.bt a (Z.bw false [some (.int .i64 1)] s) (Aa Z s):=by kernel_rfl
theorem De:aX a4 G X 121 [a] s=f121 (a3 a4 G X) a s.ak:=c9 a4 G X (fn:=Eo)
theorem Rv:f14 Z a b s=Z.ai s (fun c s=>Z.bt c (Z.ai s (fun d s=>Z.ai s (fun e s=>yb Z e b s) (kl .neg d)) (ao .add a (.int .i64 1))) (yb Z a b s)) (ao .lss a (.int .i64 0)):=by kernel_rfl
theorem GU:aX a4 G X 14 [a,b] s=f14 (a3 a4 G X) a b s.ak:=c9 a4 G X (fn:=LX)
theorem WG:f5 Z a b c d s=Z.fI s (fun e s=>Z.ai s (fun f s=>Z.bt f (Z.bw false [some (.bool false)] s) (KL Z a b c d s)) (kl .not e)) 9 []:=by kernel_rfl
theorem K2:aX a4 G X 5 [a,b,c,d] s=f5 (a3 a4 G X) a b c d s.ak:=c9 a4 G X (fn:=o7)
theorem Rw:f18 Z s=Z.fI s (fun b s=>Z.de s (fun j s=>Z.de s (fun J s=>Z.iP (.ref (.l s.own.length) 0) (s.new (.cells [.bool false,.cm 1 [] .nil,.bool false,.cm 1 [] .nil])) (fun a s=>Z.dy s (fun h s=>Z.fI s (fun c s=>Z.de s (fun m s=>Z.de s (fun K s=>Z.iP (.ref (.l s.own.length) 0) (s.new (.cells [.bool false,.cm 1 [] .nil,.bool false,.cm 1 [] .nil])) (fun d s=>Z.dy s (fun h s=>Z.fI s (fun e s=>Z.de s (fun o s=>Z.de s (fun L s=>Z.iP (.ref (.l s.own.length) 0) (s.new (.cells [.bool false,.cm 1 [] .nil,.bool false,.cm 1 [] .nil])) (fun f s=>Z.dy s (fun h s=>Z.fI s (fun g s=>Z.de s (fun p s=>Z.de s (fun M s=>Z.iP (.ref (.l s.own.length) 0) (s.new (.cells [.bool false,.cm 1 [] .nil,.bool false,.cm 1 [] .nil])) (fun i s=>Z.dy s (fun h s=>Z.aK s (fun q s=>Z.aK s (fun r s=>Z.eh [.str [],.int .i64 0,.cm 1 [] .nil,.bool false,.cm 1 [] .nil,.bool false,.cm 1 [] .nil,.bool false,.cm 1 [] .nil,.bool false,.cm 1 [] .nil,.int .i64 0] [(0,1,(.str [65])),(1,1,(.int .i64 1)),(3,4,q),(7,4,r)] s (fun t s=>Z.aK s (fun u s=>Z.aK s (fun w s=>Z.eh [.str [],.int .i64 0,.cm 1 [] .nil,.bool false,.cm 1 [] .nil,.bool false,.cm 1 [] .nil,.bool false,.cm 1 [] .nil,.bool false,.cm 1 [] .nil,.int .i64 0] [(0,1,(.str [66])),(1,1,(.int .i64 1)),(3,4,u),(7,4,w)] s (fun x s=>Z.bG s (fun y s=>Z.eh [.str [],.int .i64 0,.cm 1 [] .nil,.bool false,.cm 1 [] .nil,.bool false,.cm 1 [] .nil,.bool false,.cm 1 [] .nil,.bool false,.cm 1 [] .nil,.int .i64 0] [(0,1,(.str [108])),(1,1,(.int .i64 3)),(2,1,y)] s (fun z s=>Z.bG s (fun A s=>Z.eh [.str [],.int .i64 0,.cm 1 [] .nil,.bool false,.cm 1 [] .nil,.bool false,.cm 1 [] .nil,.bool false,.cm 1 [] .nil,.bool false,.cm 1 [] .nil,.int .i64 0] [(0,1,(.str [99])),(1,1,(.int .i64 5)),(2,1,A)] s (fun B s=>Z.bG s (fun C s=>Z.eh [.str [],.int .i64 0,.cm 1 [] .nil,.bool false,.cm 1 [] .nil,.bool false,.cm 1 [] .nil,.bool false,.cm 1 [] .nil,.bool false,.cm 1 [] .nil,.int .i64 0] [(0,1,(.str [88])),(1,1,(.int .i64 8)),(2,1,C),(11,1,(.int .i64 2))] s (fun D s=>Z.bG s (fun E s=>Z.aK s (fun F s=>Z.eh [.str [],.int .i64 0,.cm 1 [] .nil,.bool false,.cm 1 [] .nil,.bool false,.cm 1 [] .nil,.bool false,.cm 1 [] .nil,.bool false,.cm 1 [] .nil,.int .i64 0] [(0,1,(.str [80])),(1,1,(.int .i64 2)),(2,1,E),(3,4,F)] s (fun H s=>Z.j3 s (fun I s=>Z.bw true [some I] s) 12 [(ae.aq s.aa t),(ae.aq s.aa x),(ae.aq s.aa z),(ae.aq s.aa B),(ae.aq s.aa D),(ae.aq s.aa H)])) (some 4) d) 1 [(.int .i64 3)])) 1 [(.int .i64 2),(.int .i64 3)])) 1 [(.int .i64 0),(.int .i64 1)])) 1 [(.int .i64 0),(.int .i64 1)])) (some 4) i) (some 4) f)) (some 4) a) (some 4) a) 4 i (ae.aq s.aa p))) 1 g) 0 g) 46 [(ae.aq s.aa (.int .i64 4)),(ae.aq s.aa (.int .i64 1))]) 4 f (ae.aq s.aa o))) 1 e) 0 e) 46 [(ae.aq s.aa (.int .i64 3)),(ae.aq s.aa (.int .i64 1))]) 4 d (ae.aq s.aa m))) 1 c) 0 c) 46 [(ae.aq s.aa (.int .i64 1)),(ae.aq s.aa (.int .i64 1))]) 4 a (ae.aq s.aa j))) 1 b) 0 b) 46 [(ae.aq s.aa (.int .i64 0)),(ae.aq s.aa (.int .i64 1))]:=by kernel_rfl
theorem GV:aX a4 G X 18 [] s=f18 (a3 a4 G X) s:=c9 a4 G X (fn:=Te)
end
end Go.f0
end
section
namespace Go.f0
end Go.f0
end
