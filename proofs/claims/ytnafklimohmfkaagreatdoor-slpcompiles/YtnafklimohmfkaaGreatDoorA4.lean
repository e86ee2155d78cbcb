/- What the claim's texts say of a part of the evaluator and of the program's functions: for every argument that they name. -/
import Derived.Test.YtnafklimohmfkaaGreatDoorA3
import Derived.Test.YtnafklimohmfkaaGreatDoorA2
import Derived.KernelRfl
set_option linter.unusedSectionVars false
set_option linter.unusedSimpArgs false
set_option linter.unusedVariables false
namespace Go.jY
noncomputable section
open Go.Ab
set_option maxRecDepth 100000
variable(Z:rZ)
variable(G:Nat→AV)(X:Nat→List AV→St→ax)
def auk:KK:=c9 (aD Z NO) (aO Z EY)
def aul:Mk:=cf 14
def aum:KK:=c9 (aD Z NM) (aO Z EY)
def adT:KK:=bu 0 (aum Z)
def yq:Mk:=cf 0x3510d1a
def KY:KK:=cA yq (Z.aW (aD Z KO) yq) (adT Z)
def aun:KK:=c9 (aD Z acY) (KY Z)
def alT:KK:=bu 1 (aun Z)
def N2(s:St):ax:=Z.aE .e acV .e s (auk Z)
def N3(s:St):ax:=Z.aE .e acW .e s (alT Z)
def N4(a b c d:AV)(s:St):ax:=Z.aE yq acX (sN (sN (sD .e (sD (sL d) .e)) b .e) a (sD .e (sD (sD (sL c) .e) .e))) s (KY Z)
def N5(a b c d:AV)(s:St):ax:=Z.aE yq acZ (sN (sN (sD .e (sD (sL d) .e)) b .e) a (sD .e (sD (sD (sL c) .e) .e))) s (KY Z)
def N6(s:St):ax:=Z.aE .e NL .e s (aO Z EY)
def yr(a b c d:AV)(s:St):ax:=Z.aW (aD Z KO) yq (sN (sN (sD .e (sD (sL d) .e)) b .e) a (sD .e (sD (sD (sL c) .e) .e))) s (adT Z)
def N7(a b:AV)(s:St):ax:=Z.aE aul NN (sN (sL b) a .e) s (aO Z EY)
def f189(a b:AV)(s:St):ax:=aR [a,b] 0 .e fun fr=>aD Z ac0 fr s (aO Z EY)
theorem N8(h:Z.OK)(s:St):N2 Z s=Z.aI false [some (.int .i64 1)] s:=h.mm
theorem N9(h:Z.OK)(s:St):N3 Z s=Z.aI false [some (.int .i64 1)] s:=h.mm
theorem Oa(h:Z.OK)(a b c d:AV)(s:St):N4 Z a b c d s=Z.ak s (fun e s=>yr Z a b c e s) (au .add d (.int .i64 1)):=h.mm
theorem Ob(h:Z.OK)(a b e d:AV)(s:St):N5 Z a b e d s=Z.aV s (fun f s=>Z.ak s (fun g s=>Z.ak s (fun c s=>Z.aX s (fun i s=>Z.aq s (fun j s=>Z.aX s (fun m s=>Z.aq s (fun o s=>Z.ak s (fun p s=>Z.aH p (Z.aX s (fun q s=>Z.aq s (fun r s=>Z.aX s (fun t s=>Z.aq s (fun u s=>Z.ak s (fun w s=>Z.aH w (Z.aI false [some (.int .i64 (-1))] s) (N3 Z s)) (au .lss r u)) none t) 1 b c) none q) 1 a c) (N4 Z a b e d s)) (au .neq j o)) none m) 1 b c) none i) 1 a c) (au .sub g d)) (au .sub f (.int .i64 1))) false a:=h.mm
theorem Oc(h:Z.OK)(s:St):N6 Z s=Z.aI false [some (.int .i64 0)] s:=h.mm
theorem BW(h:Z.OK)(c d a b:AV)(s:St):yr Z c d a b s=Z.ak s (fun e s=>Z.aH e (N5 Z c d a b s) (N6 Z s)) (au .lss b a):=h.ll
theorem Od(h:Z.OK)(a b:AV)(s:St):N7 Z a b s=Z.aV s (fun c s=>yr Z a b c (.int .i64 0) s) false a:=h.mm
theorem alU(a b:AV)(s:St):f189 Z a b s=Z.aV s (fun c s=>Z.aV s (fun d s=>Z.ak s (fun e s=>Z.aH e (Z.aV s (fun f s=>Z.aV s (fun g s=>Z.ak s (fun i s=>Z.aH i (Z.aI false [some (.int .i64 (-1))] s) (N2 Z s)) (au .lss f g)) false b) false a) (N7 Z a b s)) (au .neq c d)) false b) false a:=by kernel_rfl
theorem UR(a b:AV)(s:St):aJ T1 G X 189 [a,b] s=f189 (PP T1 G X) a b s.ai:=aY T1 G X (fn:=EY)
def auo:KK:=c9 (aD Z ac4) (aO Z NQ)
def adU:KK:=bu 0 (auo Z)
def yu:Mk:=cf 0x30d5039a
def adV:KK:=cA yu (Z.aW (aD Z KP) yu) (adU Z)
def aup:Mk:=cf 0x310d5
def Oe(a b c d e f:AV)(s:St):ax:=Z.aE yu ac1 (sN (sN (sD (sN (sL e) d .e) .e) b .e) a (sD (sD (sD (sL f) .e) .e) (sL c))) s (adV Z)
def Of(a b c d e f:AV)(s:St):ax:=Z.aE yu ac2 (sN (sN (sD (sN (sL e) d .e) .e) b .e) a (sD (sD (sD (sL f) .e) .e) (sL c))) s (adV Z)
def Og(a b:AV)(s:St):ax:=Z.aE aup ac3 (sD (sD (sD (sL b) .e) .e) (sD .e (sL a))) s (aO Z NQ)
def yv(a b c d e f:AV)(s:St):ax:=Z.aW (aD Z KP) yu (sN (sN (sD (sN (sL e) d .e) .e) b .e) a (sD (sD (sD (sL f) .e) .e) (sL c))) s (adU Z)
def f190(a b:AV)(s:St):ax:=aR [a,b] 0 .e fun fr=>aD Z ac5 fr s (aO Z NQ)
theorem Oh(h:Z.OK)(a b c d e f:AV)(s:St):Oe Z a b c d e f s=Z.ak s (fun g s=>yv Z a b c d e g s) (au .add f (.int .i64 1)):=h.mm
theorem Oi(h:Z.OK)(a b c e f d:AV)(s:St):Of Z a b c e f d s=Z.aV s (fun j s=>Z.ak s (fun m s=>Z.ak s (fun g s=>Z.ak s (fun o s=>Z.aX s (fun p s=>Z.aq s (fun q s=>Z.bc s (fun r s=>Z.ak s (fun i s=>Z.bc s (fun t s=>Z.ak s (fun u s=>Z.bc s (fun w s=>Z.aX s (fun x s=>Z.a7 s (fun _v s=>Z.bc s (fun y s=>Z.ak s (fun z s=>Oe Z a b c z f d s) (au .rem i y)) .u64 b) 1 x (AV.av s.aa w)) 1 c g) .u32 u) (au .quo i t)) .u64 b) (au .or o r)) .u64 q) none p) 1 a g) (au .shl e (.int .u64 32))) (au .sub m d)) (au .sub j (.int .i64 1))) false a:=h.mm
theorem Oj(h:Z.OK)(a b:AV)(s:St):Og Z a b s=Z.aB s (fun c s=>Z.bc s (fun d s=>Z.aI false [some c,some d] s) .u32 b) 191 [(AV.av s.aa a)]:=h.mm
theorem BY(h:Z.OK)(e f a b c d:AV)(s:St):yv Z e f a b c d s=Z.ak s (fun g s=>Z.aH g (Of Z e f a b c d s) (Og Z a b s)) (au .lss d c):=h.ll
theorem alV(a b:AV)(s:St):f190 Z a b s=Z.aV s (fun c s=>Z.kK s (fun d s=>Z.aV s (fun e s=>yv Z a b d (.int .u64 0) e (.int .i64 0) s) false a) [.int .u32 0] 4 c c) false a:=by kernel_rfl
theorem US(a b:AV)(s:St):aJ T1 G X 190 [a,b] s=f190 (PP T1 G X) a b s.ai:=aY T1 G X (fn:=NQ)
def auq:KK:=c9 (aD Z ac8) (aO Z NR)
def adW:KK:=bu 0 (auq Z)
def yw:Mk:=cf 54
def aur:KK:=cA yw (Z.aW (aD Z KQ) yw) (adW Z)
def Ok(a b:AV)(s:St):ax:=Z.aE yw ac6 (sN (sD (sL b) .e) a .e) s (aur Z)
def E4(a b:AV)(s:St):ax:=Z.aE yw ac7 (sN (sD (sL b) .e) a .e) s (aO Z NR)
def yx(a b:AV)(s:St):ax:=Z.aW (aD Z KQ) yw (sN (sD (sL b) .e) a .e) s (adW Z)
def f191(a:AV)(s:St):ax:=aR [a] 0 .e fun fr=>aD Z ac9 fr s (aO Z NR)
theorem Ol(h:Z.OK)(a b:AV)(s:St):Ok Z a b s=Z.ak s (fun c s=>yx Z a c s) (au .sub b (.int .i64 1)):=h.mm
theorem Om(h:Z.OK)(a b:AV)(s:St):E4 Z a b s=Z.lh 1 a none (some b) none s (fun c s=>Z.aI false [some c] s):=h.mm
theorem BZ(h:Z.OK)(c b:AV)(s:St):yx Z c b s=Z.ak s (fun a s=>Z.ah a true (fun k=>k c s) s (fun d s=>Z.ah a true (fun k=>k b s) s (fun e s=>Z.ah a true (fun k=>Z.ak s k (au .sub e (.int .i64 1))) s (fun f s=>Z.ah a true (fun k=>Z.aX s k 1 d f) s (fun g s=>Z.ah a true (fun k=>Z.aq s k none g) s (fun i s=>Z.ah a true (fun k=>Z.ak s k (au .eql i (.int .u32 0))) s (fun j s=>Z.aZ s (fun m s=>Z.aH m (Ok Z c b s) (E4 Z c b s)) a j (.bool false)))))))) (au .gtr b (.int .i64 0)):=h.ll
theorem alW(a:AV)(s:St):f191 Z a s=Z.aV s (fun b s=>yx Z a b s) false a:=by kernel_rfl
theorem UT(a:AV)(s:St):aJ T1 G X 191 [a] s=f191 (PP T1 G X) a s.ai:=aY T1 G X (fn:=NR)
def f192(a:AV)(s:St):ax:=aR [a] 0 .e fun fr=>aD Z ada fr s (aO Z alq)
theorem alX(a:AV)(s:St):f192 Z a s=Z.aB s (fun b s=>Z.ak s (fun c s=>Z.aI false [some c] s) (au .sub (.int .i64 32) b)) 204 [(AV.av s.aa a)]:=by kernel_rfl
theorem UU(a:AV)(s:St):aJ T1 G X 192 [a] s=f192 (PP T1 G X) a s.ai:=aY T1 G X (fn:=alq)
def aus:KK:=c9 (aD Z adg) (aO Z NS)
def adX:KK:=bu 0 (aus Z)
def yy:Mk:=cf 0xd50d8a
def adY:KK:=cA yy (Z.aW (aD Z KR) yy) (adX Z)
def aut:Mk:=cf 197
def On(a b c d e:AV)(s:St):ax:=Z.aE yy adb (sN (sN .e b (sN (sD (sL e) .e) c .e)) a (sD (sD (sD (sL d) .e) .e) .e)) s (adY Z)
def Oo(a b c d e:AV)(s:St):ax:=Z.aE yy ade (sN (sN .e b (sN (sD (sL e) .e) c .e)) a (sD (sD (sD (sL d) .e) .e) .e)) s (adY Z)
def Oq(a:AV)(s:St):ax:=Z.aE aut adf (sD (sD .e (sL a)) .e) s (aO Z NS)
def yz(a b c d e:AV)(s:St):ax:=Z.aW (aD Z KR) yy (sN (sN .e b (sN (sD (sL e) .e) c .e)) a (sD (sD (sD (sL d) .e) .e) .e)) s (adX Z)
def f193(a b:AV)(s:St):ax:=aR [a,b] 0 .e fun fr=>aD Z adh fr s (aO Z NS)
theorem Ot(h:Z.OK)(a b c d e:AV)(s:St):On Z a b c d e s=Z.ak s (fun f s=>yz Z a b c d f s) (au .add e (.int .i64 1)):=h.mm
theorem Ou(h:Z.OK)(d a b e c:AV)(s:St):Oo Z d a b e c s=Z.aX s (fun i s=>Z.aq s (fun j s=>Z.bc s (fun m s=>Z.ak s (fun o s=>Z.ak s (fun f s=>Z.ak s (fun p s=>Z.ak s (fun g s=>Z.aX s (fun q s=>Z.aq s (fun r s=>Z.bc s (fun t s=>Z.ak s (fun u s=>Z.aX s (fun w s=>Z.a7 s (fun _v s=>Z.ak s (fun x s=>Z.ak s (fun y s=>Z.ak s (fun z s=>Z.ak s (fun A s=>Z.bc s (fun B s=>Z.aX s (fun C s=>Z.a7 s (fun _v s=>On Z d a b e c s) 1 C (AV.av s.aa B)) 1 b z) .u32 A) (au .shr f (.int .u64 32))) (au .add y (.int .i64 1))) (au .add c x)) (au .quo a (.int .i64 32))) 1 w (AV.av s.aa u)) 1 b g) (au .or r t)) .u32 f) none q) 1 b g) (au .add c p)) (au .quo a (.int .i64 32))) (au .shl m o)) (au .rem a (.int .i64 32))) .u64 j) none i) 1 d c:=h.mm
theorem Ov(h:Z.OK)(a:AV)(s:St):Oq Z a s=Z.aB s (fun b s=>Z.aI false [some b] s) 191 [(AV.av s.aa a)]:=h.mm
theorem B0(h:Z.OK)(d e a b c:AV)(s:St):yz Z d e a b c s=Z.ak s (fun f s=>Z.aH f (Oo Z d e a b c s) (Oq Z a s)) (au .lss c b):=h.ll
theorem alY(a b:AV)(s:St):f193 Z a b s=Z.aV s (fun d s=>Z.ak s (fun e s=>Z.ak s (fun f s=>Z.ak s (fun c s=>Z.kK s (fun g s=>Z.aV s (fun i s=>yz Z a b g i (.int .i64 0) s) false a) [.int .u32 0] 4 c c) (au .add f (.int .i64 1))) (au .add d e)) (au .quo b (.int .i64 32))) false a:=by kernel_rfl
theorem UW(a b:AV)(s:St):aJ T1 G X 193 [a,b] s=f193 (PP T1 G X) a b s.ai:=aY T1 G X (fn:=NS)
def auu:KK:=c9 (aD Z NX) (aO Z BU)
def adZ:KK:=bu 0 (auu Z)
def yA:Mk:=cf 0x39234d2a
def ad0:KK:=cA yA (Z.aW (aD Z KS) yA) (adZ Z)
def auv:Mk:=cf 0xd237a
def alZ:Mk:=cf 826
def al0:KK:=c9 (aD Z NU) (aO Z BU)
def Ow:KK:=bu 2 (al0 Z)
def ui:Mk:=cf 0xd15203467a
def Ox:KK:=cA ui (Z.aW (aD Z EZ) ui) (Ow Z)
def al1:Mk:=cf 13178
def Oy(a b c d e f g i:AV)(s:St):ax:=Z.aE yA adi (sN (sN (sN .e d (sD (sL i) .e)) b (sD (sL e) .e)) a (sN .e c (sD (sN (sL g) f .e) .e))) s (ad0 Z)
def Oz(a b c d e f g i:AV)(s:St):ax:=Z.aE yA adj (sN (sN (sN .e d (sD (sL i) .e)) b (sD (sL e) .e)) a (sN .e c (sD (sN (sL g) f .e) .e))) s (ad0 Z)
def OA(a b c d e f g:AV)(s:St):ax:=Z.aE ui adk (sN (sN (sL d) b (sD (sN (sD .e (sD (sL f) .e)) e .e) .e)) a (sN .e c (sD (sD (sD .e (sD (sL g) .e)) .e) .e))) s (Ox Z)
def OB(a b c d e f g:AV)(s:St):ax:=Z.aE ui adl (sN (sN (sL d) b (sD (sN (sD .e (sD (sL f) .e)) e .e) .e)) a (sN .e c (sD (sD (sD .e (sD (sL g) .e)) .e) .e))) s (Ox Z)
def OC(a b c d e:AV)(s:St):ax:=Z.aE al1 NT (sN (sN (sL d) b (sD (sL e) .e)) a (sL c)) s (aO Z BU)
def yB(a b c d e f g:AV)(s:St):ax:=Z.aW (aD Z EZ) ui (sN (sN (sL d) b (sD (sN (sD .e (sD (sL f) .e)) e .e) .e)) a (sN .e c (sD (sD (sD .e (sD (sL g) .e)) .e) .e))) s (Ow Z)
def E5(a b c d:AV)(s:St):ax:=Z.aE alZ NV (sN (sN (sL d) b .e) a (sL c)) s (aO Z BU)
def OD(a b c d e f:AV)(s:St):ax:=Z.aE auv NW (sN (sN (sL d) b (sD (sL e) .e)) a (sN .e c (sD (sL f) .e))) s (aO Z BU)
def uj(a b c d e f g i:AV)(s:St):ax:=Z.aW (aD Z KS) yA (sN (sN (sN .e d (sD (sL i) .e)) b (sD (sL e) .e)) a (sN .e c (sD (sN (sL g) f .e) .e))) s (adZ Z)
def f194(a b c d:AV)(s:St):ax:=aR [a,b,c,d] 0 .e fun fr=>aD Z adm fr s (aO Z BU)
theorem OE(h:Z.OK)(a b c d e f g i:AV)(s:St):Oy Z a b c d e f g i s=Z.ak s (fun j s=>uj Z a b c d e f g j s) (au .add i (.int .i64 1)):=h.mm
theorem OF(h:Z.OK)(b c d e f g i a:AV)(s:St):Oz Z b c d e f g i a s=Z.aX s (fun o s=>Z.aq s (fun p s=>Z.bc s (fun q s=>Z.ak s (fun r s=>Z.ak s (fun j s=>Z.ak s (fun t s=>Z.ak s (fun u s=>Z.aX s (fun w s=>Z.aq s (fun x s=>Z.bc s (fun y s=>Z.ak s (fun z s=>Z.ak s (fun A s=>Z.ak s (fun m s=>Z.ak s (fun B s=>Z.bc s (fun C s=>Z.aX s (fun D s=>Z.a7 s (fun _v s=>Z.ak s (fun E s=>Oy Z b c d e t E i a s) (au .shr m (.int .u64 63))) 1 D (AV.av s.aa C)) 1 b B) .u32 m) (au .add c a)) (au .sub A g)) (au .sub y z)) (au .and j (.int .u64 4294967295))) .u64 x) none w) 1 b u) (au .add c a)) (au .shr j (.int .u64 32))) (au .add r f)) (au .mul e q)) .u64 p) none o) 1 d a:=h.mm
theorem OG(h:Z.OK)(a b c d e f g:AV)(s:St):OA Z a b c d e f g s=Z.ak s (fun i s=>yB Z a b c d e f i s) (au .add g (.int .i64 1)):=h.mm
theorem OH(h:Z.OK)(b c d e f g a:AV)(s:St):OB Z b c d e f g a s=Z.ak s (fun j s=>Z.aX s (fun m s=>Z.aq s (fun o s=>Z.bc s (fun p s=>Z.aX s (fun q s=>Z.aq s (fun r s=>Z.bc s (fun t s=>Z.ak s (fun u s=>Z.ak s (fun i s=>Z.ak s (fun w s=>Z.bc s (fun x s=>Z.aX s (fun y s=>Z.a7 s (fun _v s=>Z.ak s (fun z s=>OA Z b c d e z g a s) (au .shr i (.int .u64 32))) 1 y (AV.av s.aa x)) 1 b w) .u32 i) (au .add c a)) (au .add u f)) (au .add p t)) .u64 r) none q) 1 d a) .u64 o) none m) 1 b j) (au .add c a):=h.mm
theorem OI(h:Z.OK)(a b c d e:AV)(s:St):OC Z a b c d e s=Z.aV s (fun g s=>Z.ak s (fun f s=>Z.aX s (fun i s=>Z.aq s (fun j s=>Z.bc s (fun m s=>Z.ak s (fun o s=>Z.aX s (fun p s=>Z.a7 s (fun _v s=>Z.ak s (fun q s=>Z.bc s (fun r s=>Z.aI false [some r] s) .u32 q) (au .sub d (.int .u64 1))) 1 p (AV.av s.aa o)) 1 a f) (au .add j m)) .u32 e) none i) 1 a f) (au .add b g)) false c:=h.mm
theorem B1(h:Z.OK)(a b c d e f g:AV)(s:St):yB Z a b c d e f g s=Z.ak s (fun i s=>Z.aH i (OB Z a b c d e f g s) (OC Z a b c d e s)) (au .lss g f):=h.ll
theorem OJ(h:Z.OK)(b c a d:AV)(s:St):E5 Z b c a d s=Z.aV s (fun e s=>yB Z b c a d (.int .u64 0) e (.int .i64 0) s) false a:=h.mm
theorem OL(h:Z.OK)(a b c d e f:AV)(s:St):OD Z a b c d e f s=Z.aV s (fun i s=>Z.ak s (fun j s=>Z.aX s (fun m s=>Z.aq s (fun o s=>Z.bc s (fun p s=>Z.ak s (fun q s=>Z.ak s (fun g s=>Z.aV s (fun r s=>Z.ak s (fun t s=>Z.bc s (fun u s=>Z.aX s (fun w s=>Z.a7 s (fun _v s=>Z.ak s (fun x s=>Z.ak s (fun y s=>Z.aH y (Z.bc s (fun z s=>Z.aI false [some z] s) .u32 d) (E5 Z a b c d s)) (au .eql x (.int .u64 0))) (au .shr g (.int .u64 63))) 1 w (AV.av s.aa u)) 1 a t) .u32 g) (au .add b r)) false c) (au .sub q f)) (au .sub p e)) .u64 o) none m) 1 a j) (au .add b i)) false c:=h.mm
theorem B2(h:Z.OK)(a b c d e f g i:AV)(s:St):uj Z a b c d e f g i s=Z.ak s (fun j s=>Z.aH j (Oz Z a b c d e f g i s) (OD Z a b c d e f s)) (au .lss i g):=h.ll
theorem al2(b c a d:AV)(s:St):f194 Z b c a d s=Z.aV s (fun e s=>uj Z b c a d (.int .u64 0) (.int .u64 0) e (.int .i64 0) s) false a:=by kernel_rfl
theorem UX(a b c d:AV)(s:St):aJ T1 G X 194 [a,b,c,d] s=f194 (PP T1 G X) a b c d s.ai:=aY T1 G X (fn:=BU)
def auw:KK:=c9 (aD Z adp) (aO Z NY)
def ad1:KK:=bu 0 (auw Z)
def C4:Mk:=cf 0xd234da
def auy:KK:=cA C4 (Z.aW (aD Z KT) C4) (ad1 Z)
def auz:Mk:=cf 837
def E6(a:AV)(s:St):ax:=Z.aE auz ado (sD (sD .e (sD (sL a) .e)) .e) s (aO Z NY)
def E7(a b c d e f:AV)(s:St):ax:=Z.aE C4 adn (sN (sN (sD (sL d) .e) b (sD (sL e) .e)) a (sN .e c (sD (sL f) .e))) s (auy Z)
def yC(a b c d e f:AV)(s:St):ax:=Z.aW (aD Z KT) C4 (sN (sN (sD (sL d) .e) b (sD (sL e) .e)) a (sN .e c (sD (sL f) .e))) s (ad1 Z)
def f195(a b c:AV)(s:St):ax:=aR [a,b,c] 0 .e fun fr=>aD Z adq fr s (aO Z NY)
theorem B3(h:Z.OK)(a:AV)(s:St):E6 Z a s=Z.aI false [some a] s:=h.mm
theorem OM(h:Z.OK)(c d a b e f:AV)(s:St):E7 Z c d a b e f s=Z.ak s (fun g s=>Z.ak s (fun j s=>Z.aX s (fun m s=>Z.aq s (fun o s=>Z.bc s (fun p s=>Z.ak s (fun i s=>Z.ak s (fun q s=>Z.aH q (E6 Z g s) (yC Z c d a b g i s)) (au .geq i (.int .u64 4294967296))) (au .add f p)) .u64 o) none m) 1 a j) (au .sub b (.int .i64 1))) (au .sub e (.int .u64 1)):=h.mm
theorem ON(h:Z.OK)(d e f c b g:AV)(s:St):yC Z d e f c b g s=Z.ak s (fun a s=>Z.ah a false (fun k=>k b s) s (fun i s=>Z.ah a false (fun k=>k f s) s (fun j s=>Z.ah a false (fun k=>k c s) s (fun m s=>Z.ah a false (fun k=>Z.ak s k (au .sub m (.int .i64 2))) s (fun o s=>Z.ah a false (fun k=>Z.aX s k 1 j o) s (fun p s=>Z.ah a false (fun k=>Z.aq s k none p) s (fun q s=>Z.ah a false (fun k=>Z.bc s k .u64 q) s (fun r s=>Z.ah a false (fun k=>Z.ak s k (au .mul i r)) s (fun t s=>Z.ah a false (fun k=>k g s) s (fun u s=>Z.ah a false (fun k=>Z.ak s k (au .shl u (.int .u64 32))) s (fun w s=>Z.ah a false (fun k=>k d s) s (fun x s=>Z.ah a false (fun k=>k e s) s (fun y s=>Z.ah a false (fun k=>k c s) s (fun z s=>Z.ah a false (fun k=>Z.ak s k (au .add y z)) s (fun A s=>Z.ah a false (fun k=>Z.ak s k (au .sub A (.int .i64 2))) s (fun B s=>Z.ah a false (fun k=>Z.aX s k 1 x B) s (fun C s=>Z.ah a false (fun k=>Z.aq s k none C) s (fun D s=>Z.ah a false (fun k=>Z.bc s k .u64 D) s (fun E s=>Z.ah a false (fun k=>Z.ak s k (au .or w E)) s (fun F s=>Z.ah a false (fun k=>Z.ak s k (au .gtr t F)) s (fun H s=>Z.aZ s (fun I s=>Z.aH I (E7 Z d e f c b g s) (E6 Z b s)) a (.bool true) H))))))))))))))))))))) (au .geq b (.int .u64 4294967296)):=h.ll
theorem al3(c d a:AV)(s:St):f195 Z c d a s=Z.aV s (fun b s=>Z.ak s (fun f s=>Z.aX s (fun g s=>Z.aq s (fun i s=>Z.bc s (fun j s=>Z.ak s (fun m s=>Z.ak s (fun o s=>Z.ak s (fun p s=>Z.aX s (fun q s=>Z.aq s (fun r s=>Z.bc s (fun t s=>Z.ak s (fun e s=>Z.ak s (fun u s=>Z.aX s (fun w s=>Z.aq s (fun x s=>Z.bc s (fun y s=>Z.ak s (fun z s=>Z.ak s (fun A s=>Z.aX s (fun B s=>Z.aq s (fun C s=>Z.bc s (fun D s=>Z.ak s (fun E s=>yC Z c d a b z E s) (au .rem e D)) .u64 C) none B) 1 a A) (au .sub b (.int .i64 1))) (au .quo e y)) .u64 x) none w) 1 a u) (au .sub b (.int .i64 1))) (au .or m t)) .u64 r) none q) 1 c p) (au .sub o (.int .i64 1))) (au .add d b)) (au .shl j (.int .u64 32))) .u64 i) none g) 1 c f) (au .add d b)) false a:=by kernel_rfl
theorem UY(a b c:AV)(s:St):aJ T1 G X 195 [a,b,c] s=f195 (PP T1 G X) a b c s.ai:=aY T1 G X (fn:=NY)
def auA:Mk:=cf 798
def auB:KK:=c9 (aD Z adx) (aO Z I1)
def ad2:KK:=bu 0 (auB Z)
def yD:Mk:=cf 0x334753444da
def KZ:KK:=cA yD (Z.aW (aD Z KU) yD) (ad2 Z)
def auC:KK:=c9 (aD Z adt) (KZ Z)
def auD:KK:=bu 1 (auC Z)
def al4:Mk:=cf 0xe34753474da
def al5:Mk:=cf 0x350d5
def OO(a b c d e f g:AV)(s:St):ax:=Z.aE yD ads (sN (sN (sD (sL d) .e) b (sD .e (sD .e (sD (sL g) .e)))) a (sD (sD (sL e) (sD .e (sD (sL f) .e))) (sL c))) s (KZ Z)
def yE(a b c d e f g i j:AV)(s:St):ax:=Z.aE al4 adr (sN (sN (sD (sL d) .e) b (sD (sL f) (sD .e (sD (sL j) .e)))) a (sD (sD (sL e) (sD .e (sD (sL i) .e))) (sN (sL g) c .e))) s (auD Z)
def OP(a b c d e f g:AV)(s:St):ax:=Z.aE yD adu (sN (sN (sD (sL d) .e) b (sD .e (sD .e (sD (sL g) .e)))) a (sD (sD (sL e) (sD .e (sD (sL f) .e))) (sL c))) s (KZ Z)
def OQ(a b:AV)(s:St):ax:=Z.aE al5 adw (sD (sD (sD (sL a) .e) .e) (sD (sD (sL b) .e) .e)) s (aO Z I1)
def uk(a b c d e f g:AV)(s:St):ax:=Z.aW (aD Z KU) yD (sN (sN (sD (sL d) .e) b (sD .e (sD .e (sD (sL g) .e)))) a (sD (sD (sL e) (sD .e (sD (sL f) .e))) (sL c))) s (ad2 Z)
def OS(a b c:AV)(s:St):ax:=Z.aE auA NZ (sN (sL b) a (sD .e (sL c))) s (aO Z I1)
def f196(a b:AV)(s:St):ax:=aR [a,b] 0 .e fun fr=>aD Z ady fr s (aO Z I1)
theorem OT(h:Z.OK)(a b c d e f g:AV)(s:St):OO Z a b c d e f g s=Z.ak s (fun i s=>uk Z a b c d e f i s) (au .add g (.int .i64 1)):=h.mm
theorem OU(h:Z.OK)(c a d e b f g i j:AV)(s:St):yE Z c a d e b f g i j s=Z.ak s (fun m s=>Z.ak s (fun o s=>Z.bc s (fun p s=>Z.aX s (fun q s=>Z.a7 s (fun _v s=>OO Z c a d e b i j s) 1 q (AV.av s.aa p)) 1 b f) .u32 o) (au .shr g m)) (au .rem a (.int .i64 32)):=h.mm
theorem OV(h:Z.OK)(b d c e f g a:AV)(s:St):OP Z b d c e f g a s=Z.ak s (fun j s=>Z.aX s (fun m s=>Z.aq s (fun o s=>Z.bc s (fun i s=>Z.ak s (fun p s=>Z.ak s (fun q s=>Z.aV s (fun r s=>Z.ak s (fun t s=>Z.aH t (Z.ak s (fun u s=>Z.ak s (fun w s=>Z.aX s (fun x s=>Z.aq s (fun y s=>Z.bc s (fun z s=>Z.ak s (fun A s=>Z.ak s (fun B s=>yE Z b d c e f a B g a s) (au .or i A)) (au .shl z (.int .u64 32))) .u64 y) none x) 1 b w) (au .add u (.int .i64 1))) (au .add a c)) (yE Z b d c e f a i g a s)) (au .lss q r)) false b) (au .add p (.int .i64 1))) (au .add a c)) .u64 o) none m) 1 b j) (au .add a c):=h.mm
theorem OW(h:Z.OK)(a b:AV)(s:St):OQ Z a b s=Z.aB s (fun c s=>Z.aI false [some c,some a] s) 191 [(AV.av s.aa b)]:=h.mm
theorem B4(h:Z.OK)(e f g a b c d:AV)(s:St):uk Z e f g a b c d s=Z.ak s (fun i s=>Z.aH i (OP Z e f g a b c d s) (OQ Z a b s)) (au .lss d c):=h.ll
theorem OX(h:Z.OK)(b d c:AV)(s:St):OS Z b d c s=Z.lh 1 b none (some c) none s (fun g s=>Z.aB s (fun i s=>Z.aV s (fun j s=>Z.ak s (fun a s=>Z.ah a false (fun k=>k b s) s (fun m s=>Z.ah a false (fun k=>k c s) s (fun o s=>Z.ah a false (fun k=>Z.aX s k 1 m o) s (fun p s=>Z.ah a false (fun k=>Z.aq s k none p) s (fun q s=>Z.ah a false (fun k=>k d s) s (fun r s=>Z.ah a false (fun k=>Z.ak s k (au .rem r (.int .i64 32))) s (fun t s=>Z.ah a false (fun k=>Z.ak s k (au .shl (.int .u32 1) t)) s (fun u s=>Z.ah a false (fun k=>Z.ak s k (au .sub u (.int .u32 1))) s (fun w s=>Z.ah a false (fun k=>Z.ak s k (au .and q w)) s (fun x s=>Z.ah a false (fun k=>Z.ak s k (au .neq x (.int .u32 0))) s (fun y s=>Z.aZ s (fun z s=>Z.aV s (fun A s=>Z.ak s (fun e s=>Z.kK s (fun f s=>Z.aV s (fun B s=>uk Z b d c z f B (.int .i64 0) s) false f) [.int .u32 0] 4 e e) (au .sub A c)) false b) a (.bool true) y))))))))))) (au .gtr j (.int .i64 0))) false i) 191 [(AV.av s.aa g)]):=h.mm
theorem al6(a b:AV)(s:St):f196 Z a b s=Z.ak s (fun c s=>Z.aV s (fun d s=>Z.ak s (fun e s=>Z.aH e (Z.aV s (fun f s=>Z.ak s (fun g s=>Z.aI false [some (.sl 1 [] .nil),some g] s) (au .gtr f (.int .i64 0))) false a) (OS Z a b c s)) (au .geq c d)) false a) (au .quo b (.int .i64 32)):=by kernel_rfl
theorem UZ(a b:AV)(s:St):aJ T1 G X 196 [a,b] s=f196 (PP T1 G X) a b s.ai:=aY T1 G X (fn:=I1)
def ad3:Mk:=cf 50
def ul(a b:AV)(s:St):ax:=Z.aE ad3 adF (sN .e a (sL b)) s (aO Z N0)
def si(a b:AV)(s:St):ax:=Z.aE ad3 adG (sN .e a (sL b)) s (aO Z N0)
def f204(a:AV)(s:St):ax:=aR [a] 0 .e fun fr=>aD Z adH fr s (aO Z N0)
theorem OY(h:Z.OK)(a b:AV)(s:St):ul Z a b s=Z.bc s (fun c s=>Z.cZ s (fun d s=>Z.bc s (fun e s=>Z.ak s (fun f s=>Z.aI false [some f] s) (au .add b e)) .i64 d) (.str [0,1,2,2,3,3,3,3,4,4,4,4,4,4,4,4,5,5,5,5,5,5,5,5,5,5,5,5,5,5,5,5,6,6,6,6,6,6,6,6,6,6,6,6,6,6,6,6,6,6,6,6,6,6,6,6,6,6,6,6,6,6,6,6,7,7,7,7,7,7,7,7,7,7,7,7,7,7,7,7,7,7,7,7,7,7,7,7,7,7,7,7,7,7,7,7,7,7,7,7,7,7,7,7,7,7,7,7,7,7,7,7,7,7,7,7,7,7,7,7,7,7,7,7,7,7,7,7,8,8,8,8,8,8,8,8,8,8,8,8,8,8,8,8,8,8,8,8,8,8,8,8,8,8,8,8,8,8,8,8,8,8,8,8,8,8,8,8,8,8,8,8,8,8,8,8,8,8,8,8,8,8,8,8,8,8,8,8,8,8,8,8,8,8,8,8,8,8,8,8,8,8,8,8,8,8,8,8,8,8,8,8,8,8,8,8,8,8,8,8,8,8,8,8,8,8,8,8,8,8,8,8,8,8,8,8,8,8,8,8,8,8,8,8,8,8,8,8,8,8,8,8,8,8,8,8]) c) .u8 a:=h.mm
theorem OZ(h:Z.OK)(a b:AV)(s:St):si Z a b s=Z.ak s (fun c s=>Z.aH c (Z.ak s (fun d s=>Z.ak s (fun e s=>ul Z d e s) (au .add b (.int .i64 8))) (au .shr a (.int .u64 8))) (ul Z a b s)) (au .geq a (.int .u32 256)):=h.mm
theorem al7(a:AV)(s:St):f204 Z a s=Z.ak s (fun b s=>Z.aH b (Z.ak s (fun c s=>si Z c (.int .i64 16) s) (au .shr a (.int .u64 16))) (si Z a (.int .i64 0) s)) (au .geq a (.int .u32 65536)):=by kernel_rfl
theorem U1(a:AV)(s:St):aJ T1 G X 204 [a] s=f204 (PP T1 G X) a s.ai:=aY T1 G X (fn:=N0)
def ad4:Mk:=cf 13
def O0(a:AV)(s:St):ax:=Z.aE ad4 aaY (sD (sL a) .e) s (aO Z M9)
def O1(a:AV)(s:St):ax:=Z.aE ad4 aaZ (sD (sL a) .e) s (aO Z M9)
def f133(a:AV)(s:St):ax:=aR [a] 0 .e fun fr=>aD Z aa0 fr s (aO Z M9)
theorem O2(h:Z.OK)(a:AV)(s:St):O0 Z a s=Z.aj s (fun b s=>Z.aq s (fun c s=>Z.aj s (fun d s=>Z.aq s (fun e s=>Z.aV s (fun f s=>Z.ak s (fun g s=>Z.aX s (fun i s=>Z.aq s (fun j s=>Z.ak s (fun m s=>Z.aI false [some m] s) (au .neq j (.int .u32 0))) none i) 1 c g) (au .sub f (.int .i64 1))) false e) none d) 1 a) none b) 1 a:=h.mm
theorem B5(h:Z.OK)(a:AV)(s:St):O1 Z a s=Z.aj s (fun b s=>Z.aq s (fun c s=>Z.aV s (fun d s=>Z.ak s (fun e s=>Z.aH e (Z.aj s (fun f s=>Z.aq s (fun g s=>Z.ak s (fun i s=>Z.aI false [some i] s) (kL .not g)) none f) 0 a) (O0 Z a s)) (au .eql d (.int .i64 0))) false c) none b) 1 a:=h.mm
theorem al8(a:AV)(s:St):f133 Z a s=Z.dN a s (fun b s=>Z.aj s (fun c s=>Z.aq s (fun d s=>Z.aV s (fun e s=>Z.ak s (fun f s=>Z.aH f (Z.aI false [some (.bool false)] s) (O1 Z b s)) (au .gtr e (.int .i64 128))) false d) none c) 1 b):=by kernel_rfl
theorem U2(a:AV)(s:St):aJ T1 G X 133 [a] s=f133 (PP T1 G X) a s.ai:=aY T1 G X (fn:=M9)
def auE:Mk:=cf 57
def O3(a b:AV)(s:St):ax:=Z.aE auE abb (sD (sN (sL b) a .e) .e) s (aO Z abd)
def f147(a:AV)(s:St):ax:=aR [a] 0 .e fun fr=>aD Z abc fr s (aO Z abd)
theorem B6(h:Z.OK)(c b:AV)(s:St):O3 Z c b s=Z.ak s (fun a s=>Z.ah a true (fun k=>Z.aj s k 1 c) s (fun d s=>Z.ah a true (fun k=>Z.aq s k none d) s (fun e s=>Z.ah a true (fun k=>k b s) s (fun f s=>Z.ah a true (fun k=>Z.ak s k (au .sub f (.int .i64 1))) s (fun g s=>Z.ah a true (fun k=>Z.aX s k 1 e g) s (fun i s=>Z.ah a true (fun k=>Z.aq s k none i) s (fun j s=>Z.ah a true (fun k=>Z.ak s k (au .neq j (.int .u32 0))) s (fun m s=>Z.aZ s (fun o s=>Z.aI false [some o] s) a m (.bool false))))))))) (au .leq b (.int .i64 128)):=h.mm
theorem al9(b:AV)(s:St):f147 Z b s=Z.dN b s (fun a s=>Z.aj s (fun d s=>Z.aq s (fun e s=>Z.aV s (fun c s=>Z.ak s (fun f s=>Z.aH f (Z.aj s (fun g s=>Z.aq s (fun i s=>Z.ak s (fun j s=>Z.aI false [some j] s) (kL .not i)) none g) 0 a) (O3 Z a c s)) (au .eql c (.int .i64 0))) false e) none d) 1 a):=by kernel_rfl
theorem U3(a:AV)(s:St):aJ T1 G X 147 [a] s=f147 (PP T1 G X) a s.ai:=aY T1 G X (fn:=abd)
def auF:Mk:=cf 3637
def auG:Mk:=cf 0x3d0d5
def auH:KK:=c9 (aD Z Nc) (aO Z yo)
def ad5:KK:=bu 0 (auH Z)
def oA:Mk:=cf 0x3390d5
def auI:KK:=cA oA (Z.aW (aD Z Kq) oA) (ad5 Z)
def ama:KK:=c9 (aD Z Na) (aO Z yo)
def O4:KK:=bu 2 (ama Z)
def O5:KK:=cA oA (Z.aW (aD Z Kr) oA) (O4 Z)
def amb:KK:=bu 3 (O5 Z)
def amc:Mk:=cf 13201
def O6(a b c d:AV)(s:St):ax:=Z.aE oA aa2 (sD (sD (sD (sL c) .e) .e) (sD (sN (sL d) a .e) (sL b))) s (auI Z)
def yF(a b c d:AV)(s:St):ax:=Z.aE oA aa3 (sD (sD (sD (sL c) .e) .e) (sD (sN (sL d) a .e) (sL b))) s (amb Z)
def O7(a b c d:AV)(s:St):ax:=Z.aE oA aa4 (sD (sD (sD (sL c) .e) .e) (sD (sN (sL d) a .e) (sL b))) s (O5 Z)
def O8(a b c:AV)(s:St):ax:=Z.aE amc aa5 (sD .e (sD (sN (sL c) a .e) (sL b))) s (aO Z yo)
def yG(a b c d:AV)(s:St):ax:=Z.aW (aD Z Kr) oA (sD (sD (sD (sL c) .e) .e) (sD (sN (sL d) a .e) (sL b))) s (O4 Z)
def E8(a b c d:AV)(s:St):ax:=Z.aE oA Nb (sD (sD (sD (sL c) .e) .e) (sD (sN (sL d) a .e) (sL b))) s (aO Z yo)
def yH(a b c d:AV)(s:St):ax:=Z.aW (aD Z Kq) oA (sD (sD (sD (sL c) .e) .e) (sD (sN (sL d) a .e) (sL b))) s (ad5 Z)
def E9(a b c:AV)(s:St):ax:=Z.aE auG Nd (sD (sD (sD (sL c) .e) .e) (sD (sL a) (sL b))) s (aO Z yo)
def O9(a b c:AV)(s:St):ax:=Z.aE auF Nf (sD (sD (sL b) .e) (sN (sL c) a .e)) s (aO Z yo)
def f135(a b:AV)(s:St):ax:=aR [a,b] 0 .e fun fr=>aD Z aa6 fr s (aO Z yo)
theorem Pa(h:Z.OK)(a b c d:AV)(s:St):O6 Z a b c d s=Z.ak s (fun e s=>yH Z a b c e s) (au .add d (.int .i64 1)):=h.mm
theorem Pb(h:Z.OK)(b c a d:AV)(s:St):yF Z b c a d s=Z.aB s (fun e s=>Z.aB s (fun f s=>yG Z b f a d s) 158 [(AV.av s.aa e)]) 160 [(AV.av s.aa c),(AV.av s.aa a)]:=h.mm
theorem Pc(h:Z.OK)(c a b d:AV)(s:St):O7 Z c a b d s=Z.aB s (fun e s=>Z.ak s (fun f s=>Z.aH f (yF Z c b a d s) (yF Z c a b d s)) (au .lss e (.int .i64 0))) 159 [(AV.av s.aa a),(AV.av s.aa b)]:=h.mm
theorem Pd(h:Z.OK)(a b c:AV)(s:St):O8 Z a b c s=Z.aB s (fun e s=>Z.aB s (fun d s=>Z.bk s (fun f s=>Z.bk s (fun g s=>Z.a7 s (fun _v s=>Z.aI false [gB s a (some 2),some g] s) 2 a (AV.av s.aa f)) 1 d) 0 d) 155 [(AV.av s.aa (.bool false)),(AV.av s.aa e)]) 161 [(AV.av s.aa b),(AV.av s.aa c)]:=h.mm
theorem Pe(h:Z.OK)(b a c d:AV)(s:St):yG Z b a c d s=Z.aB s (fun e s=>Z.ak s (fun f s=>Z.aH f (O7 Z b a c d s) (O8 Z b a d s)) (au .neq e (.int .i64 0))) 159 [(AV.av s.aa a),(AV.av s.aa c)]:=h.ll
theorem Pf(h:Z.OK)(a b c d:AV)(s:St):E8 Z a b c d s=Z.aB s (fun e s=>Z.aB s (fun f s=>yG Z a e f d s) 158 [(AV.av s.aa c)]) 158 [(AV.av s.aa b)]:=h.mm
theorem um(h:Z.OK)(e c d a:AV)(s:St):yH Z e c d a s=Z.aB s (fun f s=>Z.ak s (fun b s=>Z.ah b true (fun k=>k d s) s (fun g s=>Z.ah b true (fun k=>k a s) s (fun i s=>Z.ah b true (fun k=>Z.aB s k 157 [(AV.av s.aa g),(AV.av s.aa i)]) s (fun j s=>Z.ah b true (fun k=>Z.ak s k (au .eql j (.int .u32 0))) s (fun m s=>Z.aZ s (fun o s=>Z.aH o (O6 Z e c d a s) (E8 Z e c d a s)) b m (.bool false)))))) (au .eql f (.int .u32 0))) 157 [(AV.av s.aa c),(AV.av s.aa a)]:=h.ll
theorem Pg(h:Z.OK)(a b c:AV)(s:St):E9 Z a b c s=yH Z a b c (.int .i64 0) s:=h.mm
theorem Ph(h:Z.OK)(e f a:AV)(s:St):O9 Z e f a s=Z.aF s (fun i s=>Z.aj s (fun j s=>Z.aq s (fun m s=>Z.cz s (fun c s=>Z.aF s (fun o s=>Z.aj s (fun p s=>Z.aq s (fun q s=>Z.cz s (fun d s=>Z.aV s (fun r s=>Z.ak s (fun b s=>Z.ah b false (fun k=>k d s) s (fun t s=>Z.ah b false (fun k=>Z.aV s k false t) s (fun u s=>Z.ah b false (fun k=>Z.ak s k (au .eql u (.int .i64 0))) s (fun w s=>Z.aZ s (fun x s=>Z.aH x (Z.aB s (fun y s=>Z.aB s (fun g s=>Z.bk s (fun z s=>Z.bk s (fun A s=>Z.a7 s (fun _v s=>Z.aI false [gB s a (some 2),some A] s) 2 a (AV.av s.aa z)) 1 g) 0 g) 155 [(AV.av s.aa (.bool false)),(AV.av s.aa y)]) 156 [(AV.av s.aa c),(AV.av s.aa d)]) (E9 Z a c d s)) b (.bool true) w)))) (au .eql r (.int .i64 0))) false c) 1 4 (some (.l 0)) o q) none p) 1 f) 1 []) 1 4 (some (.l 0)) i m) none j) 1 e) 1 []:=h.mm
theorem amd(c d:AV)(s:St):f135 Z c d s=Z.dN c s (fun e s=>Z.dN d s (fun f s=>Z.fG (.ref (.l s.own.length) 0) (s.new (.cells [.bool false, .sl 1 [] .nil])) (fun b s=>Z.aq s (fun g s=>Z.aB s (fun i s=>Z.ak s (fun a s=>Z.ah a false (fun k=>Z.aq s k (some 2) f) s (fun j s=>Z.ah a false (fun k=>Z.aB s k 133 [(AV.av s.aa j)]) s (fun m s=>Z.ah a false (fun k=>Z.ak s k (kL .not m)) s (fun o s=>Z.aZ s (fun p s=>Z.aH p (Z.dh [.bool false, .sl 1 [] .nil] [] s (fun q s=>Z.a7 s (fun _v s=>Z.aI false [gB s b (some 2),some (.int .i64 1)] s) 2 b (AV.av s.aa q))) (O9 Z e f b s)) a (.bool true) o)))) (kL .not i)) 133 [(AV.av s.aa g)]) (some 2) e))):=by kernel_rfl
theorem U4(a b:AV)(s:St):aJ T1 G X 135 [a,b] s=f135 (PP T1 G X) a b s.ai:=aY T1 G X (fn:=yo)
def auJ:Mk:=cf 3637
def auK:KK:=c9 (aD Z Nh) (aO Z yp)
def ad6:KK:=bu 0 (auK Z)
def vm:Mk:=cf 0x3d0d5
def auL:KK:=cA vm (Z.aW (aD Z Ks) vm) (ad6 Z)
def ame:KK:=c9 (aD Z abj) (aO Z yp)
def Pj:KK:=bu 2 (ame Z)
def yI:Mk:=cf 0xdd315
def amf:KK:=cA yI (Z.aW (aD Z Kt) yI) (Pj Z)
def amg:Mk:=cf 3537
def Fa(a b c:AV)(s:St):ax:=Z.aE vm abg (sD (sD (sD (sL c) .e) .e) (sD (sL a) (sL b))) s (auL Z)
def Pk(a b c:AV)(s:St):ax:=Z.aE yI abh (sD (sD (sD .e (sL c)) .e) (sD (sL a) (sD (sL b) .e))) s (amf Z)
def Pl(a b:AV)(s:St):ax:=Z.aE amg abi (sD .e (sD (sL a) (sD (sL b) .e))) s (aO Z yp)
def yJ(a b c:AV)(s:St):ax:=Z.aW (aD Z Kt) yI (sD (sD (sD .e (sL c)) .e) (sD (sL a) (sD (sL b) .e))) s (Pj Z)
def Pm(a b c:AV)(s:St):ax:=Z.aE vm abk (sD (sD (sD (sL c) .e) .e) (sD (sL a) (sL b))) s (aO Z yp)
def Fb(a b c:AV)(s:St):ax:=Z.aE vm Ng (sD (sD (sD (sL c) .e) .e) (sD (sL a) (sL b))) s (aO Z yp)
def yK(a b c:AV)(s:St):ax:=Z.aW (aD Z Ks) vm (sD (sD (sD (sL c) .e) .e) (sD (sL a) (sL b))) s (ad6 Z)
def Pn(a b c:AV)(s:St):ax:=Z.aE auJ Ni (sD (sD (sL b) .e) (sN (sL c) a .e)) s (aO Z yp)
def f150(a b:AV)(s:St):ax:=aR [a,b] 0 .e fun fr=>aD Z abl fr s (aO Z yp)
theorem Po(h:Z.OK)(b c a:AV)(s:St):Fa Z b c a s=Z.aB s (fun d s=>Z.bk s (fun f s=>Z.bk s (fun e s=>yK Z b a e s) 1 d) 0 d) 170 [(AV.av s.aa c),(AV.av s.aa a)]:=h.mm
theorem Pp(h:Z.OK)(b c a:AV)(s:St):Pk Z b c a s=Z.ak s (fun d s=>yJ Z b a d s) (au .rem c a):=h.mm
theorem Pq(h:Z.OK)(a b:AV)(s:St):Pl Z a b s=Z.bc s (fun d s=>Z.ak s (fun e s=>Z.bc s (fun f s=>Z.aF s (fun g s=>Z.aB s (fun c s=>Z.bk s (fun i s=>Z.bk s (fun j s=>Z.a7 s (fun _v s=>Z.aI false [gB s a (some 2),some j] s) 2 a (AV.av s.aa i)) 1 c) 0 c) 171 [(AV.av s.aa (.bool false)),(AV.av s.aa g)]) 1 [d,f]) .u32 e) (au .shr b (.int .u64 32))) .u32 b:=h.mm
theorem Pr(h:Z.OK)(a b c:AV)(s:St):yJ Z a b c s=Z.ak s (fun d s=>Z.aH d (Pk Z a b c s) (Pl Z a b s)) (au .gtr c (.int .u64 0)):=h.ll
theorem Ps(h:Z.OK)(a b c:AV)(s:St):Pm Z a b c s=Z.aB s (fun d s=>Z.aB s (fun e s=>yJ Z a d e s) 172 [(AV.av s.aa c)]) 172 [(AV.av s.aa b)]:=h.mm
theorem B7(h:Z.OK)(a b c:AV)(s:St):Fb Z a b c s=Z.aV s (fun e s=>Z.ak s (fun f s=>Z.aH f (Z.aB s (fun d s=>Z.bk s (fun g s=>Z.bk s (fun i s=>Z.a7 s (fun _v s=>Z.aI false [gB s a (some 2),some i] s) 2 a (AV.av s.aa g)) 1 d) 0 d) 171 [(AV.av s.aa (.bool false)),(AV.av s.aa b)]) (Pm Z a b c s)) (au .gtr e (.int .i64 2))) false b:=h.mm
theorem qY(h:Z.OK)(e c b:AV)(s:St):yK Z e c b s=Z.aV s (fun f s=>Z.ak s (fun a s=>Z.ah a true (fun k=>k c s) s (fun g s=>Z.ah a true (fun k=>Z.aV s k false g) s (fun i s=>Z.ah a true (fun k=>Z.ak s k (au .gtr i (.int .i64 2))) s (fun j s=>Z.ah a true (fun k=>k j s) s (fun d s=>Z.ah d false (fun k=>k b s) s (fun m s=>Z.ah d false (fun k=>Z.aV s k false m) s (fun o s=>Z.ah d false (fun k=>Z.ak s k (au .gtr o (.int .i64 2))) s (fun p s=>Z.ah a true (fun k=>Z.aZ s k d (.bool true) p) s (fun q s=>Z.aZ s (fun r s=>Z.aH r (Fa Z e c b s) (Fb Z e c b s)) a q (.bool false)))))))))) (au .gtr f (.int .i64 0))) false b:=h.ll
theorem Pt(h:Z.OK)(a b c:AV)(s:St):Pn Z a b c s=Z.aj s (fun d s=>Z.aq s (fun e s=>Z.aj s (fun f s=>Z.aq s (fun g s=>yK Z c e g s) none f) 1 b) none d) 1 a:=h.mm
theorem amh(b c:AV)(s:St):f150 Z b c s=Z.dN b s (fun d s=>Z.dN c s (fun e s=>Z.fG (.ref (.l s.own.length) 0) (s.new (.cells [.bool false, .sl 1 [] .nil])) (fun a s=>Z.aq s (fun f s=>Z.aq s (fun g s=>Z.aB s (fun i s=>Z.ak s (fun j s=>Z.aH j (Z.dh [.bool false, .sl 1 [] .nil] [] s (fun m s=>Z.a7 s (fun _v s=>Z.aI false [gB s a (some 2),some (.int .i64 1)] s) 2 a (AV.av s.aa m))) (Pn Z d e a s)) (kL .not i)) 169 [(AV.av s.aa f),(AV.av s.aa g)]) (some 2) e) (some 2) d))):=by kernel_rfl
theorem U5(a b:AV)(s:St):aJ T1 G X 150 [a,b] s=f150 (PP T1 G X) a b s.ai:=aY T1 G X (fn:=yp)
def auM:Mk:=cf 222
def Pu(a b c:AV)(s:St):ax:=Z.aE auM abC (sN (sL b) a (sD (sL c) .e)) s (aO Z abE)
def f155(a b:AV)(s:St):ax:=aR [a,b] 0 .e fun fr=>aD Z abD fr s (aO Z abE)
theorem Pv(h:Z.OK)(a b c:AV)(s:St):Pu Z a b c s=Z.ah a true (fun k=>k b s) s (fun d s=>Z.ah a true (fun k=>Z.aV s k false d) s (fun e s=>Z.ah a true (fun k=>Z.ak s k (au .gtr e (.int .i64 0))) s (fun f s=>Z.aZ s (fun g s=>Z.aF s (fun i s=>Z.cz s (fun j s=>Z.dh [.bool false, .sl 1 [] .nil] [(0,1,g),(1,1,j)] s (fun m s=>Z.a7 s (fun _v s=>Z.aI false [gB s c (some 2),some (.int .i64 0)] s) 2 c (AV.av s.aa m))) 1 4 (some (.l 0)) i b) 1 []) a f (.bool false)))):=h.mm
theorem ami(b c:AV)(s:St):f155 Z b c s=Z.fG (.ref (.l s.own.length) 0) (s.new (.cells [.bool false, .sl 1 [] .nil])) (fun a s=>Z.aB s (fun d s=>Z.aV s (fun e s=>Z.ak s (fun f s=>Z.aH f (Z.dh [.bool false, .sl 1 [] .nil] [] s (fun g s=>Z.a7 s (fun _v s=>Z.aI false [gB s a (some 2),some (.int .i64 2)] s) 2 a (AV.av s.aa g))) (Pu Z b d a s)) (au .gtr e (.int .i64 128))) false d) 178 [(AV.av s.aa c)]):=by kernel_rfl
theorem U6(a b:AV)(s:St):aJ T1 G X 155 [a,b] s=f155 (PP T1 G X) a b s.ai:=aY T1 G X (fn:=abE)
def auN:KK:=c9 (aD Z Ns) (aO Z Nt)
def ad7:KK:=bu 0 (auN Z)
def yL:Mk:=cf 0x31cda
def K0:KK:=cA yL (Z.aW (aD Z Kw) yL) (ad7 Z)
def auO:KK:=c9 (aD Z abI) (K0 Z)
def ad8:KK:=bu 1 (auO Z)
def ad9:Mk:=cf 0x35cda
def amj:Mk:=cf 197
def Pw(a b c d e:AV)(s:St):ax:=Z.aE yL abH (sN (sN (sD (sL e) .e) b (sL c)) a (sD .e (sL d))) s (K0 Z)
def yM(a b c d e:AV)(s:St):ax:=Z.aE ad9 abF (sN (sN (sD (sL d) .e) b (sL c)) a (sD (sD (sL e) .e) .e)) s (ad8 Z)
def yN(a b c d e:AV)(s:St):ax:=Z.aE ad9 abG (sN (sN (sD (sL d) .e) b (sL c)) a (sD (sD (sL e) .e) .e)) s (ad8 Z)
def Px(a b c d e:AV)(s:St):ax:=Z.aE yL abJ (sN (sN (sD (sL e) .e) b (sL c)) a (sD .e (sL d))) s (K0 Z)
def Py(a:AV)(s:St):ax:=Z.aE amj Nr (sD (sD .e (sL a)) .e) s (aO Z Nt)
def yO(a b c d e:AV)(s:St):ax:=Z.aW (aD Z Kw) yL (sN (sN (sD (sL e) .e) b (sL c)) a (sD .e (sL d))) s (ad7 Z)
def f156(a b:AV)(s:St):ax:=aR [a,b] 0 .e fun fr=>aD Z abK fr s (aO Z Nt)
theorem Pz(h:Z.OK)(a b c d e:AV)(s:St):Pw Z a b c d e s=Z.ak s (fun f s=>yO Z a b c d f s) (au .add e (.int .i64 1)):=h.mm
theorem PA(h:Z.OK)(d e a b c:AV)(s:St):yM Z d e a b c s=Z.bc s (fun f s=>Z.aX s (fun g s=>Z.a7 s (fun _v s=>Z.ak s (fun i s=>Pw Z d e a i b s) (au .quo c (.int .u64 4294967296))) 1 g (AV.av s.aa f)) 1 a b) .u32 c:=h.mm
theorem PB(h:Z.OK)(c a d b e:AV)(s:St):yN Z c a d b e s=Z.aV s (fun f s=>Z.ak s (fun g s=>Z.aH g (Z.aX s (fun i s=>Z.aq s (fun j s=>Z.bc s (fun m s=>Z.ak s (fun o s=>yM Z c a d b o s) (au .add e m)) .u64 j) none i) 1 a b) (yM Z c a d b e s)) (au .lss b f)) false a:=h.mm
theorem PC(h:Z.OK)(a c d e b:AV)(s:St):Px Z a c d e b s=Z.aV s (fun f s=>Z.ak s (fun g s=>Z.aH g (Z.aX s (fun i s=>Z.aq s (fun j s=>Z.bc s (fun m s=>Z.ak s (fun o s=>yN Z a c d b o s) (au .add e m)) .u64 j) none i) 1 a b) (yN Z a c d b e s)) (au .lss b f)) false a:=h.mm
theorem PD(h:Z.OK)(a:AV)(s:St):Py Z a s=Z.aB s (fun b s=>Z.aI false [some b] s) 178 [(AV.av s.aa a)]:=h.mm
theorem B8(h:Z.OK)(c d a e b:AV)(s:St):yO Z c d a e b s=Z.aV s (fun f s=>Z.ak s (fun g s=>Z.aH g (Px Z c d a e b s) (Py Z a s)) (au .lss b f)) false a:=h.ll
theorem amk(a b:AV)(s:St):f156 Z a b s=Z.aV s (fun d s=>Z.aV s (fun e s=>Z.yg s (fun f s=>Z.ak s (fun c s=>Z.kK s (fun g s=>yO Z a b g (.int .u64 0) (.int .i64 0) s) [.int .u32 0] 4 c c) (au .add f (.int .i64 1))) max2 [(AV.av s.aa d),(AV.av s.aa e)]) false b) false a:=by kernel_rfl
theorem U7(a b:AV)(s:St):aJ T1 G X 156 [a,b] s=f156 (PP T1 G X) a b s.ai:=aY T1 G X (fn:=Nt)
def auP:Mk:=cf 14
def PE(a b:AV)(s:St):ax:=Z.aE auP abL (sN (sL b) a .e) s (aO Z abN)
def f157(a b:AV)(s:St):ax:=aR [a,b] 0 .e fun fr=>aD Z abM fr s (aO Z abN)
theorem PF(h:Z.OK)(b a:AV)(s:St):PE Z b a s=Z.ak s (fun c s=>Z.aX s (fun d s=>Z.aq s (fun e s=>Z.ak s (fun f s=>Z.ak s (fun g s=>Z.ak s (fun i s=>Z.aI false [some i] s) (au .and g (.int .u32 1))) (au .shr e f)) (au .rem a (.int .i64 32))) none d) 1 b c) (au .quo a (.int .i64 32)):=h.mm
theorem aml(a b:AV)(s:St):f157 Z a b s=Z.ak s (fun c s=>Z.aV s (fun d s=>Z.ak s (fun e s=>Z.aH e (Z.aI false [some (.int .u32 0)] s) (PE Z a b s)) (au .geq c d)) false a) (au .quo b (.int .i64 32)):=by kernel_rfl
theorem U8(a b:AV)(s:St):aJ T1 G X 157 [a,b] s=f157 (PP T1 G X) a b s.ai:=aY T1 G X (fn:=abN)
def auQ:KK:=c9 (aD Z abQ) (aO Z Nu)
def aea:KK:=bu 0 (auQ Z)
def yP:Mk:=cf 54
def auR:KK:=cA yP (Z.aW (aD Z Kx) yP) (aea Z)
def PG(a b:AV)(s:St):ax:=Z.aE yP abO (sN (sD (sL b) .e) a .e) s (auR Z)
def PH(a b:AV)(s:St):ax:=Z.aE yP abP (sN (sD (sL b) .e) a .e) s (aO Z Nu)
def yQ(a b:AV)(s:St):ax:=Z.aW (aD Z Kx) yP (sN (sD (sL b) .e) a .e) s (aea Z)
def f158(a:AV)(s:St):ax:=aR [a] 0 .e fun fr=>aD Z abR fr s (aO Z Nu)
theorem PI(h:Z.OK)(a b:AV)(s:St):PG Z a b s=Z.ak s (fun c s=>yQ Z a c s) (au .add b (.int .i64 1)):=h.mm
theorem PJ(h:Z.OK)(a b:AV)(s:St):PH Z a b s=Z.aB s (fun c s=>Z.bk s (fun d s=>Z.bk s (fun e s=>Z.aI false [some d] s) 1 c) 0 c) 179 [(AV.av s.aa a),(AV.av s.aa b)]:=h.mm
theorem B9(h:Z.OK)(a b:AV)(s:St):yQ Z a b s=Z.aB s (fun c s=>Z.ak s (fun d s=>Z.aH d (PG Z a b s) (PH Z a b s)) (au .eql c (.int .u32 0))) 157 [(AV.av s.aa a),(AV.av s.aa b)]:=h.ll
theorem amm(a:AV)(s:St):f158 Z a s=yQ Z a (.int .i64 0) s:=by kernel_rfl
theorem U9(a:AV)(s:St):aJ T1 G X 158 [a] s=f158 (PP T1 G X) a s.ai:=aY T1 G X (fn:=Nu)
def auS:KK:=c9 (aD Z Ny) (aO Z EU)
def auT:Mk:=cf 14
def auU:KK:=c9 (aD Z Nw) (aO Z EU)
def aeb:KK:=bu 0 (auU Z)
def vn:Mk:=cf 202
def K2:KK:=cA vn (Z.aW (aD Z Ky) vn) (aeb Z)
def auV:KK:=c9 (aD Z abV) (K2 Z)
def amn:KK:=bu 1 (auV Z)
def PK(s:St):ax:=Z.aE .e abS .e s (auS Z)
def PL(a b c:AV)(s:St):ax:=Z.aE vn abU (sN (sN .e b (sL c)) a .e) s (K2 Z)
def PM(a b c:AV)(s:St):ax:=Z.aE vn abT (sN (sN .e b (sL c)) a .e) s (amn Z)
def PN(a b c:AV)(s:St):ax:=Z.aE vn abW (sN (sN .e b (sL c)) a .e) s (K2 Z)
def PO(s:St):ax:=Z.aE .e Nv .e s (aO Z EU)
def yR(a b c:AV)(s:St):ax:=Z.aW (aD Z Ky) vn (sN (sN .e b (sL c)) a .e) s (aeb Z)
def PQ(a b:AV)(s:St):ax:=Z.aE auT Nx (sN (sL b) a .e) s (aO Z EU)
def f159(a b:AV)(s:St):ax:=aR [a,b] 0 .e fun fr=>aD Z abX fr s (aO Z EU)
theorem PR(h:Z.OK)(s:St):PK Z s=Z.aI false [some (.int .i64 1)] s:=h.mm
theorem PS(h:Z.OK)(a b c:AV)(s:St):PL Z a b c s=Z.ak s (fun d s=>yR Z a b d s) (au .sub c (.int .i64 1)):=h.mm
theorem PT(h:Z.OK)(b c a:AV)(s:St):PM Z b c a s=Z.aX s (fun d s=>Z.aq s (fun e s=>Z.aX s (fun f s=>Z.aq s (fun g s=>Z.ak s (fun i s=>Z.aH i (Z.aI false [some (.int .i64 1)] s) (PL Z b c a s)) (au .gtr e g)) none f) 1 c a) none d) 1 b a:=h.mm
theorem PU(h:Z.OK)(b c a:AV)(s:St):PN Z b c a s=Z.aX s (fun d s=>Z.aq s (fun e s=>Z.aX s (fun f s=>Z.aq s (fun g s=>Z.ak s (fun i s=>Z.aH i (Z.aI false [some (.int .i64 (-1))] s) (PM Z b c a s)) (au .lss e g)) none f) 1 c a) none d) 1 b a:=h.mm
theorem PV(h:Z.OK)(s:St):PO Z s=Z.aI false [some (.int .i64 0)] s:=h.mm
theorem Ca(h:Z.OK)(b c a:AV)(s:St):yR Z b c a s=Z.ak s (fun d s=>Z.aH d (PN Z b c a s) (PO Z s)) (au .geq a (.int .i64 0)):=h.ll
theorem PW(h:Z.OK)(a b:AV)(s:St):PQ Z a b s=Z.aV s (fun c s=>Z.ak s (fun d s=>yR Z a b d s) (au .sub c (.int .i64 1))) false a:=h.mm
theorem amo(a b:AV)(s:St):f159 Z a b s=Z.aV s (fun c s=>Z.aV s (fun d s=>Z.ak s (fun e s=>Z.aH e (Z.aV s (fun f s=>Z.aV s (fun g s=>Z.ak s (fun i s=>Z.aH i (Z.aI false [some (.int .i64 (-1))] s) (PK Z s)) (au .lss f g)) false b) false a) (PQ Z a b s)) (au .neq c d)) false b) false a:=by kernel_rfl
theorem Ve(a b:AV)(s:St):aJ T1 G X 159 [a,b] s=f159 (PP T1 G X) a b s.ai:=aY T1 G X (fn:=EU)
def auW:KK:=c9 (aD Z ab3) (aO Z Nz)
def aec:KK:=bu 0 (auW Z)
def yS:Mk:=cf 0x31cda
def K3:KK:=cA yS (Z.aW (aD Z Kz) yS) (aec Z)
def auX:KK:=c9 (aD Z ab0) (K3 Z)
def auY:KK:=bu 1 (auX Z)
def auZ:Mk:=cf 0x35cda
def amp:Mk:=cf 197
def Fc(a b c d e:AV)(s:St):ax:=Z.aE yS abZ (sN (sN (sD (sL e) .e) b (sL c)) a (sD .e (sL d))) s (K3 Z)
def yT(a b c d e:AV)(s:St):ax:=Z.aE auZ abY (sN (sN (sD (sL d) .e) b (sL c)) a (sD (sD (sL e) .e) .e)) s (auY Z)
def PX(a b c d e:AV)(s:St):ax:=Z.aE yS ab1 (sN (sN (sD (sL e) .e) b (sL c)) a (sD .e (sL d))) s (K3 Z)
def PY(a:AV)(s:St):ax:=Z.aE amp ab2 (sD (sD .e (sL a)) .e) s (aO Z Nz)
def yU(a b c d e:AV)(s:St):ax:=Z.aW (aD Z Kz) yS (sN (sN (sD (sL e) .e) b (sL c)) a (sD .e (sL d))) s (aec Z)
def f160(a b:AV)(s:St):ax:=aR [a,b] 0 .e fun fr=>aD Z ab4 fr s (aO Z Nz)
theorem Cb(h:Z.OK)(a b c d e:AV)(s:St):Fc Z a b c d e s=Z.ak s (fun f s=>yU Z a b c d f s) (au .add e (.int .i64 1)):=h.mm
theorem PZ(h:Z.OK)(b e c a d:AV)(s:St):yT Z b e c a d s=Z.aX s (fun f s=>Z.aq s (fun g s=>Z.bc s (fun i s=>Z.ak s (fun j s=>Z.aH j (Z.aX s (fun m s=>Z.aq s (fun o s=>Z.bc s (fun p s=>Z.ak s (fun q s=>Z.ak s (fun r s=>Z.bc s (fun t s=>Z.aX s (fun u s=>Z.a7 s (fun _v s=>Fc Z b e c (.int .u64 1) a s) 1 u (AV.av s.aa t)) 1 c a) .u32 r) (au .sub q d)) (au .add p (.int .u64 4294967296))) .u64 o) none m) 1 b a) (Z.aX s (fun w s=>Z.aq s (fun x s=>Z.bc s (fun y s=>Z.ak s (fun z s=>Z.bc s (fun A s=>Z.aX s (fun B s=>Z.a7 s (fun _v s=>Fc Z b e c (.int .u64 0) a s) 1 B (AV.av s.aa A)) 1 c a) .u32 z) (au .sub y d)) .u64 x) none w) 1 b a)) (au .lss i d)) .u64 g) none f) 1 b a:=h.mm
theorem P0(h:Z.OK)(c a d e b:AV)(s:St):PX Z c a d e b s=Z.aV s (fun f s=>Z.ak s (fun g s=>Z.aH g (Z.aX s (fun i s=>Z.aq s (fun j s=>Z.bc s (fun m s=>Z.ak s (fun o s=>yT Z c a d b o s) (au .add e m)) .u64 j) none i) 1 a b) (yT Z c a d b e s)) (au .lss b f)) false a:=h.mm
theorem P1(h:Z.OK)(a:AV)(s:St):PY Z a s=Z.aB s (fun b s=>Z.aI false [some b] s) 178 [(AV.av s.aa a)]:=h.mm
theorem Cc(h:Z.OK)(a d b e c:AV)(s:St):yU Z a d b e c s=Z.aV s (fun f s=>Z.ak s (fun g s=>Z.aH g (PX Z a d b e c s) (PY Z b s)) (au .lss c f)) false a:=h.ll
theorem amq(a b:AV)(s:St):f160 Z a b s=Z.aV s (fun c s=>Z.kK s (fun d s=>yU Z a b d (.int .u64 0) (.int .i64 0) s) [.int .u32 0] 4 c c) false a:=by kernel_rfl
theorem Vf(a b:AV)(s:St):aJ T1 G X 160 [a,b] s=f160 (PP T1 G X) a b s.ai:=aY T1 G X (fn:=Nz)
def au0:KK:=c9 (aD Z ab8) (aO Z NA)
def aed:KK:=bu 0 (au0 Z)
def yV:Mk:=cf 12746
def aee:KK:=cA yV (Z.aW (aD Z KA) yV) (aed Z)
def au1:Mk:=cf 197
def P2(a b c d:AV)(s:St):ax:=Z.aE yV ab5 (sN (sN .e b (sL c)) a (sD .e (sL d))) s (aee Z)
def P3(a b c d:AV)(s:St):ax:=Z.aE yV ab6 (sN (sN .e b (sL c)) a (sD .e (sL d))) s (aee Z)
def P4(a:AV)(s:St):ax:=Z.aE au1 ab7 (sD (sD .e (sL a)) .e) s (aO Z NA)
def yW(a b c d:AV)(s:St):ax:=Z.aW (aD Z KA) yV (sN (sN .e b (sL c)) a (sD .e (sL d))) s (aed Z)
def f161(a b:AV)(s:St):ax:=aR [a,b] 0 .e fun fr=>aD Z ab9 fr s (aO Z NA)
theorem P5(h:Z.OK)(a b c d:AV)(s:St):P2 Z a b c d s=Z.ak s (fun e s=>yW Z a b c e s) (au .add d (.int .i64 1)):=h.mm
theorem P6(h:Z.OK)(d a c b:AV)(s:St):P3 Z d a c b s=Z.aX s (fun f s=>Z.aq s (fun g s=>Z.bc s (fun i s=>Z.ak s (fun j s=>Z.ak s (fun e s=>Z.ak s (fun m s=>Z.ak s (fun o s=>Z.ak s (fun p s=>Z.ak s (fun q s=>Z.aX s (fun r s=>Z.aq s (fun t s=>Z.bc s (fun u s=>Z.ak s (fun w s=>Z.aX s (fun x s=>Z.a7 s (fun _v s=>Z.ak s (fun y s=>Z.ak s (fun z s=>Z.ak s (fun A s=>Z.ak s (fun B s=>Z.bc s (fun C s=>Z.aX s (fun D s=>Z.a7 s (fun _v s=>P2 Z d a c b s) 1 D (AV.av s.aa C)) 1 c A) .u32 B) (au .quo e (.int .u64 4294967296))) (au .add z (.int .i64 1))) (au .add b y)) (au .quo a (.int .i64 32))) 1 x (AV.av s.aa w)) 1 c o) (au .or t u)) .u32 e) none r) 1 c q) (au .add b p)) (au .quo a (.int .i64 32))) (au .add b m)) (au .quo a (.int .i64 32))) (au .shl i j)) (au .rem a (.int .i64 32))) .u64 g) none f) 1 d b:=h.mm
theorem P7(h:Z.OK)(a:AV)(s:St):P4 Z a s=Z.aB s (fun b s=>Z.aI false [some b] s) 178 [(AV.av s.aa a)]:=h.mm
theorem Cd(h:Z.OK)(a d b c:AV)(s:St):yW Z a d b c s=Z.aV s (fun e s=>Z.ak s (fun f s=>Z.aH f (P3 Z a d b c s) (P4 Z b s)) (au .lss c e)) false a:=h.ll
theorem amr(a b:AV)(s:St):f161 Z a b s=Z.aV s (fun d s=>Z.ak s (fun e s=>Z.ak s (fun f s=>Z.ak s (fun c s=>Z.kK s (fun g s=>yW Z a b g (.int .i64 0) s) [.int .u32 0] 4 c c) (au .add f (.int .i64 1))) (au .add d e)) (au .quo b (.int .i64 32))) false a:=by kernel_rfl
theorem Vg(a b:AV)(s:St):aJ T1 G X 161 [a,b] s=f161 (PP T1 G X) a b s.ai:=aY T1 G X (fn:=NA)
def f169(a b:AV)(s:St):ax:=aR [a,b] 0 .e fun fr=>aD Z acp fr s (aO Z alg)
theorem ams(b c:AV)(s:St):f169 Z b c s=Z.dN b s (fun d s=>Z.dN c s (fun e s=>Z.aq s (fun f s=>Z.aB s (fun a s=>Z.ah a true (fun k=>Z.aq s k (some 2) e) s (fun g s=>Z.ah a true (fun k=>Z.aB s k 147 [(AV.av s.aa g)]) s (fun i s=>Z.aZ s (fun j s=>Z.aI false [some j] s) a i (.bool false)))) 147 [(AV.av s.aa f)]) (some 2) d)):=by kernel_rfl
theorem Vh(a b:AV)(s:St):aJ T1 G X 169 [a,b] s=f169 (PP T1 G X) a b s.ai:=aY T1 G X (fn:=alg)
def aef:Mk:=cf 14
def au2:KK:=c9 (aD Z acu) (aO Z EW)
def aeg:KK:=bu 0 (au2 Z)
def yX:Mk:=cf 0xd00d653703555
def aeh:KK:=cA yX (Z.aW (aD Z KG) yX) (aeg Z)
def amt:Mk:=cf 0xd35315
def P8(a b c d e f:AV)(s:St):ax:=Z.aE yX acq (sD (sD (sD (sD (sD (sD (sL e) .e) .e) .e) (sL d)) (sD (sL b) .e)) (sD (sD (sN (sD (sD (sL f) .e) .e) a .e) .e) (sD (sL c) .e))) s (aeh Z)
def P9(a b c d e f:AV)(s:St):ax:=Z.aE yX acr (sD (sD (sD (sD (sD (sD (sL e) .e) .e) .e) (sL d)) (sD (sL b) .e)) (sD (sD (sN (sD (sD (sL f) .e) .e) a .e) .e) (sD (sL c) .e))) s (aeh Z)
def Qa(a b c:AV)(s:St):ax:=Z.aE amt acs (sD (sD (sD .e (sL c)) .e) (sD (sD (sL a) .e) (sD (sL b) .e))) s (aO Z EW)
def yY(a b c d e f:AV)(s:St):ax:=Z.aW (aD Z KG) yX (sD (sD (sD (sD (sD (sD (sL e) .e) .e) .e) (sL d)) (sD (sL b) .e)) (sD (sD (sN (sD (sD (sL f) .e) .e) a .e) .e) (sD (sL c) .e))) s (aeg Z)
def Qb(a b:AV)(s:St):ax:=Z.aE aef acv (sN (sL b) a .e) s (aO Z EW)
def Qc(a b:AV)(s:St):ax:=Z.aE aef NC (sN (sL b) a .e) s (aO Z EW)
def f170(a b:AV)(s:St):ax:=aR [a,b] 0 .e fun fr=>aD Z acw fr s (aO Z EW)
theorem Qd(h:Z.OK)(a b c d e f:AV)(s:St):P8 Z a b c d e f s=Z.ak s (fun g s=>yY Z a b c d e g s) (au .add f (.int .i64 1)):=h.mm
theorem Qe(h:Z.OK)(f a b c g d:AV)(s:St):P9 Z f a b c g d s=Z.aV s (fun i s=>Z.ak s (fun j s=>Z.ak s (fun e s=>Z.aB s (fun m s=>Z.aB s (fun o s=>Z.aX s (fun p s=>Z.a7 s (fun _v s=>P8 Z f a b c g d s) 1 p (AV.av s.aa o)) 1 c e) 194 [(AV.av s.aa b),(AV.av s.aa e),(AV.av s.aa a),(AV.av s.aa m)]) 195 [(AV.av s.aa b),(AV.av s.aa e),(AV.av s.aa a)]) (au .sub j d)) (au .sub i (.int .i64 1))) false c:=h.mm
theorem Qf(h:Z.OK)(a b c:AV)(s:St):Qa Z a b c s=Z.aB s (fun e s=>Z.aB s (fun d s=>Z.bk s (fun f s=>Z.bk s (fun i s=>Z.aB s (fun g s=>Z.aI false [some g,some f] s) 191 [(AV.av s.aa c)]) 1 d) 0 d) 196 [(AV.av s.aa e),(AV.av s.aa a)]) 191 [(AV.av s.aa b)]:=h.mm
theorem Ce(h:Z.OK)(a f b c d e:AV)(s:St):yY Z a f b c d e s=Z.ak s (fun g s=>Z.aH g (P9 Z a f b c d e s) (Qa Z a b c s)) (au .lss e d):=h.ll
theorem Qg(h:Z.OK)(b a:AV)(s:St):Qb Z b a s=Z.aV s (fun i s=>Z.ak s (fun j s=>Z.aX s (fun m s=>Z.aq s (fun o s=>Z.aB s (fun c s=>Z.aB s (fun p s=>Z.aV s (fun q s=>Z.ak s (fun d s=>Z.kK s (fun e s=>Z.aB s (fun r s=>Z.yf s (fun y s=>Z.aV s (fun t s=>Z.aV s (fun u s=>Z.ak s (fun w s=>Z.ak s (fun f s=>Z.kK s (fun g s=>Z.aV s (fun x s=>yY Z c p e g x (.int .i64 0) s) false g) [.int .u32 0] 4 f f) (au .add w (.int .i64 1))) (au .sub t u)) false a) false b) 1 e r) 193 [(AV.av s.aa b),(AV.av s.aa c)]) [.int .u32 0] 4 d d) (au .add q (.int .i64 1))) false b) 193 [(AV.av s.aa a),(AV.av s.aa c)]) 192 [(AV.av s.aa o)]) none m) 1 a j) (au .sub i (.int .i64 1))) false a:=h.mm
theorem Qh(h:Z.OK)(b a:AV)(s:St):Qc Z b a s=Z.aV s (fun d s=>Z.ak s (fun e s=>Z.aH e (Z.aX s (fun f s=>Z.aq s (fun g s=>Z.aB s (fun c s=>Z.bk s (fun i s=>Z.bk s (fun j s=>Z.aF s (fun m s=>Z.aB s (fun o s=>Z.aI false [some i,some o] s) 191 [(AV.av s.aa m)]) 1 [j]) 1 c) 0 c) 190 [(AV.av s.aa b),(AV.av s.aa g)]) none f) 1 a (.int .i64 0)) (Qb Z b a s)) (au .eql d (.int .i64 1))) false a:=h.mm
theorem amu(a b:AV)(s:St):f170 Z a b s=Z.aB s (fun c s=>Z.ak s (fun d s=>Z.aH d (Z.aI false [some (.sl 1 [] .nil),some a] s) (Qc Z a b s)) (au .lss c (.int .i64 0))) 189 [(AV.av s.aa a),(AV.av s.aa b)]:=by kernel_rfl
theorem Vi(a b:AV)(s:St):aJ T1 G X 170 [a,b] s=f170 (PP T1 G X) a b s.ai:=aY T1 G X (fn:=EW)
def au3:Mk:=cf 222
def Qi(a b c:AV)(s:St):ax:=Z.aE au3 acx (sN (sL b) a (sD (sL c) .e)) s (aO Z acz)
def f171(a b:AV)(s:St):ax:=aR [a,b] 0 .e fun fr=>aD Z acy fr s (aO Z acz)
theorem Qj(h:Z.OK)(a b c:AV)(s:St):Qi Z a b c s=Z.aV s (fun d s=>Z.kK s (fun e s=>Z.yf s (fun o s=>Z.ah a true (fun k=>k b s) s (fun f s=>Z.ah a true (fun k=>Z.aV s k false f) s (fun g s=>Z.ah a true (fun k=>Z.ak s k (au .gtr g (.int .i64 0))) s (fun i s=>Z.aZ s (fun j s=>Z.dh [.bool false, .sl 1 [] .nil] [(0,1,j),(1,1,e)] s (fun m s=>Z.a7 s (fun _v s=>Z.aI false [gB s c (some 2),some (.int .i64 0)] s) 2 c (AV.av s.aa m))) a i (.bool false))))) 1 e b) [.int .u32 0] 4 d d) false b:=h.mm
theorem amv(b c:AV)(s:St):f171 Z b c s=Z.fG (.ref (.l s.own.length) 0) (s.new (.cells [.bool false, .sl 1 [] .nil])) (fun a s=>Z.aB s (fun d s=>Z.aV s (fun e s=>Z.ak s (fun f s=>Z.aH f (Z.dh [.bool false, .sl 1 [] .nil] [] s (fun g s=>Z.a7 s (fun _v s=>Z.aI false [gB s a (some 2),some (.int .i64 2)] s) 2 a (AV.av s.aa g))) (Qi Z b d a s)) (au .gtr e (.int .i64 128))) false d) 191 [(AV.av s.aa c)]):=by kernel_rfl
theorem Vj(a b:AV)(s:St):aJ T1 G X 171 [a,b] s=f171 (PP T1 G X) a b s.ai:=aY T1 G X (fn:=acz)
def au4:KK:=c9 (aD Z acD) (aO Z ND)
def aei:KK:=bu 0 (au4 Z)
def yZ:Mk:=cf 0x310e6
def aej:KK:=cA yZ (Z.aW (aD Z KH) yZ) (aei Z)
def au5:Mk:=cf 53
def Qk(a b c d:AV)(s:St):ax:=Z.aE yZ acA (sN (sD (sN (sL d) b .e) .e) a (sD .e (sL c))) s (aej Z)
def Ql(a b c d:AV)(s:St):ax:=Z.aE yZ acB (sN (sD (sN (sL d) b .e) .e) a (sD .e (sL c))) s (aej Z)
def Qm(a:AV)(s:St):ax:=Z.aE au5 acC (sD (sD (sL a) .e) .e) s (aO Z ND)
def sj(a b c d:AV)(s:St):ax:=Z.aW (aD Z KH) yZ (sN (sD (sN (sL d) b .e) .e) a (sD .e (sL c))) s (aei Z)
def f172(a:AV)(s:St):ax:=aR [a] 0 .e fun fr=>aD Z acE fr s (aO Z ND)
theorem Qn(h:Z.OK)(a b c d:AV)(s:St):Qk Z a b c d s=Z.ak s (fun e s=>sj Z a b c e s) (au .add d (.int .i64 1)):=h.mm
theorem Qo(h:Z.OK)(b c d a:AV)(s:St):Ql Z b c d a s=Z.aX s (fun e s=>Z.aq s (fun f s=>Z.bc s (fun g s=>Z.ak s (fun i s=>Z.ak s (fun j s=>Z.ak s (fun m s=>Qk Z b m d a s) (au .or c j)) (au .shl g i)) (au .mul (.int .i64 32) a)) .u64 f) none e) 1 b a:=h.mm
theorem Qp(h:Z.OK)(a:AV)(s:St):Qm Z a s=Z.aI false [some a] s:=h.mm
theorem Cf(h:Z.OK)(d a b c:AV)(s:St):sj Z d a b c s=Z.ak s (fun e s=>Z.aH e (Ql Z d a b c s) (Qm Z a s)) (au .lss c b):=h.ll
theorem amw(a:AV)(s:St):f172 Z a s=Z.aV s (fun b s=>sj Z a (.int .u64 0) b (.int .i64 0) s) false a:=by kernel_rfl
theorem Vk(a:AV)(s:St):aJ T1 G X 172 [a] s=f172 (PP T1 G X) a s.ai:=aY T1 G X (fn:=ND)
def au6:KK:=c9 (aD Z acH) (aO Z NE)
def aek:KK:=bu 0 (au6 Z)
def y3:Mk:=cf 3
def au7:KK:=cA y3 (Z.aW (aD Z KJ) y3) (aek Z)
def Qq(a:AV)(s:St):ax:=Z.aE y3 acF (sL a) s (au7 Z)
def Qr(a:AV)(s:St):ax:=Z.aE y3 acG (sL a) s (aO Z NE)
def y4(a:AV)(s:St):ax:=Z.aW (aD Z KJ) y3 (sL a) s (aek Z)
def f178(a:AV)(s:St):ax:=aR [a] 0 .e fun fr=>aD Z acI fr s (aO Z NE)
theorem Qs(h:Z.OK)(a:AV)(s:St):Qq Z a s=Z.aV s (fun b s=>Z.ak s (fun c s=>Z.lh 1 a none (some c) none s (fun d s=>y4 Z d s)) (au .sub b (.int .i64 1))) false a:=h.mm
theorem Cg(h:Z.OK)(a:AV)(s:St):Qr Z a s=Z.aI false [some a] s:=h.mm
theorem Ch(h:Z.OK)(b:AV)(s:St):y4 Z b s=Z.aV s (fun c s=>Z.ak s (fun a s=>Z.ah a true (fun k=>k b s) s (fun d s=>Z.ah a true (fun k=>k b s) s (fun e s=>Z.ah a true (fun k=>Z.aV s k false e) s (fun f s=>Z.ah a true (fun k=>Z.ak s k (au .sub f (.int .i64 1))) s (fun g s=>Z.ah a true (fun k=>Z.aX s k 1 d g) s (fun i s=>Z.ah a true (fun k=>Z.aq s k none i) s (fun j s=>Z.ah a true (fun k=>Z.ak s k (au .eql j (.int .u32 0))) s (fun m s=>Z.aZ s (fun o s=>Z.aH o (Qq Z b s) (Qr Z b s)) a m (.bool false))))))))) (au .gtr c (.int .i64 0))) false b:=h.ll
theorem amx(a:AV)(s:St):f178 Z a s=y4 Z a s:=by kernel_rfl
theorem Vl(a:AV)(s:St):aJ T1 G X 178 [a] s=f178 (PP T1 G X) a s.ai:=aY T1 G X (fn:=NE)
def au8:Mk:=cf 14
def au9:KK:=c9 (aD Z NJ) (aO Z BT)
def ael:KK:=bu 0 (au9 Z)
def y5:Mk:=cf 0x310da
def aem:KK:=cA y5 (Z.aW (aD Z KL) y5) (ael Z)
def amy:Mk:=cf 798
def amz:KK:=c9 (aD Z NH) (aO Z BT)
def Qt:KK:=bu 2 (amz Z)
def uo:Mk:=cf 0x33534a
def Fe:KK:=cA uo (Z.aW (aD Z EX) uo) (Qt Z)
def amA:KK:=c9 (aD Z acN) (Fe Z)
def amB:KK:=bu 3 (amA Z)
def amC:Mk:=cf 0xe3534a
def amD:Mk:=cf 13150
def Qu(a b c d:AV)(s:St):ax:=Z.aE y5 acJ (sN (sN (sD (sL d) .e) b .e) a (sD .e (sL c))) s (aem Z)
def Qv(a b c d:AV)(s:St):ax:=Z.aE y5 acK (sN (sN (sD (sL d) .e) b .e) a (sD .e (sL c))) s (aem Z)
def Qw(a b c d e:AV)(s:St):ax:=Z.aE uo acM (sN (sN .e b (sD (sL e) .e)) a (sD (sD (sL d) .e) (sL c))) s (Fe Z)
def y6(a b c d e f:AV)(s:St):ax:=Z.aE amC acL (sN (sN .e b (sD (sL e) .e)) a (sD (sD (sL d) .e) (sN (sL f) c .e))) s (amB Z)
def Qx(a b c d e:AV)(s:St):ax:=Z.aE uo NF (sN (sN .e b (sD (sL e) .e)) a (sD (sD (sL d) .e) (sL c))) s (Fe Z)
def I2(a b c d:AV)(s:St):ax:=Z.aE amD NG (sN (sL b) a (sD (sD (sL d) .e) (sL c))) s (aO Z BT)
def y7(a b c d e:AV)(s:St):ax:=Z.aW (aD Z EX) uo (sN (sN .e b (sD (sL e) .e)) a (sD (sD (sL d) .e) (sL c))) s (Qt Z)
def Ff(a b c:AV)(s:St):ax:=Z.aE amy NI (sN (sL b) a (sD .e (sL c))) s (aO Z BT)
def y8(a b c d:AV)(s:St):ax:=Z.aW (aD Z KL) y5 (sN (sN (sD (sL d) .e) b .e) a (sD .e (sL c))) s (ael Z)
def Qy(a b:AV)(s:St):ax:=Z.aE au8 NK (sN (sL b) a .e) s (aO Z BT)
def f179(a b:AV)(s:St):ax:=aR [a,b] 0 .e fun fr=>aD Z acO fr s (aO Z BT)
theorem Ci(h:Z.OK)(a b c d:AV)(s:St):Qu Z a b c d s=Z.ak s (fun e s=>y8 Z a b c e s) (au .add d (.int .i64 1)):=h.mm
theorem Cj(h:Z.OK)(b d a c:AV)(s:St):Qv Z b d a c s=Z.ah a false (fun k=>k b s) s (fun e s=>Z.ah a false (fun k=>k c s) s (fun f s=>Z.ah a false (fun k=>Z.aX s k 1 e f) s (fun g s=>Z.ah a false (fun k=>Z.aq s k none g) s (fun i s=>Z.ah a false (fun k=>Z.ak s k (au .neq i (.int .u32 0))) s (fun j s=>Z.aZ s (fun m s=>Qu Z b d m c s) a (.bool true) j))))):=h.mm
theorem Qz(h:Z.OK)(a b c d e:AV)(s:St):Qw Z a b c d e s=Z.ak s (fun f s=>y7 Z a b c d f s) (au .add e (.int .i64 1)):=h.mm
theorem QA(h:Z.OK)(d a e b c f:AV)(s:St):y6 Z d a e b c f s=Z.ak s (fun g s=>Z.ak s (fun i s=>Z.bc s (fun j s=>Z.aX s (fun m s=>Z.a7 s (fun _v s=>Qw Z d a e b c s) 1 m (AV.av s.aa j)) 1 b c) .u32 i) (au .shr f g)) (au .rem a (.int .i64 32)):=h.mm
theorem QB(h:Z.OK)(a b d e c:AV)(s:St):Qx Z a b d e c s=Z.ak s (fun g s=>Z.ak s (fun i s=>Z.aX s (fun j s=>Z.aq s (fun m s=>Z.bc s (fun f s=>Z.ak s (fun o s=>Z.ak s (fun p s=>Z.ak s (fun q s=>Z.aV s (fun r s=>Z.ak s (fun t s=>Z.aH t (Z.ak s (fun u s=>Z.ak s (fun w s=>Z.ak s (fun x s=>Z.aX s (fun y s=>Z.aq s (fun z s=>Z.bc s (fun A s=>Z.ak s (fun B s=>Z.ak s (fun C s=>y6 Z a b d e c C s) (au .add f B)) (au .mul A (.int .u64 4294967296))) .u64 z) none y) 1 a x) (au .add w (.int .i64 1))) (au .add c u)) (au .quo b (.int .i64 32))) (y6 Z a b d e c f s)) (au .lss q r)) false a) (au .add p (.int .i64 1))) (au .add c o)) (au .quo b (.int .i64 32))) .u64 m) none j) 1 a i) (au .add c g)) (au .quo b (.int .i64 32)):=h.mm
theorem y9(h:Z.OK)(c b a d:AV)(s:St):I2 Z c b a d s=Z.ak s (fun e s=>Z.ak s (fun f s=>Z.ak s (fun g s=>Z.aB s (fun i s=>Z.ah a false (fun k=>k c s) s (fun j s=>Z.ah a false (fun k=>k b s) s (fun m s=>Z.ah a false (fun k=>Z.ak s k (au .quo m (.int .i64 32))) s (fun o s=>Z.ah a false (fun k=>Z.aX s k 1 j o) s (fun p s=>Z.ah a false (fun k=>Z.aq s k none p) s (fun q s=>Z.ah a false (fun k=>Z.bc s k .u64 q) s (fun r s=>Z.ah a false (fun k=>k g s) s (fun t s=>Z.ah a false (fun k=>Z.ak s k (au .and r t)) s (fun u s=>Z.ah a false (fun k=>Z.ak s k (au .neq u (.int .u64 0))) s (fun w s=>Z.aZ s (fun x s=>Z.aI false [some i,some x] s) a (.bool true) w)))))))))) 178 [(AV.av s.aa d)]) (au .sub f (.int .u64 1))) (au .shl (.int .u64 1) e)) (au .rem b (.int .i64 32)):=h.mm
theorem uq(h:Z.OK)(b c d a e:AV)(s:St):y7 Z b c d a e s=Z.aV s (fun f s=>Z.ak s (fun g s=>Z.aH g (Qx Z b c d a e s) (I2 Z b c d a s)) (au .lss e f)) false a:=h.ll
theorem QC(h:Z.OK)(a b c:AV)(s:St):Ff Z a b c s=Z.aV s (fun e s=>Z.ak s (fun f s=>Z.ak s (fun d s=>Z.kK s (fun g s=>y7 Z a b c g (.int .i64 0) s) [.int .u32 0] 4 d d) (au .sub e f)) (au .quo b (.int .i64 32))) false a:=h.mm
theorem ur(h:Z.OK)(b a c d:AV)(s:St):y8 Z b a c d s=Z.ak s (fun e s=>Z.ak s (fun f s=>Z.aH f (Qv Z b a c d s) (Ff Z b a c s)) (au .lss d e)) (au .quo a (.int .i64 32)):=h.ll
theorem QD(h:Z.OK)(a b:AV)(s:St):Qy Z a b s=y8 Z a b (.bool false) (.int .i64 0) s:=h.mm
theorem amE(a b:AV)(s:St):f179 Z a b s=Z.ak s (fun c s=>Z.aV s (fun d s=>Z.ak s (fun e s=>Z.aH e (Z.aV s (fun f s=>Z.ak s (fun g s=>Z.aI false [some (.sl 1 [] .nil),some g] s) (au .gtr f (.int .i64 0))) false a) (Qy Z a b s)) (au .geq c d)) false a) (au .quo b (.int .i64 32)):=by kernel_rfl
theorem Vm(a b:AV)(s:St):aJ T1 G X 179 [a,b] s=f179 (PP T1 G X) a b s.ai:=aY T1 G X (fn:=BT)
def aAW:Mk:=cf 13
def aen(a:AV)(s:St):ax:=Z.aE aAW akE (sD (sL a) .e) s (aO Z c86)
def f86(a:AV)(s:St):ax:=aR [a] 0 .e fun fr=>aD Z akF fr s (aO Z c86)
theorem Vn(h:Z.OK)(a:AV)(s:St):aen Z a s=Z.aj s (fun d s=>Z.aq s (fun e s=>Z.aj s (fun f s=>Z.aq s (fun g s=>Z.aB s (fun b s=>Z.bk s (fun i s=>Z.bk s (fun o s=>Z.fG (.ref (.l s.own.length) 0) (s.new (.cells [.bool false, .sl 1 [] .nil])) (fun c s=>Z.a7 s (fun _v s=>Z.aq s (fun j s=>Z.aB s (fun m s=>Z.aI false [some m] s) 136 [(AV.av s.aa j)]) (some 2) c) 2 c (AV.av s.aa i))) 1 b) 0 b) 135 [(AV.av s.aa e),(AV.av s.aa g)]) (some 2) f) 2 a) (some 2) d) 0 a:=h.mm
theorem ava(e:AV)(s:St):f86 Z e s=Z.dN e s (fun a s=>Z.aj s (fun f s=>Z.aq s (fun g s=>Z.aB s (fun i s=>Z.aj s (fun j s=>Z.aq s (fun m s=>Z.aB s (fun o s=>Z.ak s (fun d s=>Z.ah d false (fun k=>k o s) s (fun p s=>Z.ah d false (fun k=>Z.ak s k (kL .not p)) s (fun q s=>Z.aZ s (fun b s=>Z.ah b false (fun k=>Z.aj s k 2 a) s (fun r s=>Z.ah b false (fun k=>Z.aj s k 0 r) s (fun t s=>Z.ah b false (fun k=>Z.aq s k none t) s (fun u s=>Z.aZ s (fun c s=>Z.ah c false (fun k=>Z.aj s k 2 a) s (fun w s=>Z.ah c false (fun k=>Z.aq s k (some 2) w) s (fun x s=>Z.ah c false (fun k=>Z.aB s k 134 [(AV.av s.aa x)]) s (fun y s=>Z.aZ s (fun z s=>Z.aH z (Z.aI false [some (.bool false)] s) (aen Z a s)) c (.bool true) y)))) b (.bool true) u)))) d (.bool true) q))) (kL .not i)) 133 [(AV.av s.aa m)]) (some 2) j) 2 a) 133 [(AV.av s.aa g)]) (some 2) f) 0 a):=by kernel_rfl
theorem ag1(a:AV)(s:St):aJ T1 G X 86 [a] s=f86 (PP T1 G X) a s.ai:=aY T1 G X (fn:=c86)
def aeo:Mk:=cf 13
def QE(a:AV)(s:St):ax:=Z.aE aeo aah (sD (sL a) .e) s (aO Z M4)
def QF(a:AV)(s:St):ax:=Z.aE aeo aai (sD (sL a) .e) s (aO Z M4)
def f116(a:AV)(s:St):ax:=aR [a] 0 .e fun fr=>aD Z aaj fr s (aO Z M4)
theorem QG(h:Z.OK)(a:AV)(s:St):QE Z a s=Z.aj s (fun d s=>Z.aq s (fun e s=>Z.aj s (fun f s=>Z.aq s (fun g s=>Z.aB s (fun b s=>Z.bk s (fun i s=>Z.bk s (fun o s=>Z.fG (.ref (.l s.own.length) 0) (s.new (.cells [.bool false, .sl 1 [] .nil])) (fun c s=>Z.a7 s (fun _v s=>Z.aq s (fun j s=>Z.aB s (fun m s=>Z.aI false [some m] s) 149 [(AV.av s.aa j)]) (some 2) c) 2 c (AV.av s.aa i))) 1 b) 0 b) 150 [(AV.av s.aa e),(AV.av s.aa g)]) (some 2) f) 2 a) (some 2) d) 0 a:=h.mm
theorem QH(h:Z.OK)(a:AV)(s:St):QF Z a s=Z.aj s (fun b s=>Z.aq s (fun c s=>Z.aB s (fun d s=>Z.aH d (Z.aI false [some (.bool true)] s) (QE Z a s)) 149 [(AV.av s.aa c)]) (some 2) b) 2 a:=h.mm
theorem amF(e:AV)(s:St):f116 Z e s=Z.dN e s (fun a s=>Z.aj s (fun f s=>Z.aq s (fun g s=>Z.aB s (fun i s=>Z.ak s (fun b s=>Z.ah b false (fun k=>Z.aj s k 2 a) s (fun j s=>Z.ah b false (fun k=>Z.aq s k (some 2) j) s (fun m s=>Z.ah b false (fun k=>Z.aB s k 147 [(AV.av s.aa m)]) s (fun o s=>Z.ah b false (fun k=>Z.ak s k (kL .not o)) s (fun p s=>Z.aZ s (fun c s=>Z.ah c false (fun k=>Z.aj s k 2 a) s (fun q s=>Z.ah c false (fun k=>Z.aj s k 0 q) s (fun r s=>Z.ah c false (fun k=>Z.aq s k none r) s (fun t s=>Z.aZ s (fun d s=>Z.ah d false (fun k=>Z.aj s k 2 a) s (fun u s=>Z.ah d false (fun k=>Z.aq s k (some 2) u) s (fun w s=>Z.ah d false (fun k=>Z.aB s k 148 [(AV.av s.aa w)]) s (fun x s=>Z.aZ s (fun y s=>Z.aH y (Z.aI false [some (.bool false)] s) (QF Z a s)) d (.bool true) x)))) c (.bool true) t)))) b (.bool true) p))))) (kL .not i)) 147 [(AV.av s.aa g)]) (some 2) f) 0 a):=by kernel_rfl
theorem Vo(a:AV)(s:St):aJ T1 G X 116 [a] s=f116 (PP T1 G X) a s.ai:=aY T1 G X (fn:=M4)
def f134(a:AV)(s:St):ax:=aR [a] 0 .e fun fr=>aD Z aa1 fr s (aO Z akT)
theorem amG(a:AV)(s:St):f134 Z a s=Z.dN a s (fun b s=>Z.aj s (fun c s=>Z.aq s (fun d s=>Z.aV s (fun e s=>Z.ak s (fun f s=>Z.aI false [some f] s) (au .eql e (.int .i64 0))) false d) none c) 1 b):=by kernel_rfl
theorem Vp(a:AV)(s:St):aJ T1 G X 134 [a] s=f134 (PP T1 G X) a s.ai:=aY T1 G X (fn:=akT)
def f136(a:AV)(s:St):ax:=aR [a] 0 .e fun fr=>aD Z aa7 fr s (aO Z akW)
theorem amH(d:AV)(s:St):f136 Z d s=Z.dN d s (fun c s=>Z.aj s (fun e s=>Z.aq s (fun f s=>Z.ak s (fun b s=>Z.ah b true (fun k=>Z.aj s k 1 c) s (fun g s=>Z.ah b true (fun k=>Z.aq s k none g) s (fun i s=>Z.ah b true (fun k=>Z.aV s k false i) s (fun j s=>Z.ah b true (fun k=>Z.ak s k (au .eql j (.int .i64 1))) s (fun m s=>Z.aZ s (fun a s=>Z.ah a true (fun k=>Z.aj s k 1 c) s (fun o s=>Z.ah a true (fun k=>Z.aq s k none o) s (fun p s=>Z.ah a true (fun k=>Z.aX s k 1 p (.int .i64 0)) s (fun q s=>Z.ah a true (fun k=>Z.aq s k none q) s (fun r s=>Z.ah a true (fun k=>Z.ak s k (au .eql r (.int .u32 1))) s (fun t s=>Z.aZ s (fun u s=>Z.aI false [some u] s) a t (.bool false))))))) b m (.bool false)))))) (kL .not f)) none e) 0 c):=by kernel_rfl
theorem Vq(a:AV)(s:St):aJ T1 G X 136 [a] s=f136 (PP T1 G X) a s.ai:=aY T1 G X (fn:=akW)
def f148(a:AV)(s:St):ax:=aR [a] 0 .e fun fr=>aD Z abe fr s (aO Z ak0)
theorem amI(a:AV)(s:St):f148 Z a s=Z.dN a s (fun b s=>Z.aj s (fun c s=>Z.aq s (fun d s=>Z.aV s (fun e s=>Z.ak s (fun f s=>Z.aI false [some f] s) (au .eql e (.int .i64 0))) false d) none c) 1 b):=by kernel_rfl
theorem Vr(a:AV)(s:St):aJ T1 G X 148 [a] s=f148 (PP T1 G X) a s.ai:=aY T1 G X (fn:=ak0)
def f149(a:AV)(s:St):ax:=aR [a] 0 .e fun fr=>aD Z abf fr s (aO Z ak1)
theorem amJ(d:AV)(s:St):f149 Z d s=Z.dN d s (fun c s=>Z.aj s (fun e s=>Z.aq s (fun f s=>Z.ak s (fun b s=>Z.ah b true (fun k=>Z.aj s k 1 c) s (fun g s=>Z.ah b true (fun k=>Z.aq s k none g) s (fun i s=>Z.ah b true (fun k=>Z.aV s k false i) s (fun j s=>Z.ah b true (fun k=>Z.ak s k (au .eql j (.int .i64 1))) s (fun m s=>Z.aZ s (fun a s=>Z.ah a true (fun k=>Z.aj s k 1 c) s (fun o s=>Z.ah a true (fun k=>Z.aq s k none o) s (fun p s=>Z.ah a true (fun k=>Z.aX s k 1 p (.int .i64 0)) s (fun q s=>Z.ah a true (fun k=>Z.aq s k none q) s (fun r s=>Z.ah a true (fun k=>Z.ak s k (au .eql r (.int .u32 1))) s (fun t s=>Z.aZ s (fun u s=>Z.aI false [some u] s) a t (.bool false))))))) b m (.bool false)))))) (kL .not f)) none e) 0 c):=by kernel_rfl
theorem Vs(a:AV)(s:St):aJ T1 G X 149 [a] s=f149 (PP T1 G X) a s.ai:=aY T1 G X (fn:=ak1)
def aAX:KK:=c9 (aD Z ai7) (aO Z c14)
def amK:KK:=bu 0 (aAX Z)
def Fg:Mk:=cf 54
def amL:KK:=cA Fg (Z.aW (aD Z UE) Fg) (amK Z)
def aAY:Mk:=cf 3
def aep(a b:AV)(s:St):ax:=Z.aE Fg ai3 (sN (sD (sL b) .e) a .e) s (amL Z)
def aeq(a b:AV)(s:St):ax:=Z.aE Fg ai4 (sN (sD (sL b) .e) a .e) s (amL Z)
def aer(s:St):ax:=Z.aE .e ai5 .e s (aO Z c14)
def K4(a:AV)(s:St):ax:=Z.aE aAY ai6 (sL a) s (aO Z c14)
def C5(a b:AV)(s:St):ax:=Z.aW (aD Z UE) Fg (sN (sD (sL b) .e) a .e) s (amK Z)
def f14(a:AV)(s:St):ax:=aR [a] 0 .e fun fr=>aD Z ai8 fr s (aO Z c14)
theorem Vt(h:Z.OK)(a b:AV)(s:St):aep Z a b s=Z.ak s (fun c s=>C5 Z a c s) (au .add b (.int .i64 1)):=h.mm
theorem Vu(h:Z.OK)(a b:AV)(s:St):aeq Z a b s=Z.aB s (fun c s=>Z.ak s (fun d s=>Z.aH d (Z.aI false [some (.int .i64 120)] s) (aep Z a b s)) (kL .not c)) 48 [(AV.av s.aa a),(AV.av s.aa b)]:=h.mm
theorem Vv(h:Z.OK)(s:St):aer Z s=Z.aI false [some (.int .i64 0)] s:=h.mm
theorem Vx(h:Z.OK)(c:AV)(s:St):K4 Z c s=Z.aV s (fun d s=>Z.ak s (fun a s=>Z.ah a false (fun k=>k c s) s (fun e s=>Z.ah a false (fun k=>Z.aB s k 49 [(AV.av s.aa e)]) s (fun f s=>Z.ah a false (fun k=>Z.aV s k false f) s (fun g s=>Z.ah a false (fun k=>Z.ak s k (au .gtr g (.int .i64 20))) s (fun i s=>Z.aZ s (fun b s=>Z.ah b false (fun k=>k c s) s (fun j s=>Z.ah b false (fun k=>Z.aB s k 50 [(AV.av s.aa j)]) s (fun m s=>Z.ah b false (fun k=>Z.aV s k false m) s (fun o s=>Z.ah b false (fun k=>Z.ak s k (au .gtr o (.int .i64 5))) s (fun p s=>Z.aZ s (fun q s=>Z.aH q (Z.aI false [some (.int .i64 111)] s) (aer Z s)) b (.bool true) p))))) a (.bool true) i))))) (au .gtr d (.int .i64 40))) false c:=h.mm
theorem Fh(h:Z.OK)(a b:AV)(s:St):C5 Z a b s=Z.aV s (fun c s=>Z.ak s (fun d s=>Z.aH d (aeq Z a b s) (K4 Z a s)) (au .lss b c)) false a:=h.ll
theorem avb(a:AV)(s:St):f14 Z a s=C5 Z a (.int .i64 0) s:=by kernel_rfl
theorem ag3(a:AV)(s:St):aJ T1 G X 14 [a] s=f14 (PP T1 G X) a s.ai:=aY T1 G X (fn:=c14)
def aAZ:KK:=c9 (aD Z Zl) (aO Z c42)
def amM:KK:=bu 0 (aAZ Z)
def Fi:Mk:=cf 0x3350e6
def Vy:KK:=cA Fi (Z.aW (aD Z UG) Fi) (amM Z)
def aA0:KK:=c9 (aD Z ajh) (Vy Z)
def aA1:KK:=bu 1 (aA0 Z)
def aA2:Mk:=cf 0x335ce6
def avc:Mk:=cf 54
def K5(a b c d e:AV)(s:St):ax:=Z.aE Fi ajg (sN (sD (sN (sL d) b .e) .e) a (sD (sD (sL e) .e) (sL c))) s (Vy Z)
def aes(a b c d e f:AV)(s:St):ax:=Z.aE aA2 ajf (sN (sD (sN (sL e) b .e) (sL c)) a (sD (sD (sL f) .e) (sL d))) s (aA1 Z)
def aet(a b c d e:AV)(s:St):ax:=Z.aE Fi aji (sN (sD (sN (sL d) b .e) .e) a (sD (sD (sL e) .e) (sL c))) s (Vy Z)
def aeu(s:St):ax:=Z.aE .e ajj .e s (aO Z c42)
def K6(a b:AV)(s:St):ax:=Z.aE avc Zk (sN (sD (sL b) .e) a .e) s (aO Z c42)
def C6(a b c d e:AV)(s:St):ax:=Z.aW (aD Z UG) Fi (sN (sD (sN (sL d) b .e) .e) a (sD (sD (sL e) .e) (sL c))) s (amM Z)
def f42(a:AV)(s:St):ax:=aR [a] 0 .e fun fr=>aD Z ajk fr s (aO Z c42)
theorem Fj(h:Z.OK)(a b c d e:AV)(s:St):K5 Z a b c d e s=Z.ak s (fun f s=>C6 Z a b c d f s) (au .add e (.int .i64 1)):=h.mm
theorem Vz(h:Z.OK)(a b f c d e:AV)(s:St):aes Z a b f c d e s=Z.aq s (fun g s=>Z.aB s (fun i s=>Z.aH i (Z.ak s (fun j s=>K5 Z a j c d e s) (au .add b (.int .i64 1))) (K5 Z a b c d e s)) 71 [(AV.av s.aa g)]) (some 12) f:=h.mm
theorem VA(h:Z.OK)(b d c e a:AV)(s:St):aet Z b d c e a s=Z.aX s (fun g s=>Z.aq s (fun i s=>Z.fG (.ref (.l s.own.length) 0) (s.new (.cells [.str [], .int .i64 0, .sl 1 [] .nil, .bool false, .sl 1 [] .nil, .bool false, .sl 1 [] .nil, .bool false, .sl 1 [] .nil, .bool false, .sl 1 [] .nil, .int .i64 0])) (fun f s=>Z.a7 s (fun _v s=>Z.ak s (fun j s=>Z.lh 12 b none (some j) none s (fun m s=>Z.aB s (fun o s=>Z.ak s (fun p s=>Z.aH p (Z.aI false [some (.int .i64 120)] s) (aes Z b d f c e a s)) (kL .not o)) 70 [(AV.av s.aa m)])) (au .add a (.int .i64 1))) 12 f (AV.av s.aa i))) (some 12) g) 12 c a:=h.mm
theorem VB(h:Z.OK)(s:St):aeu Z s=Z.aI false [some (.int .i64 0)] s:=h.mm
theorem VC(h:Z.OK)(b d:AV)(s:St):K6 Z b d s=Z.aV s (fun e s=>Z.ak s (fun c s=>Z.ah c false (fun k=>k d s) s (fun f s=>Z.ah c false (fun k=>Z.ak s k (au .gtr f (.int .i64 5))) s (fun g s=>Z.aZ s (fun a s=>Z.ah a false (fun k=>k b s) s (fun i s=>Z.ah a false (fun k=>Z.aB s k 72 [(AV.av s.aa i)]) s (fun j s=>Z.ah a false (fun k=>Z.aV s k false j) s (fun m s=>Z.ah a false (fun k=>Z.ak s k (au .gtr m (.int .i64 20))) s (fun o s=>Z.aZ s (fun p s=>Z.aH p (Z.aI false [some (.int .i64 111)] s) (aeu Z s)) a (.bool true) o))))) c (.bool true) g))) (au .gtr e (.int .i64 40))) false b:=h.mm
theorem Fk(h:Z.OK)(a b e c d:AV)(s:St):C6 Z a b e c d s=Z.ak s (fun f s=>Z.aH f (aet Z a b e c d s) (K6 Z a b s)) (au .lss d c):=h.ll
theorem avd(a:AV)(s:St):f42 Z a s=Z.aV s (fun b s=>C6 Z a (.int .i64 0) a b (.int .i64 0) s) false a:=by kernel_rfl
theorem ag4(a:AV)(s:St):aJ T1 G X 42 [a] s=f42 (PP T1 G X) a s.ai:=aY T1 G X (fn:=c42)
def aA3:Mk:=cf 14
def aev(a b:AV)(s:St):ax:=Z.aE aA3 ajl (sN (sL b) a .e) s (aO Z c43)
def f43(a b:AV)(s:St):ax:=aR [a,b] 0 .e fun fr=>aD Z ajm fr s (aO Z c43)
theorem VD(h:Z.OK)(a b:AV)(s:St):aev Z a b s=Z.aX s (fun c s=>Z.aq s (fun d s=>Z.aB s (fun e s=>Z.aI false [some e,some (.int .i64 0)] s) 74 [(AV.av s.aa d)]) (some 12) c) 12 a b:=h.mm
theorem ave(a b:AV)(s:St):f43 Z a b s=Z.aB s (fun c s=>Z.ak s (fun d s=>Z.aH d (Z.aI false [some (.int .i64 0),some c] s) (aev Z a b s)) (au .neq c (.int .i64 0))) 73 [(AV.av s.aa a),(AV.av s.aa b)]:=by kernel_rfl
theorem ag5(a b:AV)(s:St):aJ T1 G X 43 [a,b] s=f43 (PP T1 G X) a b s.ai:=aY T1 G X (fn:=c43)
def aA4:Mk:=cf 0x335ca
def aA5:KK:=c9 (aD Z ZE) (aO Z CU)
def amN:KK:=bu 0 (aA5 Z)
def Fl:Mk:=cf 0x33538a
def amO:KK:=cA Fl (Z.aW (aD Z UL) Fl) (amN Z)
def avf:Mk:=cf 13770
def avg:KK:=c9 (aD Z ZC) (aO Z CU)
def aew:KK:=bu 2 (avg Z)
def za:Mk:=cf 0x35f1a
def aex:KK:=cA za (Z.aW (aD Z Kf) za) (aew Z)
def avh:Mk:=cf 13765
def aey:Mk:=cf 197
def aez(a b c d e f:AV)(s:St):ax:=Z.aE Fl ajF (sN (sN .e b (sN (sL f) c .e)) a (sD (sD (sL e) .e) (sL d))) s (amO Z)
def aeA(a b c d e f:AV)(s:St):ax:=Z.aE Fl ajG (sN (sN .e b (sN (sL f) c .e)) a (sD (sD (sL e) .e) (sL d))) s (amO Z)
def aeB(a b c d e:AV)(s:St):ax:=Z.aE za ajH (sN (sN (sD .e (sL e)) b (sL c)) a (sD (sD (sL d) .e) .e)) s (aex Z)
def aeC(a b c d e:AV)(s:St):ax:=Z.aE za ajI (sN (sN (sD .e (sL e)) b (sL c)) a (sD (sD (sL d) .e) .e)) s (aex Z)
def QI(a:AV)(s:St):ax:=Z.aE aey Zz (sD (sD .e (sL a)) .e) s (aO Z CU)
def Fm(a:AV)(s:St):ax:=Z.aE aey ZA (sD (sD .e (sL a)) .e) s (aO Z CU)
def K7(a b:AV)(s:St):ax:=Z.aE avh ZB (sD (sD .e (sL a)) (sD (sD (sL b) .e) .e)) s (aO Z CU)
def C7(a b c d e:AV)(s:St):ax:=Z.aW (aD Z Kf) za (sN (sN (sD .e (sL e)) b (sL c)) a (sD (sD (sL d) .e) .e)) s (aew Z)
def aeD(a b c d:AV)(s:St):ax:=Z.aE avf ZD (sN (sN .e b (sL c)) a (sD (sD (sL d) .e) .e)) s (aO Z CU)
def C8(a b c d e f:AV)(s:St):ax:=Z.aW (aD Z UL) Fl (sN (sN .e b (sN (sL f) c .e)) a (sD (sD (sL e) .e) (sL d))) s (amN Z)
def aeE(a b c d e:AV)(s:St):ax:=Z.aE aA4 ZF (sN (sN .e b (sL c)) a (sD (sD (sL e) .e) (sL d))) s (aO Z CU)
def f48(a b:AV)(s:St):ax:=aR [a,b] 0 .e fun fr=>aD Z ajJ fr s (aO Z CU)
theorem VE(h:Z.OK)(a b c d e f:AV)(s:St):aez Z a b c d e f s=Z.ak s (fun g s=>C8 Z a b c d e g s) (au .add f (.int .i64 1)):=h.mm
theorem VF(h:Z.OK)(d e f g j b:AV)(s:St):aeA Z d e f g j b s=Z.aj s (fun m s=>Z.aq s (fun o s=>Z.aX s (fun p s=>Z.aq s (fun i s=>Z.ak s (fun c s=>Z.ah c false (fun k=>k i s) s (fun q s=>Z.ah c false (fun k=>k e s) s (fun r s=>Z.ah c false (fun k=>Z.ak s k (au .geq q r)) s (fun t s=>Z.aZ s (fun a s=>Z.ah a false (fun k=>k d s) s (fun u s=>Z.ah a false (fun k=>k i s) s (fun w s=>Z.ah a false (fun k=>Z.aX s k 12 u w) s (fun x s=>Z.ah a false (fun k=>Z.aj s k 1 x) s (fun y s=>Z.ah a false (fun k=>Z.aq s k none y) s (fun z s=>Z.ah a false (fun k=>Z.qp s k 85 [(AV.av s.aa z)]) s (fun A s=>Z.ah a false (fun k=>k g s) s (fun B s=>Z.ah a false (fun k=>k b s) s (fun C s=>Z.ah a false (fun k=>Z.aX s k 1 B C) s (fun D s=>Z.ah a false (fun k=>Z.aq s k none D) s (fun E s=>Z.ah a false (fun k=>Z.aB s k 84 [(AV.av s.aa A),(AV.av s.aa E)]) s (fun F s=>Z.ah a false (fun k=>Z.ak s k (kL .not F)) s (fun H s=>Z.aZ s (fun I s=>Z.aH I (Z.aI false [some (.bool false)] s) (aez Z d e f g j b s)) a (.bool true) H))))))))))))) c (.bool true) t)))) (au .lss i (.int .i64 0))) none p) 1 o b) none m) 2 f:=h.mm
theorem VG(h:Z.OK)(a b c d e:AV)(s:St):aeB Z a b c d e s=Z.ak s (fun f s=>C7 Z a b c d f s) (au .add e (.int .i64 1)):=h.mm
theorem VH(h:Z.OK)(a d b e c:AV)(s:St):aeC Z a d b e c s=Z.aX s (fun f s=>Z.aj s (fun g s=>Z.aq s (fun i s=>Z.aj s (fun j s=>Z.aq s (fun m s=>Z.ak s (fun o s=>Z.aH o (Z.aI false [some (.bool false)] s) (aeB Z a d b e c s)) (au .eql i m)) none j) 0 b) none g) 0 f) 12 a c:=h.mm
theorem QJ(h:Z.OK)(b:AV)(s:St):QI Z b s=Z.aj s (fun c s=>Z.aq s (fun d s=>Z.aB s (fun a s=>Z.ah a true (fun k=>Z.aj s k 7 b) s (fun e s=>Z.ah a true (fun k=>Z.aq s k (some 4) e) s (fun f s=>Z.ah a true (fun k=>Z.aB s k 87 [(AV.av s.aa f)]) s (fun g s=>Z.aZ s (fun i s=>Z.aI false [some i] s) a g (.bool false))))) 87 [(AV.av s.aa d)]) (some 4) c) 3 b:=h.mm
theorem QK(h:Z.OK)(a:AV)(s:St):Fm Z a s=Z.aj s (fun e s=>Z.aq s (fun d s=>Z.ak s (fun f s=>Z.aH f (Z.aj s (fun g s=>Z.aq s (fun i s=>Z.aB s (fun b s=>Z.ah b true (fun k=>Z.aj s k 7 a) s (fun j s=>Z.ah b true (fun k=>Z.aq s k (some 4) j) s (fun m s=>Z.ah b true (fun k=>Z.aB s k 86 [(AV.av s.aa m)]) s (fun o s=>Z.aZ s (fun p s=>Z.aI false [some p] s) b o (.bool false))))) 86 [(AV.av s.aa i)]) (some 4) g) 3 a) (Z.ak s (fun q s=>Z.aH q (Z.aj s (fun r s=>Z.aq s (fun t s=>Z.aB s (fun c s=>Z.ah c true (fun k=>Z.aj s k 7 a) s (fun u s=>Z.ah c true (fun k=>Z.aq s k (some 4) u) s (fun w s=>Z.ah c true (fun k=>Z.aB s k 87 [(AV.av s.aa w)]) s (fun x s=>Z.aZ s (fun y s=>Z.aI false [some y] s) c x (.bool false))))) 86 [(AV.av s.aa t)]) (some 4) r) 3 a) (QI Z a s)) (au .eql d (.int .i64 2)))) (au .eql d (.int .i64 1))) none e) 1 a:=h.mm
theorem VI(h:Z.OK)(b a:AV)(s:St):K7 Z b a s=Z.ah a true (fun k=>Z.aj s k 11 b) s (fun f s=>Z.ah a true (fun k=>Z.aq s k none f) s (fun g s=>Z.ah a true (fun k=>Z.ak s k (au .neq g (.int .i64 1))) s (fun i s=>Z.aZ s (fun d s=>Z.ah d true (fun k=>Z.aj s k 11 b) s (fun j s=>Z.ah d true (fun k=>Z.aq s k none j) s (fun m s=>Z.ah d true (fun k=>Z.ak s k (au .neq m (.int .i64 2))) s (fun o s=>Z.aZ s (fun c s=>Z.ah c false (fun k=>k a s) s (fun p s=>Z.ah c false (fun k=>Z.ak s k (kL .not p)) s (fun q s=>Z.ah c false (fun k=>k q s) s (fun e s=>Z.ah e true (fun k=>Z.aj s k 11 b) s (fun r s=>Z.ah e true (fun k=>Z.aq s k none r) s (fun t s=>Z.ah e true (fun k=>Z.ak s k (au .neq t (.int .i64 0))) s (fun u s=>Z.ah c false (fun k=>Z.aZ s k e u (.bool false)) s (fun w s=>Z.aZ s (fun x s=>Z.aH x (Z.aI false [some (.bool false)] s) (Fm Z b s)) c (.bool true) w)))))))) d o (.bool false))))) a i (.bool false)))):=h.mm
theorem Fo(h:Z.OK)(e a b c d:AV)(s:St):C7 Z e a b c d s=Z.ak s (fun f s=>Z.aH f (aeC Z e a b c d s) (K7 Z b c s)) (au .lss d a):=h.ll
theorem VJ(h:Z.OK)(a b c d:AV)(s:St):aeD Z a b c d s=C7 Z a b c d (.int .i64 0) s:=h.mm
theorem Fp(h:Z.OK)(a b c d e f:AV)(s:St):C8 Z a b c d e f s=Z.aV s (fun g s=>Z.ak s (fun i s=>Z.aH i (aeA Z a b c d e f s) (aeD Z a b c e s)) (au .lss f g)) false d:=h.ll
theorem VK(h:Z.OK)(a b c d e:AV)(s:St):aeE Z a b c d e s=C8 Z a b c d e (.int .i64 0) s:=h.mm
theorem avi(e f:AV)(s:St):f48 Z e f s=Z.aX s (fun j s=>Z.aq s (fun m s=>Z.fG (.ref (.l s.own.length) 0) (s.new (.cells [.str [], .int .i64 0, .sl 1 [] .nil, .bool false, .sl 1 [] .nil, .bool false, .sl 1 [] .nil, .bool false, .sl 1 [] .nil, .bool false, .sl 1 [] .nil, .int .i64 0])) (fun a s=>Z.a7 s (fun _v s=>Z.aj s (fun o s=>Z.aq s (fun p s=>Z.aB s (fun g s=>Z.bk s (fun i s=>Z.bk s (fun J s=>Z.bk s (fun q s=>Z.aj s (fun r s=>Z.aq s (fun t s=>Z.ak s (fun c s=>Z.ah c false (fun k=>Z.aj s k 1 a) s (fun u s=>Z.ah c false (fun k=>Z.aq s k none u) s (fun w s=>Z.ah c false (fun k=>Z.ak s k (au .gtr w (.int .i64 16))) s (fun x s=>Z.aZ s (fun b s=>Z.ah b false (fun k=>Z.aj s k 2 a) s (fun y s=>Z.ah b false (fun k=>Z.aq s k none y) s (fun z s=>Z.ah b false (fun k=>Z.aV s k false z) s (fun A s=>Z.ah b false (fun k=>k i s) s (fun B s=>Z.ah b false (fun k=>Z.aV s k false B) s (fun C s=>Z.ah b false (fun k=>Z.ak s k (au .neq A C)) s (fun D s=>Z.aZ s (fun d s=>Z.ah d false (fun k=>Z.aj s k 0 a) s (fun E s=>Z.ah d false (fun k=>Z.aq s k none E) s (fun F s=>Z.ah d false (fun k=>Z.ak s k (au .eql F (.str []))) s (fun H s=>Z.aZ s (fun I s=>Z.aH I (Z.aI false [some (.bool false)] s) (aeE Z e f a i q s)) d (.bool true) H)))) b (.bool true) D))))))) c (.bool true) x)))) (au .lss t (.int .i64 1))) none r) 1 a) 2 g) 1 g) 0 g) 83 [(AV.av s.aa p)]) none o) 1 a) 12 a (AV.av s.aa m))) (some 12) j) 12 e f:=by kernel_rfl
theorem ag6(a b:AV)(s:St):aJ T1 G X 48 [a,b] s=f48 (PP T1 G X) a b s.ai:=aY T1 G X (fn:=CU)
def aA6:KK:=c9 (aD Z ajN) (aO Z c49)
def amP:KK:=bu 0 (aA6 Z)
def Fq:Mk:=cf 3382
def amQ:KK:=cA Fq (Z.aW (aD Z UM) Fq) (amP Z)
def aA7:Mk:=cf 53
def zb(a b c:AV)(s:St):ax:=Z.aE Fq ajK (sN (sD (sL b) .e) a (sD (sL c) .e)) s (amQ Z)
def aeF(a b c:AV)(s:St):ax:=Z.aE Fq ajL (sN (sD (sL b) .e) a (sD (sL c) .e)) s (amQ Z)
def aeG(a:AV)(s:St):ax:=Z.aE aA7 ajM (sD (sD (sL a) .e) .e) s (aO Z c49)
def C9(a b c:AV)(s:St):ax:=Z.aW (aD Z UM) Fq (sN (sD (sL b) .e) a (sD (sL c) .e)) s (amP Z)
def f49(a:AV)(s:St):ax:=aR [a] 0 .e fun fr=>aD Z ajO fr s (aO Z c49)
theorem Fs(h:Z.OK)(a b c:AV)(s:St):zb Z a b c s=Z.ak s (fun d s=>C9 Z a b d s) (au .add c (.int .i64 1)):=h.mm
theorem VL(h:Z.OK)(b c a:AV)(s:St):aeF Z b c a s=Z.aX s (fun e s=>Z.aj s (fun f s=>Z.aq s (fun d s=>Z.ak s (fun g s=>Z.aH g (Z.dh [.int .i64 0, .int .i64 0] [(0,1,a),(1,1,(.int .i64 0))] s (fun i s=>Z.dh [.int .i64 0, .int .i64 0] [(0,1,a),(1,1,(.int .i64 1))] s (fun j s=>Z.aF s (fun m s=>Z.cz s (fun o s=>zb Z b o a s) 2 16 (some (.l 0)) c m) 2 [i,j]))) (Z.ak s (fun p s=>Z.aH p (Z.dh [.int .i64 0, .int .i64 0] [(0,1,a),(1,1,(.int .i64 0))] s (fun q s=>Z.aF s (fun r s=>Z.cz s (fun t s=>zb Z b t a s) 2 16 (some (.l 0)) c r) 2 [q])) (zb Z b c a s)) (au .eql d (.int .i64 2)))) (au .eql d (.int .i64 1))) none f) 1 e) 12 b a:=h.mm
theorem VM(h:Z.OK)(a:AV)(s:St):aeG Z a s=Z.aI false [some a] s:=h.mm
theorem Ft(h:Z.OK)(a b c:AV)(s:St):C9 Z a b c s=Z.aV s (fun d s=>Z.ak s (fun e s=>Z.aH e (aeF Z a b c s) (aeG Z b s)) (au .lss c d)) false a:=h.ll
theorem avj(a:AV)(s:St):f49 Z a s=C9 Z a (.sl 2 [] .nil) (.int .i64 0) s:=by kernel_rfl
theorem ag7(a:AV)(s:St):aJ T1 G X 49 [a] s=f49 (PP T1 G X) a s.ai:=aY T1 G X (fn:=c49)
def aA8:KK:=c9 (aD Z ajT) (aO Z c50)
def amR:KK:=bu 0 (aA8 Z)
def Fu:Mk:=cf 3382
def amS:KK:=cA Fu (Z.aW (aD Z UN) Fu) (amR Z)
def aA9:Mk:=cf 53
def K8(a b c:AV)(s:St):ax:=Z.aE Fu ajQ (sN (sD (sL b) .e) a (sD (sL c) .e)) s (amS Z)
def aeH(a b c:AV)(s:St):ax:=Z.aE Fu ajR (sN (sD (sL b) .e) a (sD (sL c) .e)) s (amS Z)
def aeI(a:AV)(s:St):ax:=Z.aE aA9 ajS (sD (sD (sL a) .e) .e) s (aO Z c50)
def Da(a b c:AV)(s:St):ax:=Z.aW (aD Z UN) Fu (sN (sD (sL b) .e) a (sD (sL c) .e)) s (amR Z)
def f50(a:AV)(s:St):ax:=aR [a] 0 .e fun fr=>aD Z ajU fr s (aO Z c50)
theorem Fv(h:Z.OK)(a b c:AV)(s:St):K8 Z a b c s=Z.ak s (fun d s=>Da Z a b d s) (au .add c (.int .i64 1)):=h.mm
theorem VN(h:Z.OK)(b c a:AV)(s:St):aeH Z b c a s=Z.aX s (fun e s=>Z.aj s (fun f s=>Z.aq s (fun g s=>Z.aB s (fun d s=>Z.bk s (fun o s=>Z.bk s (fun p s=>Z.bk s (fun i s=>Z.aH i (Z.aF s (fun j s=>Z.cz s (fun m s=>K8 Z b m a s) 1 8 (some (.l 0)) c j) 1 [a]) (K8 Z b c a s)) 2 d) 1 d) 0 d) 83 [(AV.av s.aa g)]) none f) 1 e) 12 b a:=h.mm
theorem VO(h:Z.OK)(a:AV)(s:St):aeI Z a s=Z.aI false [some a] s:=h.mm
theorem Fw(h:Z.OK)(a b c:AV)(s:St):Da Z a b c s=Z.aV s (fun d s=>Z.ak s (fun e s=>Z.aH e (aeH Z a b c s) (aeI Z b s)) (au .lss c d)) false a:=h.ll
theorem avk(a:AV)(s:St):f50 Z a s=Da Z a (.sl 1 [] .nil) (.int .i64 0) s:=by kernel_rfl
theorem ag8(a:AV)(s:St):aJ T1 G X 50 [a] s=f50 (PP T1 G X) a s.ai:=aY T1 G X (fn:=c50)
def aBa:Mk:=cf 14
def aeJ(a b:AV)(s:St):ax:=Z.aE aBa ajW (sN (sL b) a .e) s (aO Z M1)
def f65(a b:AV)(s:St):ax:=aR [a,b] 0 .e fun fr=>aD Z ajX fr s (aO Z M1)
theorem VP(h:Z.OK)(a b:AV)(s:St):aeJ Z a b s=Z.aX s (fun c s=>Z.aj s (fun d s=>Z.aq s (fun e s=>Z.aB s (fun f s=>Z.aI false [some f,some (.int .i64 0)] s) 85 [(AV.av s.aa e)]) none d) 1 c) 12 a b:=h.mm
theorem avl(a b:AV)(s:St):f65 Z a b s=Z.aB s (fun c s=>Z.ak s (fun d s=>Z.aH d (Z.aI false [some (.int .i64 0),some c] s) (aeJ Z a b s)) (au .neq c (.int .i64 0))) 106 [(AV.av s.aa a),(AV.av s.aa b)]:=by kernel_rfl
theorem ag9(a b:AV)(s:St):aJ T1 G X 65 [a,b] s=f65 (PP T1 G X) a b s.ai:=aY T1 G X (fn:=M1)
def aBb:Mk:=cf 56550
def aBc:KK:=c9 (aD Z ZP) (aO Z Ii)
def amT:KK:=bu 0 (aBc Z)
def Fx:Mk:=cf 0x3453449cd1e6
def amU:KK:=cA Fx (Z.aW (aD Z UP) Fx) (amT Z)
def avm:Mk:=cf 53478
def aeK:Mk:=cf 3382
def aeL(a b c d e f g i:AV)(s:St):ax:=Z.aE Fx aj3 (sN (sD (sN (sL e) b (sD .e (sD (sL g) .e))) (sL d)) a (sD (sN .e c (sD .e (sD (sL i) .e))) (sD (sD .e (sD (sL f) .e)) .e))) s (amU Z)
def aeM(a b c d e f g i:AV)(s:St):ax:=Z.aE Fx aj4 (sN (sD (sN (sL e) b (sD .e (sD (sL g) .e))) (sL d)) a (sD (sN .e c (sD .e (sD (sL i) .e))) (sD (sD .e (sD (sL f) .e)) .e))) s (amU Z)
def K9(a b c:AV)(s:St):ax:=Z.aE aeK aj5 (sN (sD (sL b) .e) a (sD (sL c) .e)) s (aO Z Ii)
def La(a b c:AV)(s:St):ax:=Z.aE aeK aj6 (sN (sD (sL b) .e) a (sD (sL c) .e)) s (aO Z Ii)
def Lb(a b c d:AV)(s:St):ax:=Z.aE avm ZO (sN (sD (sN (sL d) b .e) .e) a (sD (sL c) .e)) s (aO Z Ii)
def Db(a b c d e f g i:AV)(s:St):ax:=Z.aW (aD Z UP) Fx (sN (sD (sN (sL e) b (sD .e (sD (sL g) .e))) (sL d)) a (sD (sN .e c (sD .e (sD (sL i) .e))) (sD (sD .e (sD (sL f) .e)) .e))) s (amT Z)
def aeN(a b c d e:AV)(s:St):ax:=Z.aE aBb ZQ (sN (sD (sN (sL e) b .e) (sL d)) a (sD (sL c) .e)) s (aO Z Ii)
def f70(a:AV)(s:St):ax:=aR [a] 0 .e fun fr=>aD Z aj7 fr s (aO Z Ii)
theorem VQ(h:Z.OK)(a b c d e f g i:AV)(s:St):aeL Z a b c d e f g i s=Z.ak s (fun j s=>Db Z a b c d e f g j s) (au .add i (.int .i64 1)):=h.mm
theorem VS(h:Z.OK)(d e j f m g o b:AV)(s:St):aeM Z d e j f m g o b s=Z.aX s (fun p s=>Z.aq s (fun i s=>Z.ak s (fun c s=>Z.ah c false (fun k=>k i s) s (fun q s=>Z.ah c false (fun k=>k e s) s (fun r s=>Z.ah c false (fun k=>Z.ak s k (au .geq q r)) s (fun t s=>Z.aZ s (fun a s=>Z.ah a false (fun k=>k f s) s (fun u s=>Z.ah a false (fun k=>k b s) s (fun w s=>Z.ah a false (fun k=>Z.aX s k 1 u w) s (fun x s=>Z.ah a false (fun k=>Z.aq s k none x) s (fun y s=>Z.ah a false (fun k=>k d s) s (fun z s=>Z.ah a false (fun k=>k i s) s (fun A s=>Z.ah a false (fun k=>Z.aX s k 12 z A) s (fun B s=>Z.ah a false (fun k=>Z.aq s k (some 12) B) s (fun C s=>Z.ah a false (fun k=>Z.qp s k 74 [(AV.av s.aa C)]) s (fun D s=>Z.ah a false (fun k=>Z.aB s k 103 [(AV.av s.aa y),(AV.av s.aa D)]) s (fun E s=>Z.ah a false (fun k=>Z.ak s k (kL .not E)) s (fun F s=>Z.aZ s (fun H s=>Z.aH H (Z.aI false [some (.bool false)] s) (aeL Z d e j f m g o b s)) a (.bool true) F)))))))))))) c (.bool true) t)))) (au .lss i (.int .i64 0))) none p) 1 g b:=h.mm
theorem VT(h:Z.OK)(a b c:AV)(s:St):K9 Z a b c s=Z.lh 12 a none (some b) none s (fun d s=>Z.fG (.fn 119 [(AV.av s.aa c)]) s (fun e s=>Z.aB s (fun f s=>Z.ak s (fun g s=>Z.aI false [some g] s) (kL .not f)) 118 [(AV.av s.aa d),(AV.av s.aa e)])):=h.mm
theorem VU(h:Z.OK)(m o a:AV)(s:St):La Z m o a s=Z.aj s (fun q s=>Z.aq s (fun r s=>Z.ak s (fun i s=>Z.ah i false (fun k=>Z.aj s k 1 a) s (fun t s=>Z.ah i false (fun k=>Z.aq s k none t) s (fun u s=>Z.ah i false (fun k=>Z.ak s k (au .eql u (.int .i64 2))) s (fun w s=>Z.aZ s (fun b s=>Z.aj s (fun x s=>Z.aq s (fun y s=>Z.ak s (fun p s=>Z.ah b true (fun k=>Z.aj s k 3 a) s (fun z s=>Z.ah b true (fun k=>Z.aq s k (some 4) z) s (fun A s=>Z.ah b true (fun k=>Z.aB s k 116 [(AV.av s.aa A)]) s (fun B s=>Z.ah b true (fun k=>Z.ak s k (kL .not B)) s (fun C s=>Z.aZ s (fun c s=>Z.ah c false (fun k=>k b s) s (fun D s=>Z.ah c false (fun k=>Z.ak s k (kL .not D)) s (fun E s=>Z.ah c false (fun k=>k E s) s (fun d s=>Z.ah d true (fun k=>Z.aj s k 3 a) s (fun F s=>Z.ah d true (fun k=>Z.aq s k (some 4) F) s (fun H s=>Z.ah d true (fun k=>Z.aB s k 117 [(AV.av s.aa H)]) s (fun I s=>Z.ah d true (fun k=>Z.ak s k (kL .not I)) s (fun J s=>Z.ah c false (fun k=>Z.aZ s k d J (.bool false)) s (fun K s=>Z.aZ s (fun j s=>Z.ah j false (fun k=>k p s) s (fun L s=>Z.ah j false (fun k=>k L s) s (fun e s=>Z.ah e true (fun k=>Z.aj s k 7 a) s (fun M s=>Z.ah e true (fun k=>Z.aq s k (some 4) M) s (fun N s=>Z.ah e true (fun k=>Z.aB s k 116 [(AV.av s.aa N)]) s (fun O s=>Z.ah e true (fun k=>Z.ak s k (kL .not O)) s (fun P s=>Z.ah j false (fun k=>Z.aZ s k e P (.bool false)) s (fun Q s=>Z.aZ s (fun f s=>Z.ah f false (fun k=>k p s) s (fun R s=>Z.ah f false (fun k=>Z.ak s k (kL .not R)) s (fun S s=>Z.ah f false (fun k=>k S s) s (fun g s=>Z.ah g true (fun k=>Z.aj s k 7 a) s (fun T s=>Z.ah g true (fun k=>Z.aq s k (some 4) T) s (fun U s=>Z.ah g true (fun k=>Z.aB s k 117 [(AV.av s.aa U)]) s (fun V s=>Z.ah g true (fun k=>Z.ak s k (kL .not V)) s (fun W s=>Z.ah f false (fun k=>Z.aZ s k g W (.bool false)) s (fun Y s=>Z.aZ s (fun va s=>Z.aH va (Z.aI false [some (.bool false)] s) (K9 Z m o a s)) f (.bool true) Y))))))))) j (.bool true) Q)))))))) c (.bool true) K))))))))) b C (.bool false)))))) (au .eql y (.int .i64 1))) none x) 1 a) i (.bool true) w)))) (au .eql r (.int .i64 1))) none q) 1 a:=h.mm
theorem VV(h:Z.OK)(f g a e:AV)(s:St):Lb Z f g a e s=Z.aj s (fun i s=>Z.aq s (fun j s=>Z.ak s (fun c s=>Z.ah c false (fun k=>Z.aj s k 11 a) s (fun m s=>Z.ah c false (fun k=>Z.aq s k none m) s (fun o s=>Z.ah c false (fun k=>Z.ak s k (au .eql o (.int .i64 2))) s (fun p s=>Z.aZ s (fun q s=>Z.ak s (fun b s=>Z.ah b false (fun k=>k e s) s (fun r s=>Z.ah b false (fun k=>Z.ak s k (kL .not r)) s (fun t s=>Z.ah b false (fun k=>k t s) s (fun d s=>Z.ah d true (fun k=>Z.aj s k 11 a) s (fun u s=>Z.ah d true (fun k=>Z.aq s k none u) s (fun w s=>Z.ah d true (fun k=>Z.ak s k (au .neq w (.int .i64 0))) s (fun x s=>Z.ah b false (fun k=>Z.aZ s k d x (.bool false)) s (fun y s=>Z.aZ s (fun z s=>Z.aH z (Z.aI false [some (.bool false)] s) (La Z f g a s)) b (.bool true) y)))))))) ((tE .bool e q).map fun b=>.bool (bif true then !b else b))) c (.bool true) p)))) (au .eql j (.int .i64 1))) none i) 11 a:=h.mm
theorem Fy(h:Z.OK)(a b c g d i e f:AV)(s:St):Db Z a b c g d i e f s=Z.ak s (fun j s=>Z.aH j (aeM Z a b c g d i e f s) (Lb Z a b c d s)) (au .lss f e):=h.ll
theorem VW(h:Z.OK)(b c a d e:AV)(s:St):aeN Z b c a d e s=Z.aj s (fun g s=>Z.aq s (fun f s=>Z.aV s (fun i s=>Db Z b c a d e f i (.int .i64 0) s) false f) none g) 2 a:=h.mm
theorem avn(c:AV)(s:St):f70 Z c s=Z.aV s (fun i s=>Z.ak s (fun f s=>Z.aX s (fun j s=>Z.aq s (fun m s=>Z.fG (.ref (.l s.own.length) 0) (s.new (.cells [.str [], .int .i64 0, .sl 1 [] .nil, .bool false, .sl 1 [] .nil, .bool false, .sl 1 [] .nil, .bool false, .sl 1 [] .nil, .bool false, .sl 1 [] .nil, .int .i64 0])) (fun b s=>Z.a7 s (fun _v s=>Z.aj s (fun o s=>Z.aq s (fun p s=>Z.aB s (fun e s=>Z.bk s (fun g s=>Z.bk s (fun q s=>Z.bk s (fun r s=>Z.ak s (fun a s=>Z.ah a false (fun k=>k g s) s (fun t s=>Z.ah a false (fun k=>Z.aV s k false t) s (fun u s=>Z.ah a false (fun k=>Z.aj s k 2 b) s (fun w s=>Z.ah a false (fun k=>Z.aq s k none w) s (fun x s=>Z.ah a false (fun k=>Z.aV s k false x) s (fun y s=>Z.ah a false (fun k=>Z.ak s k (au .neq u y)) s (fun z s=>Z.aZ s (fun d s=>Z.ah d false (fun k=>Z.aj s k 0 b) s (fun A s=>Z.ah d false (fun k=>Z.aq s k none A) s (fun B s=>Z.ah d false (fun k=>Z.ak s k (au .eql B (.str []))) s (fun C s=>Z.aZ s (fun D s=>Z.aH D (Z.aI false [some (.bool false)] s) (aeN Z c f b g r s)) d (.bool true) C)))) a (.bool true) z))))))) (au .eql q (.int .i64 0))) 2 e) 1 e) 0 e) 115 [(AV.av s.aa p)]) none o) 1 b) 12 b (AV.av s.aa m))) (some 12) j) 12 c f) (au .sub i (.int .i64 1))) false c:=by kernel_rfl
theorem aha(a:AV)(s:St):aJ T1 G X 70 [a] s=f70 (PP T1 G X) a s.ai:=aY T1 G X (fn:=Ii)
def f71(a:AV)(s:St):ax:=aR [a] 0 .e fun fr=>aD Z aj8 fr s (aO Z c71)
theorem avo(b:AV)(s:St):f71 Z b s=Z.dN b s (fun c s=>Z.aj s (fun d s=>Z.aq s (fun e s=>Z.aB s (fun a s=>Z.bk s (fun g s=>Z.bk s (fun i s=>Z.bk s (fun f s=>Z.aI false [some f] s) 2 a) 1 a) 0 a) 115 [(AV.av s.aa e)]) none d) 1 c):=by kernel_rfl
theorem ahb(a:AV)(s:St):aJ T1 G X 71 [a] s=f71 (PP T1 G X) a s.ai:=aY T1 G X (fn:=c71)
def aBd:KK:=c9 (aD Z akd) (aO Z c72)
def amV:KK:=bu 0 (aBd Z)
def FA:Mk:=cf 0x3350e5
def amW:KK:=cA FA (Z.aW (aD Z UQ) FA) (amV Z)
def aBe:Mk:=cf 53
def zc(a b c d:AV)(s:St):ax:=Z.aE FA aka (sD (sD (sN (sL c) a .e) .e) (sD (sD (sL d) .e) (sL b))) s (amW Z)
def aeO(a b c d:AV)(s:St):ax:=Z.aE FA akb (sD (sD (sN (sL c) a .e) .e) (sD (sD (sL d) .e) (sL b))) s (amW Z)
def aeP(a:AV)(s:St):ax:=Z.aE aBe akc (sD (sD (sL a) .e) .e) s (aO Z c72)
def Dc(a b c d:AV)(s:St):ax:=Z.aW (aD Z UQ) FA (sD (sD (sN (sL c) a .e) .e) (sD (sD (sL d) .e) (sL b))) s (amV Z)
def f72(a:AV)(s:St):ax:=aR [a] 0 .e fun fr=>aD Z ake fr s (aO Z c72)
theorem FB(h:Z.OK)(a b c d:AV)(s:St):zc Z a b c d s=Z.ak s (fun e s=>Dc Z a b c e s) (au .add d (.int .i64 1)):=h.mm
theorem VX(h:Z.OK)(c b d a:AV)(s:St):aeO Z c b d a s=Z.aX s (fun g s=>Z.aq s (fun i s=>Z.fG (.ref (.l s.own.length) 0) (s.new (.cells [.str [], .int .i64 0, .sl 1 [] .nil, .bool false, .sl 1 [] .nil, .bool false, .sl 1 [] .nil, .bool false, .sl 1 [] .nil, .bool false, .sl 1 [] .nil, .int .i64 0])) (fun e s=>Z.a7 s (fun _v s=>Z.aj s (fun j s=>Z.aq s (fun f s=>Z.ak s (fun m s=>Z.aH m (Z.dh [.int .i64 0, .int .i64 0] [(0,1,a),(1,1,(.int .i64 0))] s (fun o s=>Z.dh [.int .i64 0, .int .i64 0] [(0,1,a),(1,1,(.int .i64 1))] s (fun p s=>Z.aF s (fun q s=>Z.cz s (fun r s=>zc Z r b d a s) 2 16 (some (.l 0)) c q) 2 [o,p]))) (Z.ak s (fun t s=>Z.aH t (Z.dh [.int .i64 0, .int .i64 0] [(0,1,a),(1,1,(.int .i64 0))] s (fun u s=>Z.aF s (fun w s=>Z.cz s (fun x s=>zc Z x b d a s) 2 16 (some (.l 0)) c w) 2 [u])) (zc Z c b d a s)) (au .eql f (.int .i64 2)))) (au .eql f (.int .i64 1))) none j) 1 e) 12 e (AV.av s.aa i))) (some 12) g) 12 b a:=h.mm
theorem VY(h:Z.OK)(a:AV)(s:St):aeP Z a s=Z.aI false [some a] s:=h.mm
theorem FC(h:Z.OK)(a d b c:AV)(s:St):Dc Z a d b c s=Z.ak s (fun e s=>Z.aH e (aeO Z a d b c s) (aeP Z a s)) (au .lss c b):=h.ll
theorem avp(a:AV)(s:St):f72 Z a s=Z.aV s (fun b s=>Dc Z (.sl 2 [] .nil) a b (.int .i64 0) s) false a:=by kernel_rfl
theorem ahc(a:AV)(s:St):aJ T1 G X 72 [a] s=f72 (PP T1 G X) a s.ai:=aY T1 G X (fn:=c72)
def aBf:Mk:=cf 14
def aeQ(s:St):ax:=Z.aE .e akg .e s (aO Z c73)
def Lc(a b:AV)(s:St):ax:=Z.aE aBf akh (sN (sL b) a .e) s (aO Z c73)
def f73(a b:AV)(s:St):ax:=aR [a,b] 0 .e fun fr=>aD Z aki fr s (aO Z c73)
theorem VZ(h:Z.OK)(s:St):aeQ Z s=Z.aI false [some (.int .i64 0)] s:=h.mm
theorem V0(h:Z.OK)(c b:AV)(s:St):Lc Z c b s=Z.ak s (fun a s=>Z.ah a false (fun k=>k b s) s (fun d s=>Z.ah a false (fun k=>k c s) s (fun e s=>Z.ah a false (fun k=>Z.aV s k false e) s (fun f s=>Z.ah a false (fun k=>Z.ak s k (au .geq d f)) s (fun g s=>Z.aZ s (fun i s=>Z.aH i (Z.aI false [some (.int .i64 1)] s) (aeQ Z s)) a (.bool true) g))))) (au .lss b (.int .i64 0)):=h.mm
theorem avq(a b:AV)(s:St):f73 Z a b s=Z.aB s (fun c s=>Z.ak s (fun d s=>Z.aH d (Z.aI false [some c] s) (Lc Z a b s)) (au .neq c (.int .i64 0))) 42 [(AV.av s.aa a)]:=by kernel_rfl
theorem ahd(a b:AV)(s:St):aJ T1 G X 73 [a,b] s=f73 (PP T1 G X) a b s.ai:=aY T1 G X (fn:=c73)
def f74(a:AV)(s:St):ax:=aR [a] 0 .e fun fr=>aD Z akk fr s (aO Z c74)
theorem avr(b:AV)(s:St):f74 Z b s=Z.dN b s (fun c s=>Z.aj s (fun d s=>Z.aq s (fun e s=>Z.aB s (fun a s=>Z.bk s (fun g s=>Z.bk s (fun f s=>Z.bk s (fun i s=>Z.aI false [some f] s) 2 a) 1 a) 0 a) 115 [(AV.av s.aa e)]) none d) 1 c):=by kernel_rfl
theorem ahe(a:AV)(s:St):aJ T1 G X 74 [a] s=f74 (PP T1 G X) a s.ai:=aY T1 G X (fn:=c74)
def aBg:KK:=c9 (aD Z aky) (aO Z Ki)
def amX:KK:=bu 0 (aBg Z)
def aBh:Mk:=cf 0x345c5
def aBi:Mk:=cf 0x3111c5
def aeR(s:St):ax:=Z.aE .e akx .e s (aO Z Ki)
def Ld(a b:AV)(s:St):ax:=Z.aE aBi akv (sD (sD .e (sL a)) (sD .e (sD .e (sD .e (sL b))))) s (amX Z)
def Lf(a b:AV)(s:St):ax:=Z.aE aBh akw (sD (sD .e (sL a)) (sD (sD .e (sD (sL b) .e)) .e)) s (amX Z)
def f83(a:AV)(s:St):ax:=aR [a] 0 .e fun fr=>aD Z akz fr s (aO Z Ki)
theorem V1(h:Z.OK)(s:St):aeR Z s=Z.aI false [some (.sl 1 [] .nil),some (.int .i64 0),some (.bool false)] s:=h.mm
theorem V2(h:Z.OK)(a b:AV)(s:St):Ld Z a b s=Z.aH b (Z.aF s (fun c s=>Z.aI false [some c,some (.int .i64 2),some (.bool false)] s) 1 [(.int .i64 1),(.int .i64 2)]) (Z.ak s (fun d s=>Z.aH d (Z.aF s (fun e s=>Z.aI false [some e,some (.int .i64 1),some (.bool false)] s) 1 [(.int .i64 1),(.int .i64 1)]) (Z.ak s (fun f s=>Z.aH f (Z.aF s (fun g s=>Z.aI false [some g,some (.int .i64 1),some (.bool false)] s) 1 [(.int .i64 1),(.int .i64 2)]) (Z.ak s (fun i s=>Z.aH i (Z.aF s (fun j s=>Z.aI false [some j,some (.int .i64 2),some (.bool true)] s) 1 [(.int .i64 1),(.int .i64 1),(.int .i64 1)]) (Z.ak s (fun m s=>Z.aH m (Z.aF s (fun o s=>Z.aI false [some o,some (.int .i64 2),some (.bool true)] s) 1 [(.int .i64 1),(.int .i64 3)]) (Z.ak s (fun p s=>Z.aH p (Z.aF s (fun q s=>Z.aI false [some q,some (.int .i64 1),some (.bool false)] s) 1 [(.int .i64 3)]) (aeR Z s)) (au .eql a (.int .i64 16)))) (au .eql a (.int .i64 15)))) (au .eql a (.int .i64 14)))) (au .eql a (.int .i64 13)))) (au .eql a (.int .i64 12))):=h.mm
theorem V3(h:Z.OK)(a b:AV)(s:St):Lf Z a b s=Z.aH b (Z.aF s (fun d s=>Z.aI false [some d,some (.int .i64 3),some (.bool false)] s) 1 [(.int .i64 1),(.int .i64 1),(.int .i64 1)]) (Z.ak s (fun e s=>Z.aH e (Z.aF s (fun f s=>Z.aI false [some f,some (.int .i64 1),some (.bool true)] s) 1 [(.int .i64 2),(.int .i64 3)]) (Z.ak s (fun g s=>Z.aH g (Z.aF s (fun i s=>Z.aI false [some i,some (.int .i64 1),some (.bool true)] s) 1 [(.int .i64 3),(.int .i64 3)]) (Z.ak s (fun c s=>Z.aH c (Ld Z a c s) (Z.ak s (fun j s=>Ld Z a j s) (au .eql a (.int .i64 11)))) (au .eql a (.int .i64 10)))) (au .eql a (.int .i64 9)))) (au .eql a (.int .i64 8))):=h.mm
theorem avs(a:AV)(s:St):f83 Z a s=Z.ak s (fun c s=>Z.aH c (Z.aI false [some (.sl 1 [] .nil),some (.int .i64 1),some (.bool false)] s) (Z.ak s (fun d s=>Z.aH d (Z.aF s (fun e s=>Z.aI false [some e,some (.int .i64 1),some (.bool false)] s) 1 [(.int .i64 0)]) (Z.ak s (fun f s=>Z.aH f (Z.aF s (fun g s=>Z.aI false [some g,some (.int .i64 2),some (.bool false)] s) 1 [(.int .i64 1),(.int .i64 1)]) (Z.ak s (fun i s=>Z.aH i (Z.aF s (fun j s=>Z.aI false [some j,some (.int .i64 1),some (.bool false)] s) 1 [(.int .i64 2),(.int .i64 2)]) (Z.ak s (fun m s=>Z.aH m (Z.aF s (fun o s=>Z.aI false [some o,some (.int .i64 3),some (.bool false)] s) 1 [(.int .i64 1),(.int .i64 1)]) (Z.ak s (fun b s=>Z.aH b (Lf Z a b s) (Z.ak s (fun p s=>Lf Z a p s) (au .eql a (.int .i64 7)))) (au .eql a (.int .i64 6)))) (au .eql a (.int .i64 5)))) (au .eql a (.int .i64 4)))) (au .eql a (.int .i64 3)))) (au .eql a (.int .i64 2)))) (au .eql a (.int .i64 1)):=by kernel_rfl
theorem ahf(a:AV)(s:St):aJ T1 G X 83 [a] s=f83 (PP T1 G X) a s.ai:=aY T1 G X (fn:=Ki)
def aBj:Mk:=cf 14
def aeS(a b:AV)(s:St):ax:=Z.aE aBj akA (sN (sL b) a .e) s (aO Z c84)
def f84(a b:AV)(s:St):ax:=aR [a,b] 0 .e fun fr=>aD Z akB fr s (aO Z c84)
theorem V4(h:Z.OK)(a b:AV)(s:St):aeS Z a b s=Z.ak s (fun c s=>Z.aI false [some c] s) (au .eql a b):=h.mm
theorem avt(a b:AV)(s:St):f84 Z a b s=Z.ak s (fun d s=>Z.aH d (Z.ak s (fun c s=>Z.ah c false (fun k=>k a s) s (fun e s=>Z.ah c false (fun k=>Z.ak s k (au .eql e (.int .i64 3))) s (fun f s=>Z.aZ s (fun g s=>Z.aI false [some g] s) c (.bool true) f))) (au .eql a (.int .i64 2))) (aeS Z a b s)) (au .eql b (.int .i64 0)):=by kernel_rfl
theorem ahg(a b:AV)(s:St):aJ T1 G X 84 [a,b] s=f84 (PP T1 G X) a b s.ai:=aY T1 G X (fn:=c84)
def f85(a:AV)(s:St):ax:=aR [a] 0 .e fun fr=>aD Z akC fr s (aO Z c85)
theorem avu(b:AV)(s:St):f85 Z b s=Z.aB s (fun a s=>Z.bk s (fun d s=>Z.bk s (fun c s=>Z.bk s (fun e s=>Z.aI false [some c] s) 2 a) 1 a) 0 a) 83 [(AV.av s.aa b)]:=by kernel_rfl
theorem ahh(a:AV)(s:St):aJ T1 G X 85 [a] s=f85 (PP T1 G X) a s.ai:=aY T1 G X (fn:=c85)
def f87(a:AV)(s:St):ax:=aR [a] 0 .e fun fr=>aD Z akG fr s (aO Z c87)
theorem avv(a:AV)(s:St):f87 Z a s=Z.dN a s (fun b s=>Z.aq s (fun c s=>Z.dh [.bool false, .sl 1 [] .nil, .bool false, .sl 1 [] .nil] [] s (fun d s=>Z.aB s (fun e s=>Z.aI false [some e] s) 137 [(AV.av s.aa c),(AV.av s.aa d)])) (some 4) b):=by kernel_rfl
theorem ahi(a:AV)(s:St):aJ T1 G X 87 [a] s=f87 (PP T1 G X) a s.ai:=aY T1 G X (fn:=c87)
def f103(a b:AV)(s:St):ax:=aR [a,b] 0 .e fun fr=>aD Z ZR fr s (aO Z M2)
theorem amY(d c:AV)(s:St):f103 Z d c s=Z.ak s (fun a s=>Z.ah a false (fun k=>k d s) s (fun f s=>Z.ah a false (fun k=>Z.ak s k (au .eql f (.int .i64 0))) s (fun g s=>Z.ah a false (fun k=>k g s) s (fun b s=>Z.ah b true (fun k=>k c s) s (fun i s=>Z.ah b true (fun k=>Z.ak s k (au .eql i (.int .i64 2))) s (fun j s=>Z.ah b true (fun k=>k j s) s (fun e s=>Z.ah e false (fun k=>k c s) s (fun m s=>Z.ah e false (fun k=>Z.ak s k (au .eql m (.int .i64 3))) s (fun o s=>Z.ah b true (fun k=>Z.aZ s k e (.bool true) o) s (fun p s=>Z.ah a false (fun k=>Z.aZ s k b p (.bool false)) s (fun q s=>Z.aZ s (fun r s=>Z.aI false [some r] s) a (.bool true) q))))))))))) (au .eql c d):=by kernel_rfl
theorem V5(a b:AV)(s:St):aJ T1 G X 103 [a,b] s=f103 (PP T1 G X) a b s.ai:=aY T1 G X (fn:=M2)
def avw:Mk:=cf 197
def QL(a:AV)(s:St):ax:=Z.aE avw ZS (sD (sD .e (sL a)) .e) s (aO Z ZU)
def f106(a b:AV)(s:St):ax:=aR [a,b] 0 .e fun fr=>aD Z ZT fr s (aO Z ZU)
theorem Ck(h:Z.OK)(a:AV)(s:St):QL Z a s=Z.aI false [some a] s:=h.mm
theorem amZ(c d:AV)(s:St):f106 Z c d s=Z.aB s (fun e s=>Z.ak s (fun a s=>Z.ah a true (fun k=>k d s) s (fun f s=>Z.ah a true (fun k=>Z.ak s k (au .lss f (.int .i64 0))) s (fun g s=>Z.ah a true (fun k=>k g s) s (fun b s=>Z.ah b false (fun k=>k d s) s (fun i s=>Z.ah b false (fun k=>k c s) s (fun j s=>Z.ah b false (fun k=>Z.aV s k false j) s (fun m s=>Z.ah b false (fun k=>Z.ak s k (au .geq i m)) s (fun o s=>Z.ah a true (fun k=>Z.aZ s k b (.bool true) o) s (fun p s=>Z.aZ s (fun q s=>Z.aH q (Z.aI false [some (.int .i64 1)] s) (QL Z e s)) a p (.bool false)))))))))) (au .eql e (.int .i64 0))) 14 [(AV.av s.aa c)]:=by kernel_rfl
theorem V6(a b:AV)(s:St):aJ T1 G X 106 [a,b] s=f106 (PP T1 G X) a b s.ai:=aY T1 G X (fn:=ZU)
def avx:KK:=c9 (aD Z aaf) (aO Z ET)
def aeT:KK:=bu 0 (avx Z)
def avy:Mk:=cf 0x345c5
def avz:Mk:=cf 0x3111c5
def QM(s:St):ax:=Z.aE .e aae .e s (aO Z ET)
def FD(a b:AV)(s:St):ax:=Z.aE avz aac (sD (sD .e (sL a)) (sD .e (sD .e (sD .e (sL b))))) s (aeT Z)
def FF(a b:AV)(s:St):ax:=Z.aE avy aad (sD (sD .e (sL a)) (sD (sD .e (sD (sL b) .e)) .e)) s (aeT Z)
def f115(a:AV)(s:St):ax:=aR [a] 0 .e fun fr=>aD Z aag fr s (aO Z ET)
theorem QN(h:Z.OK)(s:St):QM Z s=Z.aI false [some (.sl 1 [] .nil),some (.int .i64 0),some (.bool false)] s:=h.mm
theorem QO(h:Z.OK)(a b:AV)(s:St):FD Z a b s=Z.aH b (Z.aF s (fun c s=>Z.aI false [some c,some (.int .i64 2),some (.bool false)] s) 1 [(.int .i64 1),(.int .i64 2)]) (Z.ak s (fun d s=>Z.aH d (Z.aF s (fun e s=>Z.aI false [some e,some (.int .i64 1),some (.bool false)] s) 1 [(.int .i64 1),(.int .i64 1)]) (Z.ak s (fun f s=>Z.aH f (Z.aF s (fun g s=>Z.aI false [some g,some (.int .i64 1),some (.bool false)] s) 1 [(.int .i64 1),(.int .i64 2)]) (Z.ak s (fun i s=>Z.aH i (Z.aF s (fun j s=>Z.aI false [some j,some (.int .i64 2),some (.bool true)] s) 1 [(.int .i64 1),(.int .i64 1),(.int .i64 1)]) (Z.ak s (fun m s=>Z.aH m (Z.aF s (fun o s=>Z.aI false [some o,some (.int .i64 2),some (.bool true)] s) 1 [(.int .i64 1),(.int .i64 3)]) (Z.ak s (fun p s=>Z.aH p (Z.aF s (fun q s=>Z.aI false [some q,some (.int .i64 1),some (.bool false)] s) 1 [(.int .i64 3)]) (QM Z s)) (au .eql a (.int .i64 16)))) (au .eql a (.int .i64 15)))) (au .eql a (.int .i64 14)))) (au .eql a (.int .i64 13)))) (au .eql a (.int .i64 12))):=h.mm
theorem QP(h:Z.OK)(a b:AV)(s:St):FF Z a b s=Z.aH b (Z.aF s (fun d s=>Z.aI false [some d,some (.int .i64 3),some (.bool false)] s) 1 [(.int .i64 1),(.int .i64 1),(.int .i64 1)]) (Z.ak s (fun e s=>Z.aH e (Z.aF s (fun f s=>Z.aI false [some f,some (.int .i64 1),some (.bool true)] s) 1 [(.int .i64 2),(.int .i64 3)]) (Z.ak s (fun g s=>Z.aH g (Z.aF s (fun i s=>Z.aI false [some i,some (.int .i64 1),some (.bool true)] s) 1 [(.int .i64 3),(.int .i64 3)]) (Z.ak s (fun c s=>Z.aH c (FD Z a c s) (Z.ak s (fun j s=>FD Z a j s) (au .eql a (.int .i64 11)))) (au .eql a (.int .i64 10)))) (au .eql a (.int .i64 9)))) (au .eql a (.int .i64 8))):=h.mm
theorem am0(a:AV)(s:St):f115 Z a s=Z.ak s (fun c s=>Z.aH c (Z.aI false [some (.sl 1 [] .nil),some (.int .i64 1),some (.bool false)] s) (Z.ak s (fun d s=>Z.aH d (Z.aF s (fun e s=>Z.aI false [some e,some (.int .i64 1),some (.bool false)] s) 1 [(.int .i64 0)]) (Z.ak s (fun f s=>Z.aH f (Z.aF s (fun g s=>Z.aI false [some g,some (.int .i64 2),some (.bool false)] s) 1 [(.int .i64 1),(.int .i64 1)]) (Z.ak s (fun i s=>Z.aH i (Z.aF s (fun j s=>Z.aI false [some j,some (.int .i64 1),some (.bool false)] s) 1 [(.int .i64 2),(.int .i64 2)]) (Z.ak s (fun m s=>Z.aH m (Z.aF s (fun o s=>Z.aI false [some o,some (.int .i64 3),some (.bool false)] s) 1 [(.int .i64 1),(.int .i64 1)]) (Z.ak s (fun b s=>Z.aH b (FF Z a b s) (Z.ak s (fun p s=>FF Z a p s) (au .eql a (.int .i64 7)))) (au .eql a (.int .i64 6)))) (au .eql a (.int .i64 5)))) (au .eql a (.int .i64 4)))) (au .eql a (.int .i64 3)))) (au .eql a (.int .i64 2)))) (au .eql a (.int .i64 1)):=by kernel_rfl
theorem V7(a:AV)(s:St):aJ T1 G X 115 [a] s=f115 (PP T1 G X) a s.ai:=aY T1 G X (fn:=ET)
def f117(a:AV)(s:St):ax:=aR [a] 0 .e fun fr=>aD Z aak fr s (aO Z akJ)
theorem am1(e:AV)(s:St):f117 Z e s=Z.dN e s (fun d s=>Z.aj s (fun f s=>Z.aj s (fun g s=>Z.aq s (fun i s=>Z.ak s (fun c s=>Z.ah c true (fun k=>Z.aj s k 2 d) s (fun j s=>Z.ah c true (fun k=>Z.aj s k 0 j) s (fun m s=>Z.ah c true (fun k=>Z.aq s k none m) s (fun o s=>Z.ah c true (fun k=>Z.ak s k (kL .not o)) s (fun p s=>Z.aZ s (fun a s=>Z.ah a true (fun k=>Z.aj s k 0 d) s (fun q s=>Z.ah a true (fun k=>Z.aj s k 1 q) s (fun r s=>Z.ah a true (fun k=>Z.aq s k none r) s (fun t s=>Z.ah a true (fun k=>Z.aV s k false t) s (fun u s=>Z.ah a true (fun k=>Z.ak s k (au .eql u (.int .i64 0))) s (fun w s=>Z.aZ s (fun b s=>Z.ah b true (fun k=>Z.aj s k 2 d) s (fun x s=>Z.ah b true (fun k=>Z.aj s k 1 x) s (fun y s=>Z.ah b true (fun k=>Z.aq s k none y) s (fun z s=>Z.ah b true (fun k=>Z.aV s k false z) s (fun A s=>Z.ah b true (fun k=>Z.ak s k (au .eql A (.int .i64 0))) s (fun B s=>Z.aZ s (fun C s=>Z.aI false [some C] s) b B (.bool false))))))) a w (.bool false))))))) c p (.bool false)))))) (kL .not i)) none g) 0 f) 0 d):=by kernel_rfl
theorem V8(a:AV)(s:St):aJ T1 G X 117 [a] s=f117 (PP T1 G X) a s.ai:=aY T1 G X (fn:=akJ)
def f118(a b:AV)(s:St):ax:=aR [a,b] 0 .e fun fr=>aD Z aal fr s (aO Z akK)
theorem am2(a b:AV)(s:St):f118 Z a b s=Z.aB s (fun c s=>Z.ak s (fun d s=>Z.aI false [some d] s) (au .geq c (.int .i64 0))) 151 [(AV.av s.aa a),(AV.av s.aa b)]:=by kernel_rfl
theorem V9(a b:AV)(s:St):aJ T1 G X 118 [a,b] s=f118 (PP T1 G X) a b s.ai:=aY T1 G X (fn:=akK)
def f119(a b:AV)(s:St):ax:=aR [a,b] 0 .e fun fr=>aD Z aam fr s (aO Z akL)
theorem am3(a b:AV)(s:St):f119 Z a b s=Z.dN a s (fun c s=>Z.aj s (fun d s=>Z.aq s (fun e s=>Z.aj s (fun f s=>Z.aq s (fun g s=>Z.ak s (fun i s=>Z.aI false [some i] s) (au .eql e g)) none f) 0 b) none d) 0 c):=by kernel_rfl
theorem Wa(a b:AV)(s:St):aJ T1 G X 119 [a,b] s=f119 (PP T1 G X) a b s.ai:=aY T1 G X (fn:=akL)
def f137(a b:AV)(s:St):ax:=aR [a,b] 0 .e fun fr=>aD Z aa8 fr s (aO Z akX)
theorem am4(a b:AV)(s:St):f137 Z a b s=Z.dN a s (fun c s=>Z.dN b s (fun d s=>Z.aj s (fun f s=>Z.aq s (fun g s=>Z.aj s (fun i s=>Z.aq s (fun j s=>Z.aB s (fun e s=>Z.aj s (fun m s=>Z.aq s (fun o s=>Z.aj s (fun p s=>Z.aq s (fun q s=>Z.aB s (fun r s=>Z.ah e true (fun k=>k r s) s (fun t s=>Z.aZ s (fun u s=>Z.aI false [some u] s) e t (.bool false))) 162 [(AV.av s.aa o),(AV.av s.aa q)]) (some 2) p) 2 d) (some 2) m) 2 c) 162 [(AV.av s.aa g),(AV.av s.aa j)]) (some 2) i) 0 d) (some 2) f) 0 c)):=by kernel_rfl
theorem Wb(a b:AV)(s:St):aJ T1 G X 137 [a,b] s=f137 (PP T1 G X) a b s.ai:=aY T1 G X (fn:=akX)
def avA:KK:=c9 (aD Z abp) (aO Z Nj)
def aeU:KK:=bu 0 (avA Z)
def zd:Mk:=cf 0x350da
def aeV:KK:=cA zd (Z.aW (aD Z Ku) zd) (aeU Z)
def QQ(a b c d:AV)(s:St):ax:=Z.aE zd abm (sN (sN (sD (sL c) .e) b .e) a (sD (sD (sL d) .e) .e)) s (aeV Z)
def QR(a b c d:AV)(s:St):ax:=Z.aE zd abn (sN (sN (sD (sL c) .e) b .e) a (sD (sD (sL d) .e) .e)) s (aeV Z)
def QS(s:St):ax:=Z.aE .e abo .e s (aO Z Nj)
def ze(a b c d:AV)(s:St):ax:=Z.aW (aD Z Ku) zd (sN (sN (sD (sL c) .e) b .e) a (sD (sD (sL d) .e) .e)) s (aeU Z)
def f151(a b:AV)(s:St):ax:=aR [a,b] 0 .e fun fr=>aD Z abq fr s (aO Z Nj)
theorem QT(h:Z.OK)(a b c d:AV)(s:St):QQ Z a b c d s=Z.ak s (fun e s=>ze Z a b c e s) (au .add d (.int .i64 1)):=h.mm
theorem QU(h:Z.OK)(b c d a:AV)(s:St):QR Z b c d a s=Z.aX s (fun e s=>Z.aq s (fun f s=>Z.kr s (fun g s=>Z.aH g (Z.aI false [some a] s) (QQ Z b c d a s)) c [(AV.av s.aa f)]) (some 12) e) 12 b a:=h.mm
theorem QV(h:Z.OK)(s:St):QS Z s=Z.aI false [some (.int .i64 (-1))] s:=h.mm
theorem Cl(h:Z.OK)(c d a b:AV)(s:St):ze Z c d a b s=Z.ak s (fun e s=>Z.aH e (QR Z c d a b s) (QS Z s)) (au .lss b a):=h.ll
theorem am5(a b:AV)(s:St):f151 Z a b s=Z.aV s (fun c s=>ze Z a b c (.int .i64 0) s) false a:=by kernel_rfl
theorem Wc(a b:AV)(s:St):aJ T1 G X 151 [a,b] s=f151 (PP T1 G X) a b s.ai:=aY T1 G X (fn:=Nj)
def avB:Mk:=cf 821
def avC:KK:=c9 (aD Z ace) (aO Z I0)
def aeW:KK:=bu 0 (avC Z)
def zf:Mk:=cf 1013
def aeX:KK:=cA zf (Z.aW (aD Z KE) zf) (aeW Z)
def QW(a b c:AV)(s:St):ax:=Z.aE zf aca (sD (sD (sL b) (sL c)) (sL a)) s (aeX Z)
def QX(a b c:AV)(s:St):ax:=Z.aE zf acb (sD (sD (sL b) (sL c)) (sL a)) s (aeX Z)
def QY(s:St):ax:=Z.aE .e acd .e s (aO Z I0)
def zg(a b c:AV)(s:St):ax:=Z.aW (aD Z KE) zf (sD (sD (sL b) (sL c)) (sL a)) s (aeW Z)
def QZ(a b:AV)(s:St):ax:=Z.aE avB acf (sD (sD (sL b) .e) (sL a)) s (aO Z I0)
def f162(a b:AV)(s:St):ax:=aR [a,b] 0 .e fun fr=>aD Z acg fr s (aO Z I0)
theorem Q0(h:Z.OK)(a b c:AV)(s:St):QW Z a b c s=Z.ak s (fun d s=>zg Z a b d s) (au .add c (.int .i64 1)):=h.mm
theorem Q1(h:Z.OK)(b c a:AV)(s:St):QX Z b c a s=Z.aj s (fun d s=>Z.aq s (fun e s=>Z.aX s (fun f s=>Z.aq s (fun g s=>Z.aj s (fun i s=>Z.aq s (fun j s=>Z.aX s (fun m s=>Z.aq s (fun o s=>Z.ak s (fun p s=>Z.aH p (Z.aI false [some (.bool false)] s) (QW Z b c a s)) (au .neq g o)) none m) 1 j a) none i) 1 c) none f) 1 e a) none d) 1 b:=h.mm
theorem Q2(h:Z.OK)(s:St):QY Z s=Z.aI false [some (.bool true)] s:=h.mm
theorem Cm(h:Z.OK)(a c b:AV)(s:St):zg Z a c b s=Z.aj s (fun d s=>Z.aq s (fun e s=>Z.aV s (fun f s=>Z.ak s (fun g s=>Z.aH g (QX Z a c b s) (QY Z s)) (au .lss b f)) false e) none d) 1 a:=h.ll
theorem Q3(h:Z.OK)(a b:AV)(s:St):QZ Z a b s=zg Z a b (.int .i64 0) s:=h.mm
theorem am6(d e:AV)(s:St):f162 Z d e s=Z.dN d s (fun b s=>Z.dN e s (fun c s=>Z.aj s (fun f s=>Z.aq s (fun g s=>Z.aj s (fun i s=>Z.aq s (fun j s=>Z.ak s (fun a s=>Z.ah a false (fun k=>Z.aj s k 1 b) s (fun m s=>Z.ah a false (fun k=>Z.aq s k none m) s (fun o s=>Z.ah a false (fun k=>Z.aV s k false o) s (fun p s=>Z.ah a false (fun k=>Z.aj s k 1 c) s (fun q s=>Z.ah a false (fun k=>Z.aq s k none q) s (fun r s=>Z.ah a false (fun k=>Z.aV s k false r) s (fun t s=>Z.ah a false (fun k=>Z.ak s k (au .neq p t)) s (fun u s=>Z.aZ s (fun w s=>Z.aH w (Z.aI false [some (.bool false)] s) (QZ Z b c s)) a (.bool true) u)))))))) ((tE .bool g j).map fun b=>.bool (bif true then !b else b))) none i) 0 c) none f) 0 b)):=by kernel_rfl
theorem Wd(a b:AV)(s:St):aJ T1 G X 162 [a,b] s=f162 (PP T1 G X) a b s.ai:=aY T1 G X (fn:=I0)
def aBk:Mk:=cf 50
def aBl:KK:=c9 (aD Z Zd) (aO Z c11)
def am7:KK:=bu 0 (aBl Z)
def FG:Mk:=cf 0x316318c56
def We:KK:=cA FG (Z.aW (aD Z Ka) FG) (am7 Z)
def aBm:KK:=c9 (aD Z Za) (We Z)
def Wf:KK:=bu 1 (aBm Z)
def avD:KK:=c9 (aD Z aiQ) (Wf Z)
def aeY:KK:=bu 2 (avD Z)
def zh:Mk:=cf 0x3113366328cd96
def aeZ:KK:=cA zh (Z.aW (aD Z UB) zh) (aeY Z)
def ae0:Mk:=cf 0x326328c96
def avE:Mk:=cf 965
def ae1(a b c d e f g i j m o p:AV)(s:St):ax:=Z.aE zh aiM (sN (sD (sD (sN (sD (sL o) .e) d (sL g)) .e) (sN (sN .e f (sL j)) c .e)) a (sN (sD (sN (sD (sL p) .e) e (sL i)) .e) b (sD .e (sD .e (sL m))))) s (aeZ Z)
def ae2(a b c d e f g i j m o p:AV)(s:St):ax:=Z.aE zh aiN (sN (sD (sD (sN (sD (sL o) .e) d (sL g)) .e) (sN (sN .e f (sL j)) c .e)) a (sN (sD (sN (sD (sL p) .e) e (sL i)) .e) b (sD .e (sD .e (sL m))))) s (aeZ Z)
def Dd(a b c d e f:AV)(s:St):ax:=Z.aE FG Y9 (sN (sD (sD (sD .e (sL d)) .e) (sN (sD .e (sL f)) c .e)) a (sN (sD (sD .e (sL e)) .e) b .e)) s (We Z)
def zi(a b c d e f g i j:AV)(s:St):ax:=Z.aE ae0 aiO (sN (sD (sD (sN .e d (sL g)) .e) (sN (sN .e f (sL j)) c .e)) a (sN (sD (sN .e e (sL i)) .e) b .e)) s (Wf Z)
def De(a b c d e f g i j:AV)(s:St):ax:=Z.aE ae0 aiP (sN (sD (sD (sN .e d (sL g)) .e) (sN (sN .e f (sL j)) c .e)) a (sN (sD (sN .e e (sL i)) .e) b .e)) s (Wf Z)
def Dg(a b c d e f g i j m o p:AV)(s:St):ax:=Z.aW (aD Z UB) zh (sN (sD (sD (sN (sD (sL o) .e) d (sL g)) .e) (sN (sN .e f (sL j)) c .e)) a (sN (sD (sN (sD (sL p) .e) e (sL i)) .e) b (sD .e (sD .e (sL m))))) s (aeY Z)
def Lg(a b c d e f:AV)(s:St):ax:=Z.aE FG Zb (sN (sD (sD (sD .e (sL d)) .e) (sN (sD .e (sL f)) c .e)) a (sN (sD (sD .e (sL e)) .e) b .e)) s (We Z)
def FH(a b:AV)(s:St):ax:=Z.aE avE Zc (sD (sD .e (sL b)) (sL a)) s (aO Z c11)
def Dh(a b c d e f:AV)(s:St):ax:=Z.aW (aD Z Ka) FG (sN (sD (sD (sD .e (sL d)) .e) (sN (sD .e (sL f)) c .e)) a (sN (sD (sD .e (sL e)) .e) b .e)) s (am7 Z)
def ae3(a b:AV)(s:St):ax:=Z.aE aBk Ze (sN .e a (sL b)) s (aO Z c11)
def f11(a:AV)(s:St):ax:=aR [a] 0 .e fun fr=>aD Z aiR fr s (aO Z c11)
theorem Wg(h:Z.OK)(a b c d e f g i j m o p:AV)(s:St):ae1 Z a b c d e f g i j m o p s=Z.ak s (fun q s=>Dg Z a b c d e f g i j m o q s) (au .add p (.int .i64 1)):=h.mm
theorem Wh(h:Z.OK)(a e b f g i j m o c p d:AV)(s:St):ae2 Z a e b f g i j m o c p d s=Z.aX s (fun t s=>Z.aq s (fun q s=>Z.aB s (fun r s=>Z.bk s (fun u s=>Z.bk s (fun H s=>Z.aG s (fun w s=>Z.aj s (fun x s=>Z.aj s (fun y s=>Z.aq s (fun z s=>Z.aX s (fun A s=>Z.aq s (fun B s=>Z.aF s (fun C s=>Z.cz s (fun D s=>Z.aF s (fun E s=>Z.mL s (fun F s=>ae1 Z a e b f D F j m o c p d s) 1 8 i E) 1 [u]) 1 24 (some (.l 0)) g C) 1 [B]) none A) 1 z q) none y) 2 x) 0 w) b) 1 r) 0 r) 43 [(AV.av s.aa a),(AV.av s.aa q)]) none t) 1 c d:=h.mm
theorem Wi(h:Z.OK)(a b c d e f:AV)(s:St):Dd Z a b c d e f s=Z.ak s (fun g s=>Dh Z a b c d e g s) (au .add f (.int .i64 1)):=h.mm
theorem Wj(h:Z.OK)(e f a d g c i j m:AV)(s:St):zi Z e f a d g c i j m s=Z.aV s (fun o s=>Z.ak s (fun b s=>Z.ah b true (fun k=>k c s) s (fun p s=>Z.ah b true (fun k=>Z.aX s k 1 p (.int .i64 0)) s (fun q s=>Z.ah b true (fun k=>Z.aq s k none q) s (fun r s=>Z.ah b true (fun k=>Z.ak s k (au .eql r (.int .i64 3))) s (fun t s=>Z.aZ s (fun u s=>Z.aj s (fun w s=>Z.aq s (fun x s=>Z.ak s (fun y s=>Z.aB s (fun N s=>Z.aG s (fun z s=>Z.aj s (fun A s=>Z.aj s (fun B s=>Z.aq s (fun C s=>Z.aj s (fun D s=>Z.aq s (fun E s=>Z.qp s (fun F s=>Z.mu s (fun H s=>Z.aF s (fun I s=>Z.cz s (fun J s=>Z.aG s (fun K s=>Z.aj s (fun L s=>Z.aj s (fun M s=>Z.a7 s (fun _v s=>Dd Z e f a i j m s) 1 M (AV.av s.aa J)) 2 L) 0 K) a) 1 24 (some (.l 0)) C I) 1 [H]) [(none,(oZ a 2))] 45 [(AV.av s.aa a),(AV.av s.aa F)]) 46 [(AV.av s.aa E),(AV.av s.aa u)]) none D) 1 d) none (w9 B a 2)) 2 A) 0 z) a) 44 [(AV.av s.aa a),(AV.av s.aa g),(AV.av s.aa c),(AV.av s.aa y)]) (au .eql x (.int .i64 4))) none w) 1 d) b t (.bool false)))))) (au .gtr o (.int .i64 0))) false c:=h.mm
theorem FI(h:Z.OK)(c d e b a f g i j:AV)(s:St):De Z c d e b a f g i j s=Z.aj s (fun m s=>Z.aq s (fun o s=>Z.ak s (fun p s=>Z.aH p (Z.lh 1 a none (some (.int .i64 1)) (some (.int .i64 1)) s (fun q s=>Z.aX s (fun r s=>Z.aq s (fun t s=>Z.aX s (fun u s=>Z.aq s (fun w s=>Z.aF s (fun x s=>Z.cz s (fun y s=>Z.aF s (fun z s=>Z.mL s (fun A s=>zi Z c d e b y A g i j s) 1 8 f z) 1 [(.int .i64 1)]) 1 24 (some (.l 0)) q x) 1 [t,w]) none u) 1 a (.int .i64 1)) none r) 1 a (.int .i64 0))) (zi Z c d e b a f g i j s)) (au .eql o (.int .i64 5))) none m) 1 b:=h.mm
theorem FJ(h:Z.OK)(a b c d e f g i j p m o:AV)(s:St):Dg Z a b c d e f g i j p m o s=Z.ak s (fun q s=>Z.aH q (ae2 Z a b c d e f g i j p m o s) (De Z a b c d e f g i j s)) (au .lss o m):=h.ll
theorem Wk(h:Z.OK)(d e f a g b:AV)(s:St):Lg Z d e f a g b s=Z.aX s (fun j s=>Z.aq s (fun m s=>Z.fG (.ref (.l s.own.length) 0) (s.new (.cells [.str [], .int .i64 0, .sl 1 [] .nil, .bool false, .sl 1 [] .nil, .bool false, .sl 1 [] .nil, .bool false, .sl 1 [] .nil, .bool false, .sl 1 [] .nil, .int .i64 0])) (fun c s=>Z.a7 s (fun _v s=>Z.aj s (fun o s=>Z.aq s (fun i s=>Z.aV s (fun p s=>Dg Z d e f c (.sl 1 [] .nil) (.sl 1 [] .nil) a g b i p (.int .i64 0) s) false i) none o) 2 c) 12 c (AV.av s.aa m))) (some 12) j) 12 a b:=h.mm
theorem Q4(h:Z.OK)(b a:AV)(s:St):FH Z b a s=Z.aG s (fun c s=>Z.aj s (fun d s=>Z.aq s (fun e s=>Z.aG s (fun f s=>Z.aj s (fun g s=>Z.aj s (fun i s=>Z.a7 s (fun _v s=>Z.aG s (fun j s=>Z.aj s (fun m s=>Z.aq s (fun o s=>Z.a7 s (fun _v s=>Z.aI true [gB s b (some 4),some (.int .i64 0)] s) 4 b (AV.av s.aa o)) (some 4) m) 0 j) a) 1 i (AV.av s.aa e)) 0 g) 0 f) a) none d) 5 c) a:=h.mm
theorem FK(h:Z.OK)(e a b f c d:AV)(s:St):Dh Z e a b f c d s=Z.ak s (fun g s=>Z.aH g (Lg Z e a b f c d s) (FH Z a b s)) (au .lss d c):=h.ll
theorem Wl(h:Z.OK)(a b:AV)(s:St):ae3 Z a b s=Z.dh [.int .i64 0, .sl 3 [] .nil, .sl 1 [] .nil, .sl 1 [] .nil, .dI, .int .i64 0] [] s (fun c s=>Z.mZ c s (fun d s=>Z.aV s (fun e s=>Dh Z a b d a e (.int .i64 0) s) false a)):=h.mm
theorem ae4(a:AV)(s:St):f11 Z a s=Z.fG (.ref (.l s.own.length) 0) (s.new (.cells [.int .i64 0, .sl 3 [] .nil, .sl 1 [] .nil, .sl 1 [] .nil])) (fun b s=>Z.aB s (fun c s=>Z.ak s (fun d s=>Z.aH d (Z.dh [.int .i64 0, .sl 3 [] .nil, .sl 1 [] .nil, .sl 1 [] .nil] [] s (fun e s=>Z.a7 s (fun _v s=>Z.aI true [gB s b (some 4),some c] s) 4 b (AV.av s.aa e))) (ae3 Z a b s)) (au .neq c (.int .i64 0))) 42 [(AV.av s.aa a)]):=by kernel_rfl
theorem I3(a:AV)(s:St):aJ T1 G X 11 [a] s=f11 (PP T1 G X) a s:=aY T1 G X (fn:=c11)
def aBn:KK:=c9 (aD Z Zs) (aO Z c44)
def am8:KK:=bu 0 (aBn Z)
def FL:Mk:=cf 0x326324c6a
def Wm:KK:=cA FL (Z.aW (aD Z UH) FL) (am8 Z)
def aBo:KK:=c9 (aD Z ajp) (Wm Z)
def aBp:KK:=bu 1 (aBo Z)
def aBq:Mk:=cf 0x326327c6a
def avF:Mk:=cf 0x3634a
def ae5:KK:=bu 2 (aO Z c44)
def zj:Mk:=cf 0xd11f634743156
def Lh:KK:=cA zj (Z.aW (aD Z Kd) zj) (ae5 Z)
def avG:KK:=c9 (aD Z Zp) (Lh Z)
def ae6:KK:=bu 3 (avG Z)
def avH:Mk:=cf 0xd21ce634743256
def ae7:KK:=bu 4 (ae6 Z)
def zk:Mk:=cf 0xd0d51ce63435740d7256
def ae8:KK:=cA zk (Z.aW (aD Z Kc) zk) (ae7 Z)
def ae9(a b c d e f g i j:AV)(s:St):ax:=Z.aE FL ajo (sN (sN (sN (sD .e (sL g)) d .e) b (sD (sN .e f (sL j)) .e)) a (sN (sD (sN .e e (sL i)) .e) c .e)) s (Wm Z)
def Di(a b c d e f g i j m:AV)(s:St):ax:=Z.aE aBq ajn (sN (sN (sN (sD .e (sL i)) d (sL g)) b (sD (sN .e f (sL m)) .e)) a (sN (sD (sN .e e (sL j)) .e) c .e)) s (aBp Z)
def afa(a b c d e f g i j:AV)(s:St):ax:=Z.aE FL ajq (sN (sN (sN (sD .e (sL g)) d .e) b (sD (sN .e f (sL j)) .e)) a (sN (sD (sN .e e (sL i)) .e) c .e)) s (Wm Z)
def Q5(a b c d e f g i j m o p q:AV)(s:St):ax:=Z.aE zk ajr (sN (sD (sD (sD (sN .e f (sL m)) (sD (sD (sL q) .e) .e)) .e) (sD (sL d) (sD (sD (sD (sL o) .e) .e) (sD (sL i) .e)))) a (sN (sD (sN (sL g) c .e) (sL e)) b (sD .e (sD (sD (sD (sL p) .e) .e) (sD (sL j) .e))))) s (ae8 Z)
def Q6(a b c d e f g i j m o p q:AV)(s:St):ax:=Z.aE zk Zm (sN (sD (sD (sD (sN .e f (sL m)) (sD (sD (sL q) .e) .e)) .e) (sD (sL d) (sD (sD (sD (sL o) .e) .e) (sD (sL i) .e)))) a (sN (sD (sN (sL g) c .e) (sL e)) b (sD .e (sD (sD (sD (sL p) .e) .e) (sD (sL j) .e))))) s (ae8 Z)
def FM(a b c d e f g i:AV)(s:St):ax:=Z.aE zj Zo (sN (sD (sD (sD (sD .e (sL i)) .e) .e) (sD (sL d) (sD .e (sD (sL f) .e)))) a (sN (sD (sL c) (sL e)) b (sD .e (sD .e (sD (sL g) .e))))) s (Lh Z)
def Dj(a b c d e f g i j m o p q:AV)(s:St):ax:=Z.aW (aD Z Kc) zk (sN (sD (sD (sD (sN .e f (sL m)) (sD (sD (sL q) .e) .e)) .e) (sD (sL d) (sD (sD (sD (sL o) .e) .e) (sD (sL i) .e)))) a (sN (sD (sN (sL g) c .e) (sL e)) b (sD .e (sD (sD (sD (sL p) .e) .e) (sD (sL j) .e))))) s (ae7 Z)
def zl(a b c d e f g i j m o:AV)(s:St):ax:=Z.aE avH Zn (sN (sD (sD (sD (sN .e g (sL o)) .e) .e) (sD (sL d) (sD .e (sD (sL j) .e)))) a (sN (sD (sN (sL i) c .e) (sL e)) b (sD .e (sN .e f (sD (sL m) .e))))) s (ae6 Z)
def afb(a b c d e f g i:AV)(s:St):ax:=Z.aE zj Zq (sN (sD (sD (sD (sD .e (sL i)) .e) .e) (sD (sL d) (sD .e (sD (sL f) .e)))) a (sN (sD (sL c) (sL e)) b (sD .e (sD .e (sD (sL g) .e))))) s (Lh Z)
def vo(a b c d e f g i:AV)(s:St):ax:=Z.aW (aD Z Kd) zj (sN (sD (sD (sD (sD .e (sL i)) .e) .e) (sD (sL d) (sD .e (sD (sL f) .e)))) a (sN (sD (sL c) (sL e)) b (sD .e (sD .e (sD (sL g) .e))))) s (ae5 Z)
def Dk(a b c d e:AV)(s:St):ax:=Z.aE avF Zr (sN (sN .e b (sD (sL e) .e)) a (sN (sD (sL d) .e) c .e)) s (aO Z c44)
def vp(a b c d e f g i j:AV)(s:St):ax:=Z.aW (aD Z UH) FL (sN (sN (sN (sD .e (sL g)) d .e) b (sD (sN .e f (sL j)) .e)) a (sN (sD (sN .e e (sL i)) .e) c .e)) s (am8 Z)
def f44(a b c d:AV)(s:St):ax:=aR [a,b,c,d] 0 .e fun fr=>aD Z ajs fr s (aO Z c44)
theorem Wn(h:Z.OK)(a b c d e f g i j:AV)(s:St):ae9 Z a b c d e f g i j s=Z.ak s (fun m s=>vp Z a b c d e f g i m s) (au .add j (.int .i64 1)):=h.mm
theorem Wo(h:Z.OK)(c d e f a g b i j m:AV)(s:St):Di Z c d e f a g b i j m s=Z.jQ s (fun o s=>Z.aq s (fun p s=>Z.ak s (fun q s=>Z.jQ s (fun r s=>Z.a7 s (fun _v s=>ae9 Z c d e f a g i j m s) 1 r (AV.av s.aa q)) 1 4 a b) (au .add p (.int .i64 1))) none o) 1 4 a b:=h.mm
theorem Wp(h:Z.OK)(e f b c g i d j a:AV)(s:St):afa Z e f b c g i d j a s=Z.aX s (fun m s=>Z.aq s (fun o s=>Z.aH c (Z.aX s (fun p s=>Z.a7 s (fun _v s=>Di Z e f b c g i (.int .i64 1) d j a s) 1 p (AV.av s.aa (.int .i64 1))) 1 b a) (Di Z e f b c g i o d j a s)) none m) 1 d a:=h.mm
theorem Q7(h:Z.OK)(a b c d e f g i j m o p q:AV)(s:St):Q5 Z a b c d e f g i j m o p q s=Z.ak s (fun r s=>Dj Z a b c d e f g i j m o p r s) (au .add q (.int .i64 1)):=h.mm
theorem Q8(h:Z.OK)(b g i j c d e m o p f q a:AV)(s:St):Q6 Z b g i j c d e m o p f q a s=Z.aX s (fun r s=>Z.aq s (fun t s=>Z.aG s (fun u s=>Z.aj s (fun w s=>Z.aq s (fun x s=>Z.jQ s (fun y s=>Z.aq s (fun z s=>Z.aX s (fun A s=>Z.aq s (fun B s=>Z.ak s (fun C s=>Z.m0 s (fun _v s=>Q5 Z b g i j c d e m o p f q a s) .str x (AV.av s.aa C) (AV.av s.aa t)) (au .add B e)) none A) 1 z a) none y) 1 4 c d) none w) 4 u) b) none r) 1 f a:=h.mm
theorem Q9(h:Z.OK)(a b c d e f g i:AV)(s:St):FM Z a b c d e f g i s=Z.ak s (fun j s=>vo Z a b c d e f g j s) (au .add i (.int .i64 1)):=h.mm
theorem FN(h:Z.OK)(a b c d e o p f g i q j m:AV)(s:St):Dj Z a b c d e o p f g i q j m s=Z.ak s (fun r s=>Z.aH r (Q6 Z a b c d e o p f g i q j m s) (FM Z a b c d e f g i s)) (au .lss m j):=h.ll
theorem Wq(h:Z.OK)(b c d e f a g i j m o:AV)(s:St):zl Z b c d e f a g i j m o s=Z.aV s (fun p s=>Dj Z b c d e f g i j m o a p (.int .i64 0) s) false a:=h.mm
theorem Wr(h:Z.OK)(g d e a i f j c:AV)(s:St):afb Z g d e a i f j c s=Z.aX s (fun o s=>Z.aq s (fun m s=>Z.aX s (fun p s=>Z.aq s (fun b s=>Z.jQ s (fun q s=>Z.aq s (fun r s=>Z.ak s (fun t s=>Z.jQ s (fun u s=>Z.a7 s (fun _v s=>Z.jQ s (fun w s=>Z.aq s (fun x s=>Z.ak s (fun y s=>Z.aH y (Z.jQ s (fun z s=>Z.aq s (fun A s=>Z.aB s (fun B s=>zl Z g d e a i m b B f j c s) 75 [(AV.av s.aa A)]) none z) 1 4 a b) (zl Z g d e a i m b (.str []) f j c s)) (au .gtr x (.int .i64 1))) none w) 1 4 e b) 1 u (AV.av s.aa t)) 1 4 a b) (au .add r (.int .i64 1))) none q) 1 4 a b) none p) 1 d c) none o) 1 f c:=h.mm
theorem FO(h:Z.OK)(c d e f g i a b:AV)(s:St):vo Z c d e f g i a b s=Z.ak s (fun j s=>Z.aH j (afb Z c d e f g i a b s) (Z.aI false [] s)) (au .lss b a):=h.ll
theorem Ws(h:Z.OK)(b a c d e:AV)(s:St):Dk Z b a c d e s=Z.aF s (fun g s=>Z.aF s (fun i s=>Z.aF s (fun j s=>Z.dh [.sl 1 [] .nil, .sl 1 [] .nil, .sl 1 [] .nil, .sl 1 [] .nil] [(0,1,(.sl 1 [] .nil)),(1,1,g),(2,1,i),(3,1,j)] s (fun m s=>Z.fG (.ref (.l s.own.length) 0) (s.new (.cells [.sl 1 [] .nil, .sl 1 [] .nil, .sl 1 [] .nil, .sl 1 [] .nil])) (fun f s=>Z.a7 s (fun _v s=>Z.aV s (fun o s=>vo Z b c d e f a o (.int .i64 0) s) false a) 4 f (AV.av s.aa m)))) 1 [(.str [117]),(.str [112]),(.str [113]),(.str [114]),(.str [97,120]),(.str [97,121]),(.str [97,122])]) 1 [(.str [97]),(.str [98]),(.str [99])]) 1 [(.str [120]),(.str [121]),(.str [122])]:=h.mm
theorem FP(h:Z.OK)(a b c i d e j f g:AV)(s:St):vp Z a b c i d e j f g s=Z.ak s (fun m s=>Z.aH m (afa Z a b c i d e j f g s) (Dk Z a b c d e s)) (au .lss g f):=h.ll
theorem avI(a c b d:AV)(s:St):f44 Z a c b d s=Z.ta s (fun e s=>Z.aG s (fun f s=>Z.aj s (fun g s=>Z.a7 s (fun _v s=>Z.fG (.ref (.l s.own.length) 0) (s.new (.cells [.int .i64 0, .int .i64 0, .int .i64 0, .int .i64 0])) (fun i s=>Z.fG (.ref (.l s.own.length) 0) (s.new (.cells [.int .i64 0, .int .i64 0, .int .i64 0, .int .i64 0])) (fun j s=>Z.aV s (fun m s=>vp Z a c b d i j b m (.int .i64 0) s) false b))) 1 g (AV.av s.aa e)) 4 f) a) (Ig a):=by kernel_rfl
theorem ahj(a b c d:AV)(s:St):aJ T1 G X 44 [a,b,c,d] s=f44 (PP T1 G X) a b c d s.ai:=aY T1 G X (fn:=c44)
def aBr:KK:=c9 (aD Z Zw) (aO Z UJ)
def am9:KK:=bu 0 (aBr Z)
def FQ:Mk:=cf 246
def ana:KK:=cA FQ (Z.aW (aD Z UI) FQ) (am9 Z)
def aBs:Mk:=cf 54
def avJ:KK:=c9 (aD Z Zu) (aO Z UJ)
def afc:KK:=bu 3 (avJ Z)
def zm:Mk:=cf 0xd11134475344446
def afd:KK:=cA zm (Z.aW (aD Z Ke) zm) (afc Z)
def avK:Mk:=cf 849
def zn(a b c:AV)(s:St):ax:=Z.aE FQ ajt (sN (sD (sL b) (sL c)) a .e) s (ana Z)
def Li(a b c:AV)(s:St):ax:=Z.aE FQ aju (sN (sD (sL b) (sL c)) a .e) s (ana Z)
def afe(a b c d e:AV)(s:St):ax:=Z.aE zm ajv (sN (sD .e (sD .e (sD .e (sD .e (sD (sL d) .e))))) a (sD (sD (sL b) (sD .e (sD .e (sD (sL c) .e)))) (sD .e (sD .e (sD .e (sD (sL e) .e)))))) s (afd Z)
def aff(a b c d e:AV)(s:St):ax:=Z.aE zm ajw (sN (sD .e (sD .e (sD .e (sD .e (sD (sL d) .e))))) a (sD (sD (sL b) (sD .e (sD .e (sD (sL c) .e)))) (sD .e (sD .e (sD .e (sD (sL e) .e)))))) s (afd Z)
def afg(a:AV)(s:St):ax:=Z.aE avK Zt (sD .e (sD (sD (sL a) .e) .e)) s (aO Z UJ)
def Dl(a b c d e:AV)(s:St):ax:=Z.aW (aD Z Ke) zm (sN (sD .e (sD .e (sD .e (sD .e (sD (sL d) .e))))) a (sD (sD (sL b) (sD .e (sD .e (sD (sL c) .e)))) (sD .e (sD .e (sD .e (sD (sL e) .e)))))) s (afc Z)
def Dm(a b:AV)(s:St):ax:=Z.aE aBs Zv (sN (sD (sL b) .e) a .e) s (aO Z UJ)
def zo(a b c:AV)(s:St):ax:=Z.aW (aD Z UI) FQ (sN (sD (sL b) (sL c)) a .e) s (am9 Z)
def f45(a b:AV)(s:St):ax:=aR [a,b] 0 .e fun fr=>aD Z ajx fr s (aO Z UJ)
theorem Wt(h:Z.OK)(a b c:AV)(s:St):zn Z a b c s=Z.ak s (fun d s=>zo Z a b d s) (au .add c (.int .i64 2)):=h.mm
theorem Wu(h:Z.OK)(a b c:AV)(s:St):Li Z a b c s=Z.aj s (fun f s=>Z.aq s (fun g s=>Z.aX s (fun i s=>Z.aq s (fun d s=>Z.aj s (fun j s=>Z.aq s (fun m s=>Z.ak s (fun o s=>Z.aX s (fun p s=>Z.aq s (fun e s=>Z.ak s (fun q s=>Z.aH q (Z.aG s (fun r s=>Z.aj s (fun t s=>Z.aq s (fun u s=>Z.aG s (fun w s=>Z.aj s (fun x s=>Z.aq s (fun y s=>Z.mu s (fun z s=>Z.m0 s (fun _v s=>Z.aG s (fun A s=>Z.aj s (fun B s=>Z.aq s (fun C s=>Z.ak s (fun D s=>Z.aG s (fun E s=>Z.aj s (fun F s=>Z.a7 s (fun _v s=>zn Z a b c s) 1 F (AV.av s.aa D)) 5 E) a) (au .add C (.int .i64 1))) none B) 5 A) a) .str u (AV.av s.aa d) (AV.av s.aa z)) [(none,(oZ a 4))] 76 [(AV.av s.aa a),(AV.av s.aa (.int .i64 1)),(AV.av s.aa y),(AV.av s.aa (.int .i64 0))]) none x) 5 w) a) none (w9 t a 4)) 4 r) a) (Z.cZ s (fun H s=>Z.ak s (fun I s=>Z.aH I (Z.aG s (fun J s=>Z.aj s (fun K s=>Z.aq s (fun L s=>Z.qo e (some (.int .i64 1)) none s (fun M s=>Z.mu s (fun N s=>Z.mu s (fun O s=>Z.m0 s (fun _v s=>Z.aG s (fun P s=>Z.aj s (fun Q s=>Z.aj s (fun R s=>Z.aq s (fun S s=>Z.aG s (fun T s=>Z.aj s (fun U s=>Z.aq s (fun V s=>Z.n5 s (fun W s=>Z.aF s (fun Y s=>Z.cz s (fun va s=>Z.aG s (fun vb s=>Z.aj s (fun vc s=>Z.aj s (fun vd s=>Z.a7 s (fun _v s=>zn Z a b c s) 1 vd (AV.av s.aa va)) 3 vc) 0 vb) a) 1 8 (Ig a) S Y) 1 [W]) .str (.int .i64 0) false V (AV.av s.aa d)) none U) 4 T) a) none R) 3 Q) 0 P) a) .str L (AV.av s.aa d) (AV.av s.aa O)) [(none,(oZ a 4))] 76 [(AV.av s.aa a),(AV.av s.aa (.int .i64 6)),(AV.av s.aa N),(AV.av s.aa (.int .i64 0))]) [(none,(oZ a 4))] 77 [(AV.av s.aa a),(AV.av s.aa M)])) none (w9 K a 4)) 4 J) a) (Z.aG s (fun ve s=>Z.aj s (fun vf s=>Z.aq s (fun vg s=>Z.mu s (fun vh s=>Z.m0 s (fun _v s=>zn Z a b c s) .str vg (AV.av s.aa d) (AV.av s.aa vh)) [(none,(oZ a 4))] 77 [(AV.av s.aa a),(AV.av s.aa e)]) none (w9 vf a 4)) 4 ve) a)) (au .eql H (.int .u8 33))) e (.int .i64 0))) (au .eql e (.str [105,110]))) none p) 1 m o) (au .add c (.int .i64 1))) none j) 0 b) none i) 1 g c) none f) 0 b:=h.mm
theorem Wv(h:Z.OK)(a b c d e:AV)(s:St):afe Z a b c d e s=Z.ak s (fun f s=>Dl Z a b c d f s) (au .add e (.int .i64 1)):=h.mm
theorem Ww(h:Z.OK)(a d b e c:AV)(s:St):aff Z a d b e c s=Z.aX s (fun f s=>Z.aq s (fun g s=>Z.aB s (fun i s=>Z.aF s (fun j s=>Z.cz s (fun m s=>afe Z a m b e c s) 1 8 (some (.l 0)) d j) 1 [i]) 77 [(AV.av s.aa a),(AV.av s.aa g)]) none f) 1 b c:=h.mm
theorem Wx(h:Z.OK)(a:AV)(s:St):afg Z a s=Z.aI false [some a] s:=h.mm
theorem FT(h:Z.OK)(d a e b c:AV)(s:St):Dl Z d a e b c s=Z.ak s (fun f s=>Z.aH f (aff Z d a e b c s) (afg Z a s)) (au .lss c b):=h.ll
theorem Wy(h:Z.OK)(a b:AV)(s:St):Dm Z a b s=Z.aj s (fun d s=>Z.aq s (fun c s=>Z.aV s (fun e s=>Dl Z a (.sl 1 [] .nil) c e (.int .i64 0) s) false c) none d) 1 b:=h.mm
theorem FU(h:Z.OK)(b a c:AV)(s:St):zo Z b a c s=Z.ak s (fun d s=>Z.aj s (fun e s=>Z.aq s (fun f s=>Z.aV s (fun g s=>Z.ak s (fun i s=>Z.aH i (Li Z b a c s) (Dm Z b a s)) (au .lss d g)) false f) none e) 0 a) (au .add c (.int .i64 1)):=h.ll
theorem avL(a b:AV)(s:St):f45 Z a b s=Z.dN b s (fun c s=>zo Z a c (.int .i64 0) s):=by kernel_rfl
theorem ahk(a b:AV)(s:St):aJ T1 G X 45 [a,b] s=f45 (PP T1 G X) a b s.ai:=aY T1 G X (fn:=UJ)
def f76(a b c d:AV)(s:St):ax:=aR [a,b,c,d] 0 .e fun fr=>aD Z akn fr s (aO Z c76)
theorem avM(a b c d:AV)(s:St):f76 Z a b c d s=Z.aG s (fun e s=>Z.aj s (fun f s=>Z.aj s (fun g s=>Z.aq s (fun i s=>Z.dh [.int .i64 0, .int .i64 0, .int .i64 0] [(0,1,b),(1,1,c),(2,1,d)] s (fun j s=>Z.aF s (fun m s=>Z.cz s (fun o s=>Z.aG s (fun p s=>Z.aj s (fun q s=>Z.aj s (fun r s=>Z.a7 s (fun _v s=>Z.aG s (fun t s=>Z.aj s (fun u s=>Z.aj s (fun w s=>Z.aq s (fun x s=>Z.aV s (fun y s=>Z.ak s (fun z s=>Z.aI false [some z] s) (au .sub y (.int .i64 1))) false x) none w) 1 u) 0 t) a) 1 r (AV.av s.aa o)) 1 q) 0 p) a) 3 24 (Ig a) i m) 3 [j])) none g) 1 f) 0 e) a:=by kernel_rfl
theorem ahl(a b c d:AV)(s:St):aJ T1 G X 76 [a,b,c,d] s=f76 (PP T1 G X) a b c d s.ai:=aY T1 G X (fn:=c76)
def f77(a b:AV)(s:St):ax:=aR [a,b] 0 .e fun fr=>aD Z ako fr s (aO Z c77)
theorem avN(d e:AV)(s:St):f77 Z d e s=Z.dN d s (fun b s=>Z.dh [.str [], .int .i64 0] [(0,1,e)] s (fun i s=>Z.mZ i s (fun j s=>Z.fG (.ref (.l s.own.length) 0) (s.new (.cells [.iz])) (fun a s=>Z.a7 s (fun _v s=>Z.fG (.ref (.l s.own.length) 0) (s.new (.cells [.fR])) (fun c s=>Z.fG (.fn 121 [(AV.av s.aa a),(AV.av s.aa c),(AV.av s.aa b)]) s (fun m s=>Z.fG (.ref (.l s.own.length) 0) (s.new (.cells [.fR])) (fun f s=>Z.a7 s (fun _v s=>Z.fG (.fn 125 [(AV.av s.aa f),(AV.av s.aa a),(AV.av s.aa b)]) s (fun o s=>Z.fG (.ref (.l s.own.length) 0) (s.new (.cells [.fR])) (fun g s=>Z.a7 s (fun _v s=>Z.fG (.fn 126 [(AV.av s.aa a),(AV.av s.aa b),(AV.av s.aa g)]) s (fun p s=>Z.a7 s (fun _v s=>Z.aq s (fun q s=>Z.kr s (fun r s=>Z.aI false [some r] s) q []) none c) 1 c (AV.av s.aa p))) 1 g (AV.av s.aa o)))) 1 f (AV.av s.aa m))))) 1 a (AV.av s.aa j))))):=by kernel_rfl
theorem ahm(a b:AV)(s:St):aJ T1 G X 77 [a,b] s=f77 (PP T1 G X) a b s.ai:=aY T1 G X (fn:=c77)
def avO:Mk:=cf 226
def avP:Mk:=cf 209
def sk(a:AV)(s:St):ax:=Z.aE avP aao (sD .e (sD (sL a) .e)) s (aO Z M5)
def uu(a b c:AV)(s:St):ax:=Z.aE avO aap (sN .e a (sN (sL c) b .e)) s (aO Z M5)
def f121(a b c:AV)(s:St):ax:=aR [a,b,c] 0 .e fun fr=>aD Z aaq fr s (aO Z M5)
theorem Cn(h:Z.OK)(a:AV)(s:St):sk Z a s=Z.aI false [some a] s:=h.mm
theorem uv(h:Z.OK)(b d c:AV)(s:St):uu Z b d c s=Z.aq s (fun f s=>Z.aG s (fun g s=>Z.aj s (fun i s=>Z.aq s (fun j s=>Z.aq s (fun m s=>Z.aG s (fun o s=>Z.aj s (fun p s=>Z.aq s (fun q s=>Z.aV s (fun r s=>Z.ak s (fun a s=>Z.ah a true (fun k=>Z.aq s k none b) s (fun t s=>Z.ah a true (fun k=>Z.aG s k t) s (fun u s=>Z.ah a true (fun k=>Z.aj s k 0 u) s (fun w s=>Z.ah a true (fun k=>Z.aq s k none w) s (fun x s=>Z.ah a true (fun k=>Z.aq s k none b) s (fun y s=>Z.ah a true (fun k=>Z.aG s k y) s (fun z s=>Z.ah a true (fun k=>Z.aj s k 1 z) s (fun A s=>Z.ah a true (fun k=>Z.aq s k none A) s (fun B s=>Z.ah a true (fun k=>Z.cZ s k x B) s (fun C s=>Z.ah a true (fun k=>Z.ak s k (au .eql C (.int .u8 94))) s (fun D s=>Z.aZ s (fun E s=>Z.aH E (Z.aq s (fun e s=>Z.aG s (fun F s=>Z.aj s (fun H s=>Z.aq s (fun I s=>Z.ak s (fun J s=>Z.aG s (fun K s=>Z.aj s (fun L s=>Z.a7 s (fun _v s=>Z.aq s (fun M s=>Z.aB s (fun N s=>sk Z N s) 76 [(AV.av s.aa M),(AV.av s.aa (.int .i64 5)),(AV.av s.aa c),(AV.av s.aa c)]) none d) 1 L (AV.av s.aa J)) 1 K) e) (au .add I (.int .i64 2))) none H) 1 F) e) none b) (sk Z c s)) a D (.bool false)))))))))))) (au .lss j r)) true q) none p) 0 o) m) none b) none i) 1 g) f) none b:=h.mm
theorem anb(a d b:AV)(s:St):f121 Z a d b s=Z.aq s (fun i s=>Z.aB s (fun j s=>Z.ak s (fun m s=>Z.aH m (Z.aq s (fun e s=>Z.aG s (fun o s=>Z.aj s (fun p s=>Z.aq s (fun q s=>Z.ak s (fun r s=>Z.aG s (fun t s=>Z.aj s (fun u s=>Z.a7 s (fun _v s=>Z.aq s (fun w s=>Z.kr s (fun x s=>Z.aq s (fun y s=>Z.aB s (fun R s=>Z.aq s (fun f s=>Z.aG s (fun z s=>Z.aj s (fun A s=>Z.aq s (fun B s=>Z.ak s (fun C s=>Z.aG s (fun D s=>Z.aj s (fun E s=>Z.a7 s (fun _v s=>uu Z a b x s) 1 E (AV.av s.aa C)) 1 D) f) (au .add B (.int .i64 1))) none A) 1 z) f) none a) 122 [(AV.av s.aa y)]) none a) w []) none d) 1 u (AV.av s.aa r)) 1 t) e) (au .add q (.int .i64 1))) none p) 1 o) e) none a) (Z.aq s (fun F s=>Z.aB s (fun c s=>Z.cZ s (fun H s=>Z.ak s (fun I s=>Z.aH I (Z.aB s (fun g s=>Z.bk s (fun J s=>Z.bk s (fun S s=>Z.aq s (fun K s=>Z.aB s (fun L s=>uu Z a b L s) 76 [(AV.av s.aa K),(AV.av s.aa (.int .i64 2)),(AV.av s.aa J),(AV.av s.aa (.int .i64 0))]) none b) 1 g) 0 g) 124 [(AV.av s.aa c)]) (Z.aq s (fun M s=>Z.aG s (fun N s=>Z.aj s (fun O s=>Z.aq s (fun P s=>Z.n5 s (fun Q s=>uu Z a b Q s) .str (.int .i64 0) false P (AV.av s.aa c)) none O) 4 N) M) none b)) (au .leq H (.int .u8 57))) c (.int .i64 0)) 123 [(AV.av s.aa F)]) none a)) (au .eql j (.int .u8 40))) 122 [(AV.av s.aa i)]) none a:=by kernel_rfl
theorem Wz(a b c:AV)(s:St):aJ T1 G X 121 [a,b,c] s=f121 (PP T1 G X) a b c s.ai:=aY T1 G X (fn:=M5)
def avQ:KK:=c9 (aD Z aau) (aO Z IY)
def afh:KK:=bu 0 (avQ Z)
def vt:Mk:=cf 3
def avR:KK:=cA vt (Z.aW (aD Z Km) vt) (afh Z)
def Ra(a:AV)(s:St):ax:=Z.aE vt aar (sL a) s (avR Z)
def Rb(a:AV)(s:St):ax:=Z.aE vt aas (sL a) s (aO Z IY)
def FV(a:AV)(s:St):ax:=Z.aE vt aat (sL a) s (aO Z IY)
def zp(a:AV)(s:St):ax:=Z.aW (aD Z Km) vt (sL a) s (afh Z)
def f122(a:AV)(s:St):ax:=aR [a] 0 .e fun fr=>aD Z aav fr s (aO Z IY)
theorem Rc(h:Z.OK)(a:AV)(s:St):Ra Z a s=Z.aG s (fun b s=>Z.aj s (fun c s=>Z.aq s (fun d s=>Z.ak s (fun e s=>Z.aG s (fun f s=>Z.aj s (fun g s=>Z.a7 s (fun _v s=>zp Z a s) 1 g (AV.av s.aa e)) 1 f) a) (au .add d (.int .i64 1))) none c) 1 b) a:=h.mm
theorem Re(h:Z.OK)(a:AV)(s:St):Rb Z a s=Z.aG s (fun b s=>Z.aj s (fun c s=>Z.aq s (fun d s=>Z.aG s (fun e s=>Z.aj s (fun f s=>Z.aq s (fun g s=>Z.cZ s (fun i s=>Z.aI false [some i] s) d g) none f) 1 e) a) none c) 0 b) a:=h.mm
theorem Rf(h:Z.OK)(a:AV)(s:St):FV Z a s=Z.aG s (fun b s=>Z.aj s (fun c s=>Z.aq s (fun d s=>Z.aG s (fun e s=>Z.aj s (fun f s=>Z.aq s (fun g s=>Z.aV s (fun i s=>Z.ak s (fun j s=>Z.aH j (Z.aI false [some (.int .u8 0)] s) (Rb Z a s)) (au .eql d i)) true g) none f) 0 e) a) none c) 1 b) a:=h.mm
theorem uw(h:Z.OK)(b:AV)(s:St):zp Z b s=Z.aG s (fun c s=>Z.aj s (fun d s=>Z.aq s (fun e s=>Z.aG s (fun f s=>Z.aj s (fun g s=>Z.aq s (fun i s=>Z.aV s (fun j s=>Z.ak s (fun a s=>Z.ah a true (fun k=>k b s) s (fun m s=>Z.ah a true (fun k=>Z.aG s k m) s (fun o s=>Z.ah a true (fun k=>Z.aj s k 0 o) s (fun p s=>Z.ah a true (fun k=>Z.aq s k none p) s (fun q s=>Z.ah a true (fun k=>k b s) s (fun r s=>Z.ah a true (fun k=>Z.aG s k r) s (fun t s=>Z.ah a true (fun k=>Z.aj s k 1 t) s (fun u s=>Z.ah a true (fun k=>Z.aq s k none u) s (fun w s=>Z.ah a true (fun k=>Z.cZ s k q w) s (fun x s=>Z.ah a true (fun k=>Z.ak s k (au .eql x (.int .u8 32))) s (fun y s=>Z.aZ s (fun z s=>Z.aH z (Ra Z b s) (FV Z b s)) a y (.bool false)))))))))))) (au .lss e j)) true i) none g) 0 f) b) none d) 1 c) b:=h.ll
theorem anc(a:AV)(s:St):f122 Z a s=zp Z a s:=by kernel_rfl
theorem WA(a:AV)(s:St):aJ T1 G X 122 [a] s=f122 (PP T1 G X) a s.ai:=aY T1 G X (fn:=IY)
def avS:KK:=c9 (aD Z aaz) (aO Z M6)
def afi:KK:=bu 0 (avS Z)
def vz:Mk:=cf 54
def afj:KK:=cA vz (Z.aW (aD Z Kn) vz) (afi Z)
def avT:KK:=bu 1 (afj Z)
def ux(a b:AV)(s:St):ax:=Z.aE vz aay (sN (sD (sL b) .e) a .e) s (aO Z M6)
def FW(a b:AV)(s:St):ax:=Z.aE vz aaw (sN (sD (sL b) .e) a .e) s (avT Z)
def FX(a b:AV)(s:St):ax:=Z.aE vz aax (sN (sD (sL b) .e) a .e) s (afj Z)
def zq(a b:AV)(s:St):ax:=Z.aW (aD Z Kn) vz (sN (sD (sL b) .e) a .e) s (afi Z)
def f123(a:AV)(s:St):ax:=aR [a] 0 .e fun fr=>aD Z aaA fr s (aO Z M6)
theorem Rg(h:Z.OK)(a b:AV)(s:St):ux Z a b s=Z.aG s (fun c s=>Z.aj s (fun d s=>Z.aq s (fun e s=>Z.aG s (fun f s=>Z.aj s (fun g s=>Z.aq s (fun i s=>Z.qo e (some b) (some i) s (fun j s=>Z.aI false [some j] s)) none g) 1 f) a) none d) 0 c) a:=h.mm
theorem Rh(h:Z.OK)(a b:AV)(s:St):FW Z a b s=Z.aG s (fun c s=>Z.aj s (fun d s=>Z.aq s (fun e s=>Z.ak s (fun f s=>Z.aG s (fun g s=>Z.aj s (fun i s=>Z.a7 s (fun _v s=>zq Z a b s) 1 i (AV.av s.aa f)) 1 g) a) (au .add e (.int .i64 1))) none d) 1 c) a:=h.mm
theorem Ri(h:Z.OK)(a d:AV)(s:St):FX Z a d s=Z.aG s (fun g s=>Z.aj s (fun i s=>Z.aq s (fun j s=>Z.aG s (fun m s=>Z.aj s (fun o s=>Z.aq s (fun p s=>Z.cZ s (fun c s=>Z.ak s (fun e s=>Z.ah e false (fun k=>k c s) s (fun q s=>Z.ah e false (fun k=>Z.ak s k (au .gtr q (.int .u8 122))) s (fun r s=>Z.aZ s (fun b s=>Z.ah b true (fun k=>k c s) s (fun t s=>Z.ah b true (fun k=>Z.ak s k (au .lss t (.int .u8 48))) s (fun u s=>Z.ah b true (fun k=>k u s) s (fun f s=>Z.ah f false (fun k=>k c s) s (fun w s=>Z.ah f false (fun k=>Z.ak s k (au .gtr w (.int .u8 57))) s (fun x s=>Z.ah b true (fun k=>Z.aZ s k f (.bool true) x) s (fun y s=>Z.aZ s (fun z s=>Z.aH z (ux Z a d s) (FW Z a d s)) b y (.bool false)))))))) e (.bool true) r))) (au .lss c (.int .u8 97))) j p) none o) 1 m) a) none i) 0 g) a:=h.mm
theorem Co(h:Z.OK)(a b:AV)(s:St):zq Z a b s=Z.aG s (fun c s=>Z.aj s (fun d s=>Z.aq s (fun e s=>Z.aG s (fun f s=>Z.aj s (fun g s=>Z.aq s (fun i s=>Z.aV s (fun j s=>Z.ak s (fun m s=>Z.aH m (FX Z a b s) (ux Z a b s)) (au .lss e j)) true i) none g) 0 f) a) none d) 1 c) a:=h.ll
theorem ane(a:AV)(s:St):f123 Z a s=Z.aB s (fun e s=>Z.aG s (fun b s=>Z.aj s (fun c s=>Z.aq s (fun d s=>zq Z a d s) none c) 1 b) a) 122 [(AV.av s.aa a)]:=by kernel_rfl
theorem WB(a:AV)(s:St):aJ T1 G X 123 [a] s=f123 (PP T1 G X) a s.ai:=aY T1 G X (fn:=M6)
def avU:KK:=c9 (aD Z aaH) (aO Z M7)
def afk:KK:=bu 0 (avU Z)
def Lj:Mk:=cf 3786
def afl:KK:=cA Lj (Z.aW (aD Z Ko) Lj) (afk Z)
def afm:Mk:=cf 238
def avV:Mk:=cf 209
def Rj(a b c d:AV)(s:St):ax:=Z.aE afm aaE (sN (sL b) a (sN (sL d) c .e)) s (afl Z)
def FY(a b c d:AV)(s:St):ax:=Z.aE afm aaF (sN (sL b) a (sN (sL d) c .e)) s (afl Z)
def FZ(a:AV)(s:St):ax:=Z.aE avV aaG (sD .e (sD (sL a) .e)) s (aO Z M7)
def uy(a b c d e:AV)(s:St):ax:=Z.aW (aD Z Ko) Lj (sN (sN .e b (sL e)) a (sN (sL d) c .e)) s (afk Z)
def f125(a b c:AV)(s:St):ax:=aR [a,b,c] 0 .e fun fr=>aD Z aaI fr s (aO Z M7)
theorem Rk(h:Z.OK)(b a c d:AV)(s:St):Rj Z b a c d s=Z.aq s (fun e s=>Z.aB s (fun f s=>uy Z b a c d f s) 122 [(AV.av s.aa e)]) none a:=h.mm
theorem Rl(h:Z.OK)(a c b d:AV)(s:St):FY Z a c b d s=Z.aq s (fun e s=>Z.kr s (fun f s=>Z.aq s (fun g s=>Z.aB s (fun i s=>Rj Z a c b i s) 76 [(AV.av s.aa g),(AV.av s.aa (.int .i64 5)),(AV.av s.aa d),(AV.av s.aa f)]) none b) e []) none a:=h.mm
theorem Cp(h:Z.OK)(a:AV)(s:St):FZ Z a s=Z.aI false [some a] s:=h.mm
theorem Rm(h:Z.OK)(f g i b a:AV)(s:St):uy Z f g i b a s=Z.ak s (fun c s=>Z.ah c true (fun k=>k a s) s (fun j s=>Z.ah c true (fun k=>Z.ak s k (au .neq j (.int .u8 43))) s (fun m s=>Z.aZ s (fun d s=>Z.ah d true (fun k=>k a s) s (fun o s=>Z.ah d true (fun k=>Z.ak s k (au .neq o (.int .u8 45))) s (fun p s=>Z.aZ s (fun e s=>Z.ah e true (fun k=>k a s) s (fun q s=>Z.ah e true (fun k=>Z.ak s k (au .neq q (.int .u8 41))) s (fun r s=>Z.aZ s (fun t s=>Z.aH t (FY Z f g i b s) (FZ Z b s)) e r (.bool false)))) d p (.bool false)))) c m (.bool false)))) (au .neq a (.int .u8 0)):=h.ll
theorem anf(a b c:AV)(s:St):f125 Z a b c s=Z.aq s (fun d s=>Z.kr s (fun e s=>Z.aq s (fun f s=>Z.aB s (fun g s=>uy Z a b c e g s) 122 [(AV.av s.aa f)]) none b) d []) none a:=by kernel_rfl
theorem WC(a b c:AV)(s:St):aJ T1 G X 125 [a,b,c] s=f125 (PP T1 G X) a b c s.ai:=aY T1 G X (fn:=M7)
def afo:Mk:=cf 238
def avW:KK:=c9 (aD Z aaO) (aO Z IZ)
def afp:KK:=bu 0 (avW Z)
def Dn:Mk:=cf 1006
def Lk:KK:=cA Dn (Z.aW (aD Z Kp) Dn) (afp Z)
def avX:KK:=c9 (aD Z aaL) (Lk Z)
def avY:KK:=bu 1 (avX Z)
def ang:Mk:=cf 0x3a0da
def anh:Mk:=cf 209
def Rn(a b c d:AV)(s:St):ax:=Z.aE afo aaK (sN (sL b) a (sN (sL d) c .e)) s (Lk Z)
def zr(a b c d e f:AV)(s:St):ax:=Z.aE ang aaJ (sN (sN (sD (sL e) .e) b .e) a (sN (sN (sL f) d .e) c .e)) s (avY Z)
def zs(a b c d e:AV)(s:St):ax:=Z.aE Dn aaM (sN (sL b) a (sN (sL d) c (sL e))) s (Lk Z)
def F6(a:AV)(s:St):ax:=Z.aE anh aaN (sD .e (sD (sL a) .e)) s (aO Z IZ)
def sm(a b c d e:AV)(s:St):ax:=Z.aW (aD Z Kp) Dn (sN (sL b) a (sN (sL d) c (sL e))) s (afp Z)
def F7(a b c d:AV)(s:St):ax:=Z.aE afo M8 (sN (sL b) a (sN (sL d) c .e)) s (aO Z IZ)
def f126(a b c:AV)(s:St):ax:=aR [a,b,c] 0 .e fun fr=>aD Z aaP fr s (aO Z IZ)
theorem Ro(h:Z.OK)(a b c d:AV)(s:St):Rn Z a b c d s=Z.aq s (fun e s=>Z.aB s (fun f s=>sm Z a b c d f s) 122 [(AV.av s.aa e)]) none a:=h.mm
theorem Rp(h:Z.OK)(b a c d e f:AV)(s:St):zr Z b a c d e f s=Z.aq s (fun g s=>Z.aB s (fun i s=>Rn Z b a c i s) 76 [(AV.av s.aa g),(AV.av s.aa f),(AV.av s.aa d),(AV.av s.aa e)]) none a:=h.mm
theorem Rq(h:Z.OK)(a c b d e:AV)(s:St):zs Z a c b d e s=Z.aq s (fun f s=>Z.aG s (fun i s=>Z.aj s (fun j s=>Z.aq s (fun m s=>Z.ak s (fun o s=>Z.aG s (fun p s=>Z.aj s (fun q s=>Z.a7 s (fun _v s=>Z.aq s (fun r s=>Z.kr s (fun g s=>Z.ak s (fun t s=>Z.aH t (zr Z a c b d g (.int .i64 4) s) (zr Z a c b d g (.int .i64 3) s)) (au .eql e (.int .u8 45))) r []) none b) 1 q (AV.av s.aa o)) 1 p) f) (au .add m (.int .i64 1))) none j) 1 i) f) none a:=h.mm
theorem Cq(h:Z.OK)(a:AV)(s:St):F6 Z a s=Z.aI false [some a] s:=h.mm
theorem Rr(h:Z.OK)(d e f b a:AV)(s:St):sm Z d e f b a s=Z.ak s (fun c s=>Z.ah c false (fun k=>k a s) s (fun g s=>Z.ah c false (fun k=>Z.ak s k (au .eql g (.int .u8 45))) s (fun i s=>Z.aZ s (fun j s=>Z.aH j (zs Z d e f b a s) (F6 Z b s)) c (.bool true) i))) (au .eql a (.int .u8 43)):=h.ll
theorem Cr(h:Z.OK)(a b c d:AV)(s:St):F7 Z a b c d s=Z.aq s (fun e s=>Z.aB s (fun f s=>sm Z a b c d f s) 122 [(AV.av s.aa e)]) none a:=h.mm
theorem ani(b a c:AV)(s:St):f126 Z b a c s=Z.aq s (fun e s=>Z.aB s (fun f s=>Z.ak s (fun g s=>Z.aH g (Z.aq s (fun d s=>Z.aG s (fun i s=>Z.aj s (fun j s=>Z.aq s (fun m s=>Z.ak s (fun o s=>Z.aG s (fun p s=>Z.aj s (fun q s=>Z.a7 s (fun _v s=>Z.aq s (fun r s=>Z.aB s (fun t s=>Z.aq s (fun u s=>Z.aq s (fun w s=>Z.r9 s (fun x s=>Z.aB s (fun y s=>F7 Z b a c y s) 76 [(AV.av s.aa u),(AV.av s.aa (.int .i64 4)),(AV.av s.aa t),(AV.av s.aa x)]) [(none,a)] w []) none c) none a) 76 [(AV.av s.aa r),(AV.av s.aa (.int .i64 2)),(AV.av s.aa (.int .i64 0)),(AV.av s.aa (.int .i64 0))]) none a) 1 q (AV.av s.aa o)) 1 p) d) (au .add m (.int .i64 1))) none j) 1 i) d) none b) (Z.aq s (fun z s=>Z.kr s (fun A s=>F7 Z b a c A s) z []) none c)) (au .eql f (.int .u8 45))) 122 [(AV.av s.aa e)]) none b:=by kernel_rfl
theorem WD(a b c:AV)(s:St):aJ T1 G X 126 [a,b,c] s=f126 (PP T1 G X) a b c s.ai:=aY T1 G X (fn:=IZ)
def avZ:Mk:=cf 209
def Rs(a:AV)(s:St):ax:=Z.aE avZ aaB (sD .e (sD (sL a) .e)) s (aO Z aaD)
def f124(a:AV)(s:St):ax:=aR [a] 0 .e fun fr=>aD Z aaC fr s (aO Z aaD)
theorem Rt(h:Z.OK)(a:AV)(s:St):Rs Z a s=Z.aI false [some a,some .fa] s:=h.mm
theorem anj(a:AV)(s:St):f124 Z a s=Z.aB s (fun b s=>Z.bk s (fun c s=>Z.bk s (fun d s=>Z.ak s (fun e s=>Z.aH e (Z.aB s (fun f s=>Z.aI false [some c,some f] s) 154 [(AV.av s.aa (.str [65,116,111,105])),(AV.av s.aa a),(AV.av s.aa (.int .i64 0)),(AV.av s.aa (.int .i64 0)),(AV.av s.aa d)]) (Rs Z c s)) (Au true d)) 1 b) 0 b) 153 [(AV.av s.aa a)]:=by kernel_rfl
theorem WE(a:AV)(s:St):aJ T1 G X 124 [a] s=f124 (PP T1 G X) a s.ai:=aY T1 G X (fn:=aaD)
def Dp:KK:=c9 (aD Z Np) (aO Z Nq)
def av0:Mk:=cf 198
def av1:KK:=c9 (aD Z Nm) (Dp Z)
def afq:KK:=bu 0 (av1 Z)
def zt:Mk:=cf 0x30c550c583155
def Ll:KK:=cA zt (Z.aW (aD Z Kv) zt) (afq Z)
def av2:KK:=c9 (aD Z aby) (Ll Z)
def ank:KK:=bu 1 (av2 Z)
def anl:Mk:=cf 0x30c650c583155
def anm:Mk:=cf 12741
def ann:Mk:=cf 785
def ano:Mk:=cf 3
def Ru(a b c d e:AV)(s:St):ax:=Z.aE zt abx (sD (sD (sD (sD (sD .e (sL c)) .e) .e) (sN (sD (sD .e (sL e)) .e) a .e)) (sD (sD (sD (sD .e (sL d)) .e) .e) (sL b))) s (Ll Z)
def Rv(a b c d e f:AV)(s:St):ax:=Z.aE anl abw (sD (sD (sD (sD (sD .e (sL d)) .e) .e) (sN (sD (sD .e (sL f)) .e) a .e)) (sD (sD (sN (sD .e (sL e)) c .e) .e) (sL b))) s (ank Z)
def Rw(a b c d e:AV)(s:St):ax:=Z.aE zt abz (sD (sD (sD (sD (sD .e (sL c)) .e) .e) (sN (sD (sD .e (sL e)) .e) a .e)) (sD (sD (sD (sD .e (sL d)) .e) .e) (sL b))) s (Ll Z)
def uz(a:AV)(s:St):ax:=Z.aE ann abA (sD .e (sD .e (sL a))) s (Dp Z)
def F8(a b:AV)(s:St):ax:=Z.aE anm Nl (sD (sD .e (sL a)) (sD .e (sL b))) s (Dp Z)
def zu(a b c d e:AV)(s:St):ax:=Z.aW (aD Z Kv) zt (sD (sD (sD (sD (sD .e (sL c)) .e) .e) (sN (sD (sD .e (sL e)) .e) a .e)) (sD (sD (sD (sD .e (sL d)) .e) .e) (sL b))) s (afq Z)
def F9(a b:AV)(s:St):ax:=Z.aE av0 Nn (sN (sD .e (sL b)) a .e) s (Dp Z)
def anp(a:AV)(s:St):ax:=Z.aE ano No (sL a) s (aO Z Nq)
def f153(a:AV)(s:St):ax:=aR [a] 0 .e fun fr=>aD Z abB fr s (aO Z Nq)
theorem Rx(h:Z.OK)(a b c d e:AV)(s:St):Ru Z a b c d e s=Z.ak s (fun f s=>zu Z a b c d f s) (au .add e (.int .i64 1)):=h.mm
theorem Ry(h:Z.OK)(a b c d e f:AV)(s:St):Rv Z a b c d e f s=Z.ak s (fun g s=>Z.bc s (fun i s=>Z.ak s (fun j s=>Ru Z a j d e f s) (au .add g i)) .i64 c) (au .mul b (.int .i64 10)):=h.mm
theorem Rz(h:Z.OK)(c d a e b:AV)(s:St):Rw Z c d a e b s=Z.aX s (fun g s=>Z.aq s (fun i s=>Z.ak s (fun f s=>Z.ak s (fun j s=>Z.aH j (Z.fG (.iface 188 (AV.av s.aa (.int .i64 2))) s (fun m s=>Z.aI false [some (.int .i64 0),some m] s)) (Rv Z c d f a e b s)) (au .gtr f (.int .u8 9))) (au .sub i (.int .u8 48))) none g) 1 a b:=h.mm
theorem RA(h:Z.OK)(a:AV)(s:St):uz Z a s=Z.aI false [some a,some .fa] s:=h.mm
theorem RC(h:Z.OK)(b a:AV)(s:St):F8 Z b a s=Z.cZ s (fun c s=>Z.ak s (fun d s=>Z.aH d (Z.ak s (fun e s=>uz Z e s) (kL .neg a)) (uz Z a s)) (au .eql c (.int .u8 45))) b (.int .i64 0):=h.mm
theorem Cs(h:Z.OK)(a b e c d:AV)(s:St):zu Z a b e c d s=Z.ak s (fun f s=>Z.aH f (Rw Z a b e c d s) (F8 Z a b s)) (au .lss d c):=h.ll
theorem RE(h:Z.OK)(a b:AV)(s:St):F9 Z a b s=Z.oj s (fun c s=>Z.aV s (fun d s=>zu Z b (.int .i64 0) c d (.int .i64 0) s) false c) a:=h.mm
theorem anq(a:AV)(s:St):f153 Z a s=Z.aV s (fun c s=>Z.ah (.bool false) true (fun k=>k c s) s (fun j s=>Z.ah (.bool false) true (fun k=>Z.ak s k (au .lss (.int .i64 0) j)) s (fun m s=>Z.ah (.bool false) true (fun k=>k m s) s (fun e s=>Z.ah e true (fun k=>k c s) s (fun o s=>Z.ah e true (fun k=>Z.ak s k (au .lss o (.int .i64 10))) s (fun p s=>Z.ah (.bool false) true (fun k=>Z.aZ s k e p (.bool false)) s (fun q s=>Z.aZ s (fun f s=>Z.ah f false (fun k=>k (.bool true) s) s (fun b s=>Z.ah b true (fun k=>k c s) s (fun r s=>Z.ah b true (fun k=>Z.ak s k (au .lss (.int .i64 0) r)) s (fun t s=>Z.ah b true (fun k=>k t s) s (fun g s=>Z.ah g true (fun k=>k c s) s (fun u s=>Z.ah g true (fun k=>Z.ak s k (au .lss u (.int .i64 19))) s (fun w s=>Z.ah b true (fun k=>Z.aZ s k g w (.bool false)) s (fun x s=>Z.ah f false (fun k=>Z.aZ s k b x (.bool false)) s (fun y s=>Z.aZ s (fun z s=>Z.aH z (Z.cZ s (fun A s=>Z.ak s (fun d s=>Z.ah d false (fun k=>k a s) s (fun B s=>Z.ah d false (fun k=>Z.cZ s k B (.int .i64 0)) s (fun C s=>Z.ah d false (fun k=>Z.ak s k (au .eql C (.int .u8 43))) s (fun D s=>Z.aZ s (fun E s=>Z.aH E (Z.qo a (some (.int .i64 1)) none s (fun i s=>Z.aV s (fun F s=>Z.ak s (fun H s=>Z.aH H (Z.fG (.iface 188 (AV.av s.aa (.int .i64 2))) s (fun I s=>Z.aI false [some (.int .i64 0),some I] s)) (F9 Z i a s)) (au .lss F (.int .i64 1))) true i)) (F9 Z a a s)) d (.bool true) D)))) (au .eql A (.int .u8 45))) a (.int .i64 0)) (anp Z a s)) f (.bool true) y))))))))) (.bool false) q (.bool false)))))))) true a:=by kernel_rfl
theorem WG(a:AV)(s:St):aJ T1 G X 153 [a] s=f153 (PP T1 G X) a s.ai:=aY T1 G X (fn:=Nq)
def f75(a:AV)(s:St):ax:=aR [a] 0 .e fun fr=>aD Z akm fr s (aO Z c75)
theorem av3(a:AV)(s:St):f75 Z a s=Z.aB s (fun b s=>Z.aI false [some b] s) 120 [(AV.av s.aa a)]:=by kernel_rfl
theorem ahn(a:AV)(s:St):aJ T1 G X 75 [a] s=f75 (PP T1 G X) a s.ai:=aY T1 G X (fn:=c75)
def f46(a b:AV)(s:St):ax:=aR [a,b] 0 .e fun fr=>aD Z ajy fr s (aO Z c46)
def f120(a:AV)(s:St):ax:=aR [a] 0 .e fun fr=>aD Z aan fr s (aO Z akM)
theorem anr(a:AV)(s:St):f120 Z a s=Z.aB s (fun b s=>Z.aI false [some b] s) 152 [(AV.av s.aa a),(AV.av s.aa (.int .i64 10))]:=by kernel_rfl
theorem WH(a:AV)(s:St):aJ T1 G X 120 [a] s=f120 (PP T1 G X) a s.ai:=aY T1 G X (fn:=akM)
def av4:KK:=c9 (aD Z abu) (aO Z Nk)
def av5:Mk:=cf 3
def av6:Mk:=cf 14
def ans(a:AV)(s:St):ax:=Z.aE av5 abr (sL a) s (av4 Z)
def ant(a b:AV)(s:St):ax:=Z.aE av6 abt (sN (sL b) a .e) s (aO Z Nk)
def f152(a b:AV)(s:St):ax:=aR [a,b] 0 .e fun fr=>aD Z abv fr s (aO Z Nk)
theorem anu(a b:AV)(s:St):f152 Z a b s=Z.ak s (fun d s=>Z.aH d (Z.ak s (fun c s=>Z.ah c true (fun k=>k a s) s (fun e s=>Z.ah c true (fun k=>Z.ak s k (au .lss e (.int .i64 100))) s (fun f s=>Z.aZ s (fun g s=>Z.aH g (Z.aB s (fun i s=>Z.aI false [some i] s) 163 [(AV.av s.aa a)]) (ans Z a s)) c f (.bool false)))) (au .leq (.int .i64 0) a)) (ant Z a b s)) (au .eql b (.int .i64 10)):=by kernel_rfl
theorem WI(a b:AV)(s:St):aJ T1 G X 152 [a,b] s=f152 (PP T1 G X) a b s.ai:=aY T1 G X (fn:=Nk)
def av7:Mk:=cf 3
def anv(a:AV)(s:St):ax:=Z.aE av7 ach (sL a) s (aO Z acj)
def f163(a:AV)(s:St):ax:=aR [a] 0 .e fun fr=>aD Z aci fr s (aO Z acj)
theorem anw(a:AV)(s:St):f163 Z a s=Z.ak s (fun b s=>Z.aH b (Z.ak s (fun c s=>Z.qo (.str [48,49,50,51,52,53,54,55,56,57,97,98,99,100,101,102,103,104,105,106,107,108,109,110,111,112,113,114,115,116,117,118,119,120,121,122]) (some a) (some c) s (fun d s=>Z.aI false [some d] s)) (au .add a (.int .i64 1))) (anv Z a s)) (au .lss a (.int .i64 10)):=by kernel_rfl
theorem WJ(a:AV)(s:St):aJ T1 G X 163 [a] s=f163 (PP T1 G X) a s.ai:=aY T1 G X (fn:=acj)
def aBt:Mk:=cf 50
def aBu:KK:=c9 (aD Z aiV) (aO Z c12)
def anx:KK:=bu 0 (aBu Z)
def Ga:Mk:=cf 12998
def anz:KK:=cA Ga (Z.aW (aD Z UC) Ga) (anx Z)
def av8:Mk:=cf 965
def afr(a b c d:AV)(s:St):ax:=Z.aE Ga aiS (sN (sD .e (sL c)) a (sN .e b (sL d))) s (anz Z)
def afs(a b c d:AV)(s:St):ax:=Z.aE Ga aiT (sN (sD .e (sL c)) a (sN .e b (sL d))) s (anz Z)
def Lm(a b:AV)(s:St):ax:=Z.aE av8 aiU (sD (sD .e (sL b)) (sL a)) s (aO Z c12)
def Dq(a b c d:AV)(s:St):ax:=Z.aW (aD Z UC) Ga (sN (sD .e (sL c)) a (sN .e b (sL d))) s (anx Z)
def aft(a b:AV)(s:St):ax:=Z.aE aBt aiW (sN .e a (sL b)) s (aO Z c12)
def f12(a:AV)(s:St):ax:=aR [a] 0 .e fun fr=>aD Z aiX fr s (aO Z c12)
theorem WK(h:Z.OK)(a b c d:AV)(s:St):afr Z a b c d s=Z.ak s (fun e s=>Dq Z a b c e s) (au .add d (.int .i64 1)):=h.mm
theorem WL(h:Z.OK)(a d b c:AV)(s:St):afs Z a d b c s=Z.aB s (fun e s=>afr Z a d b c s) 47 [(AV.av s.aa b),(AV.av s.aa a),(AV.av s.aa c)]:=h.mm
theorem WM(h:Z.OK)(b a:AV)(s:St):Lm Z b a s=Z.aG s (fun c s=>Z.aj s (fun d s=>Z.aq s (fun e s=>Z.aG s (fun f s=>Z.aj s (fun g s=>Z.aj s (fun i s=>Z.a7 s (fun _v s=>Z.aG s (fun j s=>Z.aj s (fun m s=>Z.aq s (fun o s=>Z.a7 s (fun _v s=>Z.aI false [gB s b (some 4),some (.int .i64 0)] s) 4 b (AV.av s.aa o)) (some 4) m) 0 j) a) 1 i (AV.av s.aa e)) 0 g) 0 f) a) none d) 8 c) a:=h.mm
theorem Gb(h:Z.OK)(a b c d:AV)(s:St):Dq Z a b c d s=Z.aV s (fun e s=>Z.ak s (fun f s=>Z.aH f (afs Z a b c d s) (Lm Z b c s)) (au .lss d e)) false a:=h.ll
theorem WN(h:Z.OK)(a b:AV)(s:St):aft Z a b s=Z.dh [.int .i64 0, .sl 3 [] .nil, .sl 1 [] .nil, .sl 1 [] .nil, .sl 1 [] .nil, .sl 1 [] .nil, .str [], .int .i64 0, .int .i64 0] [] s (fun c s=>Z.mZ c s (fun d s=>Dq Z a b d (.int .i64 0) s)):=h.mm
theorem afu(a:AV)(s:St):f12 Z a s=Z.fG (.ref (.l s.own.length) 0) (s.new (.cells [.int .i64 0, .sl 3 [] .nil, .sl 1 [] .nil, .sl 1 [] .nil])) (fun b s=>Z.aB s (fun c s=>Z.ak s (fun d s=>Z.aH d (Z.dh [.int .i64 0, .sl 3 [] .nil, .sl 1 [] .nil, .sl 1 [] .nil] [] s (fun e s=>Z.a7 s (fun _v s=>Z.aI false [gB s b (some 4),some c] s) 4 b (AV.av s.aa e))) (aft Z a b s)) (au .neq c (.int .i64 0))) 14 [(AV.av s.aa a)]):=by kernel_rfl
theorem I4(a:AV)(s:St):aJ T1 G X 12 [a] s=f12 (PP T1 G X) a s.ai:=aY T1 G X (fn:=c12)
def aBv:KK:=c9 (aD Z Zy) (aO Z c47)
def anA:KK:=bu 0 (aBv Z)
def Gc:Mk:=cf 0x3360da
def WO:KK:=cA Gc (Z.aW (aD Z UK) Gc) (anA Z)
def aBw:KK:=c9 (aD Z ajB) (WO Z)
def aBx:KK:=bu 1 (aBw Z)
def aBy:Mk:=cf 0xe360da
def afv:Mk:=cf 0x320da
def afw(a b c d e f:AV)(s:St):ax:=Z.aE Gc ajA (sN (sN (sD (sL e) .e) b .e) a (sN (sD (sL f) .e) c (sL d))) s (WO Z)
def Dr(a b c d e f g:AV)(s:St):ax:=Z.aE aBy ajz (sN (sN (sD (sL e) .e) b .e) a (sN (sD (sL f) .e) c (sN (sL g) d .e))) s (aBx Z)
def afx(a b c d e f:AV)(s:St):ax:=Z.aE Gc ajC (sN (sN (sD (sL e) .e) b .e) a (sN (sD (sL f) .e) c (sL d))) s (WO Z)
def zv(a b c d e:AV)(s:St):ax:=Z.aE afv ajD (sN (sN (sD (sL e) .e) b .e) a (sN .e c (sL d))) s (aO Z c47)
def zw(a b c d e:AV)(s:St):ax:=Z.aE afv Zx (sN (sN (sD (sL e) .e) b .e) a (sN .e c (sL d))) s (aO Z c47)
def vA(a b c d e f:AV)(s:St):ax:=Z.aW (aD Z UK) Gc (sN (sN (sD (sL e) .e) b .e) a (sN (sD (sL f) .e) c (sL d))) s (anA Z)
def f47(a b c:AV)(s:St):ax:=aR [a,b,c] 0 .e fun fr=>aD Z ajE fr s (aO Z c47)
theorem WQ(h:Z.OK)(a b c d e f:AV)(s:St):afw Z a b c d e f s=Z.ak s (fun g s=>vA Z a b c d e g s) (au .add f (.int .i64 1)):=h.mm
theorem WR(h:Z.OK)(a b c d e f g:AV)(s:St):Dr Z a b c d e f g s=Z.aF s (fun i s=>Z.cz s (fun j s=>afw Z a b c d j f s) 1 8 (some (.l 0)) e i) 1 [g]:=h.mm
theorem WS(h:Z.OK)(c a b f e d:AV)(s:St):afx Z c a b f e d s=Z.aX s (fun m s=>Z.aj s (fun o s=>Z.aq s (fun p s=>Z.aX s (fun q s=>Z.aq s (fun g s=>Z.aG s (fun r s=>Z.aj s (fun t s=>Z.aj s (fun u s=>Z.aq s (fun w s=>Z.aX s (fun x s=>Z.aq s (fun y s=>Z.aF s (fun z s=>Z.cz s (fun i s=>Z.aB s (fun j s=>Z.bk s (fun A s=>Z.bk s (fun F s=>Z.aX s (fun B s=>Z.aj s (fun C s=>Z.aq s (fun D s=>Z.ak s (fun E s=>Z.aH E (Dr Z c a b i e d (.int .i64 1) s) (Dr Z c a b i e d A s)) (au .eql D (.int .i64 4))) none C) 1 B) 12 a b) 1 j) 0 j) 65 [(AV.av s.aa a),(AV.av s.aa g)]) 1 24 (some (.l 0)) f z) 1 [y]) none x) 1 w g) none u) 2 t) 0 r) c) none q) 1 p d) none o) 2 m) 12 a b:=h.mm
theorem WT(h:Z.OK)(a d e f c:AV)(s:St):zv Z a d e f c s=Z.aB s (fun F s=>Z.aV s (fun g s=>Z.ak s (fun b s=>Z.ah b true (fun k=>k c s) s (fun i s=>Z.ah b true (fun k=>Z.aX s k 1 i (.int .i64 0)) s (fun j s=>Z.ah b true (fun k=>Z.aq s k none j) s (fun m s=>Z.ah b true (fun k=>Z.ak s k (au .eql m (.int .i64 3))) s (fun o s=>Z.aZ s (fun p s=>Z.aX s (fun q s=>Z.aj s (fun r s=>Z.aq s (fun t s=>Z.aB s (fun u s=>Z.aG s (fun w s=>Z.aj s (fun x s=>Z.aj s (fun y s=>Z.aq s (fun z s=>Z.aF s (fun A s=>Z.cz s (fun B s=>Z.aG s (fun C s=>Z.aj s (fun D s=>Z.aj s (fun E s=>Z.a7 s (fun _v s=>Z.aI false [] s) 1 E (AV.av s.aa B)) 2 D) 0 C) a) 1 24 (Ig a) z A) 1 [u]) none y) 2 x) 0 w) a) 82 [(AV.av s.aa a),(AV.av s.aa t),(AV.av s.aa p)]) none r) 1 q) 12 d e) b o (.bool false)))))) (au .gtr g (.int .i64 0))) false c) 66 [(AV.av s.aa a),(AV.av s.aa f),(AV.av s.aa c)]:=h.mm
theorem Gd(h:Z.OK)(d b c a e:AV)(s:St):zw Z d b c a e s=Z.aX s (fun f s=>Z.aj s (fun g s=>Z.aq s (fun i s=>Z.ak s (fun j s=>Z.aH j (Z.aX s (fun m s=>Z.aq s (fun o s=>Z.aX s (fun p s=>Z.aq s (fun q s=>Z.aX s (fun r s=>Z.aq s (fun t s=>Z.aF s (fun u s=>Z.aF s (fun w s=>zv Z d b c u w s) 1 [(.int .i64 1),(.int .i64 1),(.int .i64 1)]) 1 [o,q,t]) none r) 1 a (.int .i64 1)) none p) 1 a (.int .i64 0)) none m) 1 a (.int .i64 0)) (zv Z d b c a e s)) (au .eql i (.int .i64 5))) none g) 1 f) 12 b c:=h.mm
theorem Ge(h:Z.OK)(c a b d e f:AV)(s:St):vA Z c a b d e f s=Z.aX s (fun g s=>Z.aj s (fun i s=>Z.aq s (fun j s=>Z.aV s (fun m s=>Z.ak s (fun o s=>Z.aH o (afx Z c a b d e f s) (zw Z c a b d e s)) (au .lss f m)) false j) none i) 2 g) 12 a b:=h.ll
theorem av9(a b c:AV)(s:St):f47 Z a b c s=Z.aG s (fun d s=>Z.aj s (fun e s=>Z.a7 s (fun _v s=>Z.aG s (fun f s=>Z.aj s (fun g s=>Z.a7 s (fun _v s=>vA Z a b c (.sl 1 [] .nil) (.sl 1 [] .nil) (.int .i64 0) s) 1 g (AV.av s.aa (.sl 1 [] .nil))) 5 f) a) 1 e (AV.av s.aa (.sl 1 [] .nil))) 4 d) a:=by kernel_rfl
theorem aho(a b c:AV)(s:St):aJ T1 G X 47 [a,b,c] s=f47 (PP T1 G X) a b c s.ai:=aY T1 G X (fn:=c47)
def anB:KK:=bu 0 (aO Z c66)
def Gf:Mk:=cf 814
def WU:KK:=cA Gf (Z.aW (aD Z Kh) Gf) (anB Z)
def aBz:KK:=c9 (aD Z ZM) (WU Z)
def AR:KK:=bu 1 (aBz Z)
def aBA:KK:=c9 (aD Z ZK) (AR Z)
def anC:KK:=bu 2 (aBA Z)
def Gg:Mk:=cf 0x33634da
def afy:KK:=cA Gg (Z.aW (aD Z UO) Gg) (anC Z)
def awa:Mk:=cf 0x3360da
def awb:Mk:=cf 3630
def afz:Mk:=cf 0xe231a
def afA:KK:=bu 4 (AR Z)
def zx:Mk:=cf 0xec631a
def afB:KK:=cA zx (Z.aW (aD Z Kg) zx) (afA Z)
def zy(a b c d e f g:AV)(s:St):ax:=Z.aE Gg ajY (sN (sN (sD (sL e) .e) b (sD (sL g) .e)) a (sN (sD (sL f) .e) c (sL d))) s (afy Z)
def afC(a b c d e f g:AV)(s:St):ax:=Z.aE Gg ajZ (sN (sN (sD (sL e) .e) b (sD (sL g) .e)) a (sN (sD (sL f) .e) c (sL d))) s (afy Z)
def RF(a b c d e f g:AV)(s:St):ax:=Z.aE zx aj0 (sN (sN (sD .e (sL f)) b .e) a (sN (sD .e (sL g)) c (sN (sL e) d .e))) s (afB Z)
def RG(a b c d e f g:AV)(s:St):ax:=Z.aE zx aj1 (sN (sN (sD .e (sL f)) b .e) a (sN (sD .e (sL g)) c (sN (sL e) d .e))) s (afB Z)
def Gh(a b c d:AV)(s:St):ax:=Z.aE Gf ZL (sN (sL b) a (sN .e c (sL d))) s (WU Z)
def uA(a b c d e f g:AV)(s:St):ax:=Z.aW (aD Z Kg) zx (sN (sN (sD .e (sL f)) b .e) a (sN (sD .e (sL g)) c (sN (sL e) d .e))) s (afA Z)
def Ln(a b c d e f:AV)(s:St):ax:=Z.aE afz ZG (sN (sN (sD .e (sL f)) b .e) a (sN .e c (sN (sL e) d .e))) s (AR Z)
def Lo(a b c d e f:AV)(s:St):ax:=Z.aE afz ZH (sN (sN (sD .e (sL f)) b .e) a (sN .e c (sN (sL e) d .e))) s (AR Z)
def zA(a b c d e:AV)(s:St):ax:=Z.aE awb ZI (sN (sL b) a (sN .e c (sN (sL e) d .e))) s (AR Z)
def Ds(a b c d e f:AV)(s:St):ax:=Z.aE awa ZJ (sN (sN (sD (sL e) .e) b .e) a (sN (sD (sL f) .e) c (sL d))) s (AR Z)
def Dt(a b c d e f g:AV)(s:St):ax:=Z.aW (aD Z UO) Gg (sN (sN (sD (sL e) .e) b (sD (sL g) .e)) a (sN (sD (sL f) .e) c (sL d))) s (anC Z)
def afD(a b c d:AV)(s:St):ax:=Z.aE Gf ZN (sN (sL b) a (sN .e c (sL d))) s (WU Z)
def Du(a b c d:AV)(s:St):ax:=Z.aW (aD Z Kh) Gf (sN (sL b) a (sN .e c (sL d))) s (anB Z)
def f66(a b c:AV)(s:St):ax:=aR [a,b,c] 0 .e fun fr=>aD Z aj2 fr s (aO Z c66)
theorem WV(h:Z.OK)(a b c d e f g:AV)(s:St):zy Z a b c d e f g s=Z.ak s (fun i s=>Dt Z a b c d e f i s) (au .add g (.int .i64 1)):=h.mm
theorem WW(h:Z.OK)(d e a b g f c:AV)(s:St):afC Z d e a b g f c s=Z.aX s (fun j s=>Z.aq s (fun m s=>Z.aX s (fun o s=>Z.aq s (fun p s=>Z.ak s (fun q s=>Z.aH q (Z.ak s (fun i s=>Z.ak s (fun r s=>Z.aH r (Z.ak s (fun t s=>zy Z d e a b i t c s) (au .add f (.int .i64 1))) (zy Z d e a b i f c s)) (au .lss c b)) (au .add g (.int .i64 1))) (zy Z d e a b g f c s)) (au .eql m p)) none o) 1 a b) none j) 1 a c:=h.mm
theorem RH(h:Z.OK)(a b c d e f g:AV)(s:St):RF Z a b c d e f g s=Z.ak s (fun i s=>uA Z a b c d e f i s) (au .add g (.int .i64 1)):=h.mm
theorem RI(h:Z.OK)(b c g d e f a:AV)(s:St):RG Z b c g d e f a s=Z.aX s (fun i s=>Z.aq s (fun j s=>Z.ak s (fun m s=>Z.aX s (fun o s=>Z.aq s (fun p s=>Z.aX s (fun q s=>Z.aq s (fun r s=>Z.aB s (fun t s=>RF Z b c g d e f a s) 107 [(AV.av s.aa b),(AV.av s.aa m),(AV.av s.aa r)]) none q) 1 p a) none o) 1 c d) (au .add j e)) none i) 1 f a:=h.mm
theorem RJ(h:Z.OK)(a b c d:AV)(s:St):Gh Z a b c d s=Z.ak s (fun e s=>Du Z a b c e s) (au .add d (.int .i64 1)):=h.mm
theorem uB(h:Z.OK)(e b f c i g d:AV)(s:St):uA Z e b f c i g d s=Z.aX s (fun j s=>Z.aq s (fun m s=>Z.aV s (fun o s=>Z.ak s (fun a s=>Z.ah a true (fun k=>k d s) s (fun p s=>Z.ah a true (fun k=>k g s) s (fun q s=>Z.ah a true (fun k=>Z.aV s k false q) s (fun r s=>Z.ah a true (fun k=>Z.ak s k (au .lss p r)) s (fun t s=>Z.aZ s (fun u s=>Z.aH u (RG Z e b f c i g d s) (Gh Z e b f c s)) a t (.bool false)))))) (au .lss d o)) false m) none j) 1 b c:=h.ll
theorem wM(h:Z.OK)(a b c d e f:AV)(s:St):Ln Z a b c d e f s=uA Z a b c d e f (.int .i64 0) s:=h.mm
theorem wO(h:Z.OK)(c d a b e f:AV)(s:St):Lo Z c d a b e f s=Z.aX s (fun g s=>Z.aq s (fun i s=>Z.ak s (fun j s=>Z.aH j (Z.aF s (fun m s=>Ln Z c d a b e m s) 1 [(.str [117]),(.str [112]),(.str [113]),(.str [114]),(.str [97,120]),(.str [97,121]),(.str [97,122])]) (Ln Z c d a b e f s)) (au .eql i (.int .i64 3))) none g) 1 a b:=h.mm
theorem WX(h:Z.OK)(c d a b e:AV)(s:St):zA Z c d a b e s=Z.aF s (fun f s=>Z.aX s (fun g s=>Z.aq s (fun i s=>Z.ak s (fun j s=>Z.aH j (Z.aF s (fun m s=>Lo Z c d a b e m s) 1 [(.str [97]),(.str [98]),(.str [99])]) (Lo Z c d a b e f s)) (au .eql i (.int .i64 2))) none g) 1 a b) 1 [(.str [120]),(.str [121]),(.str [122])]:=h.mm
theorem WY(h:Z.OK)(a b c d e f:AV)(s:St):Ds Z a b c d e f s=Z.ak s (fun g s=>Z.aH g (Z.ak s (fun i s=>Z.bc s (fun j s=>Z.aF s (fun m s=>Z.mq s (fun o s=>zA Z a b c d o s) m) 1 [j]) .u8 i) (au .add (.int .i64 48) f)) (zA Z a b c d (.str []) s)) (au .gtr e (.int .i64 1)):=h.mm
theorem Gi(h:Z.OK)(b c a d e f g:AV)(s:St):Dt Z b c a d e f g s=Z.aV s (fun i s=>Z.ak s (fun j s=>Z.aH j (afC Z b c a d e f g s) (Ds Z b c a d e f s)) (au .lss g i)) false a:=h.ll
theorem WZ(h:Z.OK)(a b c d:AV)(s:St):afD Z a b c d s=Dt Z a b c d (.int .i64 0) (.int .i64 1) (.int .i64 0) s:=h.mm
theorem Gj(h:Z.OK)(c a d b:AV)(s:St):Du Z c a d b s=Z.aV s (fun e s=>Z.ak s (fun f s=>Z.aH f (afD Z c a d b s) (Z.aI false [] s)) (au .lss b e)) false a:=h.ll
theorem awc(a b c:AV)(s:St):f66 Z a b c s=Du Z a b c (.int .i64 0) s:=by kernel_rfl
theorem ahp(a b c:AV)(s:St):aJ T1 G X 66 [a,b,c] s=f66 (PP T1 G X) a b c s.ai:=aY T1 G X (fn:=c66)
def aBB:KK:=c9 (aD Z aks) (aO Z c82)
def anD:KK:=bu 0 (aBB Z)
def aBC:Mk:=cf 0xd110d6
def aBD:Mk:=cf 0xc450d6
def aBE:Mk:=cf 3
def afE(a:AV)(s:St):ax:=Z.aE aBE akr (sL a) s (aO Z c82)
def Lp(a b c:AV)(s:St):ax:=Z.aE aBD akp (sN (sD (sD (sL b) .e) .e) a (sD (sD .e (sD .e (sL c))) .e)) s (anD Z)
def Lq(a b c:AV)(s:St):ax:=Z.aE aBC akq (sN (sD (sD (sL b) .e) .e) a (sD .e (sD .e (sD (sL c) .e)))) s (anD Z)
def f82(a b c:AV)(s:St):ax:=aR [a,b,c] 0 .e fun fr=>aD Z akt fr s (aO Z c82)
theorem W0(h:Z.OK)(a:AV)(s:St):afE Z a s=Z.aF s (fun b s=>Z.aB s (fun c s=>Z.aI false [some c] s) 108 [(AV.av s.aa a),(AV.av s.aa b)]) 1 [(.str [45,112]),(.str [45,113]),(.str [50,32,117])]:=h.mm
theorem fZ(h:Z.OK)(a b c:AV)(s:St):Lp Z a b c s=Z.aH c (Z.aB s (fun d s=>Z.aI false [some d] s) 129 [(AV.av s.aa a)]) (Z.ak s (fun e s=>Z.aH e (Z.aB s (fun f s=>Z.aI false [some f] s) 130 [(AV.av s.aa a)]) (Z.ak s (fun g s=>Z.aH g (Z.aF s (fun i s=>Z.aB s (fun W s=>Z.aF s (fun j s=>Z.aB s (fun Y s=>Z.aB s (fun m s=>Z.aB s (fun va s=>Z.aB s (fun o s=>Z.aB s (fun p s=>Z.aI false [some p] s) 108 [(AV.av s.aa a),(AV.av s.aa o)]) 132 []) 110 [(AV.av s.aa a),(AV.av s.aa m)]) 131 []) 110 [(AV.av s.aa a),(AV.av s.aa j)]) 1 [(.str [117]),(.str [117,49]),(.str [112]),(.str [112,49]),(.str [113]),(.str [113,49]),(.str [114]),(.str [114,49])]) 110 [(AV.av s.aa a),(AV.av s.aa i)]) 1 [(.str [97]),(.str [117,50,32,112,49,32,45,32,117,49,32,112,50]),(.str [98]),(.str [117,50,32,113,49,32,45,32,117,49,32,113,50]),(.str [99]),(.str [117,50,32,114,49,32,45,32,117,49,32,114,50])]) (Z.ak s (fun q s=>Z.aH q (Z.aB s (fun r s=>Z.aB s (fun vb s=>Z.aB s (fun t s=>Z.aB s (fun u s=>Z.aI false [some u] s) 108 [(AV.av s.aa a),(AV.av s.aa t)]) 132 []) 110 [(AV.av s.aa a),(AV.av s.aa r)]) 131 []) (Z.ak s (fun w s=>Z.aH w (Z.aF s (fun x s=>Z.aB s (fun vc s=>Z.aF s (fun y s=>Z.aB s (fun z s=>Z.aI false [some z] s) 108 [(AV.av s.aa a),(AV.av s.aa y)]) 1 [(.str [121,32,111,32,45,32,122,32,98]),(.str [122,32,97,32,45,32,120,32,111]),(.str [120,32,98,32,45,32,121,32,97])]) 110 [(AV.av s.aa a),(AV.av s.aa x)]) 1 [(.str [111]),(.str [48])]) (Z.ak s (fun A s=>Z.aH A (Z.aF s (fun B s=>Z.aB s (fun vd s=>Z.aF s (fun C s=>Z.aB s (fun D s=>Z.aI false [some D] s) 108 [(AV.av s.aa a),(AV.av s.aa C)]) 1 [(.str [121,32,111,32,45,32,122,32,97]),(.str [122,32,101,32,45,32,120,32,111]),(.str [120,32,97,32,45,32,121,32,101])]) 110 [(AV.av s.aa a),(AV.av s.aa B)]) 1 [(.str [111]),(.str [48]),(.str [101]),(.str [111,32,45,32,98])]) (Z.ak s (fun E s=>Z.aH E (Z.aF s (fun F s=>Z.aB s (fun H s=>Z.aI false [some H] s) 108 [(AV.av s.aa a),(AV.av s.aa F)]) 1 [(.str [120,49,32,122,50,32,43,32,120,50,32,122,49]),(.str [121,49,32,122,50,32,43,32,121,50,32,122,49]),(.str [50,32,122,49,32,122,50])]) (Z.ak s (fun I s=>Z.aH I (Z.aF s (fun J s=>Z.aB s (fun ve s=>Z.aF s (fun K s=>Z.aB s (fun L s=>Z.aI false [some L] s) 108 [(AV.av s.aa a),(AV.av s.aa K)]) 1 [(.str [110,32,120,32,45,32,50,32,97,32,107]),(.str [110,32,121,32,45,32,50,32,98,32,107]),(.str [110,32,122])]) 110 [(AV.av s.aa a),(AV.av s.aa J)]) 1 [(.str [110]),(.str [97,94,50,32,43,32,98,94,50]),(.str [107]),(.str [97,32,120,32,43,32,98,32,121,32,43,32,99,32,122])]) (Z.ak s (fun M s=>Z.aH M (Z.aF s (fun N s=>Z.aB s (fun vf s=>Z.aF s (fun O s=>Z.aB s (fun P s=>Z.aI false [some P] s) 108 [(AV.av s.aa a),(AV.av s.aa O)]) 1 [(.str [45,122,50,32,100,121]),(.str [122,50,32,100,120]),(.str [120,50,32,100,121,32,45,32,121,50,32,100,120])]) 110 [(AV.av s.aa a),(AV.av s.aa N)]) 1 [(.str [118,120]),(.str [120,49,32,122,50,32,45,32,120,50,32,122,49]),(.str [118,121]),(.str [121,49,32,122,50,32,45,32,121,50,32,122,49]),(.str [119,120]),(.str [120,51,32,122,50,32,45,32,120,50,32,122,51]),(.str [119,121]),(.str [121,51,32,122,50,32,45,32,121,50,32,122,51]),(.str [118]),(.str [118,120,94,50,32,43,32,118,121,94,50]),(.str [119]),(.str [119,120,94,50,32,43,32,119,121,94,50]),(.str [115]),(.str [33,118,32,119]),(.str [100,120]),(.str [119,32,118,120,32,43,32,115,32,119,120]),(.str [100,121]),(.str [119,32,118,121,32,43,32,115,32,119,121])]) (Z.ak s (fun Q s=>Z.aH Q (Z.aF s (fun R s=>Z.aB s (fun vg s=>Z.aB s (fun S s=>Z.aB s (fun vh s=>Z.aF s (fun T s=>Z.aB s (fun vi s=>Z.aF s (fun U s=>Z.aB s (fun V s=>Z.aI false [some V] s) 108 [(AV.av s.aa a),(AV.av s.aa U)]) 1 [(.str [50,32,117,32,116,120,32,43,32,112,32,116,122]),(.str [50,32,117,32,116,121,32,43,32,113,32,116,122]),(.str [112,32,116,120,32,43,32,113,32,116,121,32,43,32,50,32,114,32,116,122])]) 110 [(AV.av s.aa a),(AV.av s.aa T)]) 1 [(.str [116,120]),(.str [45,110,32,112,32,45,32,107,32,97,32,45,32,115,32,98]),(.str [116,121]),(.str [45,110,32,113,32,45,32,107,32,98,32,43,32,115,32,97]),(.str [116,122]),(.str [50,32,110,32,117])]) 110 [(AV.av s.aa a),(AV.av s.aa S)]) 131 []) 110 [(AV.av s.aa a),(AV.av s.aa R)]) 1 [(.str [97]),(.str [50,32,117,32,120,32,43,32,112,32,122]),(.str [98]),(.str [50,32,117,32,121,32,43,32,113,32,122]),(.str [99]),(.str [112,32,120,32,43,32,113,32,121,32,43,32,50,32,114,32,122])]) (afE Z a s)) (au .eql b (.int .i64 15)))) (au .eql b (.int .i64 14)))) (au .eql b (.int .i64 13)))) (au .eql b (.int .i64 12)))) (au .eql b (.int .i64 11)))) (au .eql b (.int .i64 10)))) (au .eql b (.int .i64 8)))) (au .eql b (.int .i64 9)))) (au .eql b (.int .i64 7))):=h.mm
theorem f0(h:Z.OK)(b a c:AV)(s:St):Lq Z b a c s=Z.aH c (Z.aB s (fun e s=>Z.aB s (fun f s=>Z.aI false [some f] s) 108 [(AV.av s.aa b),(AV.av s.aa e)]) 109 []) (Z.ak s (fun d s=>Z.aH d (Lp Z b a d s) (Z.ak s (fun g s=>Lp Z b a g s) (au .eql a (.int .i64 6)))) (au .eql a (.int .i64 5))):=h.mm
theorem jG(a b c:AV)(s:St):f82 Z a b c s=Z.ak s (fun e s=>Z.aH e (Z.aB s (fun o s=>Z.aB s (fun p s=>Z.aF s (fun f s=>Z.aB s (fun g s=>Z.aI false [some g] s) 108 [(AV.av s.aa a),(AV.av s.aa f)]) 1 [(.str [120,120]),(.str [121,121]),(.str [49])]) 127 [(AV.av s.aa a),(AV.av s.aa (.str [121,121]))]) 127 [(AV.av s.aa a),(AV.av s.aa (.str [120,120]))]) (Z.ak s (fun i s=>Z.aH i (Z.aB s (fun j s=>Z.aI false [some j] s) 128 [(AV.av s.aa a),(AV.av s.aa c)]) (Z.ak s (fun d s=>Z.aH d (Lq Z a b d s) (Z.ak s (fun m s=>Lq Z a b m s) (au .eql b (.int .i64 4)))) (au .eql b (.int .i64 3)))) (au .eql b (.int .i64 2)))) (au .eql b (.int .i64 1)):=by kernel_rfl
theorem ahq(a b c:AV)(s:St):aJ T1 G X 82 [a,b,c] s=f82 (PP T1 G X) a b c s.ai:=aY T1 G X (fn:=c82)
def f107(a b c:AV)(s:St):ax:=aR [a,b,c] 0 .e fun fr=>aD Z ZV fr s (aO Z akH)
theorem anE(a b c:AV)(s:St):f107 Z a b c s=Z.aG s (fun d s=>Z.aj s (fun e s=>Z.aq s (fun f s=>Z.aF s (fun g s=>Z.cz s (fun i s=>Z.aG s (fun j s=>Z.aj s (fun m s=>Z.a7 s (fun _v s=>Z.aG s (fun o s=>Z.aj s (fun p s=>Z.aq s (fun q s=>Z.aF s (fun r s=>Z.cz s (fun t s=>Z.aG s (fun u s=>Z.aj s (fun w s=>Z.a7 s (fun _v s=>Z.aI false [] s) 1 w (AV.av s.aa t)) 5 u) a) 1 8 (Ig a) q r) 1 [c]) none p) 5 o) a) 1 m (AV.av s.aa i)) 4 j) a) 1 16 (Ig a) f g) 1 [b]) none e) 4 d) a:=by kernel_rfl
theorem W1(a b c:AV)(s:St):aJ T1 G X 107 [a,b,c] s=f107 (PP T1 G X) a b c s.ai:=aY T1 G X (fn:=akH)
def awd:KK:=c9 (aD Z ZZ) (aO Z M3)
def afF:KK:=bu 0 (awd Z)
def zB:Mk:=cf 12746
def afG:KK:=cA zB (Z.aW (aD Z Kj) zB) (afF Z)
def awe:Mk:=cf 197
def RK(a b c d:AV)(s:St):ax:=Z.aE zB ZW (sN (sN .e b (sL c)) a (sD .e (sL d))) s (afG Z)
def RL(a b c d:AV)(s:St):ax:=Z.aE zB ZX (sN (sN .e b (sL c)) a (sD .e (sL d))) s (afG Z)
def RM(a:AV)(s:St):ax:=Z.aE awe ZY (sD (sD .e (sL a)) .e) s (aO Z M3)
def zC(a b c d:AV)(s:St):ax:=Z.aW (aD Z Kj) zB (sN (sN .e b (sL c)) a (sD .e (sL d))) s (afF Z)
def f108(a b:AV)(s:St):ax:=aR [a,b] 0 .e fun fr=>aD Z Z0 fr s (aO Z M3)
theorem RN(h:Z.OK)(a b c d:AV)(s:St):RK Z a b c d s=Z.ak s (fun e s=>zC Z a b c e s) (au .add d (.int .i64 1)):=h.mm
theorem RO(h:Z.OK)(a b d c:AV)(s:St):RL Z a b d c s=Z.aX s (fun e s=>Z.aq s (fun f s=>Z.aB s (fun g s=>Z.aF s (fun i s=>Z.cz s (fun j s=>RK Z a b j c s) 1 8 (some (.l 0)) d i) 1 [g]) 145 [(AV.av s.aa a),(AV.av s.aa f)]) none e) 1 b c:=h.mm
theorem RP(h:Z.OK)(a:AV)(s:St):RM Z a s=Z.aI false [some a] s:=h.mm
theorem Ct(h:Z.OK)(d a b c:AV)(s:St):zC Z d a b c s=Z.aV s (fun e s=>Z.ak s (fun f s=>Z.aH f (RL Z d a b c s) (RM Z b s)) (au .lss c e)) false a:=h.ll
theorem anF(a b:AV)(s:St):f108 Z a b s=zC Z a b (.sl 1 [] .nil) (.int .i64 0) s:=by kernel_rfl
theorem W2(a b:AV)(s:St):aJ T1 G X 108 [a,b] s=f108 (PP T1 G X) a b s.ai:=aY T1 G X (fn:=M3)
def f109(s:St):ax:=aR [] 0 .e fun fr=>aD Z Z1 fr s (aO Z akI)
theorem anG(s:St):f109 Z s=Z.aF s (fun a s=>Z.aI false [some a] s) 1 [(.str [121,49,32,122,50,32,45,32,122,49,32,121,50]),(.str [122,49,32,120,50,32,45,32,120,49,32,122,50]),(.str [120,49,32,121,50,32,45,32,121,49,32,120,50])]:=by kernel_rfl
theorem W3(s:St):aJ T1 G X 109 [] s=f109 (PP T1 G X) s.ai:=aY T1 G X (fn:=akI)
def afH:KK:=bu 0 (aO Z Z7)
def vB:Mk:=cf 222
def Lr:KK:=cA vB (Z.aW (aD Z Kk) vB) (afH Z)
def awf:KK:=c9 (aD Z Z4) (Lr Z)
def awg:KK:=bu 1 (awf Z)
def zD(a b c:AV)(s:St):ax:=Z.aE vB Z3 (sN (sL b) a (sD (sL c) .e)) s (Lr Z)
def RQ(a b c:AV)(s:St):ax:=Z.aE vB Z2 (sN (sL b) a (sD (sL c) .e)) s (awg Z)
def RR(a b c:AV)(s:St):ax:=Z.aE vB Z5 (sN (sL b) a (sD (sL c) .e)) s (Lr Z)
def zE(a b c:AV)(s:St):ax:=Z.aW (aD Z Kk) vB (sN (sL b) a (sD (sL c) .e)) s (afH Z)
def f110(a b:AV)(s:St):ax:=aR [a,b] 0 .e fun fr=>aD Z Z6 fr s (aO Z Z7)
theorem RS(h:Z.OK)(a b c:AV)(s:St):zD Z a b c s=Z.ak s (fun d s=>zE Z a b d s) (au .add c (.int .i64 2)):=h.mm
theorem RT(h:Z.OK)(a b c:AV)(s:St):RQ Z a b c s=Z.ak s (fun d s=>Z.aX s (fun e s=>Z.aq s (fun f s=>Z.aB s (fun g s=>Z.aX s (fun i s=>Z.aq s (fun j s=>Z.aB s (fun m s=>zD Z a b c s) 107 [(AV.av s.aa a),(AV.av s.aa j),(AV.av s.aa g)]) none i) 1 b c) 145 [(AV.av s.aa a),(AV.av s.aa f)]) none e) 1 b d) (au .add c (.int .i64 1)):=h.mm
theorem RU(h:Z.OK)(a b c:AV)(s:St):RR Z a b c s=Z.ak s (fun e s=>Z.aX s (fun f s=>Z.aq s (fun g s=>Z.cZ s (fun i s=>Z.ak s (fun j s=>Z.aH j (Z.ak s (fun m s=>Z.aX s (fun o s=>Z.aq s (fun p s=>Z.qo p (some (.int .i64 1)) none s (fun q s=>Z.aB s (fun r s=>Z.aB s (fun d s=>Z.aG s (fun t s=>Z.aj s (fun u s=>Z.aj s (fun w s=>Z.aq s (fun x s=>Z.aF s (fun y s=>Z.cz s (fun z s=>Z.aG s (fun A s=>Z.aj s (fun B s=>Z.aj s (fun C s=>Z.a7 s (fun _v s=>Z.aX s (fun D s=>Z.aq s (fun E s=>Z.aB s (fun F s=>zD Z a b c s) 107 [(AV.av s.aa a),(AV.av s.aa E),(AV.av s.aa d)]) none D) 1 b c) 1 C (AV.av s.aa z)) 3 B) 0 A) a) 1 8 (Ig a) x y) 1 [d]) none w) 3 u) 0 t) a) 146 [(AV.av s.aa a),(AV.av s.aa (.int .i64 6)),(AV.av s.aa r),(AV.av s.aa (.int .i64 0))]) 145 [(AV.av s.aa a),(AV.av s.aa q)])) none o) 1 b m) (au .add c (.int .i64 1))) (RQ Z a b c s)) (au .eql i (.int .u8 33))) g (.int .i64 0)) none f) 1 b e) (au .add c (.int .i64 1)):=h.mm
theorem Cu(h:Z.OK)(c a b:AV)(s:St):zE Z c a b s=Z.ak s (fun d s=>Z.aV s (fun e s=>Z.ak s (fun f s=>Z.aH f (RR Z c a b s) (Z.aI false [] s)) (au .lss d e)) false a) (au .add b (.int .i64 1)):=h.ll
theorem anH(a b:AV)(s:St):f110 Z a b s=zE Z a b (.int .i64 0) s:=by kernel_rfl
theorem W4(a b:AV)(s:St):aJ T1 G X 110 [a,b] s=f110 (PP T1 G X) a b s.ai:=aY T1 G X (fn:=Z7)
def afI:KK:=bu 0 (aO Z aab)
def zF:Mk:=cf 222
def afJ:KK:=cA zF (Z.aW (aD Z Kl) zF) (afI Z)
def Gk(a b c:AV)(s:St):ax:=Z.aE zF Z8 (sN (sL b) a (sD (sL c) .e)) s (afJ Z)
def Gl(a b c:AV)(s:St):ax:=Z.aE zF Z9 (sN (sL b) a (sD (sL c) .e)) s (afJ Z)
def zG(a b c:AV)(s:St):ax:=Z.aW (aD Z Kl) zF (sN (sL b) a (sD (sL c) .e)) s (afI Z)
def f111(a b:AV)(s:St):ax:=aR [a,b] 0 .e fun fr=>aD Z aaa fr s (aO Z aab)
theorem RV(h:Z.OK)(a b c:AV)(s:St):Gk Z a b c s=Z.ak s (fun d s=>zG Z a b d s) (au .add c (.int .i64 1)):=h.mm
theorem RW(h:Z.OK)(b d c:AV)(s:St):Gl Z b d c s=Z.ak s (fun e s=>Z.bc s (fun f s=>Z.aF s (fun g s=>Z.mq s (fun a s=>Z.ak s (fun i s=>Z.ak s (fun j s=>Z.ak s (fun m s=>Z.ak s (fun o s=>Z.ak s (fun p s=>Z.ak s (fun q s=>Z.ak s (fun r s=>Z.ak s (fun t s=>Z.ak s (fun u s=>Z.ak s (fun w s=>Z.ak s (fun x s=>Z.ak s (fun y s=>Z.ak s (fun z s=>Z.ak s (fun A s=>Z.ak s (fun B s=>Z.ak s (fun C s=>Z.aF s (fun D s=>Z.aB s (fun E s=>Gk Z b d c s) 110 [(AV.av s.aa b),(AV.av s.aa D)]) 1 [i,p,q,u,w,z,A,C]) (au .add B (.str [94,50]))) (au .add (.str [122]) a)) (au .add (.str [104]) a)) (au .add y a)) (au .add x (.str [32,122]))) (au .add (.str [121]) a)) (au .add (.str [103]) a)) (au .add t a)) (au .add r (.str [32,122]))) (au .add (.str [120]) a)) (au .add (.str [102]) a)) (au .add o (.str [94,50]))) (au .add m a)) (au .add j (.str [94,50,32,43,32,121]))) (au .add (.str [120]) a)) (au .add (.str [115]) a)) g) 1 [f]) .u8 e) (au .add (.int .i64 48) c):=h.mm
theorem Cv(h:Z.OK)(c a b:AV)(s:St):zG Z c a b s=Z.ak s (fun d s=>Z.aH d (Gl Z c a b s) (Z.aI false [] s)) (au .leq b a):=h.ll
theorem anI(a b:AV)(s:St):f111 Z a b s=zG Z a b (.int .i64 1) s:=by kernel_rfl
theorem W5(a b:AV)(s:St):aJ T1 G X 111 [a,b] s=f111 (PP T1 G X) a b s.ai:=aY T1 G X (fn:=aab)
def f127(a b:AV)(s:St):ax:=aR [a,b] 0 .e fun fr=>aD Z aaQ fr s (aO Z akO)
theorem anJ(a b:AV)(s:St):f127 Z a b s=Z.aG s (fun c s=>Z.aj s (fun d s=>Z.aq s (fun e s=>Z.aB s (fun f s=>Z.aG s (fun g s=>Z.aj s (fun i s=>Z.aq s (fun j s=>Z.ak s (fun m s=>Z.aG s (fun o s=>Z.aj s (fun p s=>Z.a7 s (fun _v s=>Z.aB s (fun q s=>Z.aI false [] s) 107 [(AV.av s.aa a),(AV.av s.aa b),(AV.av s.aa f)]) 1 p (AV.av s.aa m)) 8 o) a) (au .add j (.int .i64 1))) none i) 8 g) a) 146 [(AV.av s.aa a),(AV.av s.aa (.int .i64 1)),(AV.av s.aa e),(AV.av s.aa (.int .i64 0))]) none d) 8 c) a:=by kernel_rfl
theorem W6(a b:AV)(s:St):aJ T1 G X 127 [a,b] s=f127 (PP T1 G X) a b s.ai:=aY T1 G X (fn:=akO)
def awh:Mk:=cf 3
def RX(a:AV)(s:St):ax:=Z.aE awh aaR (sL a) s (aO Z aaT)
def f128(a b:AV)(s:St):ax:=aR [a,b] 0 .e fun fr=>aD Z aaS fr s (aO Z aaT)
theorem RY(h:Z.OK)(a:AV)(s:St):RX Z a s=Z.aF s (fun b s=>Z.aB s (fun e s=>Z.aF s (fun c s=>Z.aB s (fun d s=>Z.aI false [some d] s) 108 [(AV.av s.aa a),(AV.av s.aa c)]) 1 [(.str [45,112,32,97,122,32,109,32,43,32,107,32,100,120,32,45,32,50,32,116,32,100,121]),(.str [45,113,32,97,122,32,109,32,43,32,50,32,116,32,100,120,32,43,32,107,32,100,121]),(.str [50,32,117,32,97,122,32,109])]) 110 [(AV.av s.aa a),(AV.av s.aa b)]) 1 [(.str [109]),(.str [49,32,43,32,116,94,50]),(.str [107]),(.str [49,32,45,32,116,94,50]),(.str [100,120]),(.str [50,32,117,32,97,120,32,43,32,112,32,97,122]),(.str [100,121]),(.str [50,32,117,32,97,121,32,43,32,113,32,97,122])]:=h.mm
theorem anK(a b:AV)(s:St):f128 Z a b s=Z.aB s (fun g s=>Z.ak s (fun c s=>Z.aH c (Z.aF s (fun d s=>Z.aB s (fun i s=>Z.aF s (fun e s=>Z.aB s (fun f s=>Z.aI false [some f] s) 108 [(AV.av s.aa a),(AV.av s.aa e)]) 1 [(.str [45,97,32,99,32,45,32,116,32,98,32,110]),(.str [45,98,32,99,32,43,32,116,32,97,32,110]),(.str [110])]) 110 [(AV.av s.aa a),(AV.av s.aa d)]) 1 [(.str [110]),(.str [97,94,50,32,43,32,98,94,50])]) (RX Z a s)) (kL .not b)) 127 [(AV.av s.aa a),(AV.av s.aa (.str [116]))]:=by kernel_rfl
theorem W7(a b:AV)(s:St):aJ T1 G X 128 [a,b] s=f128 (PP T1 G X) a b s.ai:=aY T1 G X (fn:=aaT)
def f129(a:AV)(s:St):ax:=aR [a] 0 .e fun fr=>aD Z aaU fr s (aO Z akP)
theorem anL(a:AV)(s:St):f129 Z a s=Z.aF s (fun b s=>Z.aB s (fun e s=>Z.aF s (fun c s=>Z.aB s (fun d s=>Z.aI false [some d] s) 108 [(AV.av s.aa a),(AV.av s.aa c)]) 1 [(.str [103,32,118]),(.str [45,50,32,120,49,32,122,49,32,118]),(.str [45,50,32,121,49,32,122,49,32,118]),(.str [40,120,49,94,50,32,43,32,121,49,94,50,41,32,118,32,45,32,103,32,100]),(.str [120,49,32,119,32,43,32,122,49,32,101,120]),(.str [121,49,32,119,32,43,32,122,49,32,101,121]),(.str [122,49,32,119])]) 110 [(AV.av s.aa a),(AV.av s.aa b)]) 1 [(.str [119]),(.str [122,50,32,122,51]),(.str [101,120]),(.str [120,51,32,122,50,32,45,32,120,50,32,122,51]),(.str [101,121]),(.str [121,51,32,122,50,32,45,32,121,50,32,122,51]),(.str [100]),(.str [101,120,94,50,32,43,32,101,121,94,50]),(.str [118]),(.str [119,94,50]),(.str [103]),(.str [122,49,94,50])]:=by kernel_rfl
theorem W8(a:AV)(s:St):aJ T1 G X 129 [a] s=f129 (PP T1 G X) a s.ai:=aY T1 G X (fn:=akP)
def f130(a:AV)(s:St):ax:=aR [a] 0 .e fun fr=>aD Z aaV fr s (aO Z akQ)
theorem anM(a:AV)(s:St):f130 Z a s=Z.aB s (fun d s=>Z.aF s (fun b s=>Z.aB s (fun c s=>Z.aI false [some c] s) 108 [(AV.av s.aa a),(AV.av s.aa b)]) 1 [(.str [102,49,32,40,103,50,32,104,51,32,45,32,104,50,32,103,51,41,32,45,32,103,49,32,40,102,50,32,104,51,32,45,32,104,50,32,102,51,41,32,43,32,104,49,32,40,102,50,32,103,51,32,45,32,103,50,32,102,51,41]),(.str [45,40,115,49,32,40,103,50,32,104,51,32,45,32,104,50,32,103,51,41,32,45,32,103,49,32,40,115,50,32,104,51,32,45,32,104,50,32,115,51,41,32,43,32,104,49,32,40,115,50,32,103,51,32,45,32,103,50,32,115,51,41,41]),(.str [115,49,32,40,102,50,32,104,51,32,45,32,104,50,32,102,51,41,32,45,32,102,49,32,40,115,50,32,104,51,32,45,32,104,50,32,115,51,41,32,43,32,104,49,32,40,115,50,32,102,51,32,45,32,102,50,32,115,51,41]),(.str [45,40,115,49,32,40,102,50,32,103,51,32,45,32,103,50,32,102,51,41,32,45,32,102,49,32,40,115,50,32,103,51,32,45,32,103,50,32,115,51,41,32,43,32,103,49,32,40,115,50,32,102,51,32,45,32,102,50,32,115,51,41,41]),(.str [120,49]),(.str [121,49]),(.str [122,49])]) 111 [(AV.av s.aa a),(AV.av s.aa (.int .i64 3))]:=by kernel_rfl
theorem W9(a:AV)(s:St):aJ T1 G X 130 [a] s=f130 (PP T1 G X) a s.ai:=aY T1 G X (fn:=akQ)
def f131(s:St):ax:=aR [] 0 .e fun fr=>aD Z aaW fr s (aO Z akR)
theorem anN(s:St):f131 Z s=Z.aF s (fun a s=>Z.aI false [some a] s) 1 [(.str [110]),(.str [97,94,50,32,43,32,98,94,50]),(.str [107]),(.str [50,32,117,32,99,32,45,32,97,32,112,32,45,32,98,32,113]),(.str [100]),(.str [112,94,50,32,43,32,113,94,50,32,45,32,52,32,117,32,114]),(.str [115]),(.str [33,110,32,100,32,45,32,107,94,50])]:=by kernel_rfl
theorem Xa(s:St):aJ T1 G X 131 [] s=f131 (PP T1 G X) s.ai:=aY T1 G X (fn:=akR)
def f132(s:St):ax:=aR [] 0 .e fun fr=>aD Z aaX fr s (aO Z akS)
theorem anO(s:St):f132 Z s=Z.aF s (fun a s=>Z.aI false [some a] s) 1 [(.str [45,110,32,112,32,45,32,107,32,97,32,45,32,115,32,98]),(.str [45,110,32,113,32,45,32,107,32,98,32,43,32,115,32,97]),(.str [50,32,110,32,117])]:=by kernel_rfl
theorem Xb(s:St):aJ T1 G X 132 [] s=f132 (PP T1 G X) s.ai:=aY T1 G X (fn:=akS)
def f145(a b:AV)(s:St):ax:=aR [a,b] 0 .e fun fr=>aD Z aa9 fr s (aO Z akY)
theorem anP(a b:AV)(s:St):f145 Z a b s=Z.aG s (fun c s=>Z.aj s (fun d s=>Z.a7 s (fun _v s=>Z.aG s (fun e s=>Z.aj s (fun f s=>Z.a7 s (fun _v s=>Z.aB s (fun g s=>Z.aI false [some g] s) 168 [(AV.av s.aa a)]) 1 f (AV.av s.aa (.int .i64 0))) 7 e) a) 1 d (AV.av s.aa b)) 6 c) a:=by kernel_rfl
theorem Xc(a b:AV)(s:St):aJ T1 G X 145 [a,b] s=f145 (PP T1 G X) a b s.ai:=aY T1 G X (fn:=akY)
def f146(a b c d:AV)(s:St):ax:=aR [a,b,c,d] 0 .e fun fr=>aD Z aba fr s (aO Z akZ)
theorem anQ(a b c d:AV)(s:St):f146 Z a b c d s=Z.aG s (fun e s=>Z.aj s (fun f s=>Z.aj s (fun g s=>Z.aq s (fun i s=>Z.dh [.int .i64 0, .int .i64 0, .int .i64 0] [(0,1,b),(1,1,c),(2,1,d)] s (fun j s=>Z.aF s (fun m s=>Z.cz s (fun o s=>Z.aG s (fun p s=>Z.aj s (fun q s=>Z.aj s (fun r s=>Z.a7 s (fun _v s=>Z.aG s (fun t s=>Z.aj s (fun u s=>Z.aj s (fun w s=>Z.aq s (fun x s=>Z.aV s (fun y s=>Z.ak s (fun z s=>Z.aI false [some z] s) (au .sub y (.int .i64 1))) false x) none w) 1 u) 0 t) a) 1 r (AV.av s.aa o)) 1 q) 0 p) a) 3 24 (Ig a) i m) 3 [j])) none g) 1 f) 0 e) a:=by kernel_rfl
theorem Xd(a b c d:AV)(s:St):aJ T1 G X 146 [a,b,c,d] s=f146 (PP T1 G X) a b c d s.ai:=aY T1 G X (fn:=akZ)
def vC:Mk:=cf 54
def afK:KK:=bu 0 (aO Z NB)
def awi:KK:=cA vC (Z.aW (aD Z KF) vC) (afK Z)
def afL:KK:=bu 1 (awi Z)
def RZ(a b:AV)(s:St):ax:=Z.aE vC ack (sN (sD (sL b) .e) a .e) s (afL Z)
def Gm(a b:AV)(s:St):ax:=Z.aE vC acm (sN (sD (sL b) .e) a .e) s (afL Z)
def sn(a b:AV)(s:St):ax:=Z.aW (aD Z KF) vC (sN (sD (sL b) .e) a .e) s (afK Z)
def Gn(a b:AV)(s:St):ax:=Z.aE vC acn (sN (sD (sL b) .e) a .e) s (aO Z NB)
def f168(a:AV)(s:St):ax:=aR [a] 0 .e fun fr=>aD Z aco fr s (aO Z NB)
theorem R0(h:Z.OK)(a b:AV)(s:St):RZ Z a b s=Z.aB s (fun c s=>Z.aB s (fun d s=>sn Z a d s) 146 [(AV.av s.aa a),(AV.av s.aa (.int .i64 4)),(AV.av s.aa b),(AV.av s.aa c)]) 188 [(AV.av s.aa a)]:=h.mm
theorem Cw(h:Z.OK)(a b:AV)(s:St):Gm Z a b s=Z.aB s (fun c s=>Z.ak s (fun d s=>Z.aH d (Z.aI false [some b] s) (RZ Z a b s)) (kL .not c)) 187 [(AV.av s.aa a),(AV.av s.aa (.int .u8 45))]:=h.mm
theorem R4(h:Z.OK)(a b:AV)(s:St):sn Z a b s=Z.aB s (fun c s=>Z.aH c (Z.aB s (fun d s=>Z.aB s (fun e s=>sn Z a e s) 146 [(AV.av s.aa a),(AV.av s.aa (.int .i64 3)),(AV.av s.aa b),(AV.av s.aa d)]) 188 [(AV.av s.aa a)]) (Gm Z a b s)) 187 [(AV.av s.aa a),(AV.av s.aa (.int .u8 43))]:=h.ll
theorem Cx(h:Z.OK)(a b:AV)(s:St):Gn Z a b s=sn Z a b s:=h.mm
theorem anR(a:AV)(s:St):f168 Z a s=Z.aB s (fun b s=>Z.aH b (Z.aB s (fun c s=>Z.aB s (fun d s=>Z.aB s (fun e s=>Gn Z a e s) 146 [(AV.av s.aa a),(AV.av s.aa (.int .i64 4)),(AV.av s.aa c),(AV.av s.aa d)]) 188 [(AV.av s.aa a)]) 146 [(AV.av s.aa a),(AV.av s.aa (.int .i64 2)),(AV.av s.aa (.int .i64 0)),(AV.av s.aa (.int .i64 0))]) (Z.aB s (fun f s=>Gn Z a f s) 188 [(AV.av s.aa a)])) 187 [(AV.av s.aa a),(AV.av s.aa (.int .u8 45))]:=by kernel_rfl
theorem Xe(a:AV)(s:St):aJ T1 G X 168 [a] s=f168 (PP T1 G X) a s.ai:=aY T1 G X (fn:=NB)
def R5(s:St):ax:=Z.aE .e acP .e s (aO Z acR)
def f187(a b:AV)(s:St):ax:=aR [a,b] 0 .e fun fr=>aD Z acQ fr s (aO Z acR)
theorem Cy(h:Z.OK)(s:St):R5 Z s=Z.aI false [some (.bool false)] s:=h.mm
theorem anS(b c:AV)(s:St):f187 Z b c s=Z.aB s (fun J s=>Z.aG s (fun d s=>Z.aj s (fun e s=>Z.aq s (fun f s=>Z.aG s (fun g s=>Z.aj s (fun i s=>Z.aq s (fun j s=>Z.aV s (fun m s=>Z.ak s (fun a s=>Z.ah a true (fun k=>k b s) s (fun o s=>Z.ah a true (fun k=>Z.aG s k o) s (fun p s=>Z.ah a true (fun k=>Z.aj s k 6 p) s (fun q s=>Z.ah a true (fun k=>Z.aq s k none q) s (fun r s=>Z.ah a true (fun k=>k b s) s (fun t s=>Z.ah a true (fun k=>Z.aG s k t) s (fun u s=>Z.ah a true (fun k=>Z.aj s k 7 u) s (fun w s=>Z.ah a true (fun k=>Z.aq s k none w) s (fun x s=>Z.ah a true (fun k=>Z.cZ s k r x) s (fun y s=>Z.ah a true (fun k=>k c s) s (fun z s=>Z.ah a true (fun k=>Z.ak s k (au .eql y z)) s (fun A s=>Z.aZ s (fun B s=>Z.aH B (Z.aG s (fun C s=>Z.aj s (fun D s=>Z.aq s (fun E s=>Z.ak s (fun F s=>Z.aG s (fun H s=>Z.aj s (fun I s=>Z.a7 s (fun _v s=>Z.aI false [some (.bool true)] s) 1 I (AV.av s.aa F)) 7 H) b) (au .add E (.int .i64 1))) none D) 7 C) b) (R5 Z s)) a A (.bool false))))))))))))) (au .lss f m)) true j) none i) 6 g) b) none e) 7 d) b) 202 [(AV.av s.aa b)]:=by kernel_rfl
theorem Xf(a b:AV)(s:St):aJ T1 G X 187 [a,b] s=f187 (PP T1 G X) a b s.ai:=aY T1 G X (fn:=acR)
def afM:KK:=bu 0 (aO Z acU)
def Dv:Mk:=cf 54
def awj:KK:=cA Dv (Z.aW (aD Z KN) Dv) (afM Z)
def awk:KK:=bu 1 (awj Z)
def Gp(a b:AV)(s:St):ax:=Z.aE Dv acS (sN (sD (sL b) .e) a .e) s (awk Z)
def zH(a b:AV)(s:St):ax:=Z.aW (aD Z KN) Dv (sN (sD (sL b) .e) a .e) s (afM Z)
def f188(a:AV)(s:St):ax:=aR [a] 0 .e fun fr=>aD Z acT fr s (aO Z acU)
theorem R6(h:Z.OK)(a b:AV)(s:St):Gp Z a b s=Z.aB s (fun c s=>Z.aB s (fun d s=>zH Z a d s) 146 [(AV.av s.aa a),(AV.av s.aa (.int .i64 5)),(AV.av s.aa b),(AV.av s.aa c)]) 203 [(AV.av s.aa a)]:=h.mm
theorem R7(h:Z.OK)(a e:AV)(s:St):zH Z a e s=Z.aB s (fun va s=>Z.aG s (fun f s=>Z.aj s (fun g s=>Z.aq s (fun i s=>Z.aG s (fun j s=>Z.aj s (fun m s=>Z.aq s (fun o s=>Z.aV s (fun p s=>Z.ak s (fun b s=>Z.ah b false (fun k=>k a s) s (fun q s=>Z.ah b false (fun k=>Z.aG s k q) s (fun r s=>Z.ah b false (fun k=>Z.aj s k 6 r) s (fun t s=>Z.ah b false (fun k=>Z.aq s k none t) s (fun u s=>Z.ah b false (fun k=>k a s) s (fun w s=>Z.ah b false (fun k=>Z.aG s k w) s (fun x s=>Z.ah b false (fun k=>Z.aj s k 7 x) s (fun y s=>Z.ah b false (fun k=>Z.aq s k none y) s (fun z s=>Z.ah b false (fun k=>Z.cZ s k u z) s (fun A s=>Z.ah b false (fun k=>Z.ak s k (au .eql A (.int .u8 43))) s (fun B s=>Z.aZ s (fun c s=>Z.ah c false (fun k=>k a s) s (fun C s=>Z.ah c false (fun k=>Z.aG s k C) s (fun D s=>Z.ah c false (fun k=>Z.aj s k 6 D) s (fun E s=>Z.ah c false (fun k=>Z.aq s k none E) s (fun F s=>Z.ah c false (fun k=>k a s) s (fun H s=>Z.ah c false (fun k=>Z.aG s k H) s (fun I s=>Z.ah c false (fun k=>Z.aj s k 7 I) s (fun J s=>Z.ah c false (fun k=>Z.aq s k none J) s (fun K s=>Z.ah c false (fun k=>Z.cZ s k F K) s (fun L s=>Z.ah c false (fun k=>Z.ak s k (au .eql L (.int .u8 45))) s (fun M s=>Z.aZ s (fun d s=>Z.ah d false (fun k=>k a s) s (fun N s=>Z.ah d false (fun k=>Z.aG s k N) s (fun O s=>Z.ah d false (fun k=>Z.aj s k 6 O) s (fun P s=>Z.ah d false (fun k=>Z.aq s k none P) s (fun Q s=>Z.ah d false (fun k=>k a s) s (fun R s=>Z.ah d false (fun k=>Z.aG s k R) s (fun S s=>Z.ah d false (fun k=>Z.aj s k 7 S) s (fun T s=>Z.ah d false (fun k=>Z.aq s k none T) s (fun U s=>Z.ah d false (fun k=>Z.cZ s k Q U) s (fun V s=>Z.ah d false (fun k=>Z.ak s k (au .eql V (.int .u8 41))) s (fun W s=>Z.aZ s (fun Y s=>Z.aH Y (Z.aI false [some e] s) (Gp Z a e s)) d (.bool true) W))))))))))) c (.bool true) M))))))))))) b (.bool true) B))))))))))) (au .eql i p)) true o) none m) 6 j) a) none g) 7 f) a) 202 [(AV.av s.aa a)]:=h.ll
theorem anT(a:AV)(s:St):f188 Z a s=Z.aB s (fun b s=>zH Z a b s) 203 [(AV.av s.aa a)]:=by kernel_rfl
theorem Xg(a:AV)(s:St):aJ T1 G X 188 [a] s=f188 (PP T1 G X) a s.ai:=aY T1 G X (fn:=acU)
def afN:KK:=bu 0 (aO Z adB)
def Dw:Mk:=cf 3
def awl:KK:=cA Dw (Z.aW (aD Z KV) Dw) (afN Z)
def R8(a:AV)(s:St):ax:=Z.aE Dw adz (sL a) s (awl Z)
def zI(a:AV)(s:St):ax:=Z.aW (aD Z KV) Dw (sL a) s (afN Z)
def f202(a:AV)(s:St):ax:=aR [a] 0 .e fun fr=>aD Z adA fr s (aO Z adB)
theorem R9(h:Z.OK)(a:AV)(s:St):R8 Z a s=Z.aG s (fun b s=>Z.aj s (fun c s=>Z.aq s (fun d s=>Z.ak s (fun e s=>Z.aG s (fun f s=>Z.aj s (fun g s=>Z.a7 s (fun _v s=>zI Z a s) 1 g (AV.av s.aa e)) 7 f) a) (au .add d (.int .i64 1))) none c) 7 b) a:=h.mm
theorem uC(h:Z.OK)(b:AV)(s:St):zI Z b s=Z.aG s (fun c s=>Z.aj s (fun d s=>Z.aq s (fun e s=>Z.aG s (fun f s=>Z.aj s (fun g s=>Z.aq s (fun i s=>Z.aV s (fun j s=>Z.ak s (fun a s=>Z.ah a true (fun k=>k b s) s (fun m s=>Z.ah a true (fun k=>Z.aG s k m) s (fun o s=>Z.ah a true (fun k=>Z.aj s k 6 o) s (fun p s=>Z.ah a true (fun k=>Z.aq s k none p) s (fun q s=>Z.ah a true (fun k=>k b s) s (fun r s=>Z.ah a true (fun k=>Z.aG s k r) s (fun t s=>Z.ah a true (fun k=>Z.aj s k 7 t) s (fun u s=>Z.ah a true (fun k=>Z.aq s k none u) s (fun w s=>Z.ah a true (fun k=>Z.cZ s k q w) s (fun x s=>Z.ah a true (fun k=>Z.ak s k (au .eql x (.int .u8 32))) s (fun y s=>Z.aZ s (fun z s=>Z.aH z (R8 Z b s) (Z.aI false [] s)) a y (.bool false)))))))))))) (au .lss e j)) true i) none g) 6 f) b) none d) 7 c) b:=h.ll
theorem anU(a:AV)(s:St):f202 Z a s=zI Z a s:=by kernel_rfl
theorem Xh(a:AV)(s:St):aJ T1 G X 202 [a] s=f202 (PP T1 G X) a s.ai:=aY T1 G X (fn:=adB)
def awm:Mk:=cf 53
def Gq(a:AV)(s:St):ax:=Z.aE awm adC (sD (sD (sL a) .e) .e) s (aO Z adE)
def f203(a:AV)(s:St):ax:=aR [a] 0 .e fun fr=>aD Z adD fr s (aO Z adE)
theorem uD(h:Z.OK)(a:AV)(s:St):Gq Z a s=Z.aI false [some a] s:=h.mm
theorem anV(b:AV)(s:St):f203 Z b s=Z.aB s (fun c s=>Z.aG s (fun d s=>Z.aj s (fun e s=>Z.aq s (fun f s=>Z.aG s (fun g s=>Z.aj s (fun i s=>Z.aq s (fun j s=>Z.aV s (fun m s=>Z.ak s (fun a s=>Z.ah a true (fun k=>k b s) s (fun o s=>Z.ah a true (fun k=>Z.aG s k o) s (fun p s=>Z.ah a true (fun k=>Z.aj s k 6 p) s (fun q s=>Z.ah a true (fun k=>Z.aq s k none q) s (fun r s=>Z.ah a true (fun k=>k b s) s (fun t s=>Z.ah a true (fun k=>Z.aG s k t) s (fun u s=>Z.ah a true (fun k=>Z.aj s k 7 u) s (fun w s=>Z.ah a true (fun k=>Z.aq s k none w) s (fun x s=>Z.ah a true (fun k=>Z.cZ s k r x) s (fun y s=>Z.ah a true (fun k=>Z.ak s k (au .eql y (.int .u8 94))) s (fun z s=>Z.aZ s (fun A s=>Z.aH A (Z.aG s (fun B s=>Z.aj s (fun C s=>Z.aq s (fun D s=>Z.ak s (fun E s=>Z.aG s (fun F s=>Z.aj s (fun H s=>Z.a7 s (fun _v s=>Z.aB s (fun I s=>Gq Z I s) 146 [(AV.av s.aa b),(AV.av s.aa (.int .i64 5)),(AV.av s.aa c),(AV.av s.aa c)]) 1 H (AV.av s.aa E)) 7 F) b) (au .add D (.int .i64 2))) none C) 7 B) b) (Gq Z c s)) a z (.bool false)))))))))))) (au .lss f m)) true j) none i) 6 g) b) none e) 7 d) b) 207 [(AV.av s.aa b)]:=by kernel_rfl
theorem Xi(a:AV)(s:St):aJ T1 G X 203 [a] s=f203 (PP T1 G X) a s.ai:=aY T1 G X (fn:=adE)
def awn:Mk:=cf 3
def awo:KK:=c9 (aD Z adL) (aO Z E0)
def afO:KK:=bu 0 (awo Z)
def zJ:Mk:=cf 198
def awp:KK:=cA zJ (Z.aW (aD Z KW) zJ) (afO Z)
def anW:Mk:=cf 786
def Gs(a b:AV)(s:St):ax:=Z.aE zJ adI (sN (sD .e (sL b)) a .e) s (awp Z)
def Sa(a b:AV)(s:St):ax:=Z.aE anW adJ (sN .e a (sD .e (sL b))) s (aO Z E0)
def uE(a b:AV)(s:St):ax:=Z.aE zJ adK (sN (sD .e (sL b)) a .e) s (aO Z E0)
def uF(a b:AV)(s:St):ax:=Z.aW (aD Z KW) zJ (sN (sD .e (sL b)) a .e) s (afO Z)
def Sb(a:AV)(s:St):ax:=Z.aE awn adM (sL a) s (aO Z E0)
def f207(a:AV)(s:St):ax:=aR [a] 0 .e fun fr=>aD Z adN fr s (aO Z E0)
theorem Sc(h:Z.OK)(a b:AV)(s:St):Gs Z a b s=Z.aG s (fun c s=>Z.aj s (fun d s=>Z.aq s (fun e s=>Z.ak s (fun f s=>Z.aG s (fun g s=>Z.aj s (fun i s=>Z.a7 s (fun _v s=>uF Z a b s) 1 i (AV.av s.aa f)) 7 g) a) (au .add e (.int .i64 1))) none d) 7 c) a:=h.mm
theorem Sd(h:Z.OK)(a b:AV)(s:St):Sa Z a b s=Z.aB s (fun c s=>Z.aI false [some c] s) 208 [(AV.av s.aa a),(AV.av s.aa b)]:=h.mm
theorem Se(h:Z.OK)(a d:AV)(s:St):uE Z a d s=Z.aG s (fun e s=>Z.aj s (fun f s=>Z.aq s (fun g s=>Z.aG s (fun i s=>Z.aj s (fun j s=>Z.aq s (fun m s=>Z.qo g (some d) (some m) s (fun b s=>Z.cZ s (fun o s=>Z.ak s (fun c s=>Z.ah c true (fun k=>k b s) s (fun p s=>Z.ah c true (fun k=>Z.cZ s k p (.int .i64 0)) s (fun q s=>Z.ah c true (fun k=>Z.ak s k (au .leq q (.int .u8 57))) s (fun r s=>Z.aZ s (fun t s=>Z.aH t (Z.cZ s (fun u s=>Z.ak s (fun w s=>Z.bc s (fun x s=>Z.aB s (fun y s=>Z.aI false [some y] s) 146 [(AV.av s.aa a),(AV.av s.aa (.int .i64 2)),(AV.av s.aa x),(AV.av s.aa (.int .i64 0))]) .i64 w) (au .sub u (.int .u8 48))) b (.int .i64 0)) (Sa Z a b s)) c r (.bool false))))) (au .geq o (.int .u8 48))) b (.int .i64 0))) none j) 7 i) a) none f) 6 e) a:=h.mm
theorem Cz(h:Z.OK)(b f:AV)(s:St):uF Z b f s=Z.aG s (fun g s=>Z.aj s (fun i s=>Z.aq s (fun j s=>Z.aG s (fun m s=>Z.aj s (fun o s=>Z.aq s (fun p s=>Z.aV s (fun q s=>Z.ak s (fun a s=>Z.ah a true (fun k=>k b s) s (fun r s=>Z.ah a true (fun k=>Z.aG s k r) s (fun t s=>Z.ah a true (fun k=>Z.aj s k 6 t) s (fun u s=>Z.ah a true (fun k=>Z.aq s k none u) s (fun w s=>Z.ah a true (fun k=>k b s) s (fun x s=>Z.ah a true (fun k=>Z.aG s k x) s (fun y s=>Z.ah a true (fun k=>Z.aj s k 7 y) s (fun z s=>Z.ah a true (fun k=>Z.aq s k none z) s (fun A s=>Z.ah a true (fun k=>Z.cZ s k w A) s (fun B s=>Z.ah a true (fun k=>Z.ak s k (au .geq B (.int .u8 97))) s (fun C s=>Z.ah a true (fun k=>k C s) s (fun d s=>Z.ah d true (fun k=>k b s) s (fun D s=>Z.ah d true (fun k=>Z.aG s k D) s (fun E s=>Z.ah d true (fun k=>Z.aj s k 6 E) s (fun F s=>Z.ah d true (fun k=>Z.aq s k none F) s (fun H s=>Z.ah d true (fun k=>k b s) s (fun I s=>Z.ah d true (fun k=>Z.aG s k I) s (fun J s=>Z.ah d true (fun k=>Z.aj s k 7 J) s (fun K s=>Z.ah d true (fun k=>Z.aq s k none K) s (fun L s=>Z.ah d true (fun k=>Z.cZ s k H L) s (fun M s=>Z.ah d true (fun k=>Z.ak s k (au .leq M (.int .u8 122))) s (fun N s=>Z.ah a true (fun k=>Z.aZ s k d N (.bool false)) s (fun O s=>Z.ah a true (fun k=>k O s) s (fun c s=>Z.ah c false (fun k=>k b s) s (fun P s=>Z.ah c false (fun k=>Z.aG s k P) s (fun Q s=>Z.ah c false (fun k=>Z.aj s k 6 Q) s (fun R s=>Z.ah c false (fun k=>Z.aq s k none R) s (fun S s=>Z.ah c false (fun k=>k b s) s (fun T s=>Z.ah c false (fun k=>Z.aG s k T) s (fun U s=>Z.ah c false (fun k=>Z.aj s k 7 U) s (fun V s=>Z.ah c false (fun k=>Z.aq s k none V) s (fun W s=>Z.ah c false (fun k=>Z.cZ s k S W) s (fun Y s=>Z.ah c false (fun k=>Z.ak s k (au .geq Y (.int .u8 48))) s (fun va s=>Z.ah c false (fun k=>k va s) s (fun e s=>Z.ah e true (fun k=>k b s) s (fun vb s=>Z.ah e true (fun k=>Z.aG s k vb) s (fun vc s=>Z.ah e true (fun k=>Z.aj s k 6 vc) s (fun vd s=>Z.ah e true (fun k=>Z.aq s k none vd) s (fun ve s=>Z.ah e true (fun k=>k b s) s (fun vf s=>Z.ah e true (fun k=>Z.aG s k vf) s (fun vg s=>Z.ah e true (fun k=>Z.aj s k 7 vg) s (fun vh s=>Z.ah e true (fun k=>Z.aq s k none vh) s (fun vi s=>Z.ah e true (fun k=>Z.cZ s k ve vi) s (fun vj s=>Z.ah e true (fun k=>Z.ak s k (au .leq vj (.int .u8 57))) s (fun Va s=>Z.ah c false (fun k=>Z.aZ s k e Va (.bool false)) s (fun Vb s=>Z.ah a true (fun k=>Z.aZ s k c (.bool true) Vb) s (fun Vc s=>Z.aZ s (fun Vd s=>Z.aH Vd (Gs Z b f s) (uE Z b f s)) a Vc (.bool false)))))))))))))))))))))))))))))))))))))))))))))))) (au .lss j q)) true p) none o) 6 m) b) none i) 7 g) b:=h.ll
theorem Sf(h:Z.OK)(a:AV)(s:St):Sb Z a s=Z.aG s (fun b s=>Z.aj s (fun c s=>Z.aq s (fun d s=>uF Z a d s) none c) 7 b) a:=h.mm
theorem anX(a:AV)(s:St):f207 Z a s=Z.aB s (fun b s=>Z.aH b (Z.aB s (fun c s=>Z.aB s (fun d s=>Z.aI false [some c] s) 187 [(AV.av s.aa a),(AV.av s.aa (.int .u8 41))]) 168 [(AV.av s.aa a)]) (Sb Z a s)) 187 [(AV.av s.aa a),(AV.av s.aa (.int .u8 40))]:=by kernel_rfl
theorem Xj(a:AV)(s:St):aJ T1 G X 207 [a] s=f207 (PP T1 G X) a s.ai:=aY T1 G X (fn:=E0)
def awq:KK:=c9 (aD Z adR) (aO Z N1)
def afP:KK:=bu 0 (awq Z)
def zK:Mk:=cf 202
def afQ:KK:=cA zK (Z.aW (aD Z KX) zK) (afP Z)
def Sg(a b c:AV)(s:St):ax:=Z.aE zK adO (sN (sN .e b (sL c)) a .e) s (afQ Z)
def Si(a b c:AV)(s:St):ax:=Z.aE zK adP (sN (sN .e b (sL c)) a .e) s (afQ Z)
def Sj(s:St):ax:=Z.aE .e adQ .e s (aO Z N1)
def zL(a b c:AV)(s:St):ax:=Z.aW (aD Z KX) zK (sN (sN .e b (sL c)) a .e) s (afP Z)
def f208(a b:AV)(s:St):ax:=aR [a,b] 0 .e fun fr=>aD Z adS fr s (aO Z N1)
theorem Sk(h:Z.OK)(a b c:AV)(s:St):Sg Z a b c s=Z.ak s (fun d s=>zL Z a b d s) (au .sub c (.int .i64 1)):=h.mm
theorem Sl(h:Z.OK)(a c b:AV)(s:St):Si Z a c b s=Z.aG s (fun d s=>Z.aj s (fun e s=>Z.aq s (fun f s=>Z.aX s (fun g s=>Z.aq s (fun i s=>Z.ak s (fun j s=>Z.aH j (Z.aG s (fun m s=>Z.aj s (fun o s=>Z.aq s (fun p s=>Z.aX s (fun q s=>Z.aq s (fun r s=>Z.aI false [some r] s) none q) 1 p b) none o) 5 m) a) (Sg Z a c b s)) (au .eql i c)) none g) 1 f b) none e) 4 d) a:=h.mm
theorem Sm(h:Z.OK)(s:St):Sj Z s=Z.aI false [some (.int .i64 0)] s:=h.mm
theorem CA(h:Z.OK)(b c a:AV)(s:St):zL Z b c a s=Z.ak s (fun d s=>Z.aH d (Si Z b c a s) (Sj Z s)) (au .geq a (.int .i64 0)):=h.ll
theorem anY(a b:AV)(s:St):f208 Z a b s=Z.aG s (fun c s=>Z.aj s (fun d s=>Z.aq s (fun e s=>Z.aV s (fun f s=>Z.ak s (fun g s=>zL Z a b g s) (au .sub f (.int .i64 1))) false e) none d) 4 c) a:=by kernel_rfl
theorem Xk(a b:AV)(s:St):aJ T1 G X 208 [a,b] s=f208 (PP T1 G X) a b s.ai:=aY T1 G X (fn:=N1)
def Xl:Mk:=cf 821
def aBF:KK:=c9 (aD Z Zi) (aO Z M0)
def anZ:KK:=bu 0 (aBF Z)
def Gt:Mk:=cf 1013
def an0:KK:=cA Gt (Z.aW (aD Z UD) Gt) (anZ Z)
def awr:KK:=c9 (aD Z Zg) (aO Z M0)
def afR:KK:=bu 2 (awr Z)
def zM:Mk:=cf 12853
def afS:KK:=cA zM (Z.aW (aD Z Kb) zM) (afR Z)
def afT(a b c:AV)(s:St):ax:=Z.aE Gt aiY (sD (sD (sL b) (sL c)) (sL a)) s (an0 Z)
def afU(a b c:AV)(s:St):ax:=Z.aE Gt aiZ (sD (sD (sL b) (sL c)) (sL a)) s (an0 Z)
def afV(a b c:AV)(s:St):ax:=Z.aE zM ai0 (sD (sD (sL b) .e) (sN .e a (sL c))) s (afS Z)
def afW(a b c:AV)(s:St):ax:=Z.aE zM ai1 (sD (sD (sL b) .e) (sN .e a (sL c))) s (afS Z)
def afX(a b:AV)(s:St):ax:=Z.aE Xl Zf (sD (sD (sL b) .e) (sL a)) s (aO Z M0)
def zN(a b c:AV)(s:St):ax:=Z.aW (aD Z Kb) zM (sD (sD (sL b) .e) (sN .e a (sL c))) s (afR Z)
def afY(a b:AV)(s:St):ax:=Z.aE Xl Zh (sD (sD (sL b) .e) (sL a)) s (aO Z M0)
def Dx(a b c:AV)(s:St):ax:=Z.aW (aD Z UD) Gt (sD (sD (sL b) (sL c)) (sL a)) s (anZ Z)
def afZ(a b:AV)(s:St):ax:=Z.aE Xl Zj (sD (sD (sL b) .e) (sL a)) s (aO Z M0)
def f13(a b:AV)(s:St):ax:=aR [a,b] 0 .e fun fr=>aD Z ai2 fr s (aO Z M0)
theorem Xm(h:Z.OK)(a b c:AV)(s:St):afT Z a b c s=Z.ak s (fun d s=>Dx Z a b d s) (au .add c (.int .i64 1)):=h.mm
theorem Xn(h:Z.OK)(b c a:AV)(s:St):afU Z b c a s=Z.aj s (fun d s=>Z.aq s (fun e s=>Z.aX s (fun f s=>Z.aq s (fun g s=>Z.aj s (fun i s=>Z.aq s (fun j s=>Z.aX s (fun m s=>Z.aq s (fun o s=>Z.ak s (fun p s=>Z.aH p (Z.aI false [some (.bool false)] s) (afT Z b c a s)) ((tE (.agg [.int .i64, .int .i64, .int .i64]) g o).map fun b=>.bool (bif true then !b else b))) (some 3) m) 3 j a) none i) 1 c) (some 3) f) 3 e a) none d) 1 b:=h.mm
theorem Xo(h:Z.OK)(a b c:AV)(s:St):afV Z a b c s=Z.ak s (fun d s=>zN Z a b d s) (au .add c (.int .i64 1)):=h.mm
theorem Xp(h:Z.OK)(b c a:AV)(s:St):afW Z b c a s=Z.aj s (fun d s=>Z.aq s (fun e s=>Z.aX s (fun f s=>Z.aq s (fun g s=>Z.aj s (fun i s=>Z.aq s (fun j s=>Z.aX s (fun m s=>Z.aq s (fun o s=>Z.aB s (fun p s=>Z.ak s (fun q s=>Z.aH q (Z.aI false [some (.bool false)] s) (afV Z b c a s)) (kL .not p)) 32 [(AV.av s.aa g),(AV.av s.aa o)]) none m) 1 j a) none i) 2 c) none f) 1 e a) none d) 2 b:=h.mm
theorem Xq(h:Z.OK)(a b:AV)(s:St):afX Z a b s=Z.aj s (fun c s=>Z.aq s (fun d s=>Z.aj s (fun e s=>Z.aq s (fun f s=>Z.aB s (fun g s=>Z.aI false [some g] s) 32 [(AV.av s.aa d),(AV.av s.aa f)]) none e) 3 b) none c) 3 a:=h.mm
theorem Gu(h:Z.OK)(a b c:AV)(s:St):zN Z a b c s=Z.aj s (fun d s=>Z.aq s (fun e s=>Z.aV s (fun f s=>Z.ak s (fun g s=>Z.aH g (afW Z a b c s) (afX Z a b s)) (au .lss c f)) false e) none d) 2 a:=h.ll
theorem Xr(h:Z.OK)(a b:AV)(s:St):afY Z a b s=zN Z a b (.int .i64 0) s:=h.mm
theorem Gv(h:Z.OK)(a b c:AV)(s:St):Dx Z a b c s=Z.aj s (fun d s=>Z.aq s (fun e s=>Z.aV s (fun f s=>Z.ak s (fun g s=>Z.aH g (afU Z a b c s) (afY Z a b s)) (au .lss c f)) false e) none d) 1 a:=h.ll
theorem Xs(h:Z.OK)(a b:AV)(s:St):afZ Z a b s=Dx Z a b (.int .i64 0) s:=h.mm
theorem aws(f g:AV)(s:St):f13 Z f g s=Z.dN f s (fun d s=>Z.dN g s (fun e s=>Z.aj s (fun i s=>Z.aq s (fun j s=>Z.aj s (fun m s=>Z.aq s (fun o s=>Z.ak s (fun a s=>Z.ah a false (fun k=>Z.aj s k 1 d) s (fun p s=>Z.ah a false (fun k=>Z.aq s k none p) s (fun q s=>Z.ah a false (fun k=>Z.aV s k false q) s (fun r s=>Z.ah a false (fun k=>Z.aj s k 1 e) s (fun t s=>Z.ah a false (fun k=>Z.aq s k none t) s (fun u s=>Z.ah a false (fun k=>Z.aV s k false u) s (fun w s=>Z.ah a false (fun k=>Z.ak s k (au .neq r w)) s (fun x s=>Z.aZ s (fun b s=>Z.ah b false (fun k=>Z.aj s k 2 d) s (fun y s=>Z.ah b false (fun k=>Z.aq s k none y) s (fun z s=>Z.ah b false (fun k=>Z.aV s k false z) s (fun A s=>Z.ah b false (fun k=>Z.aj s k 2 e) s (fun B s=>Z.ah b false (fun k=>Z.aq s k none B) s (fun C s=>Z.ah b false (fun k=>Z.aV s k false C) s (fun D s=>Z.ah b false (fun k=>Z.ak s k (au .neq A D)) s (fun E s=>Z.aZ s (fun c s=>Z.ah c false (fun k=>Z.aj s k 3 d) s (fun F s=>Z.ah c false (fun k=>Z.aq s k none F) s (fun H s=>Z.ah c false (fun k=>Z.aV s k false H) s (fun I s=>Z.ah c false (fun k=>Z.aj s k 3 e) s (fun J s=>Z.ah c false (fun k=>Z.aq s k none J) s (fun K s=>Z.ah c false (fun k=>Z.aV s k false K) s (fun L s=>Z.ah c false (fun k=>Z.ak s k (au .neq I L)) s (fun M s=>Z.aZ s (fun N s=>Z.aH N (Z.aI false [some (.bool false)] s) (afZ Z d e s)) c (.bool true) M)))))))) b (.bool true) E)))))))) a (.bool true) x)))))))) (au .neq j o)) none m) 0 e) none i) 0 d)):=by kernel_rfl
theorem ahr(a b:AV)(s:St):aJ T1 G X 13 [a,b] s=f13 (PP T1 G X) a b s.ai:=aY T1 G X (fn:=M0)
def f3(a:AV)(s:St):ax:=aR [a] 0 .e fun fr=>aD Z axK fr s (aO Z c3)
theorem aBG(c:AV)(s:St):f3 Z c s=Z.qp s (fun a s=>Z.aB s (fun d s=>Z.bk s (fun i s=>Z.bk s (fun j s=>Z.fG (.ref (.l s.own.length) 0) (s.new (.cells [.int .i64 0, .sl 3 [] .nil, .sl 1 [] .nil, .sl 1 [] .nil])) (fun e s=>Z.a7 s (fun _v s=>Z.aB s (fun f s=>Z.bk s (fun m s=>Z.bk s (fun o s=>Z.fG (.ref (.l s.own.length) 0) (s.new (.cells [.int .i64 0, .sl 3 [] .nil, .sl 1 [] .nil, .sl 1 [] .nil])) (fun g s=>Z.a7 s (fun _v s=>Z.ah a true (fun k=>k j s) s (fun p s=>Z.ah a true (fun k=>k o s) s (fun q s=>Z.ah a true (fun k=>Z.ak s k (au .eql p q)) s (fun r s=>Z.aZ s (fun b s=>Z.ah b true (fun k=>Z.aq s k (some 4) e) s (fun t s=>Z.ah b true (fun k=>Z.aq s k (some 4) g) s (fun u s=>Z.ah b true (fun k=>Z.aB s k 13 [(AV.av s.aa t),(AV.av s.aa u)]) s (fun w s=>Z.aZ s (fun x s=>Z.aI false [some x] s) b w (.bool false))))) a r (.bool false))))) 4 g (AV.av s.aa m))) 1 f) 0 f) 12 [(AV.av s.aa c)]) 4 e (AV.av s.aa i))) 1 d) 0 d) 11 [(AV.av s.aa c)]) 10 []:=by kernel_rfl
theorem an1(a:AV)(s:St):aJ T1 G X 3 [a] s=f3 (PP T1 G X) a s.ai:=aY T1 G X (fn:=c3)
def aBH:Mk:=cf 14
def aBI:KK:=c9 (aD Z ajc) (aO Z c32)
def an2:KK:=bu 0 (aBI Z)
def Gw:Mk:=cf 202
def an3:KK:=cA Gw (Z.aW (aD Z UF) Gw) (an2 Z)
def af0(a b c:AV)(s:St):ax:=Z.aE Gw ai9 (sN (sN .e b (sL c)) a .e) s (an3 Z)
def af1(a b c:AV)(s:St):ax:=Z.aE Gw aja (sN (sN .e b (sL c)) a .e) s (an3 Z)
def af2(s:St):ax:=Z.aE .e ajb .e s (aO Z c32)
def Dy(a b c:AV)(s:St):ax:=Z.aW (aD Z UF) Gw (sN (sN .e b (sL c)) a .e) s (an2 Z)
def af3(a b:AV)(s:St):ax:=Z.aE aBH ajd (sN (sL b) a .e) s (aO Z c32)
def f32(a b:AV)(s:St):ax:=aR [a,b] 0 .e fun fr=>aD Z aje fr s (aO Z c32)
theorem Xt(h:Z.OK)(a b c:AV)(s:St):af0 Z a b c s=Z.ak s (fun d s=>Dy Z a b d s) (au .add c (.int .i64 1)):=h.mm
theorem Xu(h:Z.OK)(b c a:AV)(s:St):af1 Z b c a s=Z.aX s (fun d s=>Z.aq s (fun e s=>Z.aX s (fun f s=>Z.aq s (fun g s=>Z.ak s (fun i s=>Z.aH i (Z.aI false [some (.bool false)] s) (af0 Z b c a s)) (au .neq e g)) none f) 1 c a) none d) 1 b a:=h.mm
theorem Xv(h:Z.OK)(s:St):af2 Z s=Z.aI false [some (.bool true)] s:=h.mm
theorem Gx(h:Z.OK)(a c b:AV)(s:St):Dy Z a c b s=Z.aV s (fun d s=>Z.ak s (fun e s=>Z.aH e (af1 Z a c b s) (af2 Z s)) (au .lss b d)) false a:=h.ll
theorem Xw(h:Z.OK)(a b:AV)(s:St):af3 Z a b s=Dy Z a b (.int .i64 0) s:=h.mm
theorem awt(a b:AV)(s:St):f32 Z a b s=Z.aV s (fun c s=>Z.aV s (fun d s=>Z.ak s (fun e s=>Z.aH e (Z.aI false [some (.bool false)] s) (af3 Z a b s)) (au .neq c d)) false b) false a:=by kernel_rfl
theorem ahs(a b:AV)(s:St):aJ T1 G X 32 [a,b] s=f32 (PP T1 G X) a b s.ai:=aY T1 G X (fn:=c32)
end
end Go.jY
