/- A part of the proof: no condition. -/
import Derived.Test.YtgdnbfijkagodaaGreatDoorA6
import Derived.Test.YtgdnbfijkagodaaGreatDoorA5
import Derived.KernelRfl
set_option linter.unusedSectionVars false
set_option linter.unusedSimpArgs false
set_option linter.unusedVariables false
section
namespace Go.f0
open Go.Ab Go.hb
variable(G:Nat→ae)(X:Nat→List ae→ag→ah)
def WK:gh:=⟨false,[],.nil⟩
theorem jy:jS WK where
 g:=fun a e=>by cases e
 ok:=fun x aZ=>absurd aZ ps
 len:=by decide
abbrev s3(n:Nat):ae:=I (n:Int)
instance:Inhabited gh:=⟨⟨false,[],.nil⟩⟩
instance:Inhabited be:=⟨⟨[],0,[],.nil,default,default,default,default,0⟩⟩
end Go.f0
end
section
namespace Go.f0
open Go.Ab
set_option maxRecDepth 100000
section
variable(G:Nat→ae)(X:Nat→List ae→ag→ah)
theorem rk{s:ag}{k:bb}(ec:IntKind)(a b:Int)(h:b≠0):(a3 a4 G X).ai s k (ao .rem (.int ec a) (.int ec b))=k (.int ec (a.tmod b)) s:=by rw[show ao .rem (.int ec a) (.int ec b)=some (.int ec (a.tmod b)) from by simp [ao,f3,h]];rfl
theorem yl{s:ag}{k:bb}(ec:IntKind)(a b:Int)(h:b≠0):(a3 a4 G X).ai s k (ao .quo (.int ec a) (.int ec b))=k (.int ec (ec.wrap (a.tdiv b))) s:=by rw[show ao .quo (.int ec a) (.int ec b)=some (.int ec (ec.wrap (a.tdiv b))) from by simp [ao,f3,h]];rfl
theorem ym{s:ag}{k:bb}(a b:List Nat)(h:a.length+b.length≤1099511627776):(a3 a4 G X).ai s k (ao .add (.str a) (.str b))=k (.str (a++b)) s:=by rw[show ao .add (.str a) (.str b)=some (.str (a++b)) from by simp [ao,s4,eK h]];rfl
theorem w1(s:ag)(k:bb)(d ec:IntKind)(n:Int):(a3 a4 G X).bT s k d (.int ec n)=k (.int d (d.wrap n)) s:=rfl
theorem u8_in(n:Nat)(h:n<256):IntKind.wrap .u8 (n:Int)=(n:Int):=by
 have:∀n:Fin 256,IntKind.wrap .u8 ((n:Nat):Int)=((n:Nat):Int):=by decide
 exact this ⟨n,h⟩
end
def pn:List Int:=[1,10,100,1000,10000,100000,1000000,10000000,100000000,1000000000,10000000000,100000000000,1000000000000,10000000000000,100000000000000,1000000000000000,10000000000000000,100000000000000000,1000000000000000000,10000000000000000000]
def kE:List ae:=pn.map fun n=>.int .u64 n
section
variable(G:Nat→ae)(X:Nat→List ae→ag→ah)
theorem FW{s:ag}{k:bb}(eB:List Nat)(ec:IntKind)(i:Nat)(b:Nat)(h:eB[i]? =some b):(a3 a4 G X).g5 s k (.str eB) (.int ec (i:Int))=k (.int .u8 b) s:=by show hT (gg G (aX a4 G X) bz) s k (.str eB) (.int ec (i:Int))=_;unfold hT;simp -implicitDefEqProofs only[gL,h];rfl
theorem RM{s:ag}{k:bb}(cs:List ae)(n:Nat)(ec:IntKind)(i:Nat)(h:i<n):(a3 a4 G X).lM s k 1 n (.bU cs) (.int ec (i:Int))=k (.bU (cs.drop i)) s:=by show hy (gg G (aX a4 G X) bz) s k 1 n (.bU cs) (.int ec (i:Int))=_;unfold hy;simp -implicitDefEqProofs only[gL,show Nat.blt i n=true from by simp [Nat.blt_eq,h],ci,Nat.mul_one];rfl
theorem Dw{s:ag}{k:bb}(ec e:IntKind)(a b:Int)(h:0≤b):(a3 a4 G X).ai s k (ao .shr (.int ec a) (.int e b))=k (.int ec (a.fdiv (2^(min b.toNat ec.bits)))) s:=by rw[show ao .shr (.int ec a) (.int e b)=some (.int ec (a.fdiv (2^(min b.toNat ec.bits)))) from by simp [ao,ll,Int.not_lt.2 h]];rfl
end
def gp:List Nat:=[0,1,2,2,3,3,3,3,4,4,4,4,4,4,4,4,5,5,5,5,5,5,5,5,5,5,5,5,5,5,5,5,6,6,6,6,6,6,6,6,6,6,6,6,6,6,6,6,6,6,6,6,6,6,6,6,6,6,6,6,6,6,6,6,7,7,7,7,7,7,7,7,7,7,7,7,7,7,7,7,7,7,7,7,7,7,7,7,7,7,7,7,7,7,7,7,7,7,7,7,7,7,7,7,7,7,7,7,7,7,7,7,7,7,7,7,7,7,7,7,7,7,7,7,7,7,7,7,8,8,8,8,8,8,8,8,8,8,8,8,8,8,8,8,8,8,8,8,8,8,8,8,8,8,8,8,8,8,8,8,8,8,8,8,8,8,8,8,8,8,8,8,8,8,8,8,8,8,8,8,8,8,8,8,8,8,8,8,8,8,8,8,8,8,8,8,8,8,8,8,8,8,8,8,8,8,8,8,8,8,8,8,8,8,8,8,8,8,8,8,8,8,8,8,8,8,8,8,8,8,8,8,8,8,8,8,8,8,8,8,8,8,8,8,8,8,8,8,8,8,8,8,8,8,8,8]
def kF:List Nat:=[48,48,48,49,48,50,48,51,48,52,48,53,48,54,48,55,48,56,48,57,49,48,49,49,49,50,49,51,49,52,49,53,49,54,49,55,49,56,49,57,50,48,50,49,50,50,50,51,50,52,50,53,50,54,50,55,50,56,50,57,51,48,51,49,51,50,51,51,51,52,51,53,51,54,51,55,51,56,51,57,52,48,52,49,52,50,52,51,52,52,52,53,52,54,52,55,52,56,52,57,53,48,53,49,53,50,53,51,53,52,53,53,53,54,53,55,53,56,53,57,54,48,54,49,54,50,54,51,54,52,54,53,54,54,54,55,54,56,54,57,55,48,55,49,55,50,55,51,55,52,55,53,55,54,55,55,55,56,55,57,56,48,56,49,56,50,56,51,56,52,56,53,56,54,56,55,56,56,56,57,57,48,57,49,57,50,57,51,57,52,57,53,57,54,57,55,57,56,57,57]
def tp:List Nat:=[48,49,50,51,52,53,54,55,56,57,97,98,99,100,101,102,103,104,105,106,107,108,109,110,111,112,113,114,115,116,117,118,119,120,121,122]
def vm(n:Nat):ae:=.int .u8 (n:Int)
theorem vd(b:Nat)(h:b<100):kF[b*2]? =some (48+b/10):=by
 have:∀b:Fin 100,kF[b.val*2]? =some (48+b.val/10):=by decide
 exact this ⟨b,h⟩
theorem ve(b:Nat)(h:b<100):kF[b*2+1]? =some (48+b%10):=by
 have:∀b:Fin 100,kF[b.val*2+1]? =some (48+b.val%10):=by decide
 exact this ⟨b,h⟩
theorem jB{x:Int}(eU:0≤x)(ar:x≤4294967295):IntKind.wrap .u32 x=x:=IntWalk.u32_in x ⟨eU,ar⟩
theorem Bq{i:Nat}(h:i<256):gp[i]? =some (gp.getD i 0):=by have:i<gp.length:=h;simp [List.getD,this]
theorem me(i:Nat):gp.getD i 0≤8:=by
 by_cases h:i<256
 ·have:∀i:Fin 256,gp.getD i 0≤8:=by decide
  exact this ⟨i,h⟩
 ·have:gp.length≤i:=by show 256≤i;omega
  simp [List.getD,List.getElem?_eq_none this]
section
variable(G:Nat→ae)(X:Nat→List ae→ag→ah)
theorem FX{s:ag}{k:bb}(eB:List Nat)(k1 rr:IntKind)(l h:Nat)(ar:l≤h)(ay:h≤eB.length):(a3 a4 G X).us (.str eB) (some (.int k1 (l:Int))) (some (.int rr (h:Int))) s k=k (.str ((eB.drop l).take (h-l))) s:=by show hSub (.str eB) (some (.int k1 (l:Int))) (some (.int rr (h:Int))) s k=_;unfold hSub oV;simp -implicitDefEqProofs only[gL,eK ar,eK ay,bA,ci]
theorem rY{s:ag}{k:bb}(i:Int)(b:Nat)(h:∃j:Nat,i=(j:Int)∧kF[j]? =some b):(a3 a4 G X).g5 s k (.str kF) (.int .u32 i)=k (.int .u8 b) s:=by obtain⟨j,rfl,da⟩:=h;exact FW G X kF .u32 j b da
end
def Dx(v:Nat):Nat:=if 256≤v then 8+gp.getD (v/256) 0 else gp.getD v 0
def po(u:Nat):Nat:=if 65536≤u then 16+Dx (u/65536) else Dx u
def sN(u:Nat):Nat:=po u*78913/262144
def gI(u:Nat):Nat:=if u<1000 then 3 else if u<10000 then 4 else if u<100000 then 5 else 6
section
variable(G:Nat→ae)(X:Nat→List ae→ag→ah)
theorem FY(v a:Nat)(s:ag)(bD:v<256)(q:a≤24):q4 (a3 a4 G X) (.int .u64 (v:Int)) (.int .i64 (a:Int)) s.ak=.ok (I ((a+gp.getD v 0:Nat):Int)) s:=by
 have e:=fun(k:bb)=>FW G X (s:=s.ak) (k:=k) gp .u8 v _ (Bq bD)
 have dI:IntKind.wrap .u8 (v:Int)=(v:Int):=u8_in v bD;have hle:=me v;have h:IntKind.wrap .i64 ((gp.getD v 0:Nat):Int)=((gp.getD v 0:Nat):Int):=eS _ (by omega) (by omega);have p:IntKind.wrap .i64 ((a:Int)+((gp.getD v 0:Nat):Int))=((a+gp.getD v 0:Nat):Int):=by rw[eS _ (by omega) (by omega)];omega
 unfold gp at e;rw[AQ];simp -implicitDefEqProofs only[↓w1,dI,↓e];simp -implicitDefEqProofs only[←gp.eq_1,↓cx,↓cy,↓bH,↓bd,↓ax,↓az,↓av,↓aA,↓aF,↓aG,↓aw,↓aB,↓aU,↓aM,↓aP,↓bf,↓dG,↓aL,↓bl,↓bP,↓cR,↓bW,↓bX,↓bQ,↓bY,↓bZ,↓b0,↓b1,↓b2,↓b3,↓bn,↓bo,↓bp,↓cS,↓cT,↓cU,↓cV,↓cW,↓cX,↓cY,↓cZ,↓c0,↓b4,↓b5,↓b6,↓ft,↓fu,↓fv,↓bB,↓cK,↓bE,↓c1,↓bJ,↓cv,↓cJ,↓c2,↓aQ,↓aH,↓aR,↓aI,↓aD,↓aS,↓cH,↓bR,↓bS,↓b7,↓b8,↓b9,↓ca,↓cb,↓cc,↓cd,↓cf,bV,dJ,List.cons_append,List.nil_append,cj,decide_eq_false_iff_not,ite_not,↓reduceIte,a2,aO,a0,bq,ey,dU,dV,bc,bM,cr,Nat.reduceAdd,List.all_cons,List.all_nil,dj,c5,dm,dE,bA,↓a9,Nat.reduceLeDiff,aC,cN,cQ,↓w1,h,p]
theorem FZ(v a:Nat)(s:ag)(bD:v<65536)(q:a≤16):q5 (a3 a4 G X) (.int .u64 (v:Int)) (.int .i64 (a:Int)) s.ak=.ok (I ((a+Dx v:Nat):Int)) s:=by
 unfold Dx;by_cases h:256≤v
 ·have e:(256:Int)≤(v:Int):=by omega
  have dI:(v:Int).fdiv (2^(min (8:Int).toNat (IntKind.bits .u64)))=((v/256:Nat):Int):=by show(v:Int).fdiv 256=_;rw[Int.fdiv_eq_ediv_of_nonneg _ (by omega)];omega
  have p:IntKind.wrap .i64 ((a:Int)+8)=((a+8:Nat):Int):=by rw[eS _ (by omega) (by omega)];omega
  have:=FY G X (v/256) (a+8) s (by omega) (by omega);rw[sH];simp -implicitDefEqProofs only[↓cx,↓cy,↓bH,↓bd,↓ax,↓az,↓av,↓aA,↓aF,↓aG,↓aw,↓aB,↓aU,↓aM,↓aP,↓bf,↓dG,↓aL,↓bl,↓bP,↓cR,↓bW,↓bX,↓bQ,↓bY,↓bZ,↓b0,↓b1,↓b2,↓b3,↓bn,↓bo,↓bp,↓cS,↓cT,↓cU,↓cV,↓cW,↓cX,↓cY,↓cZ,↓c0,↓b4,↓b5,↓b6,↓ft,↓fu,↓fv,↓bB,↓cK,↓bE,↓c1,↓bJ,↓cv,↓cJ,↓c2,↓aQ,↓aH,↓aR,↓aI,↓aD,↓aS,↓cH,↓bR,↓bS,↓b7,↓b8,↓b9,↓ca,↓cb,↓cc,↓cd,↓cf,bV,dJ,List.cons_append,List.nil_append,cj,decide_eq_false_iff_not,ite_not,↓reduceIte,a2,aO,a0,bq,ey,dU,dV,bc,bM,cr,Nat.reduceAdd,List.all_cons,List.all_nil,dj,c5,dm,dE,bA,↓a9,Nat.reduceLeDiff,aC,cN,cQ,eq_true e,dx,↓Dw G X _ _ _ _ (show(0:Int)≤8 by omega),dI,p,if_pos h,this];rw[Nat.add_assoc]
 ·have e:¬(256:Int)≤(v:Int):=by omega
  have:=FY G X v a s (by omega) (by omega);rw[sH];simp -implicitDefEqProofs only[↓cx,↓cy,↓bH,↓bd,↓ax,↓az,↓av,↓aA,↓aF,↓aG,↓aw,↓aB,↓aU,↓aM,↓aP,↓bf,↓dG,↓aL,↓bl,↓bP,↓cR,↓bW,↓bX,↓bQ,↓bY,↓bZ,↓b0,↓b1,↓b2,↓b3,↓bn,↓bo,↓bp,↓cS,↓cT,↓cU,↓cV,↓cW,↓cX,↓cY,↓cZ,↓c0,↓b4,↓b5,↓b6,↓ft,↓fu,↓fv,↓bB,↓cK,↓bE,↓c1,↓bJ,↓cv,↓cJ,↓c2,↓aQ,↓aH,↓aR,↓aI,↓aD,↓aS,↓cH,↓bR,↓bS,↓b7,↓b8,↓b9,↓ca,↓cb,↓cc,↓cd,↓cf,bV,dJ,List.cons_append,List.nil_append,cj,decide_eq_false_iff_not,ite_not,↓reduceIte,a2,aO,a0,bq,ey,dU,dV,bc,bM,cr,Nat.reduceAdd,List.all_cons,List.all_nil,dj,c5,dm,dE,bA,↓a9,Nat.reduceLeDiff,aC,cN,cQ,eq_false e,du,bL,if_neg h,this]
theorem Ln(u:Nat)(s:ag)(h:u<4294967296):aX a4 G X 112 [.int .u64 (u:Int)] s=.ok (I (po u)) s:=by
 have dY:¬(4294967296:Int)≤(u:Int):=by omega
 rw[Dc,KZ];unfold po;simp -implicitDefEqProofs only[↓cx,↓cy,↓bH,↓bd,↓ax,↓az,↓av,↓aA,↓aF,↓aG,↓aw,↓aB,↓aU,↓aM,↓aP,↓bf,↓dG,↓aL,↓bl,↓bP,↓cR,↓bW,↓bX,↓bQ,↓bY,↓bZ,↓b0,↓b1,↓b2,↓b3,↓bn,↓bo,↓bp,↓cS,↓cT,↓cU,↓cV,↓cW,↓cX,↓cY,↓cZ,↓c0,↓b4,↓b5,↓b6,↓ft,↓fu,↓fv,↓bB,↓cK,↓bE,↓c1,↓bJ,↓cv,↓cJ,↓c2,↓aQ,↓aH,↓aR,↓aI,↓aD,↓aS,↓cH,↓bR,↓bS,↓b7,↓b8,↓b9,↓ca,↓cb,↓cc,↓cd,↓cf,bV,dJ,List.cons_append,List.nil_append,cj,decide_eq_false_iff_not,ite_not,↓reduceIte,a2,aO,a0,bq,ey,dU,dV,bc,bM,cr,Nat.reduceAdd,List.all_cons,List.all_nil,dj,c5,dm,dE,bA,↓a9,Nat.reduceLeDiff,aC,cN,cQ,eq_false dY,du,bL,AR];by_cases ay:65536≤u
 ·have e:(65536:Int)≤(u:Int):=by omega
  have dI:(u:Int).fdiv (2^(min (16:Int).toNat (IntKind.bits .u64)))=((u/65536:Nat):Int):=by show(u:Int).fdiv 65536=_;rw[Int.fdiv_eq_ediv_of_nonneg _ (by omega)];omega
  have p:IntKind.wrap .i64 (0+16)=((16:Nat):Int):=by decide
  have:=FZ G X (u/65536) 16 s (by omega) (by omega);simp -implicitDefEqProofs only[↓cx,↓cy,↓bH,↓bd,↓ax,↓az,↓av,↓aA,↓aF,↓aG,↓aw,↓aB,↓aU,↓aM,↓aP,↓bf,↓dG,↓aL,↓bl,↓bP,↓cR,↓bW,↓bX,↓bQ,↓bY,↓bZ,↓b0,↓b1,↓b2,↓b3,↓bn,↓bo,↓bp,↓cS,↓cT,↓cU,↓cV,↓cW,↓cX,↓cY,↓cZ,↓c0,↓b4,↓b5,↓b6,↓ft,↓fu,↓fv,↓bB,↓cK,↓bE,↓c1,↓bJ,↓cv,↓cJ,↓c2,↓aQ,↓aH,↓aR,↓aI,↓aD,↓aS,↓cH,↓bR,↓bS,↓b7,↓b8,↓b9,↓ca,↓cb,↓cc,↓cd,↓cf,bV,dJ,List.cons_append,List.nil_append,cj,decide_eq_false_iff_not,ite_not,↓reduceIte,a2,aO,a0,bq,ey,dU,dV,bc,bM,cr,Nat.reduceAdd,List.all_cons,List.all_nil,dj,c5,dm,dE,bA,↓a9,Nat.reduceLeDiff,aC,cN,cQ,eq_true e,dx,↓Dw G X _ _ _ _ (show(0:Int)≤16 by omega),dI,p,if_pos ay,this]
 ·have e:¬(65536:Int)≤(u:Int):=by omega
  have:=FZ G X u 0 s (by omega) (by omega);simp -implicitDefEqProofs only[Int.natCast_zero,bc] at this;simp -implicitDefEqProofs only[↓cx,↓cy,↓bH,↓bd,↓ax,↓az,↓av,↓aA,↓aF,↓aG,↓aw,↓aB,↓aU,↓aM,↓aP,↓bf,↓dG,↓aL,↓bl,↓bP,↓cR,↓bW,↓bX,↓bQ,↓bY,↓bZ,↓b0,↓b1,↓b2,↓b3,↓bn,↓bo,↓bp,↓cS,↓cT,↓cU,↓cV,↓cW,↓cX,↓cY,↓cZ,↓c0,↓b4,↓b5,↓b6,↓ft,↓fu,↓fv,↓bB,↓cK,↓bE,↓c1,↓bJ,↓cv,↓cJ,↓c2,↓aQ,↓aH,↓aR,↓aI,↓aD,↓aS,↓cH,↓bR,↓bS,↓b7,↓b8,↓b9,↓ca,↓cb,↓cc,↓cd,↓cf,bV,dJ,List.cons_append,List.nil_append,cj,decide_eq_false_iff_not,ite_not,↓reduceIte,a2,aO,a0,bq,ey,dU,dV,bc,bM,cr,Nat.reduceAdd,List.all_cons,List.all_nil,dj,c5,dm,dE,bA,↓a9,Nat.reduceLeDiff,aC,cN,cQ,eq_false e,du,bL,if_neg ay,this]
theorem Lo(x:Nat)(s:ag)(h:x≤64):aX a4 G X 120 [I x] s=.ok (I ((x*78913/262144:Nat):Int)) s:=by
 have dI:IntKind.wrap .i64 ((x:Int)*78913)=((x*78913:Nat):Int):=by rw[eS _ (by omega) (by omega)];omega
 have e:((x*78913:Nat):Int).fdiv (2^(min (18:Int).toNat (IntKind.bits .i64)))=((x*78913/262144:Nat):Int):=by show((x*78913:Nat):Int).fdiv 262144=_;rw[Int.fdiv_eq_ediv_of_nonneg _ (by omega)];omega
 rw[Dd,K0];simp -implicitDefEqProofs only[↓cx,↓cy,↓bH,↓bd,↓ax,↓az,↓av,↓aA,↓aF,↓aG,↓aw,↓aB,↓aU,↓aM,↓aP,↓bf,↓dG,↓aL,↓bl,↓bP,↓cR,↓bW,↓bX,↓bQ,↓bY,↓bZ,↓b0,↓b1,↓b2,↓b3,↓bn,↓bo,↓bp,↓cS,↓cT,↓cU,↓cV,↓cW,↓cX,↓cY,↓cZ,↓c0,↓b4,↓b5,↓b6,↓ft,↓fu,↓fv,↓bB,↓cK,↓bE,↓c1,↓bJ,↓cv,↓cJ,↓c2,↓aQ,↓aH,↓aR,↓aI,↓aD,↓aS,↓cH,↓bR,↓bS,↓b7,↓b8,↓b9,↓ca,↓cb,↓cc,↓cd,↓cf,bV,dJ,List.cons_append,List.nil_append,cj,decide_eq_false_iff_not,ite_not,↓reduceIte,a2,aO,a0,bq,ey,dU,dV,bc,bM,cr,Nat.reduceAdd,List.all_cons,List.all_nil,dj,c5,dm,dE,bA,↓a9,Nat.reduceLeDiff,aC,cN,cQ,dI,↓Dw G X _ _ _ _ (show(0:Int)≤18 by omega),e]
theorem Lp(b:Bool)(s:ag):aX a4 G X 121 [.bool b] s=.ok (I (if b=true then 1 else 0)) s:=by rw[De,K1];cases b<;> simp -implicitDefEqProofs only[↓cx,↓cy,↓bH,↓bd,↓ax,↓az,↓av,↓aA,↓aF,↓aG,↓aw,↓aB,↓aU,↓aM,↓aP,↓bf,↓dG,↓aL,↓bl,↓bP,↓cR,↓bW,↓bX,↓bQ,↓bY,↓bZ,↓b0,↓b1,↓b2,↓b3,↓bn,↓bo,↓bp,↓cS,↓cT,↓cU,↓cV,↓cW,↓cX,↓cY,↓cZ,↓c0,↓b4,↓b5,↓b6,↓ft,↓fu,↓fv,↓bB,↓cK,↓bE,↓c1,↓bJ,↓cv,↓cJ,↓c2,↓aQ,↓aH,↓aR,↓aI,↓aD,↓aS,↓cH,↓bR,↓bS,↓b7,↓b8,↓b9,↓ca,↓cb,↓cc,↓cd,↓cf,bV,dJ,List.cons_append,List.nil_append,cj,decide_eq_false_iff_not,ite_not,↓reduceIte,a2,aO,a0,bq,ey,dU,dV,bc,bM,cr,Nat.reduceAdd,List.all_cons,List.all_nil,dj,c5,dm,dE,bA,↓a9,Nat.reduceLeDiff,aC,cN,cQ,bL,AS]
def Gk(a:Nat):Bool:=
 let L:=if 256≤a then 16+gp.getD (a/256) 0 else 8+gp.getD a 0
 let e:=L*78913/262144
 (Nat.beq e 2&&Nat.blt (256*a+255) 1000)||(Nat.beq e 3&&Nat.blt (256*a+255) 10000)||(Nat.beq e 4&&Nat.ble 1000 (256*a)&&Nat.blt (256*a+255) 100000)||(Nat.beq e 5&&Nat.ble 10000 (256*a)&&Nat.blt (256*a+255) 1000000)
theorem RN:((List.range 511).all fun a=>Gk (a+1))=true:=by kernel_rfl
theorem RO:((List.range 156).all fun v=>Nat.beq (gp.getD (v+100) 0*78913/262144) 2)=true:=by kernel_rfl
theorem G4{u:Nat}(ar:100≤u)(ay:u<131072):(sN u=2∧u<1000)∨(sN u=3∧u<10000)∨(sN u=4∧1000≤u∧u<100000)∨(sN u=5∧10000≤u):=by
 by_cases h:u<256
 ·have:=List.all_eq_true.1 RO (u-100) (List.mem_range.2 (by omega));rw[show u-100+100=u by omega] at this;refine .inl ⟨?_,by omega⟩;unfold sN po Dx;rw[if_neg (by omega),if_neg (by omega)];exact c4 this
 ·have:=List.all_eq_true.1 RN (u/256-1) (List.mem_range.2 (by omega));rw[show u/256-1+1=u/256 by omega] at this;have r:po u=if 256≤u/256 then 16+gp.getD (u/256/256) 0 else 8+gp.getD (u/256) 0:=by
   unfold po Dx;by_cases ch:65536≤u
   ·rw[if_pos ch,if_neg (show¬256≤u/65536 by omega),if_pos (show 256≤u/256 by omega),show u/65536=u/256/256 by omega]
   ·rw[if_neg ch,if_pos (show 256≤u by omega),if_neg (show¬256≤u/256 by omega)]
  unfold Gk at this;simp -implicitDefEqProofs only[←r,Bool.or_eq_true,bm,Nat.blt_eq] at this;unfold sN;rcases this with((⟨e,q⟩|⟨e,q⟩)|⟨⟨e,p⟩,y⟩)|⟨⟨e,p⟩,y⟩
  ·exact .inl ⟨c4 e,by omega⟩
  ·exact .inr (.inl ⟨c4 e,by omega⟩)
  ·exact .inr (.inr (.inl ⟨c4 e,by have:=dL p;omega,by omega⟩))
  ·exact .inr (.inr (.inr ⟨c4 e,by have:=dL p;omega⟩))
theorem Lq(u:Nat):po u≤64:=by unfold po Dx;have ar:=me (u/65536/256);have ay:=me (u/65536);have ch:=me (u/256);have dk:=me u;split<;> split<;> omega
theorem RP(dM:G 0=.bU kE)(u:Nat)(ar:100≤u)(ay:u<131072)(s:ag):aX a4 G X 96 [.int .u64 (u:Int)] s=.ok (I (gI u)) s:=by
 have r:=Ln G X u s.ak (by omega);have h:=Lo G X (po u) s.ak (Lq u);have B:(a3 a4 G X).bi 0=.bU kE:=dM;have y:=fun b=>Lp G X b s.ak
 rw[show po u*78913/262144=sN u from rfl] at h;rw[GR,Rs];simp -implicitDefEqProofs only[B];have key:∀(e p:Nat) (rest:List ae),sN u=e→e<20→kE.drop e=.int .u64 (p:Int)::rest→gI u=e+(if p≤u then 1 else 0)→
   (a3 a4 G X).cn s.ak (fun F s=>(a3 a4 G X).cn s (fun v6 s=>(a3 a4 G X).lM s (fun v10 s=>(a3 a4 G X).aK s (fun v11 s=>(a3 a4 G X).ai s (fun H s=>(a3 a4 G X).cn s (fun J s=>(a3 a4 G X).ai s (fun M s=>(a3 a4 G X).bw false [some M] s) (ao .add v6 J)) 121 [(ae.aq s.aa H)]) (ao .geq (.int .u64 (u:Int)) v11)) none v10) 1 20 (.bU kE) v6) 120 [(ae.aq s.aa F)]) 112 [(ae.aq s.ak.aa (.int .u64 (u:Int)))]=.ok (I (gI u)) s:=fun e p rest he N cF df=>by
  rw[he] at h;have A:=fun(k:bb)=>RM G X (s:=s.ak) (k:=k) kE 20 .i64 e N
  have O:IntKind.wrap .i64 ((e:Int)+1)=((e+1:Nat):Int):=by rw[eS _ (by omega) (by omega)];omega
  have i7:IntKind.wrap .i64 ((e:Int)+0)=(e:Int):=by rw[eS _ (by omega) (by omega)];omega
  by_cases aW:p≤u
  ·have c:(p:Int)≤(u:Int):=by omega
   rw[df,if_pos aW];simp -implicitDefEqProofs only[↓cx,↓cy,↓bH,↓bd,↓ax,↓az,↓av,↓aA,↓aF,↓aG,↓aw,↓aB,↓aU,↓aM,↓aP,↓bf,↓dG,↓aL,↓bl,↓bP,↓cR,↓bW,↓bX,↓bQ,↓bY,↓bZ,↓b0,↓b1,↓b2,↓b3,↓bn,↓bo,↓bp,↓cS,↓cT,↓cU,↓cV,↓cW,↓cX,↓cY,↓cZ,↓c0,↓b4,↓b5,↓b6,↓ft,↓fu,↓fv,↓bB,↓cK,↓bE,↓c1,↓bJ,↓cv,↓cJ,↓c2,↓aQ,↓aH,↓aR,↓aI,↓aD,↓aS,↓cH,↓bR,↓bS,↓b7,↓b8,↓b9,↓ca,↓cb,↓cc,↓cd,↓cf,bV,dJ,List.cons_append,List.nil_append,cj,decide_eq_false_iff_not,ite_not,↓reduceIte,a2,aO,a0,bq,ey,dU,dV,bc,bM,cr,Nat.reduceAdd,List.all_cons,List.all_nil,dj,c5,dm,dE,bA,↓a9,Nat.reduceLeDiff,aC,cN,cQ,bx r,bx h,↓A,cF,eq_true c,dx,bx (y _),if_true,O]
  ·have c:¬(p:Int)≤(u:Int):=by omega
   rw[df,if_neg aW];simp -implicitDefEqProofs only[↓cx,↓cy,↓bH,↓bd,↓ax,↓az,↓av,↓aA,↓aF,↓aG,↓aw,↓aB,↓aU,↓aM,↓aP,↓bf,↓dG,↓aL,↓bl,↓bP,↓cR,↓bW,↓bX,↓bQ,↓bY,↓bZ,↓b0,↓b1,↓b2,↓b3,↓bn,↓bo,↓bp,↓cS,↓cT,↓cU,↓cV,↓cW,↓cX,↓cY,↓cZ,↓c0,↓b4,↓b5,↓b6,↓ft,↓fu,↓fv,↓bB,↓cK,↓bE,↓c1,↓bJ,↓cv,↓cJ,↓c2,↓aQ,↓aH,↓aR,↓aI,↓aD,↓aS,↓cH,↓bR,↓bS,↓b7,↓b8,↓b9,↓ca,↓cb,↓cc,↓cd,↓cf,bV,dJ,List.cons_append,List.nil_append,cj,decide_eq_false_iff_not,ite_not,↓reduceIte,a2,aO,a0,bq,ey,dU,dV,bc,bM,cr,Nat.reduceAdd,List.all_cons,List.all_nil,dj,c5,dm,dE,bA,↓a9,Nat.reduceLeDiff,aC,cN,cQ,bx r,bx h,↓A,cF,eq_false c,du,bL,bx (y _),if_false,i7,Nat.add_zero]
 rcases G4 ar ay with⟨e,q⟩|⟨e,q⟩|⟨e,U,V⟩|⟨e,q⟩
 ·exact key 2 100 _ e (by omega) rfl (by unfold gI;rw[if_pos q,if_pos ar])
 ·exact key 3 1000 _ e (by omega) rfl (by unfold gI;split<;> split<;> omega)
 ·exact key 4 10000 _ e (by omega) rfl (by unfold gI;rw[if_neg (by omega)];split<;> split<;> omega)
 ·exact key 5 100000 _ e (by omega) rfl (by unfold gI;rw[if_neg (by omega),if_neg (by omega)];split<;> split<;> omega)
end
abbrev pR(cs:List ae)(U R:List (List cO)):ag:={own:=[.cells cs],up:=U,ro:=R}
theorem RQ(cs:List ae)(U R:List (List cO)):(pR cs U R).ak.get (.g (U.length+R.length) 0)=some (.cells cs):=by
 simp -implicitDefEqProofs only[ag.get,ag.aa,ag.ak,bM];rw[if_neg (by omega),if_pos (by omega)]
 have:U.length+1+R.length-1-(U.length+R.length)=0:=by omega
 rw[this];rfl
theorem RR(cs e:List ae)(U R:List (List cO)):(pR cs U R).ak.set (.g (U.length+R.length) 0) (.cells e)=some (pR e U R).ak:=by
 simp -implicitDefEqProofs only[ag.set,ag.aa,ag.ak,bM];rw[if_neg (by omega),if_pos ⟨by omega,by omega⟩]
 have:U.length+1+R.length-1-(U.length+R.length)=0:=by omega
 rw[this];rfl
section
variable(G:Nat→ae)(X:Nat→List ae→ag→ah)
theorem pM{k:bb}{cs:List ae}{U R:List (List cO)}{o:Nat}{n:Int}(e:o<cs.length):(a3 a4 G X).dy (pR cs U R).ak k 1 (.ref (.g (U.length+R.length) 0) o) (.int .u8 n)=k .dead (pR (cs.set o (.int .u8 n)) U R).ak:=by
 rw[m9];simp -implicitDefEqProofs only[fr,ae.fj,ae.cells,bM,cr,bc,hj,bA,ci];unfold iT;simp -implicitDefEqProofs only[RQ];have d6:(pR cs U R).ak.h8 (.g (U.length+R.length) 0) [.int .u8 n]=true:=by simp [ag.h8,ae.a6,ae.bj]
 simp -implicitDefEqProofs only[bM,cr,bc,show Nat.ble (o+1) cs.length=true from eK e,d6,List.all_cons,dj,List.all_nil,bA,ci];show(match (pR cs U R).ak.set (.g (U.length+R.length) 0) (.cells (dO cs o [.int .u8 n])) with |some s=>k .dead s|none=>.fail)=_;rw[RR];rfl
theorem Sq(cs:List ae)(U R:List (List cO)):(a3 a4 G X).bw false [] (pR cs U R).ak=.ok (.d7 []) (pR cs U R):=rfl
theorem WL{k:bb}{S:ag}{D n:Nat}(i:Nat)(h:i<n):(a3 a4 G X).c7 S k 1 (.cD (.g D 0) 1 n 23 1) (.int .i64 (i:Int))=k (.ref (.g D 0) (i+1)) S:=by have:=kz (T:=a4) (G:=G) (X:=X) (S:=S) (k:=k) (.g D 0) 1 n 23 1 .i64 i h;rw[this,Nat.mul_one,Nat.add_comm]
abbrev Br(n:Nat):ae:=.int .u32 (n:Int)
variable{cs:List ae}{U R:List (List cO)}{n:Nat}(aW:cs.length=24)
include aW
theorem F0(x:Nat)(aZ:x<10)(df:0<n):nK (a3 a4 G X) (.cD (.g (U.length+R.length) 0) 1 n 23 1) (I (1:Nat)) (Br x) (pR cs U R).ak=.ok (.d7 []) (pR (cs.set 1 (vm (48+x))) U R):=by
 have e:IntKind.wrap .u32 (48+(x:Int))=((48+x:Nat):Int):=by rw[jB (by omega) (by omega)];omega
 have h:IntKind.wrap .u8 ((48+x:Nat):Int)=((48+x:Nat):Int):=u8_in _ (by omega);have i0:∀(k:bb) (S:ag),(a3 a4 G X).c7 S k 1 (.cD (.g (U.length+R.length) 0) 1 n 23 1) (.int .i64 0)=k (.ref (.g (U.length+R.length) 0) 1) S:=fun k S=>WL G X 0 df
 have et:(0:Int)<((1:Nat):Int):=by omega
 rw[u3];simp -implicitDefEqProofs only[↓cx,↓cy,↓bH,↓bd,↓ax,↓az,↓av,↓aA,↓aF,↓aG,↓aw,↓aB,↓aU,↓aM,↓aP,↓bf,↓dG,↓aL,↓bl,↓bP,↓cR,↓bW,↓bX,↓bQ,↓bY,↓bZ,↓b0,↓b1,↓b2,↓b3,↓bn,↓bo,↓bp,↓cS,↓cT,↓cU,↓cV,↓cW,↓cX,↓cY,↓cZ,↓c0,↓b4,↓b5,↓b6,↓ft,↓fu,↓fv,↓bB,↓cK,↓bE,↓c1,↓bJ,↓cv,↓cJ,↓c2,↓aQ,↓aH,↓aR,↓aI,↓aD,↓aS,↓cH,↓bR,↓bS,↓b7,↓b8,↓b9,↓ca,↓cb,↓cc,↓cd,↓cf,bV,dJ,List.cons_append,List.nil_append,cj,decide_eq_false_iff_not,ite_not,↓reduceIte,a2,aO,a0,bq,ey,dU,dV,bc,bM,cr,Nat.reduceAdd,List.all_cons,List.all_nil,dj,c5,dm,dE,bA,↓a9,Nat.reduceLeDiff,aC,cN,cQ,eq_true et,dx,e,↓w1,h,↓i0];rw[pM G X (by omega)];simp -implicitDefEqProofs only[Sq];rfl
omit aW in
theorem F1(x:Nat):nK (a3 a4 G X) (.cD (.g (U.length+R.length) 0) 1 n 23 1) (I (0:Nat)) (Br x) (pR cs U R).ak=.ok (.d7 []) (pR cs U R):=by
 have et:¬(0:Int)<((0:Nat):Int):=by omega
 rw[u3];simp -implicitDefEqProofs only[↓cx,↓cy,↓bH,↓bd,↓ax,↓az,↓av,↓aA,↓aF,↓aG,↓aw,↓aB,↓aU,↓aM,↓aP,↓bf,↓dG,↓aL,↓bl,↓bP,↓cR,↓bW,↓bX,↓bQ,↓bY,↓bZ,↓b0,↓b1,↓b2,↓b3,↓bn,↓bo,↓bp,↓cS,↓cT,↓cU,↓cV,↓cW,↓cX,↓cY,↓cZ,↓c0,↓b4,↓b5,↓b6,↓ft,↓fu,↓fv,↓bB,↓cK,↓bE,↓c1,↓bJ,↓cv,↓cJ,↓c2,↓aQ,↓aH,↓aR,↓aI,↓aD,↓aS,↓cH,↓bR,↓bS,↓b7,↓b8,↓b9,↓ca,↓cb,↓cc,↓cd,↓cf,bV,dJ,List.cons_append,List.nil_append,cj,decide_eq_false_iff_not,ite_not,↓reduceIte,a2,aO,a0,bq,ey,dU,dV,bc,bM,cr,Nat.reduceAdd,List.all_cons,List.all_nil,dj,c5,dm,dE,bA,↓a9,Nat.reduceLeDiff,aC,cN,cQ,eq_false et,du,bL,Sq]
theorem F2(p x:Nat)(gb:p+2≤n)(H:p≤2)(aZ:x<4294967296):nL (a3 a4 G X) (.cD (.g (U.length+R.length) 0) 1 n 23 1) (I ((p+2:Nat):Int)) (Br x) (pR cs U R).ak =
  nK (a3 a4 G X) (.cD (.g (U.length+R.length) 0) 1 n 23 1) (I (p:Nat)) (Br (x/100)) (pR ((cs.set (p+2) (vm (48+x%100%10))).set (p+1) (vm (48+x%100/10))) U R).ak:=by
 have h:IntKind.wrap .u32 ((x:Int).tdiv 100)=((x/100:Nat):Int):=by rw[Int.tdiv_eq_ediv_of_nonneg (by omega),jB (by omega) (by omega)];omega
 have q:(x:Int).tmod 100=((x%100:Nat):Int):=by rw[Int.tmod_eq_emod_of_nonneg (by omega)];omega
 have r:IntKind.wrap .u32 (((x%100:Nat):Int)*2)=((x%100*2:Nat):Int):=by rw[jB (by omega) (by omega)];omega
 have y:IntKind.wrap .u32 (((x%100*2:Nat):Int)+1)=((x%100*2+1:Nat):Int):=by rw[jB (by omega) (by omega)];omega
 have A:IntKind.wrap .i64 (((p+2:Nat):Int)-1)=((p+1:Nat):Int):=by rw[eS _ (by omega) (by omega)];omega
 have B:IntKind.wrap .i64 (((p+2:Nat):Int)-2)=(p:Int):=by rw[eS _ (by omega) (by omega)];omega
 have e:(100:Int)≠0:=by omega
 have F:(2:Int)≤((p+2:Nat):Int):=by omega
 have hl:=fun(s:ag) (k:bb)=>rY G X (s:=s) (k:=k) ((x%100*2:Nat):Int) _ ⟨_,rfl,vd (x%100) (by omega)⟩
 have s1:=fun(s:ag) (k:bb)=>rY G X (s:=s) (k:=k) ((x%100*2+1:Nat):Int) _ ⟨_,rfl,ve (x%100) (by omega)⟩
 have i1:=fun(k:bb) (S:ag)=>WL G X (k:=k) (S:=S) (D:=U.length+R.length) (n:=n) (p+1) (by omega)
 have i2:=fun(k:bb) (S:ag)=>WL G X (k:=k) (S:=S) (D:=U.length+R.length) (n:=n) p (by omega)
 unfold kF at hl s1;rw[u4];simp -implicitDefEqProofs only[↓cx,↓cy,↓bH,↓bd,↓ax,↓az,↓av,↓aA,↓aF,↓aG,↓aw,↓aB,↓aU,↓aM,↓aP,↓bf,↓dG,↓aL,↓bl,↓bP,↓cR,↓bW,↓bX,↓bQ,↓bY,↓bZ,↓b0,↓b1,↓b2,↓b3,↓bn,↓bo,↓bp,↓cS,↓cT,↓cU,↓cV,↓cW,↓cX,↓cY,↓cZ,↓c0,↓b4,↓b5,↓b6,↓ft,↓fu,↓fv,↓bB,↓cK,↓bE,↓c1,↓bJ,↓cv,↓cJ,↓c2,↓aQ,↓aH,↓aR,↓aI,↓aD,↓aS,↓cH,↓bR,↓bS,↓b7,↓b8,↓b9,↓ca,↓cb,↓cc,↓cd,↓cf,bV,dJ,List.cons_append,List.nil_append,cj,decide_eq_false_iff_not,ite_not,↓reduceIte,a2,aO,a0,bq,ey,dU,dV,bc,bM,cr,Nat.reduceAdd,List.all_cons,List.all_nil,dj,c5,dm,dE,bA,↓a9,Nat.reduceLeDiff,aC,cN,cQ,eq_true F,dx,↓rk G X _ _ _ e,↓yl G X _ _ _ e,h,q,r,y,A,B,↓hl,↓s1,↓i1,↓i2];rw[pM G X (by omega),pM G X (by rw[List.length_set];omega)];rfl
omit aW in
theorem F3(p x:Nat)(gb:p<2):nL (a3 a4 G X) (.cD (.g (U.length+R.length) 0) 1 n 23 1) (I (p:Nat)) (Br x) (pR cs U R).ak=nK (a3 a4 G X) (.cD (.g (U.length+R.length) 0) 1 n 23 1) (I (p:Nat)) (Br x) (pR cs U R).ak:=by
 have e:¬(2:Int)≤(p:Int):=by omega
 rw[u4];simp -implicitDefEqProofs only[↓cx,↓cy,↓bH,↓bd,↓ax,↓az,↓av,↓aA,↓aF,↓aG,↓aw,↓aB,↓aU,↓aM,↓aP,↓bf,↓dG,↓aL,↓bl,↓bP,↓cR,↓bW,↓bX,↓bQ,↓bY,↓bZ,↓b0,↓b1,↓b2,↓b3,↓bn,↓bo,↓bp,↓cS,↓cT,↓cU,↓cV,↓cW,↓cX,↓cY,↓cZ,↓c0,↓b4,↓b5,↓b6,↓ft,↓fu,↓fv,↓bB,↓cK,↓bE,↓c1,↓bJ,↓cv,↓cJ,↓c2,↓aQ,↓aH,↓aR,↓aI,↓aD,↓aS,↓cH,↓bR,↓bS,↓b7,↓b8,↓b9,↓ca,↓cb,↓cc,↓cd,↓cf,bV,dJ,List.cons_append,List.nil_append,cj,decide_eq_false_iff_not,ite_not,↓reduceIte,a2,aO,a0,bq,ey,dU,dV,bc,bM,cr,Nat.reduceAdd,List.all_cons,List.all_nil,dj,c5,dm,dE,bA,↓a9,Nat.reduceLeDiff,aC,cN,cQ,eq_false e,du,bL]
theorem yn(p u:Nat)(gb:p+4≤n)(aa:p≤3)(hu:u<4294967296):tk (a3 a4 G X) (.cD (.g (U.length+R.length) 0) 1 n 23 1) (.int .u64 (u:Int)) (I ((p+4:Nat):Int)) (pR cs U R).ak =
  nL (a3 a4 G X) (.cD (.g (U.length+R.length) 0) 1 n 23 1) (I (p:Nat)) (Br (u/10000)) (pR ((((cs.set (p+4) (vm (48+u%10000%100%10))).set (p+3) (vm (48+u%10000%100/10))).set (p+2) (vm (48+u%10000/100%10))).set (p+1) (vm (48+u%10000/100/10))) U R).ak:=by
 have dI:IntKind.wrap .u32 (u:Int)=(u:Int):=jB (by omega) (by omega);have e:(u:Int).tmod 10000=((u%10000:Nat):Int):=by rw[Int.tmod_eq_emod_of_nonneg (by omega)];omega
 have y:IntKind.wrap .u32 ((u:Int).tdiv 10000)=((u/10000:Nat):Int):=by rw[Int.tdiv_eq_ediv_of_nonneg (by omega),jB (by omega) (by omega)];omega
 obtain⟨t,d6,lq⟩:∃t,t=u%10000∧t<10000:=⟨_,rfl,by omega⟩;rw[←d6] at e;rw[←d6];have A:IntKind.wrap .u32 ((t:Int).tdiv 100)=((t/100:Nat):Int):=by rw[Int.tdiv_eq_ediv_of_nonneg (by omega),jB (by omega) (by omega)];omega
 have B:IntKind.wrap .u32 (((t/100:Nat):Int)*2)=((t/100*2:Nat):Int):=by rw[jB (by omega) (by omega)];omega
 have F:(t:Int).tmod 100=((t%100:Nat):Int):=by rw[Int.tmod_eq_emod_of_nonneg (by omega)];omega
 have H:IntKind.wrap .u32 (((t%100:Nat):Int)*2)=((t%100*2:Nat):Int):=by rw[jB (by omega) (by omega)];omega
 have J:IntKind.wrap .u32 (((t%100*2:Nat):Int)+1)=((t%100*2+1:Nat):Int):=by rw[jB (by omega) (by omega)];omega
 have M:IntKind.wrap .u32 (((t/100*2:Nat):Int)+1)=((t/100*2+1:Nat):Int):=by rw[jB (by omega) (by omega)];omega
 have N:IntKind.wrap .i64 (((p+4:Nat):Int)-1)=((p+3:Nat):Int):=by rw[eS _ (by omega) (by omega)];omega
 have O:IntKind.wrap .i64 (((p+4:Nat):Int)-2)=((p+2:Nat):Int):=by rw[eS _ (by omega) (by omega)];omega
 have V:IntKind.wrap .i64 (((p+4:Nat):Int)-3)=((p+1:Nat):Int):=by rw[eS _ (by omega) (by omega)];omega
 have Y:IntKind.wrap .i64 (((p+4:Nat):Int)-4)=(p:Int):=by rw[eS _ (by omega) (by omega)];omega
 have h:(10000:Int)≠0:=by omega
 have q:(100:Int)≠0:=by omega
 have Z:(4:Int)≤((p+4:Nat):Int):=by omega
 have hl:=fun(s:ag) (k:bb)=>rY G X (s:=s) (k:=k) ((t%100*2:Nat):Int) _ ⟨_,rfl,vd (t%100) (by omega)⟩
 have s1:=fun(s:ag) (k:bb)=>rY G X (s:=s) (k:=k) ((t%100*2+1:Nat):Int) _ ⟨_,rfl,ve (t%100) (by omega)⟩
 have s2:=fun(s:ag) (k:bb)=>rY G X (s:=s) (k:=k) ((t/100*2:Nat):Int) _ ⟨_,rfl,vd (t/100) (by omega)⟩
 have r:=fun(s:ag) (k:bb)=>rY G X (s:=s) (k:=k) ((t/100*2+1:Nat):Int) _ ⟨_,rfl,ve (t/100) (by omega)⟩
 have i1:=fun(k:bb) (S:ag)=>WL G X (k:=k) (S:=S) (D:=U.length+R.length) (n:=n) (p+3) (by omega)
 have i2:=fun(k:bb) (S:ag)=>WL G X (k:=k) (S:=S) (D:=U.length+R.length) (n:=n) (p+2) (by omega)
 have i3:=fun(k:bb) (S:ag)=>WL G X (k:=k) (S:=S) (D:=U.length+R.length) (n:=n) (p+1) (by omega)
 have i4:=fun(k:bb) (S:ag)=>WL G X (k:=k) (S:=S) (D:=U.length+R.length) (n:=n) p (by omega)
 unfold kF at hl s1 s2 r;rw[u5];simp -implicitDefEqProofs only[↓cx,↓cy,↓bH,↓bd,↓ax,↓az,↓av,↓aA,↓aF,↓aG,↓aw,↓aB,↓aU,↓aM,↓aP,↓bf,↓dG,↓aL,↓bl,↓bP,↓cR,↓bW,↓bX,↓bQ,↓bY,↓bZ,↓b0,↓b1,↓b2,↓b3,↓bn,↓bo,↓bp,↓cS,↓cT,↓cU,↓cV,↓cW,↓cX,↓cY,↓cZ,↓c0,↓b4,↓b5,↓b6,↓ft,↓fu,↓fv,↓bB,↓cK,↓bE,↓c1,↓bJ,↓cv,↓cJ,↓c2,↓aQ,↓aH,↓aR,↓aI,↓aD,↓aS,↓cH,↓bR,↓bS,↓b7,↓b8,↓b9,↓ca,↓cb,↓cc,↓cd,↓cf,bV,dJ,List.cons_append,List.nil_append,cj,decide_eq_false_iff_not,ite_not,↓reduceIte,a2,aO,a0,bq,ey,dU,dV,bc,bM,cr,Nat.reduceAdd,List.all_cons,List.all_nil,dj,c5,dm,dE,bA,↓a9,Nat.reduceLeDiff,aC,cN,cQ,↓w1,dI,eq_true Z,dx,↓rk G X _ _ _ h,↓rk G X _ _ _ q,↓yl G X _ _ _ h,↓yl G X _ _ _ q,e,y,A,B,F,H,J,M,N,O,V,Y,↓hl,↓s1,↓s2,↓r,↓i1,↓i2,↓i3,↓i4];rw[pM G X (by omega),pM G X (by rw[List.length_set];omega),pM G X (by rw[List.length_set,List.length_set];omega),pM G X (by rw[List.length_set,List.length_set,List.length_set];omega)];rfl
omit aW in
theorem RS(p u:Nat)(gb:p<4)(hu:u<4294967296):tk (a3 a4 G X) (.cD (.g (U.length+R.length) 0) 1 n 23 1) (.int .u64 (u:Int)) (I (p:Nat)) (pR cs U R).ak=nL (a3 a4 G X) (.cD (.g (U.length+R.length) 0) 1 n 23 1) (I (p:Nat)) (Br u) (pR cs U R).ak:=by
 have dI:IntKind.wrap .u32 (u:Int)=(u:Int):=jB (by omega) (by omega);have e:¬(4:Int)≤(p:Int):=by omega
 rw[u5];simp -implicitDefEqProofs only[↓cx,↓cy,↓bH,↓bd,↓ax,↓az,↓av,↓aA,↓aF,↓aG,↓aw,↓aB,↓aU,↓aM,↓aP,↓bf,↓dG,↓aL,↓bl,↓bP,↓cR,↓bW,↓bX,↓bQ,↓bY,↓bZ,↓b0,↓b1,↓b2,↓b3,↓bn,↓bo,↓bp,↓cS,↓cT,↓cU,↓cV,↓cW,↓cX,↓cY,↓cZ,↓c0,↓b4,↓b5,↓b6,↓ft,↓fu,↓fv,↓bB,↓cK,↓bE,↓c1,↓bJ,↓cv,↓cJ,↓c2,↓aQ,↓aH,↓aR,↓aI,↓aD,↓aS,↓cH,↓bR,↓bS,↓b7,↓b8,↓b9,↓ca,↓cb,↓cc,↓cd,↓cf,bV,dJ,List.cons_append,List.nil_append,cj,decide_eq_false_iff_not,ite_not,↓reduceIte,a2,aO,a0,bq,ey,dU,dV,bc,bM,cr,Nat.reduceAdd,List.all_cons,List.all_nil,dj,c5,dm,dE,bA,↓a9,Nat.reduceLeDiff,aC,cN,cQ,↓w1,dI,eq_false e,du,bL]
end
def nW(u:Nat):List Nat:=
 if u<1000 then[48+u/100,48+u%100/10,48+u%100%10]
 else if u<10000 then[48+u%10000/100/10,48+u%10000/100%10,48+u%10000%100/10,48+u%10000%100%10]
 else if u<100000 then[48+u/10000,48+u%10000/100/10,48+u%10000/100%10,48+u%10000%100/10,48+u%10000%100%10]
 else[48+u/10000%100/10,48+u/10000%100%10,48+u%10000/100/10,48+u%10000/100%10,48+u%10000%100/10,48+u%10000%100%10]
theorem oS(u:Nat):(nW u).length=gI u:=by
 unfold nW gI;by_cases ar:u<1000
 ·rw[if_pos ar,if_pos ar];rfl
 ·by_cases ay:u<10000
  ·rw[if_neg ar,if_neg ar,if_pos ay,if_pos ay];rfl
  ·by_cases ch:u<100000
   ·rw[if_neg ar,if_neg ar,if_neg ay,if_neg ay,if_pos ch,if_pos ch];rfl
   ·rw[if_neg ar,if_neg ar,if_neg ay,if_neg ay,if_neg ch,if_neg ch];rfl
def rl(u:Nat):List ae:=vm 0::(nW u).map vm++List.replicate (23-gI u) (vm 0)
section
variable(G:Nat→ae)(X:Nat→List ae→ag→ah)
theorem RT(u:Nat)(ar:100≤u)(ay:u<131072)(U R:List (List cO)):aX a4 G X 97 [.cD (.g (U.length+R.length) 0) 1 (gI u) 23 1,.int .u64 (u:Int)] (pR (List.replicate 24 (vm 0)) U R)=.ok (.d7 []) (pR (rl u) U R):=by
 have r:¬(8:Int)≤((gI u:Nat):Int):=by unfold gI;split<;> (try split)<;> (try split)<;> omega
 rw[GS,Ru];simp -implicitDefEqProofs only[↓cx,↓cy,↓bH,↓bd,↓ax,↓az,↓av,↓aA,↓aF,↓aG,↓aw,↓aB,↓aU,↓aM,↓aP,↓bf,↓dG,↓aL,↓bl,↓bP,↓cR,↓bW,↓bX,↓bQ,↓bY,↓bZ,↓b0,↓b1,↓b2,↓b3,↓bn,↓bo,↓bp,↓cS,↓cT,↓cU,↓cV,↓cW,↓cX,↓cY,↓cZ,↓c0,↓b4,↓b5,↓b6,↓ft,↓fu,↓fv,↓bB,↓cK,↓bE,↓c1,↓bJ,↓cv,↓cJ,↓c2,↓aQ,↓aH,↓aR,↓aI,↓aD,↓aS,↓cH,↓bR,↓bS,↓b7,↓b8,↓b9,↓ca,↓cb,↓cc,↓cd,↓cf,bV,dJ,List.cons_append,List.nil_append,cj,decide_eq_false_iff_not,ite_not,↓reduceIte,a2,aO,a0,bq,ey,dU,dV,bc,bM,cr,Nat.reduceAdd,List.all_cons,List.all_nil,dj,c5,dm,dE,bA,↓a9,Nat.reduceLeDiff,aC,cN,cQ,CT,eq_false r,du,bL];unfold rl nW;by_cases h:u<1000
 ·have e:gI u=3:=by unfold gI;rw[if_pos h]
  rw[if_pos h,e,RS G X 3 u (by omega) (by omega)];refine(F2 G X (by simp) 1 u (by omega) (by omega) (by omega)).trans ?_;exact F0 G X (by simp) (u/100) (by omega) (by omega)
 ·by_cases p:u<10000
  ·have e:gI u=4:=by unfold gI;rw[if_neg h,if_pos p]
   rw[if_neg h,if_pos p,e];refine(yn G X (by simp) 0 u (by omega) (by omega) (by omega)).trans ?_;rw[F3 G X 0 _ (by omega),F1];rfl
  ·by_cases q:u<100000
   ·have e:gI u=5:=by unfold gI;rw[if_neg h,if_neg p,if_pos q]
    rw[if_neg h,if_neg p,if_pos q,e];refine(yn G X (by simp) 1 u (by omega) (by omega) (by omega)).trans ?_;rw[F3 G X 1 _ (by omega)];exact F0 G X (by simp) (u/10000) (by omega) (by omega)
   ·have e:gI u=6:=by unfold gI;rw[if_neg h,if_neg p,if_neg q]
    rw[if_neg h,if_neg p,if_neg q,e];refine(yn G X (by simp) 2 u (by omega) (by omega) (by omega)).trans ?_;refine(F2 G X (by simp) 0 (u/10000) (by omega) (by omega) (by omega)).trans ?_;rw[F1];rfl
end
def f7(u:Nat):List Nat:=if u<10 then[48+u] else if u<100 then[48+u/10,48+u%10] else nW u
def Sr(l:List Nat):Nat:=l.foldl (fun a d=>a*10+(d-48)) 0
theorem vf{u:Nat}(h:u<131072):Sr (f7 u)=u:=by
 unfold f7 nW Sr;split
 ·simp -implicitDefEqProofs only[List.foldl];omega
 ·split
  ·simp -implicitDefEqProofs only[List.foldl];omega
  ·split
   ·simp -implicitDefEqProofs only[List.foldl];omega
   ·split
    ·simp -implicitDefEqProofs only[List.foldl];omega
    ·split
     ·simp -implicitDefEqProofs only[List.foldl];omega
     ·simp -implicitDefEqProofs only[List.foldl];omega
theorem rZ{u v:Nat}(hu:u<131072)(bD:v<131072)(h:f7 u=f7 v):u=v:=by rw[←vf hu,←vf bD,h]
theorem Dy{u:Nat}(h:u<131072):∀b,b∈nW u→b<256:=by
 intro b e;unfold nW at e;split at e
 ·simp at e;omega
 ·split at e
  ·simp at e;omega
  ·split at e
   ·simp at e;omega
   ·simp at e;omega
theorem r0{u:Nat}(h:u<131072):(f7 u).length≤6:=by
 unfold f7;split
 ·simp
 ·split
  ·simp
  ·rw[oS];unfold gI;split<;> (try split)<;> (try split)<;> omega
section
variable(G:Nat→ae)(X:Nat→List ae→ag→ah)
theorem Lr(u:Nat)(h:u<10):(tp.drop u).take (u+1-u)=f7 u:=by
 have:∀u:Fin 10,(tp.drop u.val).take (u.val+1-u.val)=f7 u.val:=by decide
 exact this ⟨u,h⟩
theorem RU(u:Nat)(ar:10≤u)(h:u<100):(kF.drop (u*2)).take (u*2+2-u*2)=f7 u:=by
 have:∀u:Fin 100,10≤u.val→(kF.drop (u.val*2)).take (u.val*2+2-u.val*2)=f7 u.val:=by decide
 exact this ⟨u,h⟩ ar
theorem RV(u:Nat)(h:u<100)(s:ag):aX a4 G X 95 [.int .i64 (u:Int)] s=.ok (.str (f7 u)) s:=by
 rw[GQ,Rr];have e:IntKind.wrap .i64 ((u:Int)+1)=((u+1:Nat):Int):=by rw[eS _ (by omega) (by omega)];omega
 have p:IntKind.wrap .i64 ((u:Int)*2)=((u*2:Nat):Int):=by rw[eS _ (by omega) (by omega)];omega
 have q:IntKind.wrap .i64 (((u*2:Nat):Int)+2)=((u*2+2:Nat):Int):=by rw[eS _ (by omega) (by omega)];omega
 by_cases ar:u<10
 ·have c:(u:Int)<10:=by omega
  have aV:=fun(s:ag) (k:bb)=>FX G X (s:=s) (k:=k) tp .i64 .i64 u (u+1) (by omega) (by show u+1≤36;omega)
  rw[Lr u ar] at aV;unfold tp at aV;simp -implicitDefEqProofs only[↓cx,↓cy,↓bH,↓bd,↓ax,↓az,↓av,↓aA,↓aF,↓aG,↓aw,↓aB,↓aU,↓aM,↓aP,↓bf,↓dG,↓aL,↓bl,↓bP,↓cR,↓bW,↓bX,↓bQ,↓bY,↓bZ,↓b0,↓b1,↓b2,↓b3,↓bn,↓bo,↓bp,↓cS,↓cT,↓cU,↓cV,↓cW,↓cX,↓cY,↓cZ,↓c0,↓b4,↓b5,↓b6,↓ft,↓fu,↓fv,↓bB,↓cK,↓bE,↓c1,↓bJ,↓cv,↓cJ,↓c2,↓aQ,↓aH,↓aR,↓aI,↓aD,↓aS,↓cH,↓bR,↓bS,↓b7,↓b8,↓b9,↓ca,↓cb,↓cc,↓cd,↓cf,bV,dJ,List.cons_append,List.nil_append,cj,decide_eq_false_iff_not,ite_not,↓reduceIte,a2,aO,a0,bq,ey,dU,dV,bc,bM,cr,Nat.reduceAdd,List.all_cons,List.all_nil,dj,c5,dm,dE,bA,↓a9,Nat.reduceLeDiff,aC,cN,cQ,eq_true c,dx,e,↓aV]
 ·have c:¬(u:Int)<10:=by omega
  have aV:=fun(s:ag) (k:bb)=>FX G X (s:=s) (k:=k) kF .i64 .i64 (u*2) (u*2+2) (by omega) (by show u*2+2≤200;omega)
  rw[RU u (by omega) h] at aV;unfold kF at aV;simp -implicitDefEqProofs only[↓cx,↓cy,↓bH,↓bd,↓ax,↓az,↓av,↓aA,↓aF,↓aG,↓aw,↓aB,↓aU,↓aM,↓aP,↓bf,↓dG,↓aL,↓bl,↓bP,↓cR,↓bW,↓bX,↓bQ,↓bY,↓bZ,↓b0,↓b1,↓b2,↓b3,↓bn,↓bo,↓bp,↓cS,↓cT,↓cU,↓cV,↓cW,↓cX,↓cY,↓cZ,↓c0,↓b4,↓b5,↓b6,↓ft,↓fu,↓fv,↓bB,↓cK,↓bE,↓c1,↓bJ,↓cv,↓cJ,↓c2,↓aQ,↓aH,↓aR,↓aI,↓aD,↓aS,↓cH,↓bR,↓bS,↓b7,↓b8,↓b9,↓ca,↓cb,↓cc,↓cd,↓cf,bV,dJ,List.cons_append,List.nil_append,cj,decide_eq_false_iff_not,ite_not,↓reduceIte,a2,aO,a0,bq,ey,dU,dV,bc,bM,cr,Nat.reduceAdd,List.all_cons,List.all_nil,dj,c5,dm,dE,bA,↓a9,Nat.reduceLeDiff,aC,cN,cQ,eq_false c,du,bL,CS,p,q,↓aV]
theorem WM(s:ag)(k:bb)(n:Nat)(h:n≤23):(a3 a4 G X).lN 1 24 (.ref (.l 0) 0) (some (.int .i64 1)) (some (.int .i64 ((n+1:Nat):Int))) none s k=k (.cD (.l 0) 1 n 23 1) s:=by show qC 1 24 (.ref (.l 0) 0) (some (.int .i64 ((1:Nat):Int))) (some (.int .i64 ((n+1:Nat):Int))) none s k=_;unfold qC oV;simp -implicitDefEqProofs only[gL,eK (show 1≤n+1 by omega),eK (show n+1≤24 by omega),show Nat.ble 24 24=true from rfl,bA,ci];rw[if_neg (by omega),show 0+1*1=1 from rfl,show n+1-1=n by omega]
theorem rm:∀(l:List Nat) (r:List ae),chunk 1 l.length (l.map vm++r)=l.map vm
 |[],_=>rfl
 |x::l,r=>by simp -implicitDefEqProofs only[bM,chunk,fM,List.cons_append];show mW 1 (vm x::(l.map vm++r))::chunk 1 l.length (l.map vm++r)=_;rw[rm l r];rfl
theorem pq:∀(l:List Nat),ae.a6 (l.map vm)=true
 |[]=>rfl
 |x::l=>by simp -implicitDefEqProofs only[fM,ae.a6,pq l,Bool.and_true];rfl
theorem pr:∀(l:List Nat),(∀b,b∈l→b<256)→hR (l.map vm)=some l
 |[],_=>rfl
 |x::l,h=>by have aZ:=h x List.mem_cons_self;simp -implicitDefEqProofs only[fM];show hR (.int .u8 (x:Int)::l.map vm)=_;unfold hR;rw[pr l (fun b e=>h b (List.mem_cons_of_mem _ e))];simp;omega
theorem Bs(u:Nat)(U R:List (List cO))(df:gI u≤23):dD (pR (rl u) U R) (.cD (.l 0) 1 (gI u) 23 1)=some (1,(nW u).map vm):=by
 have cF:(rl u).drop 1=(nW u).map vm++List.replicate (23-gI u) (vm 0):=rfl;have bO:(rl u).length=24:=by simp [rl,oS];omega
 show(let es:=chunk 1 (gI u) ((rl u).drop 1);if ae.a6 es&&Nat.ble (1+gI u*1) (rl u).length&& !Nat.beq 1 0 then some (1,es) else none)=_;simp -implicitDefEqProofs only[cF,←oS,rm,pq,bO];rw[if_pos]
 have:Nat.ble (1+(nW u).length*1) 24=true:=eK (by rw[oS];omega);rw[this];rfl
theorem RW(dM:G 0=.bU kE)(u:Nat)(h:u<131072)(s:ag):aX a4 G X 77 [.int .i64 (u:Int),.int .i64 10] s=.ok (.str (f7 u)) s:=by
 rw[GP,Rq];have t10:(10:Int)=10:=rfl;have et:(0:Int)≤(u:Int):=by omega
 by_cases p:u<100
 ·have c:(u:Int)<100:=by omega
  have A:=RV G X u p s.ak;simp -implicitDefEqProofs only[↓cx,↓cy,↓bH,↓bd,↓ax,↓az,↓av,↓aA,↓aF,↓aG,↓aw,↓aB,↓aU,↓aM,↓aP,↓bf,↓dG,↓aL,↓bl,↓bP,↓cR,↓bW,↓bX,↓bQ,↓bY,↓bZ,↓b0,↓b1,↓b2,↓b3,↓bn,↓bo,↓bp,↓cS,↓cT,↓cU,↓cV,↓cW,↓cX,↓cY,↓cZ,↓c0,↓b4,↓b5,↓b6,↓ft,↓fu,↓fv,↓bB,↓cK,↓bE,↓c1,↓bJ,↓cv,↓cJ,↓c2,↓aQ,↓aH,↓aR,↓aI,↓aD,↓aS,↓cH,↓bR,↓bS,↓b7,↓b8,↓b9,↓ca,↓cb,↓cc,↓cd,↓cf,bV,dJ,List.cons_append,List.nil_append,cj,decide_eq_false_iff_not,ite_not,↓reduceIte,a2,aO,a0,bq,ey,dU,dV,bc,bM,cr,Nat.reduceAdd,List.all_cons,List.all_nil,dj,c5,dm,dE,bA,↓a9,Nat.reduceLeDiff,aC,cN,cQ,eq_true t10,eq_true et,eq_true c,dx,bx A]
 ·have c:¬(u:Int)<100:=by omega
  have q:¬(u:Int)<0:=by omega
  have df:gI u≤6:=by unfold gI;split<;> (try split)<;> (try split)<;> omega
  have w:IntKind.wrap .u64 (u:Int)=(u:Int):=IntWalk.u64_in _ ⟨by omega,by omega⟩;have r:IntKind.wrap .i64 (1+((gI u:Nat):Int))=((gI u+1:Nat):Int):=by rw[eS _ (by omega) (by omega)];omega
  have B:=fun s=>RP G X dM u (by omega) h s
  have F:=RT G X u (by omega) h (s.own::s.up) s.ro;have y:=fun(s:ag) (k:bb)=>WM G X s k (gI u) (by omega)
  have e:f7 u=nW u:=by unfold f7;rw[if_neg (by omega),if_neg p]
  rw[e];simp -implicitDefEqProofs only[↓cx,↓cy,↓bH,↓bd,↓ax,↓az,↓av,↓aA,↓aF,↓aG,↓aw,↓aB,↓aU,↓aM,↓aP,↓bf,↓dG,↓aL,↓bl,↓bP,↓cR,↓bW,↓bX,↓bQ,↓bY,↓bZ,↓b0,↓b1,↓b2,↓b3,↓bn,↓bo,↓bp,↓cS,↓cT,↓cU,↓cV,↓cW,↓cX,↓cY,↓cZ,↓c0,↓b4,↓b5,↓b6,↓ft,↓fu,↓fv,↓bB,↓cK,↓bE,↓c1,↓bJ,↓cv,↓cJ,↓c2,↓aQ,↓aH,↓aR,↓aI,↓aD,↓aS,↓cH,↓bR,↓bS,↓b7,↓b8,↓b9,↓ca,↓cb,↓cc,↓cd,↓cf,bV,dJ,List.cons_append,List.nil_append,cj,decide_eq_false_iff_not,ite_not,↓reduceIte,a2,aO,a0,bq,ey,dU,dV,bc,bM,cr,Nat.reduceAdd,List.all_cons,List.all_nil,dj,c5,dm,dE,bA,↓a9,Nat.reduceLeDiff,aC,cN,cQ,eq_true t10,eq_true et,eq_false c,dx,du,bL,CR,↓w1,w,eq_false q,CQ];refine(bx (B _)).trans ?_;simp -implicitDefEqProofs only[↓cx,↓cy,↓bH,↓bd,↓ax,↓az,↓av,↓aA,↓aF,↓aG,↓aw,↓aB,↓aU,↓aM,↓aP,↓bf,↓dG,↓aL,↓bl,↓bP,↓cR,↓bW,↓bX,↓bQ,↓bY,↓bZ,↓b0,↓b1,↓b2,↓b3,↓bn,↓bo,↓bp,↓cS,↓cT,↓cU,↓cV,↓cW,↓cX,↓cY,↓cZ,↓c0,↓b4,↓b5,↓b6,↓ft,↓fu,↓fv,↓bB,↓cK,↓bE,↓c1,↓bJ,↓cv,↓cJ,↓c2,↓aQ,↓aH,↓aR,↓aI,↓aD,↓aS,↓cH,↓bR,↓bS,↓b7,↓b8,↓b9,↓ca,↓cb,↓cc,↓cd,↓cf,bV,dJ,List.cons_append,List.nil_append,cj,decide_eq_false_iff_not,ite_not,↓reduceIte,a2,aO,a0,bq,ey,dU,dV,bc,bM,cr,Nat.reduceAdd,List.all_cons,List.all_nil,dj,c5,dm,dE,bA,↓a9,Nat.reduceLeDiff,aC,cN,cQ,r];refine(y _ _).trans ?_;refine(ta F rfl).trans ?_;simp -implicitDefEqProofs only[↓cx,↓cy,↓bH,↓bd,↓ax,↓az,↓av,↓aA,↓aF,↓aG,↓aw,↓aB,↓aU,↓aM,↓aP,↓bf,↓dG,↓aL,↓bl,↓bP,↓cR,↓bW,↓bX,↓bQ,↓bY,↓bZ,↓b0,↓b1,↓b2,↓b3,↓bn,↓bo,↓bp,↓cS,↓cT,↓cU,↓cV,↓cW,↓cX,↓cY,↓cZ,↓c0,↓b4,↓b5,↓b6,↓ft,↓fu,↓fv,↓bB,↓cK,↓bE,↓c1,↓bJ,↓cv,↓cJ,↓c2,↓aQ,↓aH,↓aR,↓aI,↓aD,↓aS,↓cH,↓bR,↓bS,↓b7,↓b8,↓b9,↓ca,↓cb,↓cc,↓cd,↓cf,bV,dJ,List.cons_append,List.nil_append,cj,decide_eq_false_iff_not,ite_not,↓reduceIte,a2,aO,a0,bq,ey,dU,dV,bc,bM,cr,Nat.reduceAdd,List.all_cons,List.all_nil,dj,c5,dm,dE,bA,↓a9,Nat.reduceLeDiff,aC,cN,cQ,eq_false q,du,bL,CP,r];refine(y _ _).trans ?_;show gk (gg G (aX a4 G X) bz) (pR (rl u) (s.own::s.up) s.ro) _ (.cD (.l 0) 1 (gI u) 23 1)=_;unfold gk;simp -implicitDefEqProofs only[Bs u _ _ (show gI u≤23 by omega),pr _ (Dy h),eb,pQ];rfl
theorem yo(dM:G 0=.bU kE)(u:Nat)(h:u<131072)(s:ag):aX a4 G X 19 [.int .i64 (u:Int)] s=.ok (.str (f7 u)) s:=by
 have e:=fun s=>RW G X dM u h s
 have p:∀s,aX a4 G X 47 [.int .i64 (u:Int)] s=.ok (.str (f7 u)) s:=fun s=>by rw[GO,Rp];simp -implicitDefEqProofs only[↓cx,↓cy,↓bH,↓bd,↓ax,↓az,↓av,↓aA,↓aF,↓aG,↓aw,↓aB,↓aU,↓aM,↓aP,↓bf,↓dG,↓aL,↓bl,↓bP,↓cR,↓bW,↓bX,↓bQ,↓bY,↓bZ,↓b0,↓b1,↓b2,↓b3,↓bn,↓bo,↓bp,↓cS,↓cT,↓cU,↓cV,↓cW,↓cX,↓cY,↓cZ,↓c0,↓b4,↓b5,↓b6,↓ft,↓fu,↓fv,↓bB,↓cK,↓bE,↓c1,↓bJ,↓cv,↓cJ,↓c2,↓aQ,↓aH,↓aR,↓aI,↓aD,↓aS,↓cH,↓bR,↓bS,↓b7,↓b8,↓b9,↓ca,↓cb,↓cc,↓cd,↓cf,bV,dJ,List.cons_append,List.nil_append,cj,decide_eq_false_iff_not,ite_not,↓reduceIte,a2,aO,a0,bq,ey,dU,dV,bc,bM,cr,Nat.reduceAdd,List.all_cons,List.all_nil,dj,c5,dm,dE,bA,↓a9,Nat.reduceLeDiff,aC,cN,cQ,bx (e _)]
 rw[GN,Ro];simp -implicitDefEqProofs only[↓cx,↓cy,↓bH,↓bd,↓ax,↓az,↓av,↓aA,↓aF,↓aG,↓aw,↓aB,↓aU,↓aM,↓aP,↓bf,↓dG,↓aL,↓bl,↓bP,↓cR,↓bW,↓bX,↓bQ,↓bY,↓bZ,↓b0,↓b1,↓b2,↓b3,↓bn,↓bo,↓bp,↓cS,↓cT,↓cU,↓cV,↓cW,↓cX,↓cY,↓cZ,↓c0,↓b4,↓b5,↓b6,↓ft,↓fu,↓fv,↓bB,↓cK,↓bE,↓c1,↓bJ,↓cv,↓cJ,↓c2,↓aQ,↓aH,↓aR,↓aI,↓aD,↓aS,↓cH,↓bR,↓bS,↓b7,↓b8,↓b9,↓ca,↓cb,↓cc,↓cd,↓cf,bV,dJ,List.cons_append,List.nil_append,cj,decide_eq_false_iff_not,ite_not,↓reduceIte,a2,aO,a0,bq,ey,dU,dV,bc,bM,cr,Nat.reduceAdd,List.all_cons,List.all_nil,dj,c5,dm,dE,bA,↓a9,Nat.reduceLeDiff,aC,cN,cQ,bx (p _)]
end
end Go.f0
end
section
namespace Go.f0
open Go.Ab Go.hb
end Go.f0
end
section
namespace Go.f0
open Go.Ab
def pN(x n:Int):Int:=(if x<0 then -(x+1) else x)%n
theorem r1{x n:Int}(h:0<n):0≤pN x n∧pN x n<n:=⟨Int.emod_nonneg _ (by omega),Int.emod_lt_of_pos _ h⟩
section
variable(G:Nat→ae)(X:Nat→List ae→ag→ah)
theorem yp(x n:Int)(df:0<n)(aZ: -9223372036854775808≤x∧x≤9223372036854775807)(s:ag):aX a4 G X 14 [I x,I n] s=.ok (I (pN x n)) s:=by
 have e6:n≠0:=by omega
 rw[GU,Rv];unfold pN;by_cases h:x<0
 ·have p:IntKind.wrap .i64 (x+1)=x+1:=eS _ (by omega) (by omega);have q:IntKind.wrap .i64 (0-(x+1))= -(x+1):=by rw[eS _ (by omega) (by omega)];omega
  have e:(-(x+1)).tmod n=(-(x+1))%n:=Int.tmod_eq_emod_of_nonneg (by omega);rw[if_pos h];simp -implicitDefEqProofs only[↓cx,↓cy,↓bH,↓bd,↓ax,↓az,↓av,↓aA,↓aF,↓aG,↓aw,↓aB,↓aU,↓aM,↓aP,↓bf,↓dG,↓aL,↓bl,↓bP,↓cR,↓bW,↓bX,↓bQ,↓bY,↓bZ,↓b0,↓b1,↓b2,↓b3,↓bn,↓bo,↓bp,↓cS,↓cT,↓cU,↓cV,↓cW,↓cX,↓cY,↓cZ,↓c0,↓b4,↓b5,↓b6,↓ft,↓fu,↓fv,↓bB,↓cK,↓bE,↓c1,↓bJ,↓cv,↓cJ,↓c2,↓aQ,↓aH,↓aR,↓aI,↓aD,↓aS,↓cH,↓bR,↓bS,↓b7,↓b8,↓b9,↓ca,↓cb,↓cc,↓cd,↓cf,bV,dJ,List.cons_append,List.nil_append,cj,decide_eq_false_iff_not,ite_not,↓reduceIte,a2,aO,a0,bq,ey,dU,dV,bc,bM,cr,Nat.reduceAdd,List.all_cons,List.all_nil,dj,c5,dm,dE,bA,↓a9,Nat.reduceLeDiff,aC,cN,cQ,eq_true h,dx,p,q,u6,↓rk G X _ _ _ e6,e]
 ·have e:x.tmod n=x%n:=Int.tmod_eq_emod_of_nonneg (by omega);rw[if_neg h];simp -implicitDefEqProofs only[↓cx,↓cy,↓bH,↓bd,↓ax,↓az,↓av,↓aA,↓aF,↓aG,↓aw,↓aB,↓aU,↓aM,↓aP,↓bf,↓dG,↓aL,↓bl,↓bP,↓cR,↓bW,↓bX,↓bQ,↓bY,↓bZ,↓b0,↓b1,↓b2,↓b3,↓bn,↓bo,↓bp,↓cS,↓cT,↓cU,↓cV,↓cW,↓cX,↓cY,↓cZ,↓c0,↓b4,↓b5,↓b6,↓ft,↓fu,↓fv,↓bB,↓cK,↓bE,↓c1,↓bJ,↓cv,↓cJ,↓c2,↓aQ,↓aH,↓aR,↓aI,↓aD,↓aS,↓cH,↓bR,↓bS,↓b7,↓b8,↓b9,↓ca,↓cb,↓cc,↓cd,↓cf,bV,dJ,List.cons_append,List.nil_append,cj,decide_eq_false_iff_not,ite_not,↓reduceIte,a2,aO,a0,bq,ey,dU,dV,bc,bM,cr,Nat.reduceAdd,List.all_cons,List.all_nil,dj,c5,dm,dE,bA,↓a9,Nat.reduceLeDiff,aC,cN,cQ,eq_false h,du,bL,u6,↓rk G X _ _ _ e6,e]
end
end Go.f0
end
section
namespace Go.f0
open Go.Ab Go.hb
set_option maxRecDepth 1000000
abbrev Ls:ag:={own:=[],up:=[],ro:=[]}
def G5:List ae→Option (List Nat)
 |[]=>some []
 |.int .u32 n::l=>if 0≤n∧n<4294967296 then(G5 l).map (n.toNat:: ·) else none
 |_::_=>none
def RX(m:List Nat):ga→Bool
 |.dW _=>false
 |.nil=>m.isEmpty
 |_=>true
structure gh.WW (n:gh):Prop where
 nil:n.g=.nil→n.rh=[]
 len:n.rh.length≤100000
def WN(r:ah):Bool:=
 match r with
 |.ok (.d7 [.agg [.bool YH,.cm 1 e uE,.bool ku,.cm 1 zb gZ],.int .i64 0]) _=>
  match G5 e,G5 zb with
  |some a,some b=>RX a uE&&RX b gZ&&Nat.ble a.length 1000&&Nat.ble b.length 1000&&mE YH ku a b
  |_,_=>false
 |_=>false
structure Ya (v:ae) (li cg:gh):Prop where
 v:v=.agg [.bool li.neg,li.v,.bool cg.neg,cg.v]
 Hb:jS li
 gR:jS cg
 valid:fU li cg=true
 YH:li.WW
 ku:cg.WW
theorem vg:∀{m:List ae} {a:List Nat},G5 m=some a→m=a.map U∧dC a
 |[],a,h=>by simp only[G5,a8] at h;subst h;exact⟨rfl,fun x aZ=>by cases aZ⟩
 |e::m,a,h=>by
  unfold G5 at h;split at h
  ·rename_i p;cases p
  ·rename_i n l p;cases p;split at h
   ·rename_i df;obtain⟨l',ar,ay⟩:=Option.map_eq_some_iff.1 h;subst ay;obtain⟨ch,dk⟩:=vg ar;refine⟨?_,fun x aZ=>?_⟩
    ·rw[fM,←ch];simp [U,Int.toNat_of_nonneg df.1]
    ·rcases List.mem_cons.1 aZ with rfl |aZ
     ·rw[kj];omega
     ·exact dk x aZ
   ·cases h
  ·cases h
theorem F4{m:List Nat}{g:ga}(h:RX m g=true):∀a,g≠.dW a:=fun a e=>by subst e;cases h
theorem F5{m:List Nat}{g:ga}(h:RX m g=true):g=.nil→m=[]:=fun e=>by subst e;exact List.isEmpty_iff.1 h
theorem Lt{r:ah}(h:WN r=true):∃v s' li cg,r=.ok (.d7 [v,.int .i64 0]) s'∧Ya v li cg:=by
 unfold WN at h;split at h
 ·rename_i YH B uE ku zb gZ s';split at h
  ·rename_i a b e p;simp only[bm] at h;obtain⟨⟨⟨⟨ar,ay⟩,ch⟩,dk⟩,q⟩:=h;obtain⟨y,mj⟩:=vg e;obtain⟨A,mM⟩:=vg p;have F:=dL ch;have H:=dL dk;exact⟨_,s',⟨YH,a,uE⟩,⟨ku,b,gZ⟩,rfl,by rw[y,A];rfl,⟨F4 ar,mj,by show a.length<_;omega⟩,⟨F4 ay,mM,by show b.length<_;omega⟩,q,⟨F5 ar,by show a.length≤_;omega⟩,⟨F5 ay,by show b.length≤_;omega⟩⟩
  ·cases h
 ·cases h
section
variable(G:Nat→ae)(X:Nat→List ae→ag→ah)
noncomputable def gy(a:Nat):Bool:=(List.range 4).all fun b=>WN (call aN.full a4 G X 200 46 [I ((a:Int)-16),I ((b:Int)+1)] Ls)
end
end Go.f0
end
