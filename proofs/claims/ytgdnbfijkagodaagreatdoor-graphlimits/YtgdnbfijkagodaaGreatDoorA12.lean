/- A part of the proof: no condition. -/
import Derived.Test.YtgdnbfijkagodaaGreatDoorA8
import Derived.Test.YtgdnbfijkagodaaGreatDoorA9
import Derived.Test.YtgdnbfijkagodaaGreatDoorA10
import Derived.Test.YtgdnbfijkagodaaGreatDoorA11
import Derived.Test.YtgdnbfijkagodaaGreatDoorA7
set_option linter.unusedSectionVars false
set_option linter.unusedSimpArgs false
set_option linter.unusedVariables false
section
namespace Go.f0
open Go.Ab Go.hb
section
variable(G:Nat→ae)(X:Nat→List ae→ag→ah)
theorem WO{a:Nat}(h:a<33):gy G X a=true:=by
 match a,h with
 |0,_=>exact Zt G X
 |1,_=>exact Zu G X
 |2,_=>exact Zv G X
 |3,_=>exact Zw G X
 |4,_=>exact Zx G X
 |5,_=>exact Zy G X
 |6,_=>exact Zz G X
 |7,_=>exact ZA G X
 |8,_=>exact ZB G X
 |9,_=>exact ZC G X
 |10,_=>exact Yb G X
 |11,_=>exact Yc G X
 |12,_=>exact Yd G X
 |13,_=>exact Ye G X
 |14,_=>exact Yf G X
 |15,_=>exact Yg G X
 |16,_=>exact Yh G X
 |17,_=>exact Yi G X
 |18,_=>exact Yj G X
 |19,_=>exact Yk G X
 |20,_=>exact Yl G X
 |21,_=>exact Ym G X
 |22,_=>exact Yn G X
 |23,_=>exact Yo G X
 |24,_=>exact Yp G X
 |25,_=>exact Yq G X
 |26,_=>exact Yr G X
 |27,_=>exact Ys G X
 |28,_=>exact Yt G X
 |29,_=>exact Yu G X
 |30,_=>exact Yv G X
 |31,_=>exact Yw G X
 |32,_=>exact Yx G X
 |n+33,h=>omega
theorem tq{a b:Int}(p: -16≤a∧a≤16)(q:1≤b∧b≤4):∃v s' li cg,aX a4 G X 46 [I a,I b] Ls=.ok (.d7 [v,I 0]) s'∧Ya v li cg:=by have h:=WO G X (a:=(a+16).toNat) (by omega);unfold gy at h;rw[aN.yC] at h;have h:=List.all_eq_true.1 h (b-1).toNat (List.mem_range.2 (by omega));rw[show(((a+16).toNat:Nat):Int)-16=a by omega,show(((b-1).toNat:Nat):Int)+1=b by omega] at h;obtain⟨v,s',li,cg,ar,ay⟩:=Lt h;exact⟨v,s',li,cg,nF a4 G X (fun e=>by cases e) ar,ay⟩
end
end Go.f0
end
section
namespace Go.f0
open Go.Ab
structure WX where
 op:Int
 a:Int
 b:Int
 c:Int
 x:Int
 y:Int
 pj:Int
def WX.cs(p:WX):List ae:=[I p.op,I p.a,I p.b,I p.c,I p.x,I p.y,I p.pj]
def WX.enc(p:WX):ae:=.agg p.cs
def Lu(n:Int):Prop:= -9223372036854775808≤n∧n≤9223372036854775807
def ho:gh:=⟨false,[],.nil⟩
theorem h2:jS ho:=⟨fun a h=>(by cases h),fun x aZ=>(by cases aZ),(by show(0:Nat)<_;omega)⟩
structure ZD (x:be):Prop where
 li:x.li.WW
 cg:x.cg.WW
 ru:x.ru.WW
 pI:x.pI.WW
theorem mf:∀(l pre:List be) (x:be),kD pre (l++[x])=(kD pre l&&wf (pre++l) x)
 |[],pre,x=>by simp [kD]
 |y::l,pre,x=>by rw[List.cons_append,kD,mf l,kD,tr,List.singleton_append,Bool.and_assoc]
structure ZE (L:List be) (Lv roots i:Nat):Prop where
 wf:kD [] L=true
 ok:∀x,x∈L→oG x
 ZR:∀x,x∈L→ZD x
 yk:yk L≤roots
 rt:roots≤3
 ZF:(jP L 0).length≤Lv
 ZG:Lv≤8
 ry:∀x,x∈L→∃j,j<i∧x.name=115::f7 j
theorem ZE.later{L:List be}{Lv roots i:Nat}(h:ZE L Lv roots i):ZE L Lv roots (i+1):=
 ⟨h.wf,h.ok,h.ZR,h.yk,h.rt,h.ZF,h.ZG,fun x aZ=>let⟨j,ar,ay⟩:=h.ry x aZ;⟨j,by omega,ay⟩⟩
end Go.f0
end
section
namespace Go.f0
open Go.Ab Go.hb
structure ZH (s S:ag) (n7:ga) (n YI:Nat) (p:WX):Prop where
 ZL:Child s S
 sY:iv S n7 n
 ZN:S.own[YI]? =some (.cells p.cs)
theorem ZH.new{s S:ag}{n7:ga}{n YI:Nat}{p:WX}(h:ZH s S n7 n YI p)(o:cO):ZH s (S.new o) n7 n YI p:=
 ⟨h.ZL.new o,h.sY.new o,by simp only[ag.new];rw[g1 (ez.1 h.ZN).1];exact h.ZN⟩
section
variable(G:Nat→ae)(X:Nat→List ae→ag→ah)
def LO:List ae:=[.str [],.int .i64 0,.cm 1 [] .nil,.bool false,.cm 1 [] .nil,.bool false,.cm 1 [] .nil,.bool false,.cm 1 [] .nil,.bool false,.cm 1 [] .nil,.int .i64 0]
end
theorem vh{α:Type}(A:List α):∀a,nb A≠.dW a:=fun a e=>by unfold nb at e;split at e<;> cases e
end Go.f0
end
section
namespace Go.f0
open Go.Ab Go.hb
variable(G:Nat→ae)(X:Nat→List ae→ag→ah)
end Go.f0
end
section
namespace Go.f0
open Go.Ab Go.hb
section
variable(G:Nat→ae)(X:Nat→List ae→ag→ah)
theorem G6{S:ag}{k:bb}{j n:Nat}{cs:List ae}(h:S.own[j]? =some (.cells cs))(df:n≤cs.length):(a3 a4 G X).aK S k (some n) (.ref (.l j) 0)=k (.agg (cs.take n)) S:=by rw[ha];have e:S.get (.l j)=some (.cells cs):=h;simp only[dP,e,bV,ew];rw[show Nat.ble n cs.length=true from eK df];rfl
theorem WV{s:ag}(n c x y:Int)(K:bb):(a3 a4 G X).ai s (fun e s=>(a3 a4 G X).af e true (fun k=>k (I c) s) s (fun p s=>(a3 a4 G X).af e true (fun k=>(a3 a4 G X).ai s k (ao .eql p (.int .i64 y))) s (fun q s=>(a3 a4 G X).cq s (fun r s=>K r s) e q (.bool false)))) (ao .eql (.int .i64 n) (.int .i64 x))=K (.bool (decide (n=x)&&decide (c=y))) s:=by
 rw[bB];cases h:decide (n=x)
 ·simp -implicitDefEqProofs only[h1,cI,fO,fK]
 ·simp -implicitDefEqProofs only[gQ,bB,gH,eT]
end
end Go.f0
end
