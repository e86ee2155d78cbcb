/- What the claim's texts say of a part of the evaluator and of the program's functions: for every argument that they name. -/
import Derived.Test.YtnafklimohmfkaaGreatDoorA8
import Derived.Test.YtnafklimohmfkaaGreatDoorA2
import Derived.Test.YtnafklimohmfkaaGreatDoorRows
set_option linter.unusedSectionVars false
set_option linter.unusedSimpArgs false
set_option linter.unusedVariables false
namespace Go.jY
open Go.Ab Go.iY Go.Proofs.YtnafklimohmfkaaGreatDoor
section
variable{H:Type}
abbrev DD:Sh:=.sl (.int .i64)
abbrev Bn:Sh:=.st [.bool, .sl (.int .u32)]
abbrev w5:Sh:=.st [Bn,Bn]
abbrev mG:Sh:=.st [.str, .int .i64,DD,w5,w5, .int .i64]
theorem Hn(e:Sh)(es rest:List (DataW H)):il (.sl e) (.slice es rest)=[.sl e.size (es.map fun x=>elemV (il e x)) .any]:=by rw[il]
theorem Ho(fs:List Sh)(ds:List (DataW H)):il (.st fs) (.agg ds)=tf fs ds:=by rw[il]
theorem iN(s:Sh)(ss:List Sh)(d:DataW H)(ds:List (DataW H)):tf (s :: ss) (d :: ds)=il s d ++ tf ss ds:=by rw[tf]
theorem pM{α β:Type}{f:α→AV}{g:β→AV}{p:β→Prop}:∀(es:List α),(∀x,x∈es→∃y,f x=g y∧p y)→∃ys:List β,es.map f=ys.map g∧ys.length=es.length∧∀y,y∈ys→p y
 | [],_=>⟨[],rfl,rfl,fun y h=>by cases h⟩
 | x :: es,h=>by
  obtain⟨y,hy,hp⟩:=h x (by simp)
  obtain⟨ys,h1,h2,h3⟩:=pM es (fun x hx=>h x (by simp [hx]))
  refine⟨y :: ys,by simp [hy,h1],by simp [h2],fun z hz=>?_⟩
  rcases List.mem_cons.1 hz with rfl | hz
  ·exact hp
  ·exact h3 z hz
theorem aC7(d:DataW H):1≤Rows.uptoBulk d:=by
 cases d with
 | lit l=>cases l <;> simp [Rows.uptoBulk]
 | _=>simp [Rows.uptoBulk]
theorem vL:∀l:List (DataW H),l.length≤Rows.uptoBulkAll l
 | []=>Nat.le_refl _
 | x :: r=>by
  have:=aC7 x
  have:=vL r
  simp only[Rows.uptoBulkAll,cP];omega
theorem Jl{d:DataW H}:∀{l:List (DataW H)},d∈l→Rows.uptoBulk d≤Rows.uptoBulkAll l
 | x :: r,h=>by
  simp only[Rows.uptoBulkAll]
  cases List.mem_cons.1 h with
  | inl e=>subst e;omega
  | inr e=>have:=Jl e;omega
theorem ah5{d:DataW H}(h:jw DD d):∃(l:List Int) (g:Gr),il DD d=[gp l g]∧(∀a,g≠.bJ a)∧l.length≤Rows.uptoBulk d:=by
 simp only[jw] at h
 rcases h with rfl | ⟨es,rest,rfl,hl,hx⟩
 ·exact⟨[], .nil,rfl,(fun a e=>by cases e),Nat.zero_le _⟩
 ·obtain⟨l,h1,h2,_⟩:=pM (f:=fun x=>elemV (il (.int .i64) x)) (g:=I) (p:=fun _=>True) es (fun x Ij=>by
   obtain⟨n,rfl,_⟩:=hx x Ij
   exact⟨n,rfl,trivial⟩)
  refine⟨l, .any,?_,(fun a e=>by cases e),?_⟩
  ·rw[Hn,h1]
   rfl
  ·have:=vL es
   simp only[Rows.uptoBulk];omega
theorem TP{d:DataW H}(h:jw Bn d)(hb:Rows.uptoBulk d≤1048576):∃n:kw,il Bn d=[.bool n.neg,n.v]∧so n:=by
 simp only[jw,jf] at h
 obtain⟨ds,rfl,d1,l1,rfl,⟨b,rfl⟩,d2,l2,rfl,h2,rfl⟩:=h
 have qj:Rows.uptoBulk d2≤1048576:=by
  simp only[Rows.uptoBulk,Rows.uptoBulkAll] at hb;omega
 have key:∃(l:List Nat) (g:Gr),il (.sl (.int .u32)) d2=[.sl 1 (l.map U) g]∧(∀a,g≠.bJ a)∧bV l∧l.length≤1048576:=by
  rcases h2 with rfl | ⟨es,rest,rfl,hl,hx⟩
  ·exact⟨[], .nil,rfl,(fun a e=>by cases e),(fun x hx=>absurd hx oR),Nat.zero_le _⟩
  ·obtain⟨l,h1,h3,h4⟩:=pM (f:=fun x=>elemV (il (.int .u32) x)) (g:=U) (p:=fun n=>n < B) es (fun x Ij=>by
    obtain⟨n,rfl,hn⟩:=hx x Ij
    simp only[Lit.wf,bD,jV] at hn
    obtain⟨n1,n2⟩:=hn
    have m1:IntKind.min .u32=0:=by decide
    have m2:IntKind.max .u32=4294967295:=by decide
    rw[m1] at n1
    rw[m2] at n2
    obtain⟨m,rfl⟩:=Int.eq_ofNat_of_zero_le n1
    exact⟨m,rfl,by show m < 4294967296;omega⟩)
   refine⟨l, .any,?_,(fun a e=>by cases e),h4,?_⟩
   ·rw[Hn,h1]
    rfl
   ·have:=vL es
    simp only[Rows.uptoBulk] at qj;omega
 obtain⟨l,g,e,hg,ct,hlen⟩:=key
 refine⟨⟨b,l,g⟩,?_,hg,ct,by show l.length < _;omega⟩
 rw[Ho,iN,iN,e]
 rfl
theorem TQ{d:DataW H}(h:jw w5 d)(hb:Rows.uptoBulk d≤1048576):∃m n:kw,il w5 d=[.bool m.neg,m.v, .bool n.neg,n.v]∧so m∧so n:=by
 rw[show jw w5 d=∃ds,d= .agg ds∧jf [Bn,Bn] ds from by rw[jw]] at h
 obtain⟨ds,rfl,h⟩:=h
 rw[jf] at h
 obtain⟨d1,l1,rfl,h1,h⟩:=h
 rw[jf] at h
 obtain⟨d2,l2,rfl,h2,h⟩:=h
 rw[jf] at h
 subst h
 simp only[Rows.uptoBulk,Rows.uptoBulkAll] at hb
 obtain⟨m,e1,k1⟩:=TP h1 (by omega)
 obtain⟨n,e2,k2⟩:=TP h2 (by omega)
 refine⟨m,n,?_,k1,k2⟩
 rw[Ho,iN,iN,e1,e2]
 rfl
theorem YI{d:DataW H}(h:jw mG d)(hb:Rows.uptoBulk d≤1048576):∃x:aS,elemV (il mG d)=x.enc∧sp x:=by
 rw[show jw mG d=∃ds,d= .agg ds∧jf [.str, .int .i64,DD,w5,w5, .int .i64] ds from by rw[jw]] at h
 obtain⟨ds,rfl,h⟩:=h
 rw[jf] at h
 obtain⟨d1,l1,rfl,h1,h⟩:=h
 rw[jf] at h
 obtain⟨d2,l2,rfl,h2,h⟩:=h
 rw[jf] at h
 obtain⟨d3,l3,rfl,h3,h⟩:=h
 rw[jf] at h
 obtain⟨d4,l4,rfl,h4,h⟩:=h
 rw[jf] at h
 obtain⟨d5,l5,rfl,h5,h⟩:=h
 rw[jf] at h
 obtain⟨d6,l6,rfl,h6,h⟩:=h
 rw[jf] at h
 subst h
 simp only[Rows.uptoBulk,Rows.uptoBulkAll] at hb
 simp only[jw] at h1 h2 h6
 obtain⟨bs,rfl,_⟩:=h1
 obtain⟨op,rfl,_⟩:=h2
 obtain⟨br,rfl,_⟩:=h6
 obtain⟨ar,ga,e3,hg,ya⟩:=ah5 h3
 obtain⟨x0,x1,e4,k0,k1⟩:=TQ h4 (by omega)
 obtain⟨y0,y1,e5,k2,k3⟩:=TQ h5 (by omega)
 refine⟨⟨bs.map UInt8.toNat,op,ar,ga,x0,x1,y0,y1,br⟩,?_,hg,by show ar.length < _;omega,k0,k1,k2,k3⟩
 have:il mG (.agg [.lit (.string bs), .lit (.int .i64 op),d3,d4,d5, .lit (.int .i64 br)])=[.str (bs.map UInt8.toNat), .int .i64 op,gp ar ga, .bool x0.neg,x0.v, .bool x1.neg,x1.v, .bool y0.neg,y0.v, .bool y1.neg,y1.v, .int .i64 br]:=by
  rw[Ho,iN,iN,iN,iN,iN,iN,e3,e4,e5]
  rfl
 rw[this]
 rfl
theorem YJ{d:DataW H}(h:jw (.sl mG) d)(hb:Rows.uptoBulk d≤1048576):∃(l:List aS) (g:Gr),MZ (.sl mG) d=bQ l g∧(∀a,g≠.bJ a)∧l.length < 9223372036854775806∧∀o,o∈l→sp o:=by
 rw[show jw (.sl mG) d=(d= .nil∨∃es rest,d= .slice es rest∧es.length+rest.length≤maxLen∧∀x,x∈es→jw mG x) from by rw[jw]] at h
 rcases h with rfl | ⟨es,rest,rfl,hl,hx⟩
 ·exact⟨[], .nil,rfl,(fun a e=>by cases e),by decide,fun o h=>absurd h oR⟩
 ·simp only[Rows.uptoBulk] at hb
  obtain⟨l,h1,h2,h3⟩:=pM (f:=fun x=>elemV (il mG x)) (g:=aS.enc) (p:=sp) es (fun x Ij=>YI (hx x Ij) (by have:=Jl Ij;omega))
  refine⟨l, .any,?_,(fun a e=>by cases e),?_,h3⟩
  ·unfold MZ
   simp only
   rw[Hn,h1]
   rfl
  ·have:=vL es
   omega
end
end Go.jY
