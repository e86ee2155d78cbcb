/- A part of the proof: no condition. -/
import Derived.Test.YtgdnbfijkagodaaGreatDoorA0
import Derived.Test.YtgdnbfijkagodaaGreatDoorA7
import Derived.Test.YtgdnbfijkagodaaGreatDoorA12
import Derived.Test.YtgdnbfijkagodaaGreatDoorA5
import Derived.Test.YtgdnbfijkagodaaGreatDoorA3
set_option linter.unusedSectionVars false
set_option linter.unusedSimpArgs false
set_option linter.unusedVariables false
section
namespace Go.f0
open Go.Ab
end Go.f0
end
section
namespace Go.f0
open Go.Ab Go.hb
def WY(op:Int):Nat:=if oI op=true then 1 else 0
def WZ(op:Int):Nat:=if op=1 then 2 else if op=2 then 1 else 0
theorem RZ(l:List be):yk l=((l.map be.op).map WY).sum:=by
 unfold yk
 induction l with
 |nil=>rfl
 |cons x l e=>simp only[fM,List.sum_cons,←e,List.filter_cons,WY];split<;> simp <;> omega
theorem Bt:∀(l:List be) (i:Nat),(jP l i).length=((l.map be.op).map WZ).sum
 |[],_=>rfl
 |x::l,i=>by rw[jP,f9,Bt l (i+1)];simp only[fM,List.sum_cons];congr 1;unfold md WZ;split<;> (try split)<;> simp
def gU(ry:List Nat)(op:Int)(args:List Int)(sK:ga)(li cg ru pI:gh)(pj:Int):be:=⟨ry,op,args,sK,li,cg,ru,pI,pj⟩
def mU(ev dR fl eW et dY:gh):List be:=[gU [65] 1 [] .nil ev dR ev dR 0,gU [66] 1 [] .nil fl eW et dY 0,gU [108] 3 [0,1] .exact ho ho ho ho 0,gU [99] 5 [0,1] .exact ho ho ho ho 0]
def LF(ev dR et dY:gh)(i:Nat):be:=gU (102::f7 i) 1 [] .nil ev dR et dY 0
def yq(i:Nat):be:=gU (114::f7 i) 8 [2,3] .exact ho ho ho ho 1
def R0(i:Nat):be:=gU (108::f7 i) 11 [0,2] .exact ho ho ho ho 0
section
variable(ev dR fl eW et dY:gh)
def eV(f k n:Nat):List be:=mU ev dR fl eW et dY++((List.range f).map (LF ev dR fl eW)++((List.range k).map yq++(List.range n).map R0))
theorem h3(f k n:Nat):(eV ev dR fl eW et dY f k n).length=4+f+k+n:=by simp [eV,mU];omega
theorem yr(f:Nat):eV ev dR fl eW et dY (f+1) 0 0=eV ev dR fl eW et dY f 0 0++[LF ev dR fl eW f]:=by simp [eV,List.range_succ]
theorem ys(f k:Nat):eV ev dR fl eW et dY f (k+1) 0=eV ev dR fl eW et dY f k 0++[yq k]:=by simp [eV,List.range_succ]
theorem yu(f k n:Nat):eV ev dR fl eW et dY f k (n+1)=eV ev dR fl eW et dY f k n++[R0 n]:=by simp [eV,List.range_succ]
theorem Lw(f k n:Nat):yk (eV ev dR fl eW et dY f k n)=k:=by
 rw[RZ];have ar:∀f,(((List.range f).map (LF ev dR fl eW)).map be.op).map WY=List.replicate f 0:=fun f=>by rw[List.map_map,List.map_map];exact List.eq_replicate_iff.2 ⟨by simp,fun b h=>by obtain⟨x,_,rfl⟩:=List.mem_map.1 h;rfl⟩
 have ay:∀k,(((List.range k).map yq).map be.op).map WY=List.replicate k 1:=fun k=>by rw[List.map_map,List.map_map];exact List.eq_replicate_iff.2 ⟨by simp,fun b h=>by obtain⟨x,_,rfl⟩:=List.mem_map.1 h;rfl⟩
 have ch:∀n,(((List.range n).map R0).map be.op).map WY=List.replicate n 0:=fun n=>by rw[List.map_map,List.map_map];exact List.eq_replicate_iff.2 ⟨by simp,fun b h=>by obtain⟨x,_,rfl⟩:=List.mem_map.1 h;rfl⟩
 unfold eV;simp only[List.map_append,List.sum_append,ar,ay,ch,List.sum_replicate_nat];have e:(((mU ev dR fl eW et dY).map be.op).map WY).sum=0:=rfl;rw[e];simp
theorem G8(f k n:Nat):(jP (eV ev dR fl eW et dY f k n) 0).length=4+2*f:=by
 rw[Bt];have ar:∀f,(((List.range f).map (LF ev dR fl eW)).map be.op).map WZ=List.replicate f 2:=fun f=>by rw[List.map_map,List.map_map];exact List.eq_replicate_iff.2 ⟨by simp,fun b h=>by obtain⟨x,_,rfl⟩:=List.mem_map.1 h;rfl⟩
 have ay:∀k,(((List.range k).map yq).map be.op).map WZ=List.replicate k 0:=fun k=>by rw[List.map_map,List.map_map];exact List.eq_replicate_iff.2 ⟨by simp,fun b h=>by obtain⟨x,_,rfl⟩:=List.mem_map.1 h;rfl⟩
 have ch:∀n,(((List.range n).map R0).map be.op).map WZ=List.replicate n 0:=fun n=>by rw[List.map_map,List.map_map];exact List.eq_replicate_iff.2 ⟨by simp,fun b h=>by obtain⟨x,_,rfl⟩:=List.mem_map.1 h;rfl⟩
 unfold eV;simp only[List.map_append,List.sum_append,ar,ay,ch,List.sum_replicate_nat];have e:(((mU ev dR fl eW et dY).map be.op).map WZ).sum=4:=rfl;rw[e];omega
variable(kZ:fU ev dR=true)(wt:fU fl eW=true)(Ss:fU et dY=true)
structure F6 (L:List be):Prop where
 ex:∃r,L=mU ev dR fl eW et dY++r
theorem nQ{L:List be}(h:F6 ev dR fl eW et dY L)(w:Int)(q:Nat)(f8:q<4)(o:be)(e:(mU ev dR fl eW et dY)[q]? =some o)(p:acc w (oH o.op)=true):lg L w (q:Int)=true:=by
 obtain⟨r,rfl⟩:=h.ex;unfold lg;rw[bm];refine⟨eJ ⟨by omega,?_⟩,?_⟩
 ·have:(mU ev dR fl eW et dY).length=4:=rfl;rw[f9,this];omega
 ·rw[Int.toNat_natCast,g1 (by exact f8),e];exact p
theorem pO{L:List be}{x:be}(h:∀o∈L,o.name≠x.name):lE L x=false:=by rw[Bool.eq_false_iff];intro df;unfold lE at df;rw[List.any_eq_true] at df;obtain⟨o,e,he⟩:=df;exact h o e (by simpa using he)
theorem yv{u:Nat}(h:u<100):f7 u≠[]:=by
 unfold f7;split
 ·simp
 ·simp
theorem sO(L:List be):iw L [] []=true:=by rw[iw];simp
include kZ Ss
theorem Yy{L:List be}(i:Nat)(df:∀o∈L,o.name≠102::f7 i):wf L (LF ev dR et dY i)=true:=by unfold wf;rw[show iw L (nj (LF ev dR et dY i).op) (LF ev dR et dY i).args=true from by show iw L [] []=true;rw[iw];simp];rw[show sM (LF ev dR et dY i)=true from by show(if(1:Int)=1 then fU ev dR&&fU et dY else _)=true;rw[if_pos rfl,kZ,Ss];rfl];rw[pO df];rfl
omit kZ Ss
theorem Yz{L:List be}(h:F6 ev dR fl eW et dY L)(i:Nat)(df:∀o∈L,o.name≠114::f7 i):wf L (yq i)=true:=by
 unfold wf;rw[show iw L (nj (yq i).op) (yq i).args=true from by show(lg L 2 2&&(lg L 3 3&&iw L [] []))=true;rw[show lg L 2 2=true from nQ ev dR fl eW et dY h 2 2 (by omega) _ rfl rfl,show lg L 3 3=true from nQ ev dR fl eW et dY h 3 3 (by omega) _ rfl rfl,sO];rfl]
 rw[pO df];rfl
theorem YA{L:List be}(h:F6 ev dR fl eW et dY L)(i:Nat)(df:∀o∈L,o.name≠108::f7 i):wf L (R0 i)=true:=by
 unfold wf;rw[show iw L (nj (R0 i).op) (R0 i).args=true from by show(lg L 1 0&&(lg L 2 2&&iw L [] []))=true;rw[show lg L 1 0=true from nQ ev dR fl eW et dY h 1 0 (by omega) _ rfl rfl,show lg L 2 2=true from nQ ev dR fl eW et dY h 2 2 (by omega) _ rfl rfl,sO];rfl]
 rw[pO df];rfl
theorem w2(f k n:Nat):F6 ev dR fl eW et dY (eV ev dR fl eW et dY f k n):=⟨_,rfl⟩
theorem oK{f k n:Nat}{o:be}(h:o∈eV ev dR fl eW et dY f k n):o.name=[65]∨o.name=[66]∨o.name=[108]∨o.name=[99]∨(∃i,i<f∧o.name=102::f7 i)∨(∃i,i<k∧o.name=114::f7 i)∨∃i,i<n∧o.name=108::f7 i:=by
 unfold eV at h;rcases List.mem_append.1 h with h|h
 ·simp only[mU,List.mem_cons,ps,or_false] at h;rcases h with h|h|h|h<;> subst h
  ·exact .inl rfl
  ·exact .inr (.inl rfl)
  ·exact .inr (.inr (.inl rfl))
  ·exact .inr (.inr (.inr (.inl rfl)))
 ·rcases List.mem_append.1 h with h|h
  ·obtain⟨i,bN,rfl⟩:=List.mem_map.1 h;exact .inr (.inr (.inr (.inr (.inl ⟨i,List.mem_range.1 bN,rfl⟩))))
  ·rcases List.mem_append.1 h with h|h
   ·obtain⟨i,bN,rfl⟩:=List.mem_map.1 h;exact .inr (.inr (.inr (.inr (.inr (.inl ⟨i,List.mem_range.1 bN,rfl⟩)))))
   ·obtain⟨i,bN,rfl⟩:=List.mem_map.1 h;exact .inr (.inr (.inr (.inr (.inr (.inr ⟨i,List.mem_range.1 bN,rfl⟩)))))
include kZ wt Ss
theorem R1:kD [] (mU ev dR fl eW et dY)=true:=by
 have dI:wf [] (gU [65] 1 [] .nil ev dR ev dR 0)=true:=by unfold wf;rw[show sM (gU [65] 1 [] .nil ev dR ev dR 0)=true from by show(if(1:Int)=1 then fU ev dR&&fU ev dR else _)=true;rw[if_pos rfl,kZ];rfl];rfl
 have e:wf [gU [65] 1 [] .nil ev dR ev dR 0] (gU [66] 1 [] .nil fl eW et dY 0)=true:=by unfold wf;rw[show sM (gU [66] 1 [] .nil fl eW et dY 0)=true from by show(if(1:Int)=1 then fU fl eW&&fU et dY else _)=true;rw[if_pos rfl,wt,Ss];rfl];rfl
 show(wf [] (gU [65] 1 [] .nil ev dR ev dR 0)&&(wf [gU [65] 1 [] .nil ev dR ev dR 0] (gU [66] 1 [] .nil fl eW et dY 0)&&(wf [gU [65] 1 [] .nil ev dR ev dR 0,gU [66] 1 [] .nil fl eW et dY 0] (gU [108] 3 [0,1] .exact ho ho ho ho 0)&&(wf [gU [65] 1 [] .nil ev dR ev dR 0,gU [66] 1 [] .nil fl eW et dY 0,gU [108] 3 [0,1] .exact ho ho ho ho 0] (gU [99] 5 [0,1] .exact ho ho ho ho 0)&&true))))=true;rw[dI,e];rfl
theorem rn:∀f k n:Nat,f≤10→k≤6→n≤33→kD [] (eV ev dR fl eW et dY f k n)=true
 |0,0,0,_,_,_=>by
  have:eV ev dR fl eW et dY 0 0 0=mU ev dR fl eW et dY:=by simp [eV]
  rw[this];exact R1 ev dR fl eW et dY kZ wt Ss
 |f,k,n+1,bg,c3,df=>by
  rw[yu,mf,rn f k n bg c3 (by omega),List.nil_append,YA ev dR fl eW et dY (w2 ..) n]
  ·rfl
  ·intro o p;rcases oK ev dR fl eW et dY p with h|h|h|h|⟨i,bN,h⟩|⟨i,bN,h⟩|⟨i,bN,h⟩<;> rw[h]<;> intro e
   ·simp at e
   ·simp at e
   ·injection e with _ e;exact yv (by omega) e.symm
   ·simp at e
   ·simp at e
   ·simp at e
   ·injection e with _ e;have:=rZ (by omega) (by omega) e;omega
 |f,k+1,0,bg,c3,df=>by
  rw[ys,mf,rn f k 0 bg (by omega) df,List.nil_append,Yz ev dR fl eW et dY (w2 ..) k]
  ·rfl
  ·intro o p;rcases oK ev dR fl eW et dY p with h|h|h|h|⟨i,bN,h⟩|⟨i,bN,h⟩|⟨i,bN,h⟩<;> rw[h]<;> intro e
   ·simp at e
   ·simp at e
   ·simp at e
   ·simp at e
   ·simp at e
   ·injection e with _ e;have:=rZ (by omega) (by omega) e;omega
   ·simp at e
 |f+1,0,0,bg,c3,df=>by
  rw[yr,mf,rn f 0 0 (by omega) c3 df,List.nil_append,Yy ev dR fl eW kZ wt f]
  ·rfl
  ·intro o p;rcases oK ev dR fl eW et dY p with h|h|h|h|⟨i,bN,h⟩|⟨i,bN,h⟩|⟨i,bN,h⟩<;> rw[h]<;> intro e
   ·simp at e
   ·simp at e
   ·simp at e
   ·simp at e
   ·injection e with _ e;have:=rZ (by omega) (by omega) e;omega
   ·simp at e
   ·simp at e
theorem Bu(f k n:Nat)(bg:f≤10)(c3:k≤6)(df:n≤33):rj (eV ev dR fl eW et dY f k n)=if 40<4+f+k+n∨5<k∨20<4+2*f then 111 else 0:=by unfold rj;rw[rn ev dR fl eW et dY kZ wt Ss f k n bg c3 df,ci,h3,Lw,G8]
omit kZ wt Ss
theorem yw(f k n:Nat)(x:be)(aZ:x.name=[65]):rj (eV ev dR fl eW et dY f k n++[x])=120:=by
 unfold rj
 have:kD [] (eV ev dR fl eW et dY f k n++[x])=false:=by
  rw[mf,List.nil_append]
  have:wf (eV ev dR fl eW et dY f k n) x=false:=by
   unfold wf;have df:lE (eV ev dR fl eW et dY f k n) x=true:=by unfold lE eV mU;rw[List.any_eq_true];exact⟨_,List.mem_append_left _ List.mem_cons_self,by rw[aZ];rfl⟩
   rw[df];simp
  rw[this,Bool.and_false]
 rw[this];rfl
end
end Go.f0
end
section
namespace Go.Ab
def ag.Bv(s:ag)(d:Nat)(F:List cO):ag:=if d=s.aa then {s with own:=F} else {s with up:=s.up.set (s.aa-1-d) F}
structure yx (s:ag) (d:Nat):Prop where
 fW:s.ro.length≤d
 bN:d≤s.aa
theorem Bw(s:ag)(d:Nat)(F:List cO):(s.Bv d F).aa=s.aa:=by unfold ag.Bv;split<;> simp [ag.aa]
theorem Lx(s:ag)(d:Nat)(F:List cO):(s.Bv d F).ro=s.ro:=by unfold ag.Bv;split<;> rfl
theorem yx.put{s:ag}{d:Nat}(h:yx s d)(e:Nat)(F:List cO):yx (s.Bv e F) d:=⟨by rw[Lx];exact h.fW,by rw[Bw];exact h.bN⟩
theorem yx.ak{s:ag}{d:Nat}(h:yx s d):yx s.ak d:=⟨h.fW,by have:=h.bN;simp -implicitDefEqProofs only[ag.ak,ag.aa,bM] at *;omega⟩
theorem yx.new{s:ag}{d:Nat}(h:yx s d)(o:cO):yx (s.new o) d:=⟨h.fW,h.bN⟩
end Go.Ab
end
section
namespace Go.f0
open Go.Ab Go.hb
theorem u64_in(n:Nat)(h:n<9223372036854775808):IntKind.wrap .u64 (n:Int)=(n:Int):=by show(n:Int)%(2^64)=_;omega
section
variable(G:Nat→ae)(X:Nat→List ae→ag→ah)
def YB(d t:Nat)(y:be):ae:=.agg [.str y.name,I y.op,.cD (.g d t) 0 y.args.length y.args.length 1,.bool y.li.neg,y.li.v,.bool y.cg.neg,y.cg.v,.bool y.ru.neg,y.ru.v,.bool y.pI.neg,y.pI.v,I y.pj]
def mG(own:List cO)(d:Nat):List ae→List be→Prop
 |[],[]=>True
 |e::E,y::L=>(∃t,e=YB d t y∧own[t]? =some (.cells (y.args.map I))∧y.args.length≤3)∧mG own d E L
 |_,_=>False
theorem mG.len{own:List cO}{d:Nat}:∀{E:List ae} {L:List be},mG own d E L→E.length=L.length
 |[],[],_=>rfl
 |_::_,_::_,h=>by simp only[bM,mG.len h.2]
 |[],_::_,h=>h.elim
 |_::_,[],h=>h.elim
theorem mG.mono{own e:List cO}{d:Nat}(hm:∀(j:Nat) (cs:List ae),cs.length≤3→own[j]? =some (cO.cells cs)→e[j]? =some (cO.cells cs)):∀{E:List ae} {L:List be},mG own d E L→mG e d E L
 |[],[],_=>trivial
 |_::_,_::_,⟨⟨t,ar,ay,dk⟩,ch⟩=>⟨⟨t,ar,hm _ _ (by rw[ht];exact dk) ay,dk⟩,mG.mono hm ch⟩
 |[],_::_,h=>h.elim
 |_::_,[],h=>h.elim
theorem mV:∀{L:List be},(∀y∈L,oG y)→ae.a6 (L.map be.enc)=true
 |[],_=>rfl
 |y::L,h=>by show(y.enc.bj&&ae.a6 (L.map be.enc))=true;rw[(h y List.mem_cons_self).bj,mV fun z hr=>h z (List.mem_cons_of_mem _ hr)];rfl
end
section
variable(G:Nat→ae)(X:Nat→List ae→ag→ah)
theorem Ly{S:ag}{k:bb}{t len cap:Nat}{cs:List ae}(h:S.own[t]? =some (.cells cs))(ar:ae.a6 (chunk 12 len cs)=true)(ay:cap*12≤cs.length)(ch:len≤cap)(dk:len≠0):
  (a3 a4 G X).qE S k (.cD (.g S.aa t) 0 len cap 12)=k (.cm 12 (chunk 12 len cs) (.dW (.l S.own.length))) {S with own:=S.own.set t .gone++[.tok len]}:=by
 show kI (gg G (aX a4 G X) bz) S k (.cD (.g S.aa t) 0 len cap 12)=_;unfold kI;have e:mI S (.cD (.g S.aa t) 0 len cap 12)=.cD (.l t) 0 len cap 12:=by show(bif Nat.beq S.aa S.aa then ae.cD (.l t) 0 len cap 12 else _)=_;rw[hj,ci]
 have p:Nat.beq len 0=false:=by cases len with |zero=>exact absurd rfl dk|succ n=>rfl
 rw[e];simp -implicitDefEqProofs only[h,ar,show Nat.ble (cap*12) cs.length=true from eK ay,show Nat.ble len cap=true from eK ch,p,show Nat.beq 12 0=false from rfl,gJ,bA,ci];rfl
theorem R2(S:ag):∃ev dR fl eW et dY rest ac t,aX a4 G X 18 [] S=.ok (.cD (.g S.aa t) 0 6 6 12) {S with own:=ac}∧ac[t]? =some (.cells ((mU ev dR fl eW et dY).flatMap be.cs++rest))∧rest.length=24∧
  (jS ev∧jS dR∧fU ev dR=true)∧(jS fl∧jS eW∧fU fl eW=true)∧(jS et∧jS dY∧fU et dY=true):=by
 obtain⟨LI,hl,ev,dR,nY,p⟩:=tq G X (a:=0) (b:=1) (by omega) (by omega);obtain⟨v1,s1,d0,d1,dI,ab⟩:=tq G X (a:=1) (b:=1) (by omega) (by omega);obtain⟨aF,aG,fl,eW,O,q⟩:=tq G X (a:=3) (b:=1) (by omega) (by omega);obtain⟨v4,aH,et,dY,U,y⟩:=tq G X (a:=4) (b:=1) (by omega) (by omega);have li:=p.v;have cg:=ab.v;have an:=q.v;have ao:=y.v;subst li;subst cg;subst an;subst ao;have V:∀{a b:gh},jS a→jS b→ae.bj (.d7 [.agg [.bool a.neg,a.v,.bool b.neg,b.v],I 0])=true:=fun {a b} ap aq=>by simp -implicitDefEqProofs only[ae.bj,ae.a6,gh.v,pK ap.g,pK aq.g,bA]
 have au:∀(S:ag) (K:bb),(a3 a4 G X).fI S K 46 [I 0,I 1]=K (.d7 [.agg [.bool ev.neg,ev.v,.bool dR.neg,dR.v],I 0]) S:=fun S K=>j4 rfl nY (V p.Hb p.gR)
 have av:∀(S:ag) (K:bb),(a3 a4 G X).fI S K 46 [I 1,I 1]=K (.d7 [.agg [.bool d0.neg,d0.v,.bool d1.neg,d1.v],I 0]) S:=fun S K=>j4 rfl dI (V ab.Hb ab.gR)
 have aw:∀(S:ag) (K:bb),(a3 a4 G X).fI S K 46 [I 3,I 1]=K (.d7 [.agg [.bool fl.neg,fl.v,.bool eW.neg,eW.v],I 0]) S:=fun S K=>j4 rfl O (V q.Hb q.gR)
 have ax:∀(S:ag) (K:bb),(a3 a4 G X).fI S K 46 [I 4,I 1]=K (.d7 [.agg [.bool et.neg,et.v,.bool dY.neg,dY.v],I 0]) S:=fun S K=>j4 rfl U (V y.Hb y.gR)
 have gq:∀(S:ag) (K:bb) (a b:gh),(a3 a4 G X).dy (S.new (.cells [.bool false,.cm 1 [] .nil,.bool false,.cm 1 [] .nil])) K 4 (.ref (.l S.own.length) 0) (.agg [.bool a.neg,a.v,.bool b.neg,b.v])=K .dead (S.new (.cells [.bool a.neg,a.v,.bool b.neg,b.v])):=fun S K a b=>cH 4 _ _ rfl rfl rfl
 obtain⟨A,B⟩:∃A:ag,A=S.new (.cells [.bool ev.neg,ev.v,.bool dR.neg,dR.v]):=⟨_,rfl⟩;obtain⟨F,H⟩:∃F:ag,F=A.new (.cells [.bool d0.neg,d0.v,.bool d1.neg,d1.v]):=⟨_,rfl⟩;obtain⟨J,M⟩:∃J:ag,J=F.new (.cells [.bool fl.neg,fl.v,.bool eW.neg,eW.v]):=⟨_,rfl⟩;obtain⟨e,Y⟩:∃e:ag,e=J.new (.cells [.bool et.neg,et.v,.bool dY.neg,dY.v]):=⟨_,rfl⟩;have ad:A.own.length=S.own.length+1:=by rw[B];simp [ag.new]
 have af:F.own.length=S.own.length+2:=by rw[H];simp [ag.new,ad]
 have az:J.own.length=S.own.length+3:=by rw[M];simp [ag.new,af]
 have Z:e.own=S.own++[.cells [.bool ev.neg,ev.v,.bool dR.neg,dR.v],.cells [.bool d0.neg,d0.v,.bool d1.neg,d1.v],.cells [.bool fl.neg,fl.v,.bool eW.neg,eW.v],.cells [.bool et.neg,et.v,.bool dY.neg,dY.v]]:=by rw[Y,M,H,B];simp [ag.new]
 have gZ:e.own[S.own.length]? =some (.cells [.bool ev.neg,ev.v,.bool dR.neg,dR.v]):=by rw[Z];simp
 have g9:e.own[A.own.length]? =some (.cells [.bool d0.neg,d0.v,.bool d1.neg,d1.v]):=by rw[Z,ad,im (by omega)];simp
 have aA:e.own[F.own.length]? =some (.cells [.bool fl.neg,fl.v,.bool eW.neg,eW.v]):=by rw[Z,af,im (by omega)];simp
 have mh:e.own[J.own.length]? =some (.cells [.bool et.neg,et.v,.bool dY.neg,dY.v]):=by rw[Z,az,im (by omega)];simp
 have N:∀(j:Nat) (a b:gh),e.own[j]? =some (.cells [.bool a.neg,a.v,.bool b.neg,b.v])→∀K:bb,(a3 a4 G X).aK e K (some 4) (.ref (.l j) 0)=K (.agg [.bool a.neg,a.v,.bool b.neg,b.v]) e:=fun j a b h K=>G6 G X h (aC 4)
 have ai:∀(ry:List Nat) (op:Int) (li cg ru pI:gh) (K:bb),(a3 a4 G X).eh [.str [],.int .i64 0,.cm 1 [] .nil,.bool false,.cm 1 [] .nil,.bool false,.cm 1 [] .nil,.bool false,.cm 1 [] .nil,.bool false,.cm 1 [] .nil,.int .i64 0] [(0,1,.str ry),(1,1,I op),(3,4,.agg [.bool li.neg,li.v,.bool cg.neg,cg.v]),(7,4,.agg [.bool ru.neg,ru.v,.bool pI.neg,pI.v])] e K=K (gU ry op [] .nil li cg ru pI 0).enc e:=fun _ _ _ _ _ _ K=>rfl
 have aj:∀(ry:List Nat) (op:Int) (as:List Int) (K:bb),(a3 a4 G X).eh [.str [],.int .i64 0,.cm 1 [] .nil,.bool false,.cm 1 [] .nil,.bool false,.cm 1 [] .nil,.bool false,.cm 1 [] .nil,.bool false,.cm 1 [] .nil,.int .i64 0] [(0,1,.str ry),(1,1,I op),(2,1,oX as .exact)] e K=K (gU ry op as .exact ho ho ho ho 0).enc e:=fun _ _ _ K=>rfl
 have aB:∀(ry:List Nat) (op:Int) (as:List Int) (pj:Int) (K:bb),(a3 a4 G X).eh [.str [],.int .i64 0,.cm 1 [] .nil,.bool false,.cm 1 [] .nil,.bool false,.cm 1 [] .nil,.bool false,.cm 1 [] .nil,.bool false,.cm 1 [] .nil,.int .i64 0] [(0,1,.str ry),(1,1,I op),(2,1,oX as .exact),(11,1,I pj)] e K=K (gU ry op as .exact ho ho ho ho pj).enc e:=fun _ _ _ _ K=>rfl
 have aD:∀(ry:List Nat) (op:Int) (as:List Int) (li cg:gh) (K:bb),(a3 a4 G X).eh [.str [],.int .i64 0,.cm 1 [] .nil,.bool false,.cm 1 [] .nil,.bool false,.cm 1 [] .nil,.bool false,.cm 1 [] .nil,.bool false,.cm 1 [] .nil,.int .i64 0] [(0,1,.str ry),(1,1,I op),(2,1,oX as .exact),(3,4,.agg [.bool li.neg,li.v,.bool cg.neg,cg.v])] e K=K (gU ry op as .exact li cg ho ho 0).enc e:=fun _ _ _ _ _ K=>rfl
 have eB:∀(as:List Int) (K:bb),(a3 a4 G X).bG e K 1 (as.map I)=K (oX as .exact) e:=fun as K=>ri G X as
 have aE:∀(dI ak O U al am:be) (K:bb),(a3 a4 G X).j3 e K 12 [dI.enc,ak.enc,O.enc,U.enc,al.enc,am.enc]=K (.cD (.l e.own.length) 0 6 6 12) (e.new (.cells (dI.cs++(ak.cs++(O.cs++(U.cs++(al.cs++(am.cs++[])))))))):=fun _ _ _ _ _ _ K=>rfl
 refine⟨ev,dR,fl,eW,et,dY,(gU [88] 8 [2,3] .exact ho ho ho ho 2).cs++(gU [80] 2 [3] .exact d0 d1 ho ho 0).cs,(e.new (.cells ((gU [65] 1 [] .nil ev dR ev dR 0).cs++((gU [66] 1 [] .nil fl eW et dY 0).cs++((gU [108] 3 [0,1] .exact ho ho ho ho 0).cs++((gU [99] 5 [0,1] .exact ho ho ho ho 0).cs++((gU [88] 8 [2,3] .exact ho ho ho ho 2).cs++((gU [80] 2 [3] .exact d0 d1 ho ho 0).cs++[])))))))).own,e.own.length,?_,?_,rfl,⟨p.Hb,p.gR,p.valid⟩,⟨q.Hb,q.gR,q.valid⟩,y.Hb,y.gR,y.valid⟩
 ·rw[GV,Rw];refine(au _ _).trans ?_;rw[ov,ow,cx,a2];refine(gq _ _ _ _).trans ?_;rw[←B];refine(av _ _).trans ?_;rw[ov,ow,cx,a2];refine(gq _ _ _ _).trans ?_;rw[←H];refine(aw _ _).trans ?_;rw[ov,ow,cx,a2];refine(gq _ _ _ _).trans ?_;rw[←M];refine(ax _ _).trans ?_;rw[ov,ow,cx,a2];refine(gq _ _ _ _).trans ?_;rw[←Y,N _ _ _ gZ,N _ _ _ gZ];refine(ai _ _ _ _ _ _ _).trans ?_;rw[N _ _ _ aA,N _ _ _ mh];refine(ai _ _ _ _ _ _ _).trans ?_;refine(eB [0,1] _).trans ?_;refine(aj _ _ _ _).trans ?_;refine(eB [0,1] _).trans ?_;refine(aj _ _ _ _).trans ?_;refine(eB [2,3] _).trans ?_;refine(aB _ _ _ _ _).trans ?_;refine(eB [3] _).trans ?_;rw[N _ _ _ g9];refine(aD _ _ _ _ _ _).trans ?_;refine(aE _ _ _ _ _ _ _).trans ?_;have cF:e.aa=S.aa:=by rw[Y,M,H,B];rfl
  have hu:e.up=S.up∧e.ro=S.ro:=by rw[Y,M,H,B];exact⟨rfl,rfl⟩
  show ah.ok (.cD (.g e.aa e.own.length) 0 6 6 12) _=_;rw[cF];obtain⟨o,u,r⟩:=e;obtain⟨ar,ay⟩:=hu;simp only at ar ay;subst ar;subst ay;rfl
 ·simp [ag.new,mU]
theorem rp{s S:ag}(e:Child s S){L:List be}{g:ga}{x:be}(aZ:oG x)(cE:iv S g L.length)(h:L.length≤1000){R:ah}{k:bb}(c3:∀g' S',Child s S'→iv S' g' (L.length+1)→k (dZ (L++[x]) g') S'=R):
  (a3 a4 G X).bG S (fun v s=>(a3 a4 G X).hs s k 12 184 (some (.l 0)) (dZ L g) v) 12 [x.enc]=R:=by
 rw[kQ 12 [x.enc] (by show(x.enc.bj&&true)=true;rw[aZ.bj];rfl) rfl];refine wI (new:=[x.enc]) (by simpa using cE) (by simp) (by simp;omega) rfl (fun g' S' ar _ _ _ ay=>?_)
 have:=c3 g' S' (ay.child e) (by simpa using ar);rw[show L.map be.enc++[x.enc]=(L++[x]).map be.enc by simp];exact this
theorem sP{S:ag}{L:List be}{g:ga}(h:iv S g L.length)(e:∀y∈L,oG y):n2 (dZ L g)=dZ L (nb L):=by
 rcases h.inv with⟨rfl,eU⟩|⟨j,rfl,ar,ay⟩
 ·have:L=[]:=jT eU;subst this;rfl
 ·cases L with
  |nil=>simp at ar
  |cons x L=>show(bif ae.a6 ((x::L).map be.enc) then dZ (x::L) .any else _)=_;rw[mV e];rfl
end
section
variable(G:Nat→ae)(X:Nat→List ae→ag→ah)
theorem Lz{S:ag}{K:bb}(a:Nat)(h:2*a<9223372036854775808):(a3 a4 G X).ai S K (ao .mul (.int .i64 2) (.int .i64 (a:Int)))=K (.int .i64 ((2*a:Nat):Int)) S:=by rw[fv,eS _ (by omega) (by omega)];rw[show(2:Int)*(a:Int)=((2*a:Nat):Int) by omega]
variable(ev dR fl eW et dY:gh)(mj:jS ev∧jS dR∧fU ev dR=true)(mM:jS fl∧jS eW∧fU fl eW=true)(Bx:jS et∧jS dY∧fU et dY=true)(s:ag)
include mj mM Bx
theorem oL(f k n:Nat):∀o∈eV ev dR fl eW et dY f k n,oG o:=fun o h=>by
 unfold eV at h;have mk:∀(ry:List Nat) (op:Int) (as:List Int) (sK:ga) (li cg ru pI:gh) (pj:Int),(∀a,sK≠.dW a)→as.length<9223372036854775807→jS li→jS cg→jS ru→jS pI→oG (gU ry op as sK li cg ru pI pj):=fun _ _ _ _ _ _ _ _ _ ar ay ch dk p q=>⟨ar,ay,ch,dk,p,q⟩
 rcases List.mem_append.1 h with h|h
 ·simp only[mU,List.mem_cons,ps,or_false] at h;rcases h with h|h|h|h<;> subst h
  ·exact mk _ _ _ _ _ _ _ _ _ (fun a e=>by cases e) (by simp) mj.1 mj.2.1 mj.1 mj.2.1
  ·exact mk _ _ _ _ _ _ _ _ _ (fun a e=>by cases e) (by simp) mM.1 mM.2.1 Bx.1 Bx.2.1
  ·exact mk _ _ _ _ _ _ _ _ _ (fun a e=>by cases e) (by simp) h2 h2 h2 h2
  ·exact mk _ _ _ _ _ _ _ _ _ (fun a e=>by cases e) (by simp) h2 h2 h2 h2
 ·rcases List.mem_append.1 h with h|h
  ·obtain⟨i,bN,rfl⟩:=List.mem_map.1 h;exact mk _ _ _ _ _ _ _ _ _ (fun a e=>by cases e) (by simp) mj.1 mj.2.1 mM.1 mM.2.1
  ·rcases List.mem_append.1 h with h|h
   ·obtain⟨i,bN,rfl⟩:=List.mem_map.1 h;exact mk _ _ _ _ _ _ _ _ _ (fun a e=>by cases e) (by simp) h2 h2 h2 h2
   ·obtain⟨i,bN,rfl⟩:=List.mem_map.1 h;exact mk _ _ _ _ _ _ _ _ _ (fun a e=>by cases e) (by simp) h2 h2 h2 h2
theorem R3(i:Nat):oG (LF ev dR fl eW i):=oL ev dR fl eW et dY mj mM Bx (i+1) 0 0 _ (by rw[yr];simp)
theorem R4(i:Nat):oG (yq i):=oL ev dR fl eW et dY mj mM Bx 0 (i+1) 0 _ (by rw[ys];simp)
theorem R5(i:Nat):oG (R0 i):=oL ev dR fl eW et dY mj mM Bx 0 0 (i+1) _ (by rw[yu];simp)
variable(dM:G 0=.bU kE)
include dM
theorem Dz(p:ae)(f k n:Nat)(bg:f≤10)(c3:k≤6)(df:n≤33)(R:ah)(q:∀S g,Child s S→iv S g (4+f+k+n)→tl (a3 a4 G X) p (dZ (eV ev dR fl eW et dY f k n) g) (s3 f) (s3 k) (s3 n) S=R):
  ∀m i,i+m=n→∀S g,Child s S→iv S g (4+f+k+i)→tm (a3 a4 G X) p (dZ (eV ev dR fl eW et dY f k i) g) (s3 f) (s3 k) (s3 n) (s3 i) S=R:=by
 intro m
 induction m with
 |zero=>
  intro i bN S g h cE;have e:i=n:=by omega
  subst e;rw[u7,bE,dT (by omega),hH];exact q S g h cE
 |succ m r=>
  intro i bN S g h cE;have y:=fun(S:ag) (K:bb)=>k4 (T:=a4) (G:=G) (X:=X) (s:=S) (k:=K) i (by omega)
  have xN:∀(S:ag) (K:bb),(a3 a4 G X).fI S K 19 [s3 i]=K (.str (f7 i)) S:=fun S K=>j4 rfl (yo G X dM i (by omega) Ls) rfl
  have A:=r0 (u:=i) (by omega);have cat:=fun(S:ag) (K:bb)=>ym G X (s:=S) (k:=K) [108] (f7 i) (by simp;omega)
  have eB:=fun(K:bb)=>ri G X (S:=S) (k:=K) [0,2]
  have kf:∀K:bb,(a3 a4 G X).eh [.str [],.int .i64 0,.cm 1 [] .nil,.bool false,.cm 1 [] .nil,.bool false,.cm 1 [] .nil,.bool false,.cm 1 [] .nil,.bool false,.cm 1 [] .nil,.int .i64 0] [(0,1,.str ([108]++f7 i)),(1,1,I 11),(2,1,oX [0,2] .exact)] S K=K (R0 i).enc S:=fun K=>rfl
  rw[u7,bE,eJ (by omega),fT,CV,aO,xN,cat];refine(eB _).trans ?_;refine(kf _).trans ?_;refine rp G X h (R5 ev dR fl eW et dY mj mM Bx i) (by rw[h3];exact cE) (by rw[h3];omega) fun g' S' ar ay=>?_
  rw[CU,y,←yu];exact r (i+1) (by omega) S' g' ar (by rw[h3] at ay;exact ay)
theorem G9(p q:ae)(f k:Nat)(bg:f≤10)(c3:k≤6)(R:ah)(r:∀S g,Child s S→iv S g (4+f+k)→Cn (a3 a4 G X) p (dZ (eV ev dR fl eW et dY f k 0) g) (s3 f) (s3 k) q S=R):
  ∀m i,i+m=k→∀S g,Child s S→iv S g (4+f+i)→yc (a3 a4 G X) p (dZ (eV ev dR fl eW et dY f i 0) g) (s3 f) (s3 k) q (s3 i) S=R:=by
 intro m
 induction m with
 |zero=>
  intro i bN S g h cE;have e:i=k:=by omega
  subst e;rw[wS,bE,dT (by omega),hH];exact r S g h cE
 |succ m y=>
  intro i bN S g h cE;have A:=fun(S:ag) (K:bb)=>k4 (T:=a4) (G:=G) (X:=X) (s:=S) (k:=K) i (by omega)
  have xN:∀(S:ag) (K:bb),(a3 a4 G X).fI S K 19 [s3 i]=K (.str (f7 i)) S:=fun S K=>j4 rfl (yo G X dM i (by omega) Ls) rfl
  have B:=r0 (u:=i) (by omega);have cat:=fun(S:ag) (K:bb)=>ym G X (s:=S) (k:=K) [114] (f7 i) (by simp;omega)
  have eB:=fun(K:bb)=>ri G X (S:=S) (k:=K) [2,3]
  have kf:∀K:bb,(a3 a4 G X).eh [.str [],.int .i64 0,.cm 1 [] .nil,.bool false,.cm 1 [] .nil,.bool false,.cm 1 [] .nil,.bool false,.cm 1 [] .nil,.bool false,.cm 1 [] .nil,.int .i64 0] [(0,1,.str ([114]++f7 i)),(1,1,I 8),(2,1,oX [2,3] .exact),(11,1,I 1)] S K=K (yq i).enc S:=fun K=>rfl
  rw[wS,bE,eJ (by omega),fT,Gs,aO,xN,cat];refine(eB _).trans ?_;refine(kf _).trans ?_;refine rp G X h (R4 ev dR fl eW et dY mj mM Bx i) (by rw[h3];exact cE) (by rw[h3];omega) fun g' S' ar ay=>?_
  rw[Gr,A,←ys];exact y (i+1) (by omega) S' g' ar (by rw[h3] at ay;exact ay)
theorem Ha(p v11 q:ae)(f:Nat)(bg:f≤10)(R:ah)(r:∀S g,Child s S→iv S g (4+f)→Co (a3 a4 G X) p (dZ (eV ev dR fl eW et dY f 0 0) g) (s3 f) v11 q S=R):
  ∀m i,i+m=f→∀S g,Child s S→iv S g (4+i)→yd (a3 a4 G X) p (dZ (eV ev dR fl eW et dY i 0 0) g) (s3 f) v11 q (s3 i) S=R:=by
 intro m
 induction m with
 |zero=>
  intro i bN S g h cE;have e:i=f:=by omega
  subst e;rw[wT,bE,dT (by omega),hH];exact r S g h cE
 |succ m y=>
  intro i bN S g h cE;have A:=fun(S:ag) (K:bb)=>k4 (T:=a4) (G:=G) (X:=X) (s:=S) (k:=K) i (by omega)
  have xN:∀(S:ag) (K:bb),(a3 a4 G X).fI S K 19 [s3 i]=K (.str (f7 i)) S:=fun S K=>j4 rfl (yo G X dM i (by omega) Ls) rfl
  have M:=r0 (u:=i) (by omega);have cat:=fun(S:ag) (K:bb)=>ym G X (s:=S) (k:=K) [102] (f7 i) (by simp;omega)
  have B:∀K:bb,(a3 a4 G X).c7 S K 12 (dZ (eV ev dR fl eW et dY i 0 0) g) (.int .i64 0)=K (.bU (gU [65] 1 [] .nil ev dR ev dR 0).enc.cells) S:=fun K=>nG (T:=a4) (G:=G) (X:=X) (s:=S) (k:=K) 12 _ g .i64 0 _ rfl
  have F:∀K:bb,(a3 a4 G X).c7 S K 12 (dZ (eV ev dR fl eW et dY i 0 0) g) (.int .i64 1)=K (.bU (gU [66] 1 [] .nil fl eW et dY 0).enc.cells) S:=fun K=>nG (T:=a4) (G:=G) (X:=X) (s:=S) (k:=K) 12 _ g .i64 1 _ rfl
  have H:∀K:bb,(a3 a4 G X).aK S K (some 4) (.bU ((gU [65] 1 [] .nil ev dR ev dR 0).enc.cells.drop 3))=K (.agg [.bool ev.neg,ev.v,.bool dR.neg,dR.v]) S:=fun K=>a9 4 _ (show 4≤9 by omega)
  have J:∀K:bb,(a3 a4 G X).aK S K (some 4) (.bU ((gU [66] 1 [] .nil fl eW et dY 0).enc.cells.drop 3))=K (.agg [.bool fl.neg,fl.v,.bool eW.neg,eW.v]) S:=fun K=>a9 4 _ (show 4≤9 by omega)
  have kf:∀K:bb,(a3 a4 G X).eh [.str [],.int .i64 0,.cm 1 [] .nil,.bool false,.cm 1 [] .nil,.bool false,.cm 1 [] .nil,.bool false,.cm 1 [] .nil,.bool false,.cm 1 [] .nil,.int .i64 0] [(0,1,.str ([102]++f7 i)),(1,1,I 1),(3,4,.agg [.bool ev.neg,ev.v,.bool dR.neg,dR.v]),(7,4,.agg [.bool fl.neg,fl.v,.bool eW.neg,eW.v])] S K=K (LF ev dR fl eW i).enc S:=fun K=>rfl
  rw[wT,bE,eJ (by omega),fT,Gq,aO,xN,cat];refine(B _).trans ?_;rw[dG];refine(H _).trans ?_;refine(F _).trans ?_;rw[dG];refine(J _).trans ?_;refine(kf _).trans ?_;refine rp G X h (R3 ev dR fl eW et dY mj mM Bx i) (by rw[h3];exact cE) (by rw[h3];omega) fun g' S' ar ay=>?_
  rw[Gp,A,←yr];exact y (i+1) (by omega) S' g' ar (by rw[h3] at ay;exact ay)
omit dM
theorem DA(r:Bool)(f k n:Nat)(bg:f≤10)(c3:k≤6)(df:n≤33){S:ag}{g:ga}(p:Child s S)(cE:iv S g (4+f+k+n)):
  tl (a3 a4 G X) (.bool r) (dZ (eV ev dR fl eW et dY f k n) g) (s3 f) (s3 k) (s3 n) S=.ok (.bool true) s:=by
 have q:=oL ev dR fl eW et dY mj mM Bx f k n;have hlen:=h3 ev dR fl eW et dY f k n;have F:=sP (S:=S) (L:=eV ev dR fl eW et dY f k n) (by rw[hlen];exact cE) q;have y:∀(L:List be) d,ae.aq d (dZ L (nb L))=dZ L (nb L):=fun L d=>nO L (vh L) d
 have xM:=fun S=>FV G X (eV ev dR fl eW et dY f k n) (nb (eV ev dR fl eW et dY f k n)) (vh _) S (by omega) q
 rw[Bu ev dR fl eW et dY mj.2.2 mM.2.2 Bx.2.2 f k n bg c3 df] at xM;rw[CY,F,y,bx (xM _)];cases r with
 |true=>
  rw[fT];have eB:=fun(K:bb)=>ri G X (S:=S) (k:=K) [0,1]
  have aZ:oG (gU [65] 12 [0,1] .exact ho ho ho ho 0):=⟨fun a e=>(by cases e),by show(2:Nat)<_;omega,h2,h2,h2,h2⟩;have kf:∀K:bb,(a3 a4 G X).eh [.str [],.int .i64 0,.cm 1 [] .nil,.bool false,.cm 1 [] .nil,.bool false,.cm 1 [] .nil,.bool false,.cm 1 [] .nil,.bool false,.cm 1 [] .nil,.int .i64 0] [(0,1,.str [65]),(1,1,I 12),(2,1,oX [0,1] .exact)] S K=K (gU [65] 12 [0,1] .exact ho ho ho ho 0).enc S:=fun K=>rfl
  refine(eB _).trans ?_;refine(kf _).trans ?_;refine rp G X p aZ (by rw[hlen];exact cE) (by omega) fun g' S' ar ay=>?_
  have A:∀o∈eV ev dR fl eW et dY f k n++[gU [65] 12 [0,1] .exact ho ho ho ho 0],oG o:=fun o H=>by
   rcases List.mem_append.1 H with h|h
   ·exact q o h
   ·rw[List.mem_singleton.1 h];exact aZ
  have J:=sP (S:=S') (L:=eV ev dR fl eW et dY f k n++[gU [65] 12 [0,1] .exact ho ho ho ho 0]) (by rw[f9];exact ay) A;have B:=fun S=>FV G X (eV ev dR fl eW et dY f k n++[gU [65] 12 [0,1] .exact ho ho ho ho 0]) (nb (eV ev dR fl eW et dY f k n++[gU [65] 12 [0,1] .exact ho ho ho ho 0])) (vh _) S (by rw[f9,hlen];simp;omega) A
  rw[yw ev dR fl eW et dY f k n _ rfl] at B;rw[J,y,bx (B _),bB,eJ rfl];exact js ar _ _ rfl
 |false=>
  have M:∀K:bb,(a3 a4 G X).ai S K (ao .add (.int .i64 4) (s3 f))=K (s3 (4+f)) S:=fun K=>hP (T:=a4) (G:=G) (X:=X) (s:=S) (k:=K) 4 f (by omega)
  have N:=fun(K:bb)=>hP (T:=a4) (G:=G) (X:=X) (s:=S) (k:=K) (4+f) k (by omega)
  have O:=fun(K:bb)=>hP (T:=a4) (G:=G) (X:=X) (s:=S) (k:=K) (4+f+k) n (by omega)
  have SM:=fun(K:bb)=>Lz G X (S:=S) (K:=K) f (by omega)
  have U:∀K:bb,(a3 a4 G X).ai S K (ao .add (.int .i64 4) (s3 (2*f)))=K (s3 (4+2*f)) S:=fun K=>hP (T:=a4) (G:=G) (X:=X) (s:=S) (k:=K) 4 (2*f) (by omega)
  rw[hH,CX];refine(M _).trans ?_;refine(N _).trans ?_;refine(O _).trans ?_;rw[bJ];by_cases ar:40<4+f+k+n
  ·rw[eJ (by omega),if_pos (.inl ar)];simp -implicitDefEqProofs only[g0,gH];rw[fT,bB,eJ rfl];exact js p _ _ rfl
  ·rw[dT (by omega)];simp -implicitDefEqProofs only[fo,fO];refine(SM _).trans ?_;refine(U _).trans ?_;rw[bJ];by_cases ay:20<4+2*f
   ·rw[eJ (by omega),if_pos (.inr (.inr ay))];simp -implicitDefEqProofs only[g0,gH];rw[fT,bB,eJ rfl];exact js p _ _ rfl
   ·rw[dT (by omega)];simp -implicitDefEqProofs only[fo,fO];rw[bJ];by_cases ch:5<k
    ·rw[eJ (by omega),if_pos (.inr (.inl ch)),fT,bB,eJ rfl];exact js p _ _ rfl
    ·rw[dT (by omega),if_neg (by omega),hH,CW,bB,eJ rfl];exact js p _ _ rfl
end
section
variable(G:Nat→ae)(X:Nat→List ae→ag→ah)
theorem WQ(dM:G 0=.bU kE)(r:∃s',aX a4 G X 9 [] {own:=[],up:=[],ro:=[]}=.ok (.bool true) s')(x y z:Int)(aZ:Lu x)(fb:Lu y)(hr:Lu z)(h:Bool)(s:ag):
  aX a4 G X 5 [I x,I y,I z,.bool h] s=.ok (.bool true) s:=by
 obtain⟨af,r⟩:=r;have YW:∀(S:ag) (K:bb),(a3 a4 G X).fI S K 9 []=K (.bool true) S:=fun S K=>j4 rfl r rfl
 obtain⟨ev,dR,fl,eW,et,dY,rest,Z,t,dI,ab,ac,mj,mM,Bx⟩:=R2 G X s.ak;have F:=r1 (x:=x) (n:=11) (by omega);have H:=r1 (x:=y) (n:=7) (by omega);have J:=r1 (x:=z) (n:=34) (by omega);have M:=fun S=>yp G X x 11 (by omega) aZ S
 have N:=fun S=>yp G X y 7 (by omega) fb S
 have O:=fun S=>yp G X z 34 (by omega) hr S
 obtain⟨f,bg⟩:∃f:Nat,pN x 11=(f:Int):=⟨_,(Int.toNat_of_nonneg F.1).symm⟩;obtain⟨k,c3⟩:∃k:Nat,pN y 7=(k:Int):=⟨_,(Int.toNat_of_nonneg H.1).symm⟩;obtain⟨n,df⟩:∃n:Nat,pN z 34=(n:Int):=⟨_,(Int.toNat_of_nonneg J.1).symm⟩;rw[bg] at F M;rw[c3] at H N;rw[df] at J O;have U:(mU ev dR fl eW et dY).flatMap be.cs++rest=(gU [65] 1 [] .nil ev dR ev dR 0).cs++((gU [66] 1 [] .nil fl eW et dY 0).cs++((gU [108] 3 [0,1] .exact ho ho ho ho 0).cs++((gU [99] 5 [0,1] .exact ho ho ho ho 0).cs++rest))):=by simp [mU]
 have V:=oL ev dR fl eW et dY mj mM Bx 0 0 0;have dk:eV ev dR fl eW et dY 0 0 0=mU ev dR fl eW et dY:=by simp [eV]
 rw[dk] at V;have Y:chunk 12 4 ((mU ev dR fl eW et dY).flatMap be.cs++rest)=(mU ev dR fl eW et dY).map be.enc:=by rw[U];rfl
 obtain⟨e,q⟩:∃e:ag,e= {s.ak with own:=Z}:=⟨_,rfl⟩;have cF:s.ak.aa=e.aa:=by rw[q];rfl
 have cm:∀K:bb,(a3 a4 G X).jr 12 (.cD (.g s.ak.aa t) 0 6 6 12) none (some (.int .i64 4)) none e K=K (.cD (.g e.aa t) 0 4 6 12) e:=fun K=>by rw[cF];rfl
 have A:=fun(K:bb)=>Ly G X (S:=e) (k:=K) (t:=t) (len:=4) (cap:=6) (cs:=(mU ev dR fl eW et dY).flatMap be.cs++rest) (by rw[q];exact ab) (by rw[Y];exact mV V) (by rw[U];simp [ac,be.cs,gU]) (by omega) (by omega)
 rw[Y] at A;obtain⟨p,B⟩:∃p:ag,p= {e with own:=e.own.set t .gone++[.tok 4]}:=⟨_,rfl⟩;rw[←B] at A;have ad:Child s p:=by rw[B,q];exact⟨rfl,rfl⟩
 have g9:iv p (.dW (.l e.own.length)) (4+0):=by refine .dW _ _ (by omega) ?_;rw[B];simp
 rw[K2,WG,YW,cJ];show(a3 a4 G X).bt (.bool false) _ _=_;rw[hH,Gv];refine(ta dI rfl).trans ?_;rw[←q];refine(cm _).trans ?_;refine(A _).trans ?_;rw[aO,aO,bx (M _),aO,aO,bx (N _),aO,aO,bx (O _),show ae.cm 12 ((mU ev dR fl eW et dY).map be.enc) (.dW (.l e.own.length))=dZ (eV ev dR fl eW et dY 0 0 0) (.dW (.l e.own.length)) by rw[dk]];refine Ha G X ev dR fl eW et dY mj mM Bx s dM (.bool h) _ _ f (by omega) _ (fun S g ar ay=>?_) f 0 (by omega) p _ ad g9;rw[Gu];refine G9 G X ev dR fl eW et dY mj mM Bx s dM (.bool h) _ f k (by omega) (by omega) _ (fun S g ar ay=>?_) k 0 (by omega) S g ar ay;rw[Gt];refine Dz G X ev dR fl eW et dY mj mM Bx s dM (.bool h) f k n (by omega) (by omega) (by omega) _ (fun S g ar ay=>?_) n 0 (by omega) S g ar ay;exact DA G X ev dR fl eW et dY mj mM Bx s h f k n (by omega) (by omega) (by omega) ar ay
end
end Go.f0
end
