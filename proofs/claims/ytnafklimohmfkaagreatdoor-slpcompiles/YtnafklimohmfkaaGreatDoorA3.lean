/- What the claim's texts say of a part of the evaluator and of the program's functions: for every argument that they name. -/
import Derived.Test.YtnafklimohmfkaaGreatDoorA0
set_option linter.unusedSectionVars false
set_option linter.unusedSimpArgs false
set_option linter.unusedVariables false
section
namespace Go.jY
open Go.Ab
section
def sqN:Nat→Nat→List Nat→List Nat
 | 0,_,a=>a
 | n+1,x,a=>sqN n (x / 256) (x % 256 :: a)
def bi(n x:Nat):AV:=.str (sqN n x [])
def IX:Nat→Nat→Mk×Nat
 | 0,x=>(.e,x)
 | f+1,x=>match x % 4 with
  | 0=>(.e,x / 4)
  | 3=>(.n .e true .e,x / 4)
  | k=>(.n (IX f (x / 4)).1 (Nat.beq k 2) (IX f (IX f (x / 4)).2).1,(IX f (IX f (x / 4)).2).2)
def cf(x:Nat):Mk:=(IX 12 x).1
def sL(v:AV):Tr:=.n .e v .e
def sD(l r:Tr):Tr:=.n l .dead r
def sN(l:Tr)(v:AV)(r:Tr):Tr:=.n l v r
abbrev ki(n:Int):bG:=.c (.int .i64 n)
abbrev kn(n:Int):AV:=.int .i64 n
def tL(l:List Nat):List bG:=l.map .t
def wS(d:Nat)(x:ib):cJ:=⟨some d,none,x⟩
def wT(d g:Nat)(x:ib):cJ:=⟨some d,some (g,true),x⟩
def wF(d g:Nat)(x:ib):cJ:=⟨some d,some (g,false),x⟩
def wN(x:ib):cJ:=⟨none,none,x⟩
def bY(s:Nat):ib:=.move (.t s)
def oMi(n:Int):ib:=.move (ki n)
def dv(b:Bool):ib:=.move (.c (.bool b))
def fU(q:Nat)(l:List bG):ib:=.buildSlice q l
def gL(l:List AV):ib:=.buildSlice 1 (l.map .c)
def dn(a:Nat):ib:=.load none (.t a)
def fu(n a:Nat):ib:=.load (some n) (.t a)
def m9(f:Nat)(l:List Nat):ib:=.call f (tL l)
def dW(o a:Nat):ib:=.fieldAddr o (.t a)
def sf(a:Nat)(n:Int):ib:=.bin .eql (.t a) (ki n)
def uh(q a b:Nat):ib:=.gh q (.t a) (.t b)
def oAd(a:Nat)(n:Int):ib:=.bin .add (.t a) (ki n)
def oSt(q a b:Nat):ib:=.store q (.t a) (.t b)
def kv(a:Nat):ib:=.len false (.t a)
def eB(a b:Nat):ib:=.pick (.t a) (.t b) (.c (.bool false))
def fH(a b:Nat):ib:=.pick (.t a) (.c (.bool true)) (.t b)
def oX(a:Nat):ib:=.nilCheck (.t a)
def bC(o:BinOp)(a b:Nat):ib:=.bin o (.t a) (.t b)
def b7(o:BinOp)(a:Nat)(n:Int):ib:=.bin o (.t a) (ki n)
def jA(o:BinOp)(a:Nat)(n:Int):ib:=.bin o (.t a) (.c (.int .u32 n))
def eJ(k:IntKind)(a:Nat):ib:=.oE k (.t a)
def gm(a i:Nat):ib:=.extract (.t a) i
def sg(l:AV)(a:Nat):ib:=.cO (.c l) (.t a)
def ab(d s:Nat):cJ:=wS d (bY s)
def a5(d a:Nat):cJ:=wS d (dn a)
def bK(d f:Nat)(l:List Nat):cJ:=wS d (m9 f l)
def bn(d o a:Nat):cJ:=wS d (dW o a)
def bF(d:Nat)(n:Int):cJ:=wS d (oMi n)
def de(d a:Nat)(n:Int):cJ:=wS d (sf a n)
def cF(d q a b:Nat):cJ:=wS d (uh q a b)
def dG(d a:Nat)(n:Int):cJ:=wS d (oAd a n)
def cU(q a b:Nat):cJ:=wN (oSt q a b)
def cX(d a:Nat):cJ:=wS d (kv a)
def dC(d a:Nat):cJ:=wS d (oX a)
def rG(l:List cJ):ae:=.region none l
def rS(l:List cJ):ae:=.region (some []) l
def rR(l:List cJ):ae:=.seq (rG l) .ret
def sQ(a b:ae):ae:=.seq a b
def ay(l:List cJ)(b:ae):ae:=.seq (rG l) b
def cE(t k:Nat):ae:=.cond (.t t) .skip (.exit k)
def mK(x:Nat)(a:ae):ae:=.mask (cf x) a
def bL(i x:Nat)(a:ae):ae:=.block i (.loop (cf x) a)
end
end Go.jY
end
section
namespace Go.jY
noncomputable section
open Go.Ab
set_option maxRecDepth 100000
def axK:ae:=ay [wS 2 (dv false)] (ay [wS 8 (.jI 10 []),ab 3 8] (ay [ab 10 0,bK 11 11 [10],ab 9 11,wS 12 (gm 9 0),wS 13 (gm 9 1),wS 4 (.alloc [kn 0, .sl 3 [] .nil, .sl 1 [] .nil, .sl 1 [] .nil]),cU 4 4 12,ab 5 13] (ay [ab 15 0,bK 16 12 [15],ab 14 16,wS 17 (gm 14 0),wS 18 (gm 14 1),wS 6 (.alloc [kn 0, .sl 3 [] .nil, .sl 1 [] .nil, .sl 1 [] .nil]),cU 4 6 17,ab 7 18] (rR [ab 19 3,ab 20 19,wT 21 20 (bY 5),wT 22 20 (bY 7),wT 23 20 (bC .eql 21 22),wS 24 (eB 20 23),ab 25 24,wT 26 25 (fu 4 4),wT 27 25 (fu 4 6),wT 28 25 (m9 13 [26,27]),wS 29 (eB 25 28),ab 2 29]))))
def c3:bT:={np:=1,nt:=30,results:=[.t 2],aK:=false,body:=axK}
def ayN:ae:=sQ (rS [wS 39 (fu 4 2),wS 40 (.jI 15 [ki 0,ki 0]),wS 41 (.jI 20 [.t 40]),wS 42 (fU 1 [ki 0,ki 0,ki 3,ki 4]),bK 43 19 [39,41,42],ab 38 43,wS 44 (gm 38 0),wS 45 (gm 38 1),ab 4 44,ab 5 45]) (rR [ab 46 5,de 47 46 0,ab 48 47,wT 49 48 (bY 4),wT 50 48 (kv 49),wT 51 48 (dW 1 2),wT 52 48 (dn 51),wT 53 48 (kv 52),wT 54 48 (bC .eql 50 53),wS 55 (eB 48 54),ab 56 55,wT 57 56 (bY 4),wT 58 56 (dW 2 2),wT 59 56 (dn 58),wT 60 56 (.gh 1 (.t 59) (ki 2)),wT 61 56 (dn 60),wT 62 56 (.gh 1 (.t 61) (ki 0)),wT 63 56 (dn 62),wT 64 56 (uh 1 57 63),wT 65 56 (dn 64),wT 66 56 (.bin .eql (.t 65) (.c (.int .i64 (-4)))),wS 67 (eB 56 66),ab 68 67,wT 69 68 (bY 4),wT 70 68 (dW 2 2),wT 71 68 (dn 70),wT 72 68 (.gh 1 (.t 71) (ki 2)),wT 73 68 (dn 72),wT 74 68 (.gh 1 (.t 73) (ki 1)),wT 75 68 (dn 74),wT 76 68 (uh 1 69 75),wT 77 68 (dn 76),wT 78 68 (sf 77 3),wS 79 (eB 68 78),ab 80 79,wT 81 80 (bY 4),wT 82 80 (dW 2 2),wT 83 80 (dn 82),wT 84 80 (.gh 1 (.t 83) (ki 2)),wT 85 80 (dn 84),wT 86 80 (.gh 1 (.t 85) (ki 2)),wT 87 80 (dn 86),wT 88 80 (uh 1 81 87),wT 89 80 (dn 88),wT 90 80 (sf 89 0),wS 91 (eB 80 90),ab 0 91])
def ayO:ae:=mK 49 ayN
def ayP:ae:=ay [wS 0 (dv false)] (ay [wS 6 (.call 41 [ki 0]),wS 7 (.call 41 [ki 0]),wS 8 (.build [.str [],kn 0, .sl 1 [] .nil, .bool false, .sl 1 [] .nil, .bool false, .sl 1 [] .nil, .bool false, .sl 1 [] .nil, .bool false, .sl 1 [] .nil,kn 0] [(0,1, .c (.str [65])),(1,1, .c (.int .i64 1)),(3,4, .t 6),(7,4, .t 7)]),wS 9 (.call 41 [ki 3]),wS 10 (.call 41 [ki 4]),wS 11 (.build [.str [],kn 0, .sl 1 [] .nil, .bool false, .sl 1 [] .nil, .bool false, .sl 1 [] .nil, .bool false, .sl 1 [] .nil, .bool false, .sl 1 [] .nil,kn 0] [(0,1, .c (.str [66])),(1,1, .c (.int .i64 1)),(3,4, .t 9),(7,4, .t 10)]),wS 12 (fU 1 [ki 0,ki 1]),wS 13 (.build [.bool false, .sl 1 [] .nil, .bool false, .sl 1 [] .nil] []),wS 14 (.build [.bool false, .sl 1 [] .nil, .bool false, .sl 1 [] .nil] []),wS 15 (.build [.str [],kn 0, .sl 1 [] .nil, .bool false, .sl 1 [] .nil, .bool false, .sl 1 [] .nil, .bool false, .sl 1 [] .nil, .bool false, .sl 1 [] .nil,kn 0] [(0,1, .c (.str [108])),(1,1, .c (.int .i64 3)),(2,1, .t 12),(3,4, .t 13),(7,4, .t 14)]),wS 16 (fU 12 [.t 8, .t 11, .t 15]),ab 1 16] (ay [ab 18 1,bK 19 11 [18],ab 17 19,wS 20 (gm 17 0),wS 21 (gm 17 1),wS 2 (.alloc [kn 0, .sl 3 [] .nil, .sl 1 [] .nil, .sl 1 [] .nil]),cU 4 2 20,ab 3 21] (sQ (ay [ab 22 3,wS 23 (b7 .neq 22 0),ab 24 23,wF 25 24 (dW 2 2),wF 26 24 (dn 25),wF 27 24 (kv 26),wF 28 24 (b7 .neq 27 3),wS 29 (fH 24 28),ab 30 29,wF 31 30 (dW 2 2),wF 32 30 (dn 31),wF 33 30 (.gh 1 (.t 32) (ki 2)),wF 34 30 (dn 33),wF 35 30 (kv 34),wF 36 30 (b7 .neq 35 3),wS 37 (fH 30 36)] (.cond (.t 37) (rR [wS 0 (dv false)]) (.skip))) ayO)))
def c10:bT:={np:=0,nt:=92,results:=[.t 0],aK:=false,body:=ayP}
def aiM:ae:=rG [dG 57 32 1,ab 32 57]
def ayQ:ae:=mK 0x3113366328cd96 aiM
def aiN:ae:=sQ (.block 3 (ay [cF 34 1 30 32,a5 35 34,ab 11 35] (ay [ab 37 0,ab 38 11,bK 39 43 [37,38],ab 36 39,wS 40 (gm 36 0),wS 41 (gm 36 1),ab 12 40,ab 13 41] (ay [ab 42 8,ab 43 5,dC 44 43,bn 45 0 44,bn 46 2 45,a5 47 46,ab 48 11,cF 49 1 47 48,a5 50 49,wS 51 (fU 1 [.t 50]),wS 52 (.append 1 24 none (.t 42) (.t 51)),ab 8 52] (rG [ab 53 9,ab 54 12,wS 55 (fU 1 [.t 54]),wS 56 (.kP 1 8 (.t 53) (.t 55)),ab 9 56]))))) ayQ
def ayR:ae:=mK 0x3113366328cd96 aiN
def UB:ae:=ay [wS 33 (bC .lss 32 31)] (sQ (cE 33 2) ayR)
def aiO:ae:=ay [ab 74 9,cX 75 74,wS 76 (b7 .gtr 75 0),ab 77 76,wT 78 77 (bY 9),wT 79 77 (.gh 1 (.t 78) (ki 0)),wT 80 77 (dn 79),wT 81 77 (sf 80 3),wS 82 (eB 77 81),ab 14 82] (ay [ab 83 5,ab 84 8,ab 85 9,bn 86 1 7,a5 87 86,de 88 87 4,bK 89 44 [83,84,85,88]] (rS [ab 90 5,ab 91 5,dC 92 91,bn 93 0 92,bn 94 2 93,wS 95 (.load none (.at 94 5 2)),ab 96 5,bn 97 1 7,a5 98 97,ab 99 14,wS 100 (.jI 46 [.t 98, .t 99]),wS 101 (.kO [(none, .Jm 5 2)] 45 [.t 96, .t 100]),wS 102 (fU 1 [.t 101]),wS 103 (.append 1 24 none (.t 95) (.t 102)),dC 104 90,bn 105 0 104,bn 106 2 105,cU 1 106 103]))
def ayS:ae:=mK 0x326328c96 aiO
def aiP:ae:=sQ (ay [bn 58 1 7,a5 59 58,de 60 59 5] (.cond (.t 60) (sQ (rS [ab 61 8,wS 62 (.slice 1 (.t 61) none (some (ki 1)) (some (ki 1))),ab 63 8,wS 64 (.gh 1 (.t 63) (ki 0)),a5 65 64,ab 66 8,wS 67 (.gh 1 (.t 66) (ki 1)),a5 68 67,wS 69 (fU 1 [.t 65, .t 68]),wS 70 (.append 1 24 none (.t 62) (.t 69)),ab 8 70]) (rG [ab 71 9,wS 72 (fU 1 [ki 1]),wS 73 (.kP 1 8 (.t 71) (.t 72)),ab 9 73])) (.skip))) ayS
def aiQ:ae:=mK 0x326328c96 aiP
def Y9:ae:=rG [dG 107 25 1,ab 25 107]
def Za:ae:=mK 0x316318c56 Y9
def Zb:ae:=sQ (.block 1 (ay [cF 27 12 23 25,wS 28 (fu 12 27),wS 7 (.alloc [.str [],kn 0, .sl 1 [] .nil, .bool false, .sl 1 [] .nil, .bool false, .sl 1 [] .nil, .bool false, .sl 1 [] .nil, .bool false, .sl 1 [] .nil,kn 0]),cU 12 7 28] (ay [wS 8 (.move (.c (.sl 1 [] .nil)))] (ay [wS 9 (.move (.c (.sl 1 [] .nil)))] (sQ (ay [bn 29 2 7,a5 30 29,cX 31 30,bF 32 0] (bL 2 0x3113366328cd96 UB)) aiQ))))) Za
def aqx:ae:=mK 0x316318c56 Zb
def Ka:ae:=ay [wS 26 (bC .lss 25 24)] (sQ (cE 26 0) aqx)
def Zc:ae:=ay [ab 108 5,ab 109 5,dC 110 109,bn 111 5 110,a5 112 111,dC 113 108,bn 114 0 113,bn 115 0 114,cU 1 115 112] (rR [ab 116 5,dC 117 116,bn 118 0 117,wS 119 (fu 4 118),cU 4 2 119,bF 3 0])
def Zd:ae:=mK 965 Zc
def Ze:ae:=ay [wS 21 (.build [kn 0, .sl 3 [] .nil, .sl 1 [] .nil, .sl 1 [] .nil, .dI,kn 0] []),wS 22 (.jE (.t 21)),ab 5 22] (sQ (ay [ab 23 0,cX 24 23,bF 25 0] (bL 0 0x316318c56 Ka)) Zd)
def aqy:ae:=mK 50 Ze
def aiR:ae:=ay [wS 2 (.alloc [kn 0, .sl 3 [] .nil, .sl 1 [] .nil, .sl 1 [] .nil]),bF 3 0] (sQ (ay [ab 15 0,bK 16 42 [15],ab 4 16] (ay [ab 17 4,wS 18 (b7 .neq 17 0)] (.cond (.t 18) (rR [wS 19 (.build [kn 0, .sl 3 [] .nil, .sl 1 [] .nil, .sl 1 [] .nil] []),ab 20 4,cU 4 2 19,ab 3 20]) (.skip)))) aqy)
def c11:bT:={np:=1,nt:=120,results:=[.cell 2 (some 4), .t 3],aK:=true,body:=aiR}
def aiS:ae:=rG [ab 19 6,dG 20 19 1,ab 6 20]
def ayT:ae:=mK 12998 aiS
def aiT:ae:=sQ (.block 1 (rG [ab 21 5,ab 22 0,ab 23 6,bK 24 47 [21,22,23]])) ayT
def ayU:ae:=mK 12998 aiT
def UC:ae:=sQ (ay [ab 15 6,ab 16 0,cX 17 16,wS 18 (bC .lss 15 17)] (cE 18 0)) ayU
def aiU:ae:=ay [ab 25 5,ab 26 5,dC 27 26,bn 28 8 27,a5 29 28,dC 30 25,bn 31 0 30,bn 32 0 31,cU 1 32 29] (rR [ab 33 5,dC 34 33,bn 35 0 34,wS 36 (fu 4 35),cU 4 2 36,bF 3 0])
def aiV:ae:=mK 965 aiU
def aiW:ae:=ay [wS 13 (.build [kn 0, .sl 3 [] .nil, .sl 1 [] .nil, .sl 1 [] .nil, .sl 1 [] .nil, .sl 1 [] .nil, .str [],kn 0,kn 0] []),wS 14 (.jE (.t 13)),ab 5 14] (sQ (ay [bF 6 0] (bL 0 12998 UC)) aiV)
def ayV:ae:=mK 50 aiW
def aiX:ae:=ay [wS 2 (.alloc [kn 0, .sl 3 [] .nil, .sl 1 [] .nil, .sl 1 [] .nil]),bF 3 0] (ay [ab 7 0,bK 8 14 [7],ab 4 8] (sQ (ay [ab 9 4,wS 10 (b7 .neq 9 0)] (.cond (.t 10) (rR [wS 11 (.build [kn 0, .sl 3 [] .nil, .sl 1 [] .nil, .sl 1 [] .nil] []),ab 12 4,cU 4 2 11,ab 3 12]) (.skip))) ayV))
def c12:bT:={np:=1,nt:=37,results:=[.cell 2 (some 4), .t 3],aK:=false,body:=aiX}
def aiY:ae:=rG [ab 45 5,dG 46 45 1,ab 5 46]
def ayW:ae:=mK 1013 aiY
def aiZ:ae:=sQ (.block 1 (sQ (rS [bn 47 1 2,a5 48 47,ab 49 5,cF 50 3 48 49,wS 51 (fu 3 50),bn 52 1 3,a5 53 52,ab 54 5,cF 55 3 53 54,wS 56 (fu 3 55),wS 57 (.eq true (.agg [.int .i64, .int .i64, .int .i64]) (.t 51) (.t 56))]) (.cond (.t 57) (rR [wS 4 (dv false)]) (.skip)))) ayW
def ayX:ae:=mK 1013 aiZ
def UD:ae:=sQ (ay [ab 40 5,bn 41 1 2,a5 42 41,cX 43 42,wS 44 (bC .lss 40 43)] (cE 44 0)) ayX
def ai0:ae:=rG [ab 63 6,dG 64 63 1,ab 6 64]
def ayY:ae:=mK 12853 ai0
def ai1:ae:=sQ (.block 3 (sQ (rS [bn 65 2 2,a5 66 65,ab 67 6,cF 68 1 66 67,a5 69 68,bn 70 2 3,a5 71 70,ab 72 6,cF 73 1 71 72,a5 74 73,bK 75 32 [69,74],ab 7 75]) (ay [ab 76 7,wS 77 (.un .not (.t 76))] (.cond (.t 77) (rR [wS 4 (dv false)]) (.skip))))) ayY
def ayZ:ae:=mK 12853 ai1
def Kb:ae:=sQ (ay [ab 58 6,bn 59 2 2,a5 60 59,cX 61 60,wS 62 (bC .lss 58 61)] (cE 62 2)) ayZ
def Zf:ae:=ay [bn 78 3 2,a5 79 78,bn 80 3 3,a5 81 80,bK 82 32 [79,81],ab 4 82] (.ret)
def Zg:ae:=mK 821 Zf
def Zh:ae:=sQ (ay [bF 6 0] (bL 2 12853 Kb)) Zg
def Zi:ae:=mK 821 Zh
def Zj:ae:=sQ (ay [bF 5 0] (bL 0 1013 UD)) Zi
def aqz:ae:=mK 821 Zj
def ai2:ae:=ay [wS 2 (.dO (.t 0)),wS 3 (.dO (.t 1)),wS 4 (dv false)] (sQ (ay [bn 8 0 2,a5 9 8,bn 10 0 3,a5 11 10,wS 12 (bC .neq 9 11),ab 13 12,wF 14 13 (dW 1 2),wF 15 13 (dn 14),wF 16 13 (kv 15),wF 17 13 (dW 1 3),wF 18 13 (dn 17),wF 19 13 (kv 18),wF 20 13 (bC .neq 16 19),wS 21 (fH 13 20),ab 22 21,wF 23 22 (dW 2 2),wF 24 22 (dn 23),wF 25 22 (kv 24),wF 26 22 (dW 2 3),wF 27 22 (dn 26),wF 28 22 (kv 27),wF 29 22 (bC .neq 25 28),wS 30 (fH 22 29),ab 31 30,wF 32 31 (dW 3 2),wF 33 31 (dn 32),wF 34 31 (kv 33),wF 35 31 (dW 3 3),wF 36 31 (dn 35),wF 37 31 (kv 36),wF 38 31 (bC .neq 34 37),wS 39 (fH 31 38)] (.cond (.t 39) (rR [wS 4 (dv false)]) (.skip))) aqz)
def M0:bT:={np:=2,nt:=83,results:=[.t 4],aK:=false,body:=ai2}
def ai3:ae:=rG [ab 8 3,dG 9 8 1,ab 3 9]
def ay0:ae:=mK 54 ai3
def ai4:ae:=sQ (.block 1 (ay [ab 10 0,ab 11 3,bK 12 48 [10,11],wS 13 (.un .not (.t 12))] (.cond (.t 13) (rR [bF 2 120]) (.skip)))) ay0
def ay1:ae:=mK 54 ai4
def UE:ae:=sQ (ay [ab 4 3,ab 5 0,cX 6 5,wS 7 (bC .lss 4 6)] (cE 7 0)) ay1
def ai5:ae:=ay [bF 2 0] (.ret)
def ay2:ae:=mK 0 ai5
def ai6:ae:=sQ (ay [ab 14 0,cX 15 14,wS 16 (b7 .gtr 15 40),ab 17 16,wF 18 17 (bY 0),wF 19 17 (m9 49 [18]),wF 20 17 (kv 19),wF 21 17 (b7 .gtr 20 20),wS 22 (fH 17 21),ab 23 22,wF 24 23 (bY 0),wF 25 23 (m9 50 [24]),wF 26 23 (kv 25),wF 27 23 (b7 .gtr 26 5),wS 28 (fH 23 27)] (.cond (.t 28) (rR [bF 2 111]) (.skip))) ay2
def ai7:ae:=mK 3 ai6
def ai8:ae:=ay [bF 2 0] (sQ (ay [bF 3 0] (bL 0 54 UE)) ai7)
def c14:bT:={np:=1,nt:=29,results:=[.t 2],aK:=false,body:=ai8}
def ay3:ae:=ay [ab 11 0,ab 12 1,wS 13 (.build [kn 0,kn 0, .sl 1 [] .nil] [(0,1, .t 11),(1,1, .t 12)]),cU 3 4 13] (.ret)
def ay4:ae:=mK 222 ay3
def ay5:ae:=ay [wS 4 (.alloc [kn 0,kn 0, .sl 1 [] .nil])] (sQ (ay [ab 5 0,wS 6 (b7 .lss 5 0),ab 7 6,wF 8 7 (bY 0),wF 9 7 (b7 .gtr 8 2147483647),wS 10 (fH 7 9)] (.cond (.t 10) (rG [bF 0 0]) (.skip))) ay4)
def c15:bT:={np:=2,nt:=14,results:=[.cell 4 (some 3)],aK:=false,body:=ay5}
def ay6:ae:=ay [ab 19 1,ab 4 19] (.ret)
def ay7:ae:=mK 13 ay6
def ay8:ae:=ay [ab 9 1,bn 10 0 2,a5 11 10,wS 12 (bC .rem 9 11),ab 1 12] (sQ (ay [ab 13 1,wS 14 (b7 .lss 13 0)] (.cond (.t 14) (rG [ab 15 1,bn 16 0 2,a5 17 16,wS 18 (bC .add 15 17),ab 1 18]) (.skip))) ay7)
def ay9:ae:=mK 61 ay8
def aza:ae:=ay [wS 2 (.dO (.t 0)),bF 4 0] (sQ (ay [bn 5 0 2,a5 6 5,wS 7 (b7 .leq 6 0)] (.cond (.t 7) (rR [ab 8 1,ab 4 8]) (.skip))) ay9)
def c18:bT:={np:=2,nt:=20,results:=[.t 4],aK:=false,body:=aza}
def azb:ae:=rG [ab 109 9,ab 110 13,wS 111 (fU 1 [.t 110]),wS 112 (.append 1 8 none (.t 109) (.t 111)),ab 9 112]
def azc:ae:=mK 0x31decb40d55 azb
def azd:ae:=rG [dG 113 31 1,ab 31 113]
def aze:ae:=mK 0x31dec740d55 azd
def azf:ae:=sQ (.block 1 (ay [cF 33 3 29 31,wS 34 (fu 3 33),wS 12 (.alloc [kn 0,kn 0,kn 0]),cU 3 12 34] (ay [bF 13 0] (sQ (ay [bn 35 0 12,a5 36 35] (.block 2 (ay [de 38 36 1,ab 37 38] (.cond (.t 37) (rG [ab 39 2,bn 40 1 12,a5 41 40,cF 42 1 39 41,a5 43 42,ab 13 43]) (ay [de 45 36 2,ab 44 45] (.cond (.t 44) (rG [bn 46 0 4,a5 47 46,bn 48 1 12,a5 49 48,wS 50 (.cV (.t 47) [.t 49]),ab 13 50]) (ay [de 52 36 3,ab 51 52] (.cond (.t 51) (rS [bn 53 1 4,a5 54 53,ab 55 9,bn 56 1 12,a5 57 56,cF 58 1 55 57,a5 59 58,ab 60 9,bn 61 2 12,a5 62 61,cF 63 1 60 62,a5 64 63,wS 65 (.cV (.t 54) [.t 59, .t 64]),ab 13 65]) (ay [de 67 36 4,ab 66 67] (.cond (.t 66) (rS [bn 68 2 4,a5 69 68,ab 70 9,bn 71 1 12,a5 72 71,cF 73 1 70 72,a5 74 73,ab 75 9,bn 76 2 12,a5 77 76,cF 78 1 75 77,a5 79 78,wS 80 (.cV (.t 69) [.t 74, .t 79]),ab 13 80]) (ay [de 82 36 5,ab 81 82] (.cond (.t 81) (rS [bn 83 3 4,a5 84 83,ab 85 9,bn 86 1 12,a5 87 86,cF 88 1 85 87,a5 89 88,ab 90 9,bn 91 2 12,a5 92 91,cF 93 1 90 92,a5 94 93,wS 95 (.cV (.t 84) [.t 89, .t 94]),ab 13 95]) (ay [de 97 36 6,ab 96 97] (.cond (.t 96) (sQ (rS [bn 98 4 4,a5 99 98,ab 100 10,ab 101 9,bn 102 1 12,a5 103 102,cF 104 1 101 103,a5 105 104,wS 106 (.cV (.t 99) [.t 100, .t 105]),ab 13 106]) (rG [ab 107 10,dG 108 107 1,ab 10 108])) (.skip))))))))))))))) azc)))) aze
def azg:ae:=mK 0x31dec740d55 azf
def azh:ae:=ay [wS 32 (bC .lss 31 30)] (sQ (cE 32 0) azg)
def azi:ae:=ay [ab 114 9,ab 6 114,bF 7 0] (.ret)
def azj:ae:=mK 837 azi
def aqA:ae:=ay [bn 24 1 3,a5 25 24,cX 26 25,wS 27 (.makeSlice [kn 0] 8 (ki 0) (.t 26)),ab 9 27] (ay [bF 10 0] (sQ (ay [bn 28 1 3,a5 29 28,cX 30 29,bF 31 0] (bL 0 0x31dec740d55 azh)) azj))
def aqB:ae:=mK 3637 aqA
def aqC:ae:=sQ (ay [ab 19 2,cX 20 19,bn 21 0 3,a5 22 21,wS 23 (bC .neq 20 22)] (.cond (.t 23) (rR [wS 6 (.move (.c (.sl 1 [] .nil))),bF 7 1]) (.skip))) aqB
def aqD:ae:=mK 3637 aqC
def azk:ae:=ay [wS 3 (.dO (.t 0)),wS 4 (.dO (.t 1)),wS 6 (.move (.c (.sl 1 [] .nil))),bF 7 0] (sQ (ay [wS 14 (fu 4 3),bK 15 52 [14],ab 8 15] (ay [ab 16 8,wS 17 (b7 .neq 16 0)] (.cond (.t 17) (rR [ab 18 8,wS 6 (.move (.c (.sl 1 [] .nil))),ab 7 18]) (.skip)))) aqD)
def c19:bT:={np:=3,nt:=115,results:=[.t 6, .t 7],aK:=false,body:=azk}
def azl:ae:=ay [wS 1 (.dO (.t 0)),wS 2 (.alloc [.fR, .fR, .fR, .fR, .fR])] (rR [wS 3 (.i5 53 [.t 1]),wS 4 (.i5 54 [.t 1]),wS 5 (.i5 55 [.t 1]),wS 6 (.i5 56 [.t 1]),wS 7 (.i5 57 [.t 1]),wS 8 (.build [.fR, .fR, .fR, .fR, .fR] [(0,1, .t 3),(1,1, .t 4),(2,1, .t 5),(3,1, .t 6),(4,1, .t 7)]),cU 5 2 8])
def c20:bT:={np:=1,nt:=9,results:=[.cell 2 (some 5)],aK:=false,body:=azl}
def azm:ae:=ay [wS 3 (.dO (.t 0)),bF 6 0] (rR [wS 7 (fu 3 3),ab 8 1,ab 9 2,wS 10 (bC .add 8 9),bK 11 18 [7,10],ab 6 11])
def c24:bT:={np:=3,nt:=12,results:=[.t 6],aK:=false,body:=azm}
def azn:ae:=ay [wS 3 (.dO (.t 0)),bF 6 0] (rR [wS 7 (fu 3 3),ab 8 1,ab 9 2,wS 10 (bC .sub 8 9),bK 11 18 [7,10],ab 6 11])
def c26:bT:={np:=3,nt:=12,results:=[.t 6],aK:=false,body:=azn}
def azo:ae:=ay [wS 3 (.dO (.t 0)),bF 6 0] (rR [wS 7 (fu 3 3),ab 8 1,ab 9 2,wS 10 (bC .mul 8 9),bK 11 18 [7,10],ab 6 11])
def c28:bT:={np:=3,nt:=12,results:=[.t 6],aK:=false,body:=azo}
def azp:ae:=sQ (rS [wS 23 (fu 3 3),wS 24 (fu 3 3),wS 25 (fu 3 3),bn 26 1 3,a5 27 26,wS 28 (.jI 18 [.t 25, .t 27]),ab 29 2,wS 30 (.jI 28 [.t 24, .t 28, .t 29]),wS 31 (fu 3 3),ab 32 1,dG 33 32 1,wS 34 (.jI 18 [.t 31, .t 33]),bK 35 24 [23,30,34],ab 6 35]) (.ret)
def azq:ae:=mK 825 azp
def azr:ae:=ay [wS 3 (.dO (.t 0)),bF 6 0] (sQ (ay [ab 7 1,wS 8 (b7 .geq 7 0),ab 9 8,wT 10 9 (bY 1),wT 11 9 (dW 2 3),wT 12 9 (dn 11),wT 13 9 (kv 12),wT 14 9 (bC .lss 10 13),wS 15 (eB 9 14)] (.cond (.t 15) (sQ (rS [wS 16 (fu 3 3),bn 17 2 3,a5 18 17,ab 19 1,cF 20 1 18 19,a5 21 20,bK 22 18 [16,21],ab 6 22]) (.ret)) (.skip))) azq)
def c30:bT:={np:=3,nt:=36,results:=[.t 6],aK:=false,body:=azr}
def ai9:ae:=rG [ab 15 5,dG 16 15 1,ab 5 16]
def azs:ae:=mK 202 ai9
def aja:ae:=sQ (.block 1 (sQ (rS [ab 17 0,ab 18 5,cF 19 1 17 18,a5 20 19,ab 21 1,ab 22 5,cF 23 1 21 22,a5 24 23,wS 25 (bC .neq 20 24)]) (.cond (.t 25) (rR [wS 4 (dv false)]) (.skip)))) azs
def azt:ae:=mK 202 aja
def UF:ae:=sQ (ay [ab 11 5,ab 12 0,cX 13 12,wS 14 (bC .lss 11 13)] (cE 14 0)) azt
def ajb:ae:=ay [wS 4 (dv true)] (.ret)
def ajc:ae:=mK 0 ajb
def ajd:ae:=sQ (ay [bF 5 0] (bL 0 202 UF)) ajc
def azu:ae:=mK 14 ajd
def aje:ae:=ay [wS 4 (dv false)] (sQ (ay [ab 6 0,cX 7 6,ab 8 1,cX 9 8,wS 10 (bC .neq 7 9)] (.cond (.t 10) (rR [wS 4 (dv false)]) (.skip))) azu)
def c32:bT:={np:=2,nt:=26,results:=[.t 4],aK:=false,body:=aje}
def azv:ae:=ay [wS 14 (fu 4 3),cU 4 2 14] (.ret)
def azw:ae:=mK 821 azv
def azx:ae:=ay [wS 2 (.alloc [.bool false, .sl 1 [] .nil, .bool false, .sl 1 [] .nil])] (ay [wS 4 (fU 1 [.c (.int .u32 1)]),wS 5 (.build [.bool false, .sl 1 [] .nil] [(1,1, .t 4)]),wS 6 (.build [.bool false, .sl 1 [] .nil, .bool false, .sl 1 [] .nil] [(2,2, .t 5)]),wS 3 (.alloc [.bool false, .sl 1 [] .nil, .bool false, .sl 1 [] .nil]),cU 4 3 6] (sQ (ay [ab 7 0,wS 8 (b7 .gtr 7 0)] (.cond (.t 8) (rG [ab 9 0,wS 10 (eJ .u32 9),wS 11 (fU 1 [.t 10]),wS 12 (.build [.bool false, .sl 1 [] .nil] [(1,1, .t 11)]),bn 13 0 3,cU 2 13 12]) (.skip))) azw))
def c41:bT:={np:=1,nt:=15,results:=[.cell 2 (some 4)],aK:=false,body:=azx}
def ajf:ae:=ay [wS 19 (fu 12 5),bK 20 71 [19]] (.cond (.t 20) (rG [ab 21 3,dG 22 21 1,ab 3 22]) (.skip))
def azy:ae:=mK 0x335ce6 ajf
def ajg:ae:=rG [dG 23 8 1,ab 8 23]
def ajh:ae:=mK 0x3350e6 ajg
def aji:ae:=sQ (.block 1 (ay [ab 10 8,cF 11 12 6 8,wS 12 (fu 12 11),wS 5 (.alloc [.str [],kn 0, .sl 1 [] .nil, .bool false, .sl 1 [] .nil, .bool false, .sl 1 [] .nil, .bool false, .sl 1 [] .nil, .bool false, .sl 1 [] .nil,kn 0]),ab 4 10,cU 12 5 12] (sQ (ay [ab 13 0,ab 14 4,dG 15 14 1,wS 16 (.slice 12 (.t 13) none (some (.t 15)) none),bK 17 70 [16],wS 18 (.un .not (.t 17))] (.cond (.t 18) (rR [bF 2 120]) (.skip))) azy))) ajh
def azz:ae:=mK 0x3350e6 aji
def UG:ae:=ay [wS 9 (bC .lss 8 7)] (sQ (cE 9 0) azz)
def ajj:ae:=ay [bF 2 0] (.ret)
def azA:ae:=mK 0 ajj
def Zk:ae:=sQ (ay [ab 24 0,cX 25 24,wS 26 (b7 .gtr 25 40),ab 27 26,wF 28 27 (bY 3),wF 29 27 (b7 .gtr 28 5),wS 30 (fH 27 29),ab 31 30,wF 32 31 (bY 0),wF 33 31 (m9 72 [32]),wF 34 31 (kv 33),wF 35 31 (b7 .gtr 34 20),wS 36 (fH 31 35)] (.cond (.t 36) (rR [bF 2 111]) (.skip))) azA
def Zl:ae:=mK 54 Zk
def ajk:ae:=ay [bF 2 0] (ay [bF 3 0] (sQ (ay [ab 6 0,cX 7 6,bF 8 0] (bL 0 0x3350e6 UG)) Zl))
def c42:bT:={np:=1,nt:=37,results:=[.t 2],aK:=false,body:=ajk}
def ajl:ae:=ay [ab 13 0,ab 14 1,cF 15 12 13 14,wS 16 (fu 12 15),bK 17 74 [16],ab 4 17,bF 5 0] (.ret)
def azB:ae:=mK 14 ajl
def ajm:ae:=ay [bF 4 0,bF 5 0] (sQ (ay [ab 7 0,ab 8 1,bK 9 73 [7,8],ab 6 9] (ay [ab 10 6,wS 11 (b7 .neq 10 0)] (.cond (.t 11) (rR [ab 12 6,bF 4 0,ab 5 12]) (.skip)))) azB)
def c43:bT:={np:=2,nt:=18,results:=[.t 4, .t 5],aK:=false,body:=ajm}
def ajn:ae:=rG [ab 35 11,wS 36 (.gz 1 4 (.t 8) (.t 35)),a5 37 36,dG 38 37 1,wS 39 (.gz 1 4 (.t 8) (.t 35)),cU 1 39 38]
def azC:ae:=mK 0x326327c6a ajn
def ajo:ae:=rG [dG 40 25 1,ab 25 40]
def ajp:ae:=mK 0x326324c6a ajo
def ajq:ae:=sQ (.block 1 (ay [ab 27 25,cF 28 1 23 25,a5 29 28,ab 10 27,ab 11 29] (sQ (ay [ab 30 3] (.cond (.t 30) (ay [bF 11 1] (rG [ab 31 2,ab 32 10,ab 33 11,cF 34 1 31 32,cU 1 34 33])) (.skip))) azC))) ajp
def azD:ae:=mK 0x326324c6a ajq
def UH:ae:=ay [wS 26 (bC .lss 25 24)] (sQ (cE 26 0) azD)
def ajr:ae:=rG [dG 89 71 1,ab 71 89]
def azE:ae:=mK 0xd0d51ce63435740d7256 ajr
def Zm:ae:=sQ (.block 5 (ay [ab 73 71,cF 74 1 69 71,a5 75 74,ab 17 73,ab 18 75] (rS [ab 76 0,dC 77 76,bn 78 4 77,a5 79 78,ab 80 15,wS 81 (.gz 1 4 (.t 12) (.t 80)),a5 82 81,ab 83 17,cF 84 1 82 83,a5 85 84,ab 86 16,wS 87 (bC .add 85 86),ab 88 18,wN (.mB .str (.t 79) (.t 87) (.t 88))]))) azE
def aqF:ae:=mK 0xd0d51ce63435740d7256 Zm
def Kc:ae:=ay [wS 72 (bC .lss 71 70)] (sQ (cE 72 4) aqF)
def Zn:ae:=ay [ab 69 14,cX 70 69,bF 71 0] (bL 4 0xd0d51ce63435740d7256 Kc)
def aqG:ae:=mK 0xd21ce634743256 Zn
def Zo:ae:=rG [dG 90 47 1,ab 47 90]
def Zp:ae:=mK 0xd11f634743156 Zo
def Zq:ae:=sQ (.block 3 (ay [ab 49 47,cF 50 1 45 47,a5 51 50,ab 13 49,ab 14 51] (ay [ab 52 2,ab 53 13,cF 54 1 52 53,a5 55 54,ab 15 55] (ay [ab 56 15,wS 57 (.gz 1 4 (.t 9) (.t 56)),a5 58 57,dG 59 58 1,wS 60 (.gz 1 4 (.t 9) (.t 56)),cU 1 60 59] (ay [wS 16 (.move (.c (.str [])))] (sQ (ay [ab 61 15,wS 62 (.gz 1 4 (.t 8) (.t 61)),a5 63 62,wS 64 (b7 .gtr 63 1)] (.cond (.t 64) (rG [ab 65 15,wS 66 (.gz 1 4 (.t 9) (.t 65)),a5 67 66,bK 68 75 [67],ab 16 68]) (.skip))) aqG)))))) Zp
def aqH:ae:=mK 0xd11f634743156 Zq
def Kd:ae:=ay [wS 48 (bC .lss 47 46)] (sQ (cE 48 2) aqH)
def Zr:ae:=ay [wS 41 (gL [(.str [120]),(.str [121]),(.str [122])]),wS 42 (gL [(.str [97]),(.str [98]),(.str [99])]),wS 43 (gL [(.str [117]),(.str [112]),(.str [113]),(.str [114]),(bi 2 0x6178),(bi 2 0x6179),(bi 2 0x617a)]),wS 44 (.build [.sl 1 [] .nil, .sl 1 [] .nil, .sl 1 [] .nil, .sl 1 [] .nil] [(0,1, .c (.sl 1 [] .nil)),(1,1, .t 41),(2,1, .t 42),(3,1, .t 43)]),wS 12 (.alloc [.sl 1 [] .nil, .sl 1 [] .nil, .sl 1 [] .nil, .sl 1 [] .nil]),cU 4 12 44] (ay [ab 45 1,cX 46 45,bF 47 0] (bL 2 0xd11f634743156 Kd))
def Zs:ae:=mK 0x3634a Zr
def ajs:ae:=ay [ab 19 0,wS 20 (.makeMap (some (.t 0))),dC 21 19,bn 22 4 21,cU 1 22 20] (ay [wS 8 (.alloc [kn 0,kn 0,kn 0,kn 0]),wS 9 (.alloc [kn 0,kn 0,kn 0,kn 0])] (sQ (ay [ab 23 2,cX 24 23,bF 25 0] (bL 0 0x326324c6a UH)) Zs))
def c44:bT:={np:=4,nt:=91,results:=[],aK:=false,body:=ajs}
def ajt:ae:=rG [ab 17 5,dG 18 17 2,ab 5 18]
def azF:ae:=mK 246 ajt
def aju:ae:=sQ (.block 1 (sQ (rS [bn 19 0 3,a5 20 19,ab 21 5,cF 22 1 20 21,a5 23 22,bn 24 0 3,a5 25 24,ab 26 5,dG 27 26 1,cF 28 1 25 27,a5 29 28,ab 6 23,ab 7 29]) (.block 2 (ay [ab 39 7,wS 40 (.bin .eql (.t 39) (.c (bi 2 0x696e))),ab 38 40] (.cond (.t 38) (sQ (rS [ab 41 0,dC 42 41,bn 43 4 42,wS 44 (.load none (.at 43 0 4)),ab 45 6,ab 46 0,ab 47 0,dC 48 47,bn 49 5 48,a5 50 49,wS 51 (.kO [(none, .Jm 0 4)] 76 [.t 46,ki 1, .t 50,ki 0]),wN (.mB .str (.t 44) (.t 45) (.t 51))]) (rG [ab 52 0,dC 53 52,bn 54 5 53,a5 55 54,dG 56 55 1,dC 57 52,bn 58 5 57,cU 1 58 56])) (ay [ab 60 7,wS 61 (.cO (.t 60) (ki 0)),wS 62 (.bin .eql (.t 61) (.c (.int .u8 33))),ab 59 62] (.cond (.t 59) (sQ (rS [ab 63 0,dC 64 63,bn 65 4 64,wS 66 (.load none (.at 65 0 4)),ab 67 6,ab 68 0,ab 69 0,ab 70 7,wS 71 (.gu (.t 70) (some (ki 1)) none),wS 72 (.kO [(none, .Jm 0 4)] 77 [.t 69, .t 71]),wS 73 (.kO [(none, .Jm 0 4)] 76 [.t 68,ki 6, .t 72,ki 0]),wN (.mB .str (.t 66) (.t 67) (.t 73))]) (rS [ab 74 0,ab 75 0,dC 76 75,bn 77 0 76,bn 78 3 77,a5 79 78,ab 80 0,dC 81 80,bn 82 4 81,a5 83 82,ab 84 6,wS 85 (.lookup .str (.int .i64 0) false (.t 83) (.t 84)),wS 86 (fU 1 [.t 85]),wS 87 (.append 1 8 (some (.t 0)) (.t 79) (.t 86)),dC 88 74,bn 89 0 88,bn 90 3 89,cU 1 90 87])) (rS [ab 30 0,dC 31 30,bn 32 4 31,wS 33 (.load none (.at 32 0 4)),ab 34 6,ab 35 0,ab 36 7,wS 37 (.kO [(none, .Jm 0 4)] 77 [.t 35, .t 36]),wN (.mB .str (.t 33) (.t 34) (.t 37))])))))))) azF
def azG:ae:=mK 246 aju
def UI:ae:=sQ (ay [ab 11 5,dG 12 11 1,bn 13 0 3,a5 14 13,cX 15 14,wS 16 (bC .lss 12 15)] (cE 16 0)) azG
def ajv:ae:=rG [dG 104 94 1,ab 94 104]
def azH:ae:=mK 0xd11134475344446 ajv
def ajw:ae:=sQ (.block 4 (ay [cF 96 1 92 94,a5 97 96,ab 10 97] (rG [ab 98 8,ab 99 0,ab 100 10,bK 101 77 [99,100],wS 102 (fU 1 [.t 101]),wS 103 (.append 1 8 none (.t 98) (.t 102)),ab 8 103]))) azH
def azI:ae:=mK 0xd11134475344446 ajw
def Ke:ae:=ay [wS 95 (bC .lss 94 93)] (sQ (cE 95 3) azI)
def Zt:ae:=ay [ab 105 8,ab 4 105] (.ret)
def Zu:ae:=mK 849 Zt
def Zv:ae:=ay [wS 8 (.move (.c (.sl 1 [] .nil)))] (sQ (ay [bn 91 1 3,a5 92 91,cX 93 92,bF 94 0] (bL 3 0xd11134475344446 Ke)) Zu)
def Zw:ae:=mK 54 Zv
def ajx:ae:=ay [wS 3 (.dO (.t 1)),wS 4 (.move (.c (.sl 1 [] .nil)))] (sQ (ay [bF 5 0] (bL 0 246 UI)) Zw)
def UJ:bT:={np:=2,nt:=106,results:=[.t 4],aK:=false,body:=ajx}
def azJ:ae:=ay [wS 18 (gL [(.str [116]),(bi 2 0x696e),(.str [110]),(bi 9 0x615e32202b20625e32)]),wS 19 (gL [(bi 12 0x2d612063202d20742062206e),(bi 12 0x2d622063202b20742061206e),(.str [110])]),wS 20 (.build [.sl 1 [] .nil, .sl 1 [] .nil] [(0,1, .t 18),(1,1, .t 19)]),cU 2 4 20] (.ret)
def azK:ae:=mK 209 azJ
def azL:ae:=.cond (.t 26) (rR [wS 29 (gL [(.str [119]),(bi 5 0x7a32207a33),(bi 2 0x6578),(bi 13 0x7833207a32202d207832207a33),(bi 2 0x6579),(bi 13 0x7933207a32202d207932207a33),(.str [100]),(bi 11 0x65785e32202b2065795e32),(.str [118]),(bi 3 0x775e32),(.str [103]),(bi 4 0x7a315e32)]),wS 30 (gL [(bi 3 0x672076),(bi 10 0x2d32207831207a312076),(bi 10 0x2d32207931207a312076),(bi 21 0x2878315e32202b2079315e32292076202d20672064),(bi 12 0x78312077202b207a31206578),(bi 12 0x79312077202b207a31206579),(bi 4 0x7a312077)]),wS 31 (.build [.sl 1 [] .nil, .sl 1 [] .nil] [(0,1, .t 29),(1,1, .t 30)]),cU 2 4 31]) (ay [de 33 6 7,ab 32 33] (.cond (.t 32) (rR [wS 34 (.call 79 [ki 3]),wS 35 (gL [(bi 60 0x663120286732206833202d20683220673329202d20673120286632206833202d20683220663329202b20683120286632206733202d20673220663329),(bi 63 0x2d28733120286732206833202d20683220673329202d20673120287332206833202d20683220733329202b20683120287332206733202d2067322073332929),(bi 60 0x733120286632206833202d20683220663329202d20663120287332206833202d20683220733329202b20683120287332206633202d20663220733329),(bi 63 0x2d28733120286632206733202d20673220663329202d20663120287332206733202d20673220733329202b20673120287332206633202d2066322073332929),(bi 2 0x7831),(bi 2 0x7931),(bi 2 0x7a31)]),wS 36 (.build [.sl 1 [] .nil, .sl 1 [] .nil] [(0,1, .t 34),(1,1, .t 35)]),cU 2 4 36]) (ay [de 38 6 8,ab 37 38] (.cond (.t 37) (rR [wS 39 (.call 80 [.c (.sl 1 [] .nil)]),cU 2 4 39]) (ay [de 41 6 9,ab 40 41] (.cond (.t 40) (rR [wS 42 (gL [(.str [97]),(bi 13 0x7532207031202d207531207032),(.str [98]),(bi 13 0x7532207131202d207531207132),(.str [99]),(bi 13 0x7532207231202d207531207232),(.str [117]),(bi 2 0x7531),(.str [112]),(bi 2 0x7031),(.str [113]),(bi 2 0x7131),(.str [114]),(bi 2 0x7231)]),bK 43 80 [42],cU 2 4 43]) (ay [de 45 6 15,ab 44 45] (.cond (.t 44) (ay [wS 46 (gL [(.str [97]),(bi 11 0x3220752078202b2070207a),(.str [98]),(bi 11 0x3220752079202b2071207a),(.str [99]),(bi 17 0x702078202b20712079202b20322072207a)]),bK 47 80 [46],wS 5 (.alloc [.sl 1 [] .nil, .sl 1 [] .nil]),cU 2 5 47] (sQ (rS [bn 48 0 5,a5 49 48,bn 50 1 5,a5 51 50,wS 52 (.gh 1 (.t 51) (ki 0)),a5 53 52,bn 54 1 5,a5 55 54,wS 56 (.gh 1 (.t 55) (ki 1)),a5 57 56,bn 58 1 5,a5 59 58,wS 60 (.gh 1 (.t 59) (ki 2)),a5 61 60,wS 62 (fU 1 [.c (bi 2 0x7478), .t 53, .c (bi 2 0x7479), .t 57, .c (bi 2 0x747a), .t 61]),wS 63 (.append 1 16 none (.t 49) (.t 62)),bn 64 0 5,cU 1 64 63]) (ay [wS 65 (gL [(bi 13 0x322075207478202b207020747a),(bi 13 0x322075207479202b207120747a),(bi 20 0x70207478202b2071207479202b2032207220747a)]),bn 66 1 5,cU 1 66 65] (rR [wS 67 (fu 2 5),cU 2 4 67])))) (.skip)))))))))
def azM:ae:=mK 50898 azL
def azN:ae:=.cond (.t 21) (rR [bK 24 78 [],wS 25 (.build [.sl 1 [] .nil, .sl 1 [] .nil] [(0,1, .c (.sl 1 [] .nil)),(1,1, .t 24)]),cU 2 4 25]) (sQ (ay [de 27 6 5,ab 26 27] (.cond (.t 26) (.skip) (rG [de 28 6 6,ab 26 28]))) azM)
def azO:ae:=mK 0x3d3446 azN
def azP:ae:=ay [ab 68 0,bK 69 81 [68],cU 2 4 69] (.ret)
def azQ:ae:=mK 210 azP
def ajy:ae:=ay [wS 4 (.alloc [.sl 1 [] .nil, .sl 1 [] .nil])] (sQ (ay [ab 6 0] (.block 0 (ay [de 8 6 1,ab 7 8] (.cond (.t 7) (rR [wS 9 (gL [(bi 2 0x7878),(bi 2 0x696e),(bi 2 0x7979),(bi 2 0x696e)]),wS 10 (gL [(bi 2 0x7878),(bi 2 0x7979),(.str [49])]),wS 11 (.build [.sl 1 [] .nil, .sl 1 [] .nil] [(0,1, .t 9),(1,1, .t 10)]),cU 2 4 11]) (ay [de 13 6 2,ab 12 13] (.cond (.t 12) (sQ (ay [ab 14 1] (.cond (.t 14) (rR [wS 15 (gL [(.str [116]),(bi 2 0x696e),(.str [109]),(bi 7 0x31202b20745e32),(.str [107]),(bi 7 0x31202d20745e32),(bi 2 0x6478),(bi 13 0x322075206178202b207020617a),(bi 2 0x6479),(bi 13 0x322075206179202b207120617a)]),wS 16 (gL [(bi 23 0x2d7020617a206d202b206b206478202d20322074206479),(bi 23 0x2d7120617a206d202b20322074206478202b206b206479),(bi 8 0x32207520617a206d)]),wS 17 (.build [.sl 1 [] .nil, .sl 1 [] .nil] [(0,1, .t 15),(1,1, .t 16)]),cU 2 4 17]) (.skip))) azK) (sQ (ay [de 22 6 3,ab 21 22] (.cond (.t 21) (.skip) (rG [de 23 6 4,ab 21 23]))) azO))))))) azQ)
def c46:bT:={np:=2,nt:=70,results:=[.cell 4 (some 2)],aK:=false,body:=ajy}
def ajz:ae:=rG [ab 61 7,ab 62 10,wS 63 (fU 1 [.t 62]),wS 64 (.append 1 8 none (.t 61) (.t 63)),ab 7 64]
def azR:ae:=mK 0xe360da ajz
def ajA:ae:=rG [ab 28 8,dG 29 28 1,ab 8 29]
def ajB:ae:=mK 0x3360da ajA
def ajC:ae:=sQ (.block 1 (ay [ab 30 1,ab 31 2,cF 32 12 30 31,bn 33 2 32,a5 34 33,ab 35 8,cF 36 1 34 35,a5 37 36,ab 9 37] (ay [ab 38 6,ab 39 0,dC 40 39,bn 41 0 40,bn 42 2 41,a5 43 42,ab 44 9,cF 45 1 43 44,a5 46 45,wS 47 (fU 1 [.t 46]),wS 48 (.append 1 24 none (.t 38) (.t 47)),ab 6 48] (ay [ab 50 1,ab 51 9,bK 52 65 [50,51],ab 49 52,wS 53 (gm 49 0),wS 54 (gm 49 1),ab 10 53,ab 11 54] (sQ (ay [ab 55 1,ab 56 2,cF 57 12 55 56,bn 58 1 57,a5 59 58,de 60 59 4] (.cond (.t 60) (rG [bF 10 1]) (.skip))) azR))))) ajB
def azS:ae:=mK 0x3360da ajC
def UK:ae:=sQ (ay [ab 20 8,ab 21 1,ab 22 2,cF 23 12 21 22,bn 24 2 23,a5 25 24,cX 26 25,wS 27 (bC .lss 20 26)] (cE 27 0)) azS
def ajD:ae:=ay [ab 82 0,ab 83 6,ab 84 7,bK 85 66 [82,83,84]] (ay [ab 86 7,cX 87 86,wS 88 (b7 .gtr 87 0),ab 89 88,wT 90 89 (bY 7),wT 91 89 (.gh 1 (.t 90) (ki 0)),wT 92 89 (dn 91),wT 93 89 (sf 92 3),wS 94 (eB 89 93),ab 12 94] (ay [ab 95 0,ab 96 1,ab 97 2,cF 98 12 96 97,bn 99 1 98,a5 100 99,ab 101 12,bK 102 82 [95,100,101],ab 13 102] (rG [ab 103 0,ab 104 0,dC 105 104,bn 106 0 105,bn 107 2 106,a5 108 107,ab 109 13,wS 110 (fU 1 [.t 109]),wS 111 (.append 1 24 (some (.t 0)) (.t 108) (.t 110)),dC 112 103,bn 113 0 112,bn 114 2 113,cU 1 114 111])))
def azT:ae:=mK 0x320da ajD
def Zx:ae:=sQ (ay [ab 65 1,ab 66 2,cF 67 12 65 66,bn 68 1 67,a5 69 68,de 70 69 5] (.cond (.t 70) (sQ (rS [ab 71 6,wS 72 (.gh 1 (.t 71) (ki 0)),a5 73 72,ab 74 6,wS 75 (.gh 1 (.t 74) (ki 0)),a5 76 75,ab 77 6,wS 78 (.gh 1 (.t 77) (ki 1)),a5 79 78,wS 80 (fU 1 [.t 73, .t 76, .t 79]),ab 6 80]) (rG [wS 81 (fU 1 [ki 1,ki 1,ki 1]),ab 7 81])) (.skip))) azT
def Zy:ae:=mK 0x320da Zx
def ajE:ae:=ay [ab 14 0,dC 15 14,bn 16 4 15,wN (.store 1 (.t 16) (.c (.sl 1 [] .nil)))] (ay [ab 17 0,dC 18 17,bn 19 5 18,wN (.store 1 (.t 19) (.c (.sl 1 [] .nil)))] (ay [wS 6 (.move (.c (.sl 1 [] .nil)))] (ay [wS 7 (.move (.c (.sl 1 [] .nil)))] (sQ (ay [bF 8 0] (bL 0 0x3360da UK)) Zy))))
def c47:bT:={np:=3,nt:=115,results:=[],aK:=false,body:=ajE}
def ajF:ae:=rG [ab 48 9,dG 49 48 1,ab 9 49]
def azU:ae:=mK 0x33538a ajF
def ajG:ae:=sQ (.block 1 (ay [bn 50 2 5,a5 51 50,ab 52 9,cF 53 1 51 52,a5 54 53,ab 10 54] (sQ (rS [ab 55 10,wS 56 (b7 .lss 55 0),ab 57 56,wF 58 57 (bY 10),wF 59 57 (bY 1),wF 60 57 (bC .geq 58 59),wS 61 (fH 57 60),ab 62 61,wF 63 62 (bY 0),wF 64 62 (bY 10),wF 65 62 (uh 12 63 64),wF 66 62 (dW 1 65),wF 67 62 (dn 66),wF 68 62 (.jI 85 [.t 67]),wF 69 62 (bY 6),wF 70 62 (bY 9),wF 71 62 (uh 1 69 70),wF 72 62 (dn 71),wF 73 62 (m9 84 [68,72]),wF 74 62 (.un .not (.t 73)),wS 75 (fH 62 74)]) (.cond (.t 75) (rR [wS 4 (dv false)]) (.skip))))) azU
def azV:ae:=mK 0x33538a ajG
def UL:ae:=sQ (ay [ab 44 9,ab 45 6,cX 46 45,wS 47 (bC .lss 44 46)] (cE 47 0)) azV
def ajH:ae:=rG [ab 79 11,dG 80 79 1,ab 11 80]
def azW:ae:=mK 0x35f1a ajH
def ajI:ae:=sQ (.block 3 (sQ (rS [ab 81 0,ab 82 11,cF 83 12 81 82,bn 84 0 83,a5 85 84,bn 86 0 5,a5 87 86,wS 88 (bC .eql 85 87)]) (.cond (.t 88) (rR [wS 4 (dv false)]) (.skip)))) azW
def azX:ae:=mK 0x35f1a ajI
def Kf:ae:=sQ (ay [ab 76 11,ab 77 1,wS 78 (bC .lss 76 77)] (cE 78 2)) azX
def Zz:ae:=ay [bn 131 3 5,wS 132 (fu 4 131),bK 133 87 [132],ab 134 133,wT 135 134 (dW 7 5),wT 136 134 (fu 4 135),wT 137 134 (m9 87 [136]),wS 138 (eB 134 137),ab 4 138] (.ret)
def aqI:ae:=mK 197 Zz
def ZA:ae:=sQ (ay [bn 109 1 5,a5 110 109] (.block 4 (ay [de 112 110 1,ab 111 112] (.cond (.t 111) (rR [bn 113 3 5,wS 114 (fu 4 113),bK 115 86 [114],ab 116 115,wT 117 116 (dW 7 5),wT 118 116 (fu 4 117),wT 119 116 (m9 86 [118]),wS 120 (eB 116 119),ab 4 120]) (ay [de 122 110 2,ab 121 122] (.cond (.t 121) (rR [bn 123 3 5,wS 124 (fu 4 123),bK 125 86 [124],ab 126 125,wT 127 126 (dW 7 5),wT 128 126 (fu 4 127),wT 129 126 (m9 87 [128]),wS 130 (eB 126 129),ab 4 130]) (.skip))))))) aqI
def aqJ:ae:=mK 197 ZA
def ZB:ae:=sQ (ay [ab 89 8,ab 90 89,wT 91 90 (dW 11 5),wT 92 90 (dn 91),wT 93 90 (b7 .neq 92 1),wS 94 (eB 90 93),ab 95 94,wT 96 95 (dW 11 5),wT 97 95 (dn 96),wT 98 95 (b7 .neq 97 2),wS 99 (eB 95 98),ab 100 99,wF 101 100 (bY 8),wF 102 100 (.un .not (.t 101)),wF 103 100 (bY 102),wT 104 103 (dW 11 5),wT 105 103 (dn 104),wT 106 103 (b7 .neq 105 0),wF 107 100 (eB 103 106),wS 108 (fH 100 107)] (.cond (.t 108) (rR [wS 4 (dv false)]) (.skip))) aqJ
def ZC:ae:=mK 13765 ZB
def ZD:ae:=sQ (ay [bF 11 0] (bL 2 0x35f1a Kf)) ZC
def ZE:ae:=mK 13770 ZD
def ZF:ae:=sQ (ay [bF 9 0] (bL 0 0x33538a UL)) ZE
def aqK:ae:=mK 0x335ca ZF
def ajJ:ae:=ay [wS 4 (dv false)] (ay [ab 12 0,ab 13 1,cF 14 12 12 13,wS 15 (fu 12 14),wS 5 (.alloc [.str [],kn 0, .sl 1 [] .nil, .bool false, .sl 1 [] .nil, .bool false, .sl 1 [] .nil, .bool false, .sl 1 [] .nil, .bool false, .sl 1 [] .nil,kn 0]),cU 12 5 15] (ay [bn 17 1 5,a5 18 17,bK 19 83 [18],ab 16 19,wS 20 (gm 16 0),wS 21 (gm 16 1),wS 22 (gm 16 2),ab 6 20,ab 7 21,ab 8 22] (sQ (ay [bn 23 1 5,a5 24 23,wS 25 (b7 .lss 24 1),ab 26 25,wF 27 26 (dW 1 5),wF 28 26 (dn 27),wF 29 26 (b7 .gtr 28 16),wS 30 (fH 26 29),ab 31 30,wF 32 31 (dW 2 5),wF 33 31 (dn 32),wF 34 31 (kv 33),wF 35 31 (bY 6),wF 36 31 (kv 35),wF 37 31 (bC .neq 34 36),wS 38 (fH 31 37),ab 39 38,wF 40 39 (dW 0 5),wF 41 39 (dn 40),wF 42 39 (.bin .eql (.t 41) (.c (.str []))),wS 43 (fH 39 42)] (.cond (.t 43) (rR [wS 4 (dv false)]) (.skip))) aqK)))
def CU:bT:={np:=2,nt:=139,results:=[.t 4],aK:=false,body:=ajJ}
def ajK:ae:=rG [ab 9 4,dG 10 9 1,ab 4 10]
def azY:ae:=mK 3382 ajK
def ajL:ae:=sQ (.block 1 (ay [ab 11 0,ab 12 4,cF 13 12 11 12,bn 14 1 13,a5 15 14] (.block 2 (ay [de 17 15 1,ab 16 17] (.cond (.t 16) (rG [ab 18 3,ab 19 4,wS 20 (.build [kn 0,kn 0] [(0,1, .t 19),(1,1, .c (.int .i64 0))]),ab 21 4,wS 22 (.build [kn 0,kn 0] [(0,1, .t 21),(1,1, .c (.int .i64 1))]),wS 23 (fU 2 [.t 20, .t 22]),wS 24 (.append 2 16 none (.t 18) (.t 23)),ab 3 24]) (ay [de 26 15 2,ab 25 26] (.cond (.t 25) (rG [ab 27 3,ab 28 4,wS 29 (.build [kn 0,kn 0] [(0,1, .t 28),(1,1, .c (.int .i64 0))]),wS 30 (fU 2 [.t 29]),wS 31 (.append 2 16 none (.t 27) (.t 30)),ab 3 31]) (.skip)))))))) azY
def azZ:ae:=mK 3382 ajL
def UM:ae:=sQ (ay [ab 5 4,ab 6 0,cX 7 6,wS 8 (bC .lss 5 7)] (cE 8 0)) azZ
def ajM:ae:=ay [ab 32 3,ab 2 32] (.ret)
def ajN:ae:=mK 53 ajM
def ajO:ae:=ay [wS 2 (.move (.c (.sl 2 [] .nil)))] (ay [wS 3 (.move (.c (.sl 2 [] .nil)))] (sQ (ay [bF 4 0] (bL 0 3382 UM)) ajN))
def c49:bT:={np:=1,nt:=33,results:=[.t 2],aK:=false,body:=ajO}
def ajQ:ae:=rG [ab 12 4,dG 13 12 1,ab 4 13]
def az0:ae:=mK 3382 ajQ
def ajR:ae:=sQ (.block 1 (ay [ab 15 0,ab 16 4,cF 17 12 15 16,bn 18 1 17,a5 19 18,bK 20 83 [19],ab 14 20,wS 21 (gm 14 0),wS 22 (gm 14 1),wS 23 (gm 14 2),ab 5 21,ab 6 22,ab 7 23] (ay [ab 24 7] (.cond (.t 24) (rG [ab 25 3,ab 26 4,wS 27 (fU 1 [.t 26]),wS 28 (.append 1 8 none (.t 25) (.t 27)),ab 3 28]) (.skip))))) az0
def az1:ae:=mK 3382 ajR
def UN:ae:=sQ (ay [ab 8 4,ab 9 0,cX 10 9,wS 11 (bC .lss 8 10)] (cE 11 0)) az1
def ajS:ae:=ay [ab 29 3,ab 2 29] (.ret)
def ajT:ae:=mK 53 ajS
def ajU:ae:=ay [wS 2 (.move (.c (.sl 1 [] .nil)))] (ay [wS 3 (.move (.c (.sl 1 [] .nil)))] (sQ (ay [bF 4 0] (bL 0 3382 UN)) ajT))
def c50:bT:={np:=1,nt:=30,results:=[.t 2],aK:=false,body:=ajU}
def az2:ae:=rG [ab 61 3,dG 62 61 1,ab 3 62]
def az3:ae:=mK 0x35503540d69 az2
def az4:ae:=sQ (ay [ab 47 3,bn 48 3 1,a5 49 48,cX 50 49,wS 51 (bC .eql 47 50),ab 52 51,wF 53 52 (dW 3 1),wF 54 52 (dn 53),wF 55 52 (bY 3),wF 56 52 (uh 1 54 55),wF 57 52 (dn 56),wF 58 52 (bY 4),wF 59 52 (bC .neq 57 58),wS 60 (fH 52 59)] (.cond (.t 60) (rR [bF 2 3]) (.skip))) az3
def az5:ae:=mK 0x35903540d69 az4
def az6:ae:=sQ (ay [bn 44 0 5,a5 45 44,wS 46 (b7 .neq 45 6)] (.cond (.t 46) (.exit 1) (.skip))) az5
def az7:ae:=mK 0x35903580d69 az6
def az8:ae:=rG [dG 63 33 1,ab 33 63]
def az9:ae:=mK 0x35503540d69 az8
def aAa:ae:=sQ (.block 1 (ay [ab 35 33,cF 36 3 31 33,wS 37 (fu 3 36),wS 5 (.alloc [kn 0,kn 0,kn 0]),ab 4 35,cU 3 5 37] (sQ (ay [wS 38 (fu 3 5),ab 39 4,bn 40 0 1,a5 41 40,bK 42 88 [38,39,41],wS 43 (.un .not (.t 42))] (.cond (.t 43) (rR [bF 2 3]) (.skip))) az7))) az9
def aqL:ae:=mK 0x35503540d69 aAa
def aqM:ae:=ay [wS 34 (bC .lss 33 32)] (sQ (cE 34 0) aqL)
def aqN:ae:=rG [dG 99 86 1,ab 86 99]
def aqO:ae:=mK 0x34d510d1435150d1440d459 aqN
def aqP:ae:=sQ (.block 5 (ay [cF 88 1 84 86,a5 89 88,ab 9 89] (ay [ab 90 9,wS 91 (b7 .lss 90 0),ab 92 91,wF 93 92 (bY 9),wF 94 92 (dW 1 1),wF 95 92 (dn 94),wF 96 92 (kv 95),wF 97 92 (bC .geq 93 96),wS 98 (fH 92 97)] (.cond (.t 98) (rR [bF 2 3]) (.skip))))) aqO
def aqQ:ae:=mK 0x34d510d1435150d1440d459 aqP
def aqR:ae:=ay [wS 87 (bC .lss 86 85)] (sQ (cE 87 4) aqQ)
def aqS:ae:=ay [ab 84 7,cX 85 84,bF 86 0] (bL 4 0x34d510d1435150d1440d459 aqR)
def aqT:ae:=mK 0xd510351500d499 aqS
def aqU:ae:=rG [dG 100 72 1,ab 72 100]
def aqV:ae:=mK 0xd510351500d459 aqU
def aqW:ae:=sQ (.block 3 (ay [cF 74 1 70 72,a5 75 74,ab 7 75] (sQ (ay [ab 76 7,cX 77 76,wS 78 (b7 .neq 77 3),ab 79 78,wT 80 79 (bY 7),wT 81 79 (kv 80),wT 82 79 (b7 .neq 81 7),wS 83 (eB 79 82)] (.cond (.t 83) (rR [bF 2 3]) (.skip))) aqT))) aqV
def aqX:ae:=mK 0xd510351500d459 aqW
def aqY:ae:=ay [wS 73 (bC .lss 72 71)] (sQ (cE 73 2) aqX)
def aqZ:ae:=ay [bF 2 0] (.ret)
def aq0:ae:=mK 0 aqZ
def aq1:ae:=sQ (ay [bn 69 2 1,a5 70 69,cX 71 70,bF 72 0] (bL 2 0xd510351500d459 aqY)) aq0
def aq2:ae:=mK 13 aq1
def aq3:ae:=sQ (ay [ab 64 3,bn 65 3 1,a5 66 65,cX 67 66,wS 68 (bC .neq 64 67)] (.cond (.t 68) (rR [bF 2 3]) (.skip))) aq2
def aq4:ae:=mK 57 aq3
def aq5:ae:=ay [bF 3 0] (sQ (ay [bn 30 1 1,a5 31 30,cX 32 31,bF 33 0] (bL 0 0x35503540d69 aqM)) aq4)
def aq6:ae:=mK 13 aq5
def aAb:ae:=ay [wS 1 (.dO (.t 0)),bF 2 0] (sQ (ay [bn 10 0 1,a5 11 10,wS 12 (b7 .lss 11 0),ab 13 12,wF 14 13 (dW 0 1),wF 15 13 (dn 14),wF 16 13 (b7 .gtr 15 20),wS 17 (fH 13 16),ab 18 17,wF 19 18 (dW 1 1),wF 20 18 (dn 19),wF 21 18 (kv 20),wF 22 18 (b7 .gtr 21 8192),wS 23 (fH 18 22),ab 24 23,wF 25 24 (dW 3 1),wF 26 24 (dn 25),wF 27 24 (kv 26),wF 28 24 (b7 .gtr 27 5),wS 29 (fH 24 28)] (.cond (.t 29) (rR [bF 2 3]) (.skip))) aq6)
def c52:bT:={np:=1,nt:=101,results:=[.t 2],aK:=false,body:=aAb}
def aAc:ae:=ay [bF 3 0] (rR [wS 4 (fu 3 1),ab 5 0,bK 6 18 [4,5],ab 3 6])
def c53:bT:={np:=2,nt:=7,results:=[.t 3],aK:=false,body:=aAc}
def aAd:ae:=ay [bF 5 0] (rR [wS 6 (fu 3 2),ab 7 0,ab 8 1,bK 9 24 [6,7,8],ab 5 9])
def c54:bT:={np:=3,nt:=10,results:=[.t 5],aK:=false,body:=aAd}
def aAe:ae:=ay [bF 5 0] (rR [wS 6 (fu 3 2),ab 7 0,ab 8 1,bK 9 26 [6,7,8],ab 5 9])
def c55:bT:={np:=3,nt:=10,results:=[.t 5],aK:=false,body:=aAe}
def aAf:ae:=ay [bF 5 0] (rR [wS 6 (fu 3 2),ab 7 0,ab 8 1,bK 9 28 [6,7,8],ab 5 9])
def c56:bT:={np:=3,nt:=10,results:=[.t 5],aK:=false,body:=aAf}
def aAg:ae:=ay [bF 5 0] (rR [wS 6 (fu 3 2),ab 7 0,ab 8 1,bK 9 30 [6,7,8],ab 5 9])
def c57:bT:={np:=3,nt:=10,results:=[.t 5],aK:=false,body:=aAg}
def ajW:ae:=ay [ab 13 0,ab 14 1,cF 15 12 13 14,bn 16 1 15,a5 17 16,bK 18 85 [17],ab 4 18,bF 5 0] (.ret)
def aAh:ae:=mK 14 ajW
def ajX:ae:=ay [bF 4 0,bF 5 0] (ay [ab 7 0,ab 8 1,bK 9 106 [7,8],ab 6 9] (sQ (ay [ab 10 6,wS 11 (b7 .neq 10 0)] (.cond (.t 11) (rR [ab 12 6,bF 4 0,ab 5 12]) (.skip))) aAh))
def M1:bT:={np:=2,nt:=19,results:=[.t 4, .t 5],aK:=false,body:=ajX}
def ajY:ae:=rG [ab 23 9,dG 24 23 1,ab 9 24]
def aAi:ae:=mK 0x33634da ajY
def ajZ:ae:=sQ (.block 3 (sQ (rS [ab 25 2,ab 26 9,cF 27 1 25 26,a5 28 27,ab 29 2,ab 30 6,cF 31 1 29 30,a5 32 31,wS 33 (bC .eql 28 32)]) (.cond (.t 33) (ay [ab 34 7,dG 35 34 1,ab 7 35] (ay [ab 36 9,ab 37 6,wS 38 (bC .lss 36 37)] (.cond (.t 38) (rG [ab 39 8,dG 40 39 1,ab 8 40]) (.skip)))) (.skip)))) aAi
def aAj:ae:=mK 0x33634da ajZ
def UO:ae:=sQ (ay [ab 19 9,ab 20 2,cX 21 20,wS 22 (bC .lss 19 21)] (cE 22 2)) aAj
def aj0:ae:=rG [ab 74 12,dG 75 74 1,ab 12 75]
def aAk:ae:=mK 0xec631a aj0
def aj1:ae:=sQ (.block 5 (rS [ab 76 0,ab 77 11,ab 78 12,cF 79 1 77 78,a5 80 79,ab 81 10,wS 82 (bC .add 80 81),ab 83 1,ab 84 6,cF 85 1 83 84,a5 86 85,ab 87 12,cF 88 1 86 87,a5 89 88,bK 90 107 [76,82,89]])) aAk
def aAl:ae:=mK 0xec631a aj1
def Kg:ae:=sQ (ay [ab 61 12,ab 62 1,ab 63 6,cF 64 1 62 63,a5 65 64,cX 66 65,wS 67 (bC .lss 61 66),ab 68 67,wT 69 68 (bY 12),wT 70 68 (bY 11),wT 71 68 (kv 70),wT 72 68 (bC .lss 69 71),wS 73 (eB 68 72)] (cE 73 4)) aAl
def ZG:ae:=ay [bF 12 0] (bL 4 0xec631a Kg)
def aq7:ae:=mK 0xe231a ZG
def ZH:ae:=sQ (ay [ab 55 2,ab 56 6,cF 57 1 55 56,a5 58 57,de 59 58 3] (.cond (.t 59) (rG [wS 60 (gL [(.str [117]),(.str [112]),(.str [113]),(.str [114]),(bi 2 0x6178),(bi 2 0x6179),(bi 2 0x617a)]),ab 11 60]) (.skip))) aq7
def aq8:ae:=mK 0xe231a ZH
def ZI:ae:=ay [wS 48 (gL [(.str [120]),(.str [121]),(.str [122])]),ab 11 48] (sQ (ay [ab 49 2,ab 50 6,cF 51 1 49 50,a5 52 51,de 53 52 2] (.cond (.t 53) (rG [wS 54 (gL [(.str [97]),(.str [98]),(.str [99])]),ab 11 54]) (.skip))) aq8)
def aq9:ae:=mK 3630 ZI
def ZJ:ae:=ay [wS 10 (.move (.c (.str [])))] (sQ (ay [ab 41 7,wS 42 (b7 .gtr 41 1)] (.cond (.t 42) (rG [ab 43 8,wS 44 (.bin .add (ki 48) (.t 43)),wS 45 (eJ .u8 44),wS 46 (fU 1 [.t 45]),wS 47 (.f6 (.t 46)),ab 10 47]) (.skip))) aq9)
def ZK:ae:=mK 0x3360da ZJ
def ZL:ae:=rG [ab 17 6,dG 18 17 1,ab 6 18]
def ZM:ae:=mK 814 ZL
def ZN:ae:=sQ (.block 1 (ay [bF 7 0] (ay [bF 8 1] (sQ (ay [bF 9 0] (bL 2 0x33634da UO)) ZK)))) ZM
def ara:ae:=mK 814 ZN
def Kh:ae:=sQ (ay [ab 13 6,ab 14 1,cX 15 14,wS 16 (bC .lss 13 15)] (cE 16 0)) ara
def aj2:ae:=ay [bF 6 0] (bL 0 814 Kh)
def c66:bT:={np:=3,nt:=91,results:=[],aK:=false,body:=aj2}
def aj3:ae:=rG [dG 69 44 1,ab 44 69]
def aAm:ae:=mK 0x3453449cd1e6 aj3
def aj4:ae:=sQ (.block 1 (ay [ab 46 44,cF 47 1 42 44,a5 48 47,ab 8 46,ab 9 48] (sQ (rS [ab 49 9,wS 50 (b7 .lss 49 0),ab 51 50,wF 52 51 (bY 9),wF 53 51 (bY 3),wF 54 51 (bC .geq 52 53),wS 55 (fH 51 54),ab 56 55,wF 57 56 (bY 5),wF 58 56 (bY 8),wF 59 56 (uh 1 57 58),wF 60 56 (dn 59),wF 61 56 (bY 0),wF 62 56 (bY 9),wF 63 56 (uh 12 61 62),wF 64 56 (fu 12 63),wF 65 56 (.jI 74 [.t 64]),wF 66 56 (m9 103 [60,65]),wF 67 56 (.un .not (.t 66)),wS 68 (fH 56 67)]) (.cond (.t 68) (rR [wS 2 (dv false)]) (.skip))))) aAm
def aAn:ae:=mK 0x3453449cd1e6 aj4
def UP:ae:=ay [wS 45 (bC .lss 44 43)] (sQ (cE 45 0) aAn)
def aj5:ae:=ay [ab 136 0,ab 137 3,wS 138 (.slice 12 (.t 136) none (some (.t 137)) none),wS 139 (.i5 119 [.t 4]),bK 140 118 [138,139],wS 141 (.un .not (.t 140)),ab 2 141] (.ret)
def aAo:ae:=mK 3382 aj5
def aj6:ae:=sQ (rS [bn 89 1 4,a5 90 89,de 91 90 1,ab 92 91,wF 93 92 (dW 1 4),wF 94 92 (dn 93),wF 95 92 (sf 94 2),wS 96 (fH 92 95),bn 97 1 4,a5 98 97,de 99 98 1,ab 10 96,ab 11 99]) (sQ (ay [ab 100 10,ab 101 100,wT 102 101 (dW 3 4),wT 103 101 (fu 4 102),wT 104 101 (m9 116 [103]),wT 105 101 (.un .not (.t 104)),wS 106 (eB 101 105),ab 107 106,wF 108 107 (bY 10),wF 109 107 (.un .not (.t 108)),wF 110 107 (bY 109),wT 111 110 (dW 3 4),wT 112 110 (fu 4 111),wT 113 110 (m9 117 [112]),wT 114 110 (.un .not (.t 113)),wF 115 107 (eB 110 114),wS 116 (fH 107 115),ab 117 116,wF 118 117 (bY 11),wF 119 117 (bY 118),wT 120 119 (dW 7 4),wT 121 119 (fu 4 120),wT 122 119 (m9 116 [121]),wT 123 119 (.un .not (.t 122)),wF 124 117 (eB 119 123),wS 125 (fH 117 124),ab 126 125,wF 127 126 (bY 11),wF 128 126 (.un .not (.t 127)),wF 129 126 (bY 128),wT 130 129 (dW 7 4),wT 131 129 (fu 4 130),wT 132 129 (m9 117 [131]),wT 133 129 (.un .not (.t 132)),wF 134 126 (eB 129 133),wS 135 (fH 126 134)] (.cond (.t 135) (rR [wS 2 (dv false)]) (.skip))) aAo)
def aAp:ae:=mK 3382 aj6
def ZO:ae:=sQ (ay [ab 70 7,bn 71 11 4,a5 72 71,de 73 72 1,ab 74 73,wF 75 74 (dW 11 4),wF 76 74 (dn 75),wF 77 74 (sf 76 2),wS 78 (fH 74 77),wS 79 (.eq true .bool (.t 70) (.t 78)),ab 80 79,wF 81 80 (bY 7),wF 82 80 (.un .not (.t 81)),wF 83 80 (bY 82),wT 84 83 (dW 11 4),wT 85 83 (dn 84),wT 86 83 (b7 .neq 85 0),wF 87 80 (eB 83 86),wS 88 (fH 80 87)] (.cond (.t 88) (rR [wS 2 (dv false)]) (.skip))) aAp
def ZP:ae:=mK 53478 ZO
def ZQ:ae:=sQ (ay [bn 41 2 4,a5 42 41,cX 43 42,bF 44 0] (bL 0 0x3453449cd1e6 UP)) ZP
def arc:ae:=mK 56550 ZQ
def aj7:ae:=ay [wS 2 (dv false)] (ay [ab 12 0,cX 13 12,wS 14 (b7 .sub 13 1),ab 3 14] (ay [ab 15 0,ab 16 3,cF 17 12 15 16,wS 18 (fu 12 17),wS 4 (.alloc [.str [],kn 0, .sl 1 [] .nil, .bool false, .sl 1 [] .nil, .bool false, .sl 1 [] .nil, .bool false, .sl 1 [] .nil, .bool false, .sl 1 [] .nil,kn 0]),cU 12 4 18] (ay [bn 20 1 4,a5 21 20,bK 22 115 [21],ab 19 22,wS 23 (gm 19 0),wS 24 (gm 19 1),wS 25 (gm 19 2),ab 5 23,ab 6 24,ab 7 25] (sQ (ay [ab 26 6,de 27 26 0,ab 28 27,wF 29 28 (bY 5),wF 30 28 (kv 29),wF 31 28 (dW 2 4),wF 32 28 (dn 31),wF 33 28 (kv 32),wF 34 28 (bC .neq 30 33),wS 35 (fH 28 34),ab 36 35,wF 37 36 (dW 0 4),wF 38 36 (dn 37),wF 39 36 (.bin .eql (.t 38) (.c (.str []))),wS 40 (fH 36 39)] (.cond (.t 40) (rR [wS 2 (dv false)]) (.skip))) arc))))
def Ii:bT:={np:=1,nt:=142,results:=[.t 2],aK:=false,body:=aj7}
def aj8:ae:=ay [wS 1 (.dO (.t 0)),wS 2 (dv false)] (ay [bn 7 1 1,a5 8 7,bK 9 115 [8],ab 6 9,wS 10 (gm 6 0),wS 11 (gm 6 1),wS 12 (gm 6 2),ab 3 10,ab 4 11,ab 5 12] (rR [ab 13 5,ab 2 13]))
def c71:bT:={np:=1,nt:=14,results:=[.t 2],aK:=false,body:=aj8}
def aka:ae:=rG [dG 31 8 1,ab 8 31]
def aAq:ae:=mK 0x3350e5 aka
def akb:ae:=sQ (.block 1 (ay [ab 10 8,cF 11 12 6 8,wS 12 (fu 12 11),wS 5 (.alloc [.str [],kn 0, .sl 1 [] .nil, .bool false, .sl 1 [] .nil, .bool false, .sl 1 [] .nil, .bool false, .sl 1 [] .nil, .bool false, .sl 1 [] .nil,kn 0]),ab 4 10,cU 12 5 12] (ay [bn 13 1 5,a5 14 13] (.block 2 (ay [de 16 14 1,ab 15 16] (.cond (.t 15) (rG [ab 17 3,ab 18 4,wS 19 (.build [kn 0,kn 0] [(0,1, .t 18),(1,1, .c (.int .i64 0))]),ab 20 4,wS 21 (.build [kn 0,kn 0] [(0,1, .t 20),(1,1, .c (.int .i64 1))]),wS 22 (fU 2 [.t 19, .t 21]),wS 23 (.append 2 16 none (.t 17) (.t 22)),ab 3 23]) (ay [de 25 14 2,ab 24 25] (.cond (.t 24) (rG [ab 26 3,ab 27 4,wS 28 (.build [kn 0,kn 0] [(0,1, .t 27),(1,1, .c (.int .i64 0))]),wS 29 (fU 2 [.t 28]),wS 30 (.append 2 16 none (.t 26) (.t 29)),ab 3 30]) (.skip))))))))) aAq
def aAr:ae:=mK 0x3350e5 akb
def UQ:ae:=ay [wS 9 (bC .lss 8 7)] (sQ (cE 9 0) aAr)
def akc:ae:=ay [ab 32 3,ab 2 32] (.ret)
def akd:ae:=mK 53 akc
def ake:ae:=ay [wS 2 (.move (.c (.sl 2 [] .nil)))] (ay [wS 3 (.move (.c (.sl 2 [] .nil)))] (sQ (ay [ab 6 0,cX 7 6,bF 8 0] (bL 0 0x3350e5 UQ)) akd))
def c72:bT:={np:=1,nt:=33,results:=[.t 2],aK:=false,body:=ake}
def akg:ae:=ay [bF 4 0] (.ret)
def aAs:ae:=mK 0 akg
def akh:ae:=sQ (ay [ab 11 1,wS 12 (b7 .lss 11 0),ab 13 12,wF 14 13 (bY 1),wF 15 13 (bY 0),wF 16 13 (kv 15),wF 17 13 (bC .geq 14 16),wS 18 (fH 13 17)] (.cond (.t 18) (rR [bF 4 1]) (.skip))) aAs
def aAt:ae:=mK 14 akh
def aki:ae:=ay [bF 4 0] (sQ (ay [ab 6 0,bK 7 42 [6],ab 5 7] (ay [ab 8 5,wS 9 (b7 .neq 8 0)] (.cond (.t 9) (rR [ab 10 5,ab 4 10]) (.skip)))) aAt)
def c73:bT:={np:=2,nt:=19,results:=[.t 4],aK:=false,body:=aki}
def akk:ae:=ay [wS 1 (.dO (.t 0)),bF 2 0] (ay [bn 7 1 1,a5 8 7,bK 9 115 [8],ab 6 9,wS 10 (gm 6 0),wS 11 (gm 6 1),wS 12 (gm 6 2),ab 3 10,ab 4 11,ab 5 12] (rR [ab 13 4,ab 2 13]))
def c74:bT:={np:=1,nt:=14,results:=[.t 2],aK:=false,body:=akk}
def akm:ae:=ay [wS 2 (.move (.c (.str [])))] (rR [ab 3 0,bK 4 120 [3],ab 2 4])
def c75:bT:={np:=1,nt:=5,results:=[.t 2],aK:=false,body:=akm}
def akn:ae:=ay [bF 8 0] (ay [ab 9 0,ab 10 0,dC 11 10,bn 12 0 11,bn 13 1 12,a5 14 13,ab 15 1,ab 16 2,ab 17 3,wS 18 (.build [kn 0,kn 0,kn 0] [(0,1, .t 15),(1,1, .t 16),(2,1, .t 17)]),wS 19 (fU 3 [.t 18]),wS 20 (.append 3 24 (some (.t 0)) (.t 14) (.t 19)),dC 21 9,bn 22 0 21,bn 23 1 22,cU 1 23 20] (rR [ab 24 0,dC 25 24,bn 26 0 25,bn 27 1 26,a5 28 27,cX 29 28,wS 30 (b7 .sub 29 1),ab 8 30]))
def c76:bT:={np:=4,nt:=31,results:=[.t 8],aK:=false,body:=akn}
def ako:ae:=ay [wS 2 (.dO (.t 0)),bF 4 0] (ay [ab 9 1,wS 10 (.build [.str [],kn 0] [(0,1, .t 9)]),wS 11 (.jE (.t 10)),wS 5 (.alloc [.iz]),cU 1 5 11] (ay [wS 6 (.alloc [.fR])] (ay [wS 12 (.i5 121 [.t 5, .t 6, .t 2]),wS 7 (.alloc [.fR]),cU 1 7 12] (ay [wS 13 (.i5 125 [.t 7, .t 5, .t 2]),wS 8 (.alloc [.fR]),cU 1 8 13] (ay [wS 14 (.i5 126 [.t 5, .t 2, .t 8]),cU 1 6 14] (rR [a5 15 6,wS 16 (.cV (.t 15) []),ab 4 16]))))))
def c77:bT:={np:=2,nt:=17,results:=[.t 4],aK:=false,body:=ako}
def aAx:ae:=ay [wS 0 (.move (.c (.sl 1 [] .nil)))] (rR [wS 1 (gL [(bi 13 0x7931207a32202d207a31207932),(bi 13 0x7a31207832202d207831207a32),(bi 13 0x7831207932202d207931207832)]),ab 0 1])
def c78:bT:={np:=0,nt:=2,results:=[.t 0],aK:=false,body:=aAx}
def aAy:ae:=rG [ab 9 4,dG 10 9 1,ab 4 10]
def aAz:ae:=mK 3382 aAy
def aAA:ae:=sQ (.block 1 (ay [ab 11 4,bK 12 75 [11],ab 5 12] (rG [ab 13 3,ab 14 5,wS 15 (.bin .add (.c (.str [115])) (.t 14)),ab 16 5,wS 17 (.bin .add (.c (.str [120])) (.t 16)),wS 18 (.bin .add (.t 17) (.c (bi 6 0x5e32202b2079))),ab 19 5,wS 20 (bC .add 18 19),wS 21 (.bin .add (.t 20) (.c (bi 2 0x5e32))),ab 22 5,wS 23 (.bin .add (.c (.str [102])) (.t 22)),ab 24 5,wS 25 (.bin .add (.c (.str [120])) (.t 24)),wS 26 (.bin .add (.t 25) (.c (bi 2 0x207a))),ab 27 5,wS 28 (bC .add 26 27),ab 29 5,wS 30 (.bin .add (.c (.str [103])) (.t 29)),ab 31 5,wS 32 (.bin .add (.c (.str [121])) (.t 31)),wS 33 (.bin .add (.t 32) (.c (bi 2 0x207a))),ab 34 5,wS 35 (bC .add 33 34),ab 36 5,wS 37 (.bin .add (.c (.str [104])) (.t 36)),ab 38 5,wS 39 (.bin .add (.c (.str [122])) (.t 38)),wS 40 (.bin .add (.t 39) (.c (bi 2 0x5e32))),wS 41 (fU 1 [.t 15, .t 21, .t 23, .t 28, .t 30, .t 35, .t 37, .t 40]),wS 42 (.append 1 16 none (.t 13) (.t 41)),ab 3 42]))) aAz
def aAB:ae:=mK 3382 aAA
def aAC:ae:=sQ (ay [ab 6 4,ab 7 0,wS 8 (bC .leq 6 7)] (cE 8 0)) aAB
def aAD:ae:=ay [ab 43 3,ab 2 43] (.ret)
def aAE:ae:=mK 53 aAD
def aAF:ae:=ay [wS 2 (.move (.c (.sl 1 [] .nil)))] (ay [wS 3 (.move (.c (.sl 1 [] .nil)))] (sQ (ay [bF 4 1] (bL 0 3382 aAC)) aAE))
def c79:bT:={np:=1,nt:=44,results:=[.t 2],aK:=false,body:=aAF}
def aAG:ae:=ay [wS 2 (.alloc [.sl 1 [] .nil, .sl 1 [] .nil])] (rR [ab 3 0,wS 4 (gL [(.str [110]),(bi 9 0x615e32202b20625e32),(.str [107]),(bi 17 0x3220752063202d20612070202d20622071),(.str [100]),(bi 17 0x705e32202b20715e32202d203420752072),(.str [115]),(bi 10 0x216e2064202d206b5e32)]),wS 5 (.append 1 16 none (.t 3) (.t 4)),wS 6 (gL [(bi 16 0x2d6e2070202d206b2061202d20732062),(bi 16 0x2d6e2071202d206b2062202b20732061),(bi 5 0x32206e2075)]),wS 7 (.build [.sl 1 [] .nil, .sl 1 [] .nil] [(0,1, .t 5),(1,1, .t 6)]),cU 2 2 7])
def c80:bT:={np:=1,nt:=8,results:=[.cell 2 (some 2)],aK:=true,body:=aAG}
def aAH:ae:=ay [wS 28 (gL [(bi 2 0x2d70),(bi 2 0x2d71),(bi 3 0x322075)]),wS 29 (.build [.sl 1 [] .nil, .sl 1 [] .nil] [(0,1, .c (.sl 1 [] .nil)),(1,1, .t 28)]),cU 2 2 29] (.ret)
def aAI:ae:=mK 49 aAH
def aAJ:ae:=ay [wS 2 (.alloc [.sl 1 [] .nil, .sl 1 [] .nil])] (sQ (ay [ab 3 0] (.block 0 (ay [de 5 3 10,ab 4 5] (.cond (.t 4) (rR [wS 6 (gL [(.str [111]),(.str [48])]),wS 7 (gL [(bi 9 0x79206f202d207a2062),(bi 9 0x7a2061202d2078206f),(bi 9 0x782062202d20792061)]),wS 8 (.build [.sl 1 [] .nil, .sl 1 [] .nil] [(0,1, .t 6),(1,1, .t 7)]),cU 2 2 8]) (ay [de 10 3 11,ab 9 10] (.cond (.t 9) (rR [wS 11 (gL [(.str [111]),(.str [48]),(.str [101]),(bi 5 0x6f202d2062)]),wS 12 (gL [(bi 9 0x79206f202d207a2061),(bi 9 0x7a2065202d2078206f),(bi 9 0x782061202d20792065)]),wS 13 (.build [.sl 1 [] .nil, .sl 1 [] .nil] [(0,1, .t 11),(1,1, .t 12)]),cU 2 2 13]) (ay [de 15 3 12,ab 14 15] (.cond (.t 14) (rR [wS 16 (gL [(bi 13 0x7831207a32202b207832207a31),(bi 13 0x7931207a32202b207932207a31),(bi 7 0x32207a31207a32)]),wS 17 (.build [.sl 1 [] .nil, .sl 1 [] .nil] [(0,1, .c (.sl 1 [] .nil)),(1,1, .t 16)]),cU 2 2 17]) (ay [de 19 3 13,ab 18 19] (.cond (.t 18) (rR [wS 20 (gL [(.str [110]),(bi 9 0x615e32202b20625e32),(.str [107]),(bi 15 0x612078202b20622079202b2063207a)]),wS 21 (gL [(bi 11 0x6e2078202d20322061206b),(bi 11 0x6e2079202d20322062206b),(bi 3 0x6e207a)]),wS 22 (.build [.sl 1 [] .nil, .sl 1 [] .nil] [(0,1, .t 20),(1,1, .t 21)]),cU 2 2 22]) (ay [de 24 3 14,ab 23 24] (.cond (.t 23) (rR [wS 25 (gL [(bi 2 0x7678),(bi 13 0x7831207a32202d207832207a31),(bi 2 0x7679),(bi 13 0x7931207a32202d207932207a31),(bi 2 0x7778),(bi 13 0x7833207a32202d207832207a33),(bi 2 0x7779),(bi 13 0x7933207a32202d207932207a33),(.str [118]),(bi 11 0x76785e32202b2076795e32),(.str [119]),(bi 11 0x77785e32202b2077795e32),(.str [115]),(bi 4 0x21762077),(bi 2 0x6478),(bi 11 0x77207678202b2073207778),(bi 2 0x6479),(bi 11 0x77207679202b2073207779)]),wS 26 (gL [(bi 6 0x2d7a32206479),(bi 5 0x7a32206478),(bi 13 0x7832206479202d207932206478)]),wS 27 (.build [.sl 1 [] .nil, .sl 1 [] .nil] [(0,1, .t 25),(1,1, .t 26)]),cU 2 2 27]) (.skip))))))))))))) aAI)
def c81:bT:={np:=1,nt:=30,results:=[.cell 2 (some 2)],aK:=false,body:=aAJ}
def akp:ae:=.cond (.t 28) (rR [ab 31 0,bK 32 129 [31],ab 6 32]) (ay [de 34 7 7,ab 33 34] (.cond (.t 33) (rR [ab 35 0,bK 36 130 [35],ab 6 36]) (ay [de 38 7 9,ab 37 38] (.cond (.t 37) (ay [ab 39 0,wS 40 (gL [(.str [97]),(bi 13 0x7532207031202d207531207032),(.str [98]),(bi 13 0x7532207131202d207531207132),(.str [99]),(bi 13 0x7532207231202d207531207232)]),bK 41 110 [39,40]] (ay [ab 42 0,wS 43 (gL [(.str [117]),(bi 2 0x7531),(.str [112]),(bi 2 0x7031),(.str [113]),(bi 2 0x7131),(.str [114]),(bi 2 0x7231)]),bK 44 110 [42,43]] (ay [ab 45 0,bK 46 131 [],bK 47 110 [45,46]] (rR [ab 48 0,bK 49 132 [],bK 50 108 [48,49],ab 6 50])))) (ay [de 52 7 8,ab 51 52] (.cond (.t 51) (ay [ab 53 0,bK 54 131 [],bK 55 110 [53,54]] (rR [ab 56 0,bK 57 132 [],bK 58 108 [56,57],ab 6 58])) (ay [de 60 7 10,ab 59 60] (.cond (.t 59) (ay [ab 61 0,wS 62 (gL [(.str [111]),(.str [48])]),bK 63 110 [61,62]] (rR [ab 64 0,wS 65 (gL [(bi 9 0x79206f202d207a2062),(bi 9 0x7a2061202d2078206f),(bi 9 0x782062202d20792061)]),bK 66 108 [64,65],ab 6 66])) (ay [de 68 7 11,ab 67 68] (.cond (.t 67) (ay [ab 69 0,wS 70 (gL [(.str [111]),(.str [48]),(.str [101]),(bi 5 0x6f202d2062)]),bK 71 110 [69,70]] (rR [ab 72 0,wS 73 (gL [(bi 9 0x79206f202d207a2061),(bi 9 0x7a2065202d2078206f),(bi 9 0x782061202d20792065)]),bK 74 108 [72,73],ab 6 74])) (ay [de 76 7 12,ab 75 76] (.cond (.t 75) (rR [ab 77 0,wS 78 (gL [(bi 13 0x7831207a32202b207832207a31),(bi 13 0x7931207a32202b207932207a31),(bi 7 0x32207a31207a32)]),bK 79 108 [77,78],ab 6 79]) (ay [de 81 7 13,ab 80 81] (.cond (.t 80) (ay [ab 82 0,wS 83 (gL [(.str [110]),(bi 9 0x615e32202b20625e32),(.str [107]),(bi 15 0x612078202b20622079202b2063207a)]),bK 84 110 [82,83]] (rR [ab 85 0,wS 86 (gL [(bi 11 0x6e2078202d20322061206b),(bi 11 0x6e2079202d20322062206b),(bi 3 0x6e207a)]),bK 87 108 [85,86],ab 6 87])) (ay [de 89 7 14,ab 88 89] (.cond (.t 88) (ay [ab 90 0,wS 91 (gL [(bi 2 0x7678),(bi 13 0x7831207a32202d207832207a31),(bi 2 0x7679),(bi 13 0x7931207a32202d207932207a31),(bi 2 0x7778),(bi 13 0x7833207a32202d207832207a33),(bi 2 0x7779),(bi 13 0x7933207a32202d207932207a33),(.str [118]),(bi 11 0x76785e32202b2076795e32),(.str [119]),(bi 11 0x77785e32202b2077795e32),(.str [115]),(bi 4 0x21762077),(bi 2 0x6478),(bi 11 0x77207678202b2073207778),(bi 2 0x6479),(bi 11 0x77207679202b2073207779)]),bK 92 110 [90,91]] (rR [ab 93 0,wS 94 (gL [(bi 6 0x2d7a32206479),(bi 5 0x7a32206478),(bi 13 0x7832206479202d207932206478)]),bK 95 108 [93,94],ab 6 95])) (ay [de 97 7 15,ab 96 97] (.cond (.t 96) (ay [ab 98 0,wS 99 (gL [(.str [97]),(bi 11 0x3220752078202b2070207a),(.str [98]),(bi 11 0x3220752079202b2071207a),(.str [99]),(bi 17 0x702078202b20712079202b20322072207a)]),bK 100 110 [98,99]] (ay [ab 101 0,bK 102 131 [],bK 103 110 [101,102]] (ay [ab 104 0,wS 105 (gL [(bi 2 0x7478),(bi 16 0x2d6e2070202d206b2061202d20732062),(bi 2 0x7479),(bi 16 0x2d6e2071202d206b2062202b20732061),(bi 2 0x747a),(bi 5 0x32206e2075)]),bK 106 110 [104,105]] (rR [ab 107 0,wS 108 (gL [(bi 13 0x322075207478202b207020747a),(bi 13 0x322075207479202b207120747a),(bi 20 0x70207478202b2071207479202b2032207220747a)]),bK 109 108 [107,108],ab 6 109])))) (.skip)))))))))))))))))))
def aAK:ae:=mK 0xc450d6 akp
def akq:ae:=.cond (.t 22) (rR [ab 25 0,bK 26 109 [],bK 27 108 [25,26],ab 6 27]) (sQ (ay [de 29 7 5,ab 28 29] (.cond (.t 28) (.skip) (rG [de 30 7 6,ab 28 30]))) aAK)
def aAL:ae:=mK 0xd110d6 akq
def akr:ae:=ay [ab 110 0,wS 111 (gL [(bi 2 0x2d70),(bi 2 0x2d71),(bi 3 0x322075)]),bK 112 108 [110,111],ab 6 112] (.ret)
def aks:ae:=mK 3 akr
def akt:ae:=ay [wS 6 (.move (.c (.sl 1 [] .nil)))] (sQ (ay [ab 7 1] (.block 0 (ay [de 9 7 1,ab 8 9] (.cond (.t 8) (ay [ab 10 0,wS 11 (.call 127 [.t 10, .c (bi 2 0x7878)])] (ay [ab 12 0,wS 13 (.call 127 [.t 12, .c (bi 2 0x7979)])] (rR [ab 14 0,wS 15 (gL [(bi 2 0x7878),(bi 2 0x7979),(.str [49])]),bK 16 108 [14,15],ab 6 16]))) (ay [de 18 7 2,ab 17 18] (.cond (.t 17) (rR [ab 19 0,ab 20 2,bK 21 128 [19,20],ab 6 21]) (sQ (ay [de 23 7 3,ab 22 23] (.cond (.t 22) (.skip) (rG [de 24 7 4,ab 22 24]))) aAL))))))) aks)
def c82:bT:={np:=3,nt:=113,results:=[.t 6],aK:=false,body:=akt}
def akv:ae:=.cond (.t 30) (rR [wS 33 (fU 1 [ki 1,ki 2]),ab 2 33,bF 3 2,wS 4 (dv false)]) (ay [de 35 5 12,ab 34 35] (.cond (.t 34) (rR [wS 36 (fU 1 [ki 1,ki 1]),ab 2 36,bF 3 1,wS 4 (dv false)]) (ay [de 38 5 13,ab 37 38] (.cond (.t 37) (rR [wS 39 (fU 1 [ki 1,ki 2]),ab 2 39,bF 3 1,wS 4 (dv false)]) (ay [de 41 5 14,ab 40 41] (.cond (.t 40) (rR [wS 42 (fU 1 [ki 1,ki 1,ki 1]),ab 2 42,bF 3 2,wS 4 (dv true)]) (ay [de 44 5 15,ab 43 44] (.cond (.t 43) (rR [wS 45 (fU 1 [ki 1,ki 3]),ab 2 45,bF 3 2,wS 4 (dv true)]) (ay [de 47 5 16,ab 46 47] (.cond (.t 46) (rR [wS 48 (fU 1 [ki 3]),ab 2 48,bF 3 1,wS 4 (dv false)]) (.skip)))))))))))
def aAM:ae:=mK 0x3111c5 akv
def akw:ae:=.cond (.t 20) (rR [wS 23 (fU 1 [ki 1,ki 1,ki 1]),ab 2 23,bF 3 3,wS 4 (dv false)]) (ay [de 25 5 8,ab 24 25] (.cond (.t 24) (rR [wS 26 (fU 1 [ki 2,ki 3]),ab 2 26,bF 3 1,wS 4 (dv true)]) (ay [de 28 5 9,ab 27 28] (.cond (.t 27) (rR [wS 29 (fU 1 [ki 3,ki 3]),ab 2 29,bF 3 1,wS 4 (dv true)]) (sQ (ay [de 31 5 10,ab 30 31] (.cond (.t 30) (.skip) (rG [de 32 5 11,ab 30 32]))) aAM)))))
def aAN:ae:=mK 0x345c5 akw
def akx:ae:=ay [wS 2 (.move (.c (.sl 1 [] .nil))),bF 3 0,wS 4 (dv false)] (.ret)
def aky:ae:=mK 0 akx
def akz:ae:=ay [wS 2 (.move (.c (.sl 1 [] .nil))),bF 3 0,wS 4 (dv false)] (sQ (ay [ab 5 0] (.block 0 (ay [de 7 5 1,ab 6 7] (.cond (.t 6) (rR [wS 2 (.move (.c (.sl 1 [] .nil))),bF 3 1,wS 4 (dv false)]) (ay [de 9 5 2,ab 8 9] (.cond (.t 8) (rR [wS 10 (fU 1 [ki 0]),ab 2 10,bF 3 1,wS 4 (dv false)]) (ay [de 12 5 3,ab 11 12] (.cond (.t 11) (rR [wS 13 (fU 1 [ki 1,ki 1]),ab 2 13,bF 3 2,wS 4 (dv false)]) (ay [de 15 5 4,ab 14 15] (.cond (.t 14) (rR [wS 16 (fU 1 [ki 2,ki 2]),ab 2 16,bF 3 1,wS 4 (dv false)]) (ay [de 18 5 5,ab 17 18] (.cond (.t 17) (rR [wS 19 (fU 1 [ki 1,ki 1]),ab 2 19,bF 3 3,wS 4 (dv false)]) (sQ (ay [de 21 5 6,ab 20 21] (.cond (.t 20) (.skip) (rG [de 22 5 7,ab 20 22]))) aAN))))))))))))) aky)
def Ki:bT:={np:=1,nt:=49,results:=[.t 2, .t 3, .t 4],aK:=false,body:=akz}
def akA:ae:=ay [ab 13 0,ab 14 1,wS 15 (bC .eql 13 14),ab 4 15] (.ret)
def aAO:ae:=mK 14 akA
def akB:ae:=ay [wS 4 (dv false)] (sQ (ay [ab 5 1,de 6 5 0] (.cond (.t 6) (rR [ab 7 0,de 8 7 2,ab 9 8,wF 10 9 (bY 0),wF 11 9 (sf 10 3),wS 12 (fH 9 11),ab 4 12]) (.skip))) aAO)
def c84:bT:={np:=2,nt:=16,results:=[.t 4],aK:=false,body:=akB}
def akC:ae:=ay [bF 2 0] (ay [ab 7 0,bK 8 83 [7],ab 6 8,wS 9 (gm 6 0),wS 10 (gm 6 1),wS 11 (gm 6 2),ab 3 9,ab 4 10,ab 5 11] (rR [ab 12 4,ab 2 12]))
def c85:bT:={np:=1,nt:=13,results:=[.t 2],aK:=false,body:=akC}
def akE:ae:=ay [bn 30 0 1,wS 31 (fu 2 30),bn 32 2 1,wS 33 (fu 2 32),bK 34 135 [31,33],ab 29 34,wS 35 (gm 29 0),wS 36 (gm 29 1),wS 5 (.alloc [.bool false, .sl 1 [] .nil]),cU 2 5 35,ab 6 36] (rR [wS 37 (fu 2 5),bK 38 136 [37],ab 2 38])
def aAP:ae:=mK 13 akE
def akF:ae:=ay [wS 1 (.dO (.t 0)),wS 2 (dv false)] (ay [bn 7 0 1,wS 8 (fu 2 7),bK 9 133 [8],ab 3 9] (ay [bn 10 2 1,wS 11 (fu 2 10),bK 12 133 [11],ab 4 12] (sQ (ay [ab 13 3,wS 14 (.un .not (.t 13)),ab 15 14,wF 16 15 (bY 4),wF 17 15 (.un .not (.t 16)),wS 18 (fH 15 17),ab 19 18,wF 20 19 (dW 2 1),wF 21 19 (dW 0 20),wF 22 19 (dn 21),wS 23 (fH 19 22),ab 24 23,wF 25 24 (dW 2 1),wF 26 24 (fu 2 25),wF 27 24 (m9 134 [26]),wS 28 (fH 24 27)] (.cond (.t 28) (rR [wS 2 (dv false)]) (.skip))) aAP)))
def c86:bT:={np:=1,nt:=39,results:=[.t 2],aK:=false,body:=akF}
def akG:ae:=ay [wS 1 (.dO (.t 0)),wS 2 (dv false)] (rR [wS 3 (fu 4 1),wS 4 (.build [.bool false, .sl 1 [] .nil, .bool false, .sl 1 [] .nil] []),bK 5 137 [3,4],ab 2 5])
def c87:bT:={np:=1,nt:=6,results:=[.t 2],aK:=false,body:=akG}
def aAR:ae:=.cond (.t 42) (rR [ab 46 7,bn 47 1 3,a5 48 47,wS 49 (.cV (.t 46) [.t 48]),ab 50 49,wT 51 50 (bY 7),wT 52 50 (dW 2 3),wT 53 50 (dn 52),wT 54 50 (.cV (.t 51) [.t 53]),wS 55 (eB 50 54),ab 6 55]) (ay [de 57 10 6,ab 56 57] (.cond (.t 56) (rR [ab 58 7,bn 59 1 3,a5 60 59,wS 61 (.cV (.t 58) [.t 60]),ab 62 61,wT 63 62 (dW 2 3),wT 64 62 (dn 63),wT 65 62 (sf 64 0),wS 66 (eB 62 65),ab 6 66]) (.skip)))
def aAS:ae:=mK 0x34910e5 aAR
def aAT:ae:=ay [wS 6 (dv false)] (.ret)
def aAU:ae:=mK 0 aAT
def aAV:ae:=ay [wS 3 (.dO (.t 0)),wS 4 (.dO (.t 1)),wS 6 (dv false)] (ay [wS 8 (.i5 138 [.t 4]),ab 7 8] (sQ (ay [bn 9 0 3,a5 10 9] (.block 0 (ay [de 12 10 1,ab 11 12] (.cond (.t 11) (rR [bn 13 1 3,a5 14 13,wS 15 (b7 .geq 14 0),ab 16 15,wT 17 16 (dW 1 3),wT 18 16 (dn 17),wT 19 16 (bY 2),wT 20 16 (bC .lss 18 19),wS 21 (eB 16 20),ab 22 21,wT 23 22 (dW 2 3),wT 24 22 (dn 23),wT 25 22 (sf 24 0),wS 26 (eB 22 25),ab 6 26]) (ay [de 28 10 2,ab 27 28] (.cond (.t 27) (rR [bn 29 1 3,a5 30 29,wS 31 (.bin .geq (.t 30) (.c (.int .i64 (-1000)))),ab 32 31,wT 33 32 (dW 1 3),wT 34 32 (dn 33),wT 35 32 (b7 .leq 34 1000),wS 36 (eB 32 35),ab 37 36,wT 38 37 (dW 2 3),wT 39 37 (dn 38),wT 40 37 (sf 39 0),wS 41 (eB 37 40),ab 6 41]) (sQ (ay [de 43 10 3,ab 42 43] (.cond (.t 42) (.skip) (ay [de 44 10 4,ab 42 44] (.cond (.t 42) (.skip) (rG [de 45 10 5,ab 42 45]))))) aAS))))))) aAU))
def c88:bT:={np:=3,nt:=67,results:=[.t 6],aK:=false,body:=aAV}
def ZR:ae:=ay [wS 4 (dv false)] (rR [ab 5 1,ab 6 0,wS 7 (bC .eql 5 6),ab 8 7,wF 9 8 (bY 0),wF 10 8 (sf 9 0),wF 11 8 (bY 10),wT 12 11 (bY 1),wT 13 11 (sf 12 2),wT 14 11 (bY 13),wF 15 14 (bY 1),wF 16 14 (sf 15 3),wT 17 11 (fH 14 16),wF 18 8 (eB 11 17),wS 19 (fH 8 18),ab 4 19])
def M2:bT:={np:=2,nt:=20,results:=[.t 4],aK:=false,body:=ZR}
def ZS:ae:=ay [ab 20 5,ab 4 20] (.ret)
def are:ae:=mK 197 ZS
def ZT:ae:=ay [bF 4 0] (ay [ab 6 0,bK 7 14 [6],ab 5 7] (sQ (ay [ab 8 5,de 9 8 0,ab 10 9,wT 11 10 (bY 1),wT 12 10 (b7 .lss 11 0),wT 13 10 (bY 12),wF 14 13 (bY 1),wF 15 13 (bY 0),wF 16 13 (kv 15),wF 17 13 (bC .geq 14 16),wT 18 10 (fH 13 17),wS 19 (eB 10 18)] (.cond (.t 19) (rR [bF 4 1]) (.skip))) are))
def ZU:bT:={np:=2,nt:=21,results:=[.t 4],aK:=false,body:=ZT}
def ZV:ae:=ay [ab 6 0,ab 7 0,dC 8 7,bn 9 4 8,a5 10 9,ab 11 1,wS 12 (fU 1 [.t 11]),wS 13 (.append 1 16 (some (.t 0)) (.t 10) (.t 12)),dC 14 6,bn 15 4 14,cU 1 15 13] (rG [ab 16 0,ab 17 0,dC 18 17,bn 19 5 18,a5 20 19,ab 21 2,wS 22 (fU 1 [.t 21]),wS 23 (.append 1 8 (some (.t 0)) (.t 20) (.t 22)),dC 24 16,bn 25 5 24,cU 1 25 23])
def akH:bT:={np:=3,nt:=26,results:=[],aK:=false,body:=ZV}
def ZW:ae:=rG [ab 12 6,dG 13 12 1,ab 6 13]
def arf:ae:=mK 12746 ZW
def ZX:ae:=sQ (.block 1 (ay [ab 14 0,ab 15 1,ab 16 6,cF 17 1 15 16,a5 18 17,bK 19 145 [14,18],ab 7 19] (rG [ab 20 5,ab 21 7,wS 22 (fU 1 [.t 21]),wS 23 (.append 1 8 none (.t 20) (.t 22)),ab 5 23]))) arf
def arh:ae:=mK 12746 ZX
def Kj:ae:=sQ (ay [ab 8 6,ab 9 1,cX 10 9,wS 11 (bC .lss 8 10)] (cE 11 0)) arh
def ZY:ae:=ay [ab 24 5,ab 4 24] (.ret)
def ZZ:ae:=mK 197 ZY
def Z0:ae:=ay [wS 4 (.move (.c (.sl 1 [] .nil)))] (ay [wS 5 (.move (.c (.sl 1 [] .nil)))] (sQ (ay [bF 6 0] (bL 0 12746 Kj)) ZZ))
def M3:bT:={np:=2,nt:=25,results:=[.t 4],aK:=false,body:=Z0}
def Z1:ae:=ay [wS 0 (.move (.c (.sl 1 [] .nil)))] (rR [wS 1 (gL [(bi 13 0x7931207a32202d207a31207932),(bi 13 0x7a31207832202d207831207a32),(bi 13 0x7831207932202d207931207832)]),ab 0 1])
def akI:bT:={np:=0,nt:=2,results:=[.t 0],aK:=false,body:=Z1}
def Z2:ae:=ay [ab 51 0,ab 52 1,ab 53 4,dG 54 53 1,cF 55 1 52 54,a5 56 55,bK 57 145 [51,56],ab 6 57] (rG [ab 58 0,ab 59 1,ab 60 4,cF 61 1 59 60,a5 62 61,ab 63 6,bK 64 107 [58,62,63]])
def ari:ae:=mK 222 Z2
def Z3:ae:=rG [ab 12 4,dG 13 12 2,ab 4 13]
def Z4:ae:=mK 222 Z3
def Z5:ae:=sQ (.block 1 (sQ (ay [ab 14 1,ab 15 4,dG 16 15 1,cF 17 1 14 16,a5 18 17,wS 19 (.cO (.t 18) (ki 0)),wS 20 (.bin .eql (.t 19) (.c (.int .u8 33)))] (.cond (.t 20) (ay [ab 21 0,ab 22 1,ab 23 4,dG 24 23 1,cF 25 1 22 24,a5 26 25,wS 27 (.gu (.t 26) (some (ki 1)) none),bK 28 145 [21,27],ab 5 28] (ay [ab 29 0,ab 30 5,wS 31 (.call 146 [.t 29,ki 6, .t 30,ki 0]),ab 5 31] (ay [ab 32 0,ab 33 0,dC 34 33,bn 35 0 34,bn 36 3 35,a5 37 36,ab 38 5,wS 39 (fU 1 [.t 38]),wS 40 (.append 1 8 (some (.t 0)) (.t 37) (.t 39)),dC 41 32,bn 42 0 41,bn 43 3 42,cU 1 43 40] (ay [ab 44 0,ab 45 1,ab 46 4,cF 47 1 45 46,a5 48 47,ab 49 5,bK 50 107 [44,48,49]] (.exit 1))))) (.skip))) ari)) Z4
def arj:ae:=mK 222 Z5
def Kk:ae:=sQ (ay [ab 7 4,dG 8 7 1,ab 9 1,cX 10 9,wS 11 (bC .lss 8 10)] (cE 11 0)) arj
def Z6:ae:=ay [bF 4 0] (bL 0 222 Kk)
def Z7:bT:={np:=2,nt:=65,results:=[],aK:=false,body:=Z6}
def Z8:ae:=rG [ab 9 4,dG 10 9 1,ab 4 10]
def ark:ae:=mK 222 Z8
def Z9:ae:=sQ (.block 1 (ay [ab 11 4,wS 12 (.bin .add (ki 48) (.t 11)),wS 13 (eJ .u8 12),wS 14 (fU 1 [.t 13]),wS 15 (.f6 (.t 14)),ab 5 15] (rG [ab 16 0,ab 17 5,wS 18 (.bin .add (.c (.str [115])) (.t 17)),ab 19 5,wS 20 (.bin .add (.c (.str [120])) (.t 19)),wS 21 (.bin .add (.t 20) (.c (bi 6 0x5e32202b2079))),ab 22 5,wS 23 (bC .add 21 22),wS 24 (.bin .add (.t 23) (.c (bi 2 0x5e32))),ab 25 5,wS 26 (.bin .add (.c (.str [102])) (.t 25)),ab 27 5,wS 28 (.bin .add (.c (.str [120])) (.t 27)),wS 29 (.bin .add (.t 28) (.c (bi 2 0x207a))),ab 30 5,wS 31 (bC .add 29 30),ab 32 5,wS 33 (.bin .add (.c (.str [103])) (.t 32)),ab 34 5,wS 35 (.bin .add (.c (.str [121])) (.t 34)),wS 36 (.bin .add (.t 35) (.c (bi 2 0x207a))),ab 37 5,wS 38 (bC .add 36 37),ab 39 5,wS 40 (.bin .add (.c (.str [104])) (.t 39)),ab 41 5,wS 42 (.bin .add (.c (.str [122])) (.t 41)),wS 43 (.bin .add (.t 42) (.c (bi 2 0x5e32))),wS 44 (fU 1 [.t 18, .t 24, .t 26, .t 31, .t 33, .t 38, .t 40, .t 43]),bK 45 110 [16,44]]))) ark
def arl:ae:=mK 222 Z9
def Kl:ae:=sQ (ay [ab 6 4,ab 7 1,wS 8 (bC .leq 6 7)] (cE 8 0)) arl
def aaa:ae:=ay [bF 4 1] (bL 0 222 Kl)
def aab:bT:={np:=2,nt:=46,results:=[],aK:=false,body:=aaa}
def aac:ae:=.cond (.t 30) (rR [wS 33 (fU 1 [ki 1,ki 2]),ab 2 33,bF 3 2,wS 4 (dv false)]) (ay [de 35 5 12,ab 34 35] (.cond (.t 34) (rR [wS 36 (fU 1 [ki 1,ki 1]),ab 2 36,bF 3 1,wS 4 (dv false)]) (ay [de 38 5 13,ab 37 38] (.cond (.t 37) (rR [wS 39 (fU 1 [ki 1,ki 2]),ab 2 39,bF 3 1,wS 4 (dv false)]) (ay [de 41 5 14,ab 40 41] (.cond (.t 40) (rR [wS 42 (fU 1 [ki 1,ki 1,ki 1]),ab 2 42,bF 3 2,wS 4 (dv true)]) (ay [de 44 5 15,ab 43 44] (.cond (.t 43) (rR [wS 45 (fU 1 [ki 1,ki 3]),ab 2 45,bF 3 2,wS 4 (dv true)]) (ay [de 47 5 16,ab 46 47] (.cond (.t 46) (rR [wS 48 (fU 1 [ki 3]),ab 2 48,bF 3 1,wS 4 (dv false)]) (.skip)))))))))))
def arm:ae:=mK 0x3111c5 aac
def aad:ae:=.cond (.t 20) (rR [wS 23 (fU 1 [ki 1,ki 1,ki 1]),ab 2 23,bF 3 3,wS 4 (dv false)]) (ay [de 25 5 8,ab 24 25] (.cond (.t 24) (rR [wS 26 (fU 1 [ki 2,ki 3]),ab 2 26,bF 3 1,wS 4 (dv true)]) (ay [de 28 5 9,ab 27 28] (.cond (.t 27) (rR [wS 29 (fU 1 [ki 3,ki 3]),ab 2 29,bF 3 1,wS 4 (dv true)]) (sQ (ay [de 31 5 10,ab 30 31] (.cond (.t 30) (.skip) (rG [de 32 5 11,ab 30 32]))) arm)))))
def arn:ae:=mK 0x345c5 aad
def aae:ae:=ay [wS 2 (.move (.c (.sl 1 [] .nil))),bF 3 0,wS 4 (dv false)] (.ret)
def aaf:ae:=mK 0 aae
def aag:ae:=ay [wS 2 (.move (.c (.sl 1 [] .nil))),bF 3 0,wS 4 (dv false)] (sQ (ay [ab 5 0] (.block 0 (ay [de 7 5 1,ab 6 7] (.cond (.t 6) (rR [wS 2 (.move (.c (.sl 1 [] .nil))),bF 3 1,wS 4 (dv false)]) (ay [de 9 5 2,ab 8 9] (.cond (.t 8) (rR [wS 10 (fU 1 [ki 0]),ab 2 10,bF 3 1,wS 4 (dv false)]) (ay [de 12 5 3,ab 11 12] (.cond (.t 11) (rR [wS 13 (fU 1 [ki 1,ki 1]),ab 2 13,bF 3 2,wS 4 (dv false)]) (ay [de 15 5 4,ab 14 15] (.cond (.t 14) (rR [wS 16 (fU 1 [ki 2,ki 2]),ab 2 16,bF 3 1,wS 4 (dv false)]) (ay [de 18 5 5,ab 17 18] (.cond (.t 17) (rR [wS 19 (fU 1 [ki 1,ki 1]),ab 2 19,bF 3 3,wS 4 (dv false)]) (sQ (ay [de 21 5 6,ab 20 21] (.cond (.t 20) (.skip) (rG [de 22 5 7,ab 20 22]))) arn))))))))))))) aaf)
def ET:bT:={np:=1,nt:=49,results:=[.t 2, .t 3, .t 4],aK:=false,body:=aag}
def aah:ae:=ay [bn 29 0 1,wS 30 (fu 2 29),bn 31 2 1,wS 32 (fu 2 31),bK 33 150 [30,32],ab 28 33,wS 34 (gm 28 0),wS 35 (gm 28 1),wS 3 (.alloc [.bool false, .sl 1 [] .nil]),cU 2 3 34,ab 4 35] (rR [wS 36 (fu 2 3),bK 37 149 [36],ab 2 37])
def aro:ae:=mK 13 aah
def aai:ae:=sQ (ay [bn 25 2 1,wS 26 (fu 2 25),bK 27 149 [26]] (.cond (.t 27) (rR [wS 2 (dv true)]) (.skip))) aro
def arp:ae:=mK 13 aai
def aaj:ae:=ay [wS 1 (.dO (.t 0)),wS 2 (dv false)] (sQ (ay [bn 5 0 1,wS 6 (fu 2 5),bK 7 147 [6],wS 8 (.un .not (.t 7)),ab 9 8,wF 10 9 (dW 2 1),wF 11 9 (fu 2 10),wF 12 9 (m9 147 [11]),wF 13 9 (.un .not (.t 12)),wS 14 (fH 9 13),ab 15 14,wF 16 15 (dW 2 1),wF 17 15 (dW 0 16),wF 18 15 (dn 17),wS 19 (fH 15 18),ab 20 19,wF 21 20 (dW 2 1),wF 22 20 (fu 2 21),wF 23 20 (m9 148 [22]),wS 24 (fH 20 23)] (.cond (.t 24) (rR [wS 2 (dv false)]) (.skip))) arp)
def M4:bT:={np:=1,nt:=38,results:=[.t 2],aK:=false,body:=aaj}
def aak:ae:=ay [wS 1 (.dO (.t 0)),wS 2 (dv false)] (rR [bn 3 0 1,bn 4 0 3,a5 5 4,wS 6 (.un .not (.t 5)),ab 7 6,wT 8 7 (dW 2 1),wT 9 7 (dW 0 8),wT 10 7 (dn 9),wT 11 7 (.un .not (.t 10)),wS 12 (eB 7 11),ab 13 12,wT 14 13 (dW 0 1),wT 15 13 (dW 1 14),wT 16 13 (dn 15),wT 17 13 (kv 16),wT 18 13 (sf 17 0),wS 19 (eB 13 18),ab 20 19,wT 21 20 (dW 2 1),wT 22 20 (dW 1 21),wT 23 20 (dn 22),wT 24 20 (kv 23),wT 25 20 (sf 24 0),wS 26 (eB 20 25),ab 2 26])
def akJ:bT:={np:=1,nt:=27,results:=[.t 2],aK:=false,body:=aak}
def aal:ae:=ay [wS 4 (dv false)] (rR [ab 5 0,ab 6 1,bK 7 151 [5,6],wS 8 (b7 .geq 7 0),ab 4 8])
def akK:bT:={np:=2,nt:=9,results:=[.t 4],aK:=false,body:=aal}
def aam:ae:=ay [wS 2 (.dO (.t 0)),wS 3 (dv false)] (rR [bn 4 0 2,a5 5 4,bn 6 0 1,a5 7 6,wS 8 (bC .eql 5 7),ab 3 8])
def akL:bT:={np:=2,nt:=9,results:=[.t 3],aK:=false,body:=aam}
def aan:ae:=ay [wS 2 (.move (.c (.str [])))] (rR [ab 3 0,wS 4 (.call 152 [.t 3,ki 10]),ab 2 4])
def akM:bT:={np:=1,nt:=5,results:=[.t 2],aK:=false,body:=aan}
def aao:ae:=ay [ab 81 4,ab 3 81] (.ret)
def arq:ae:=mK 209 aao
def aap:ae:=sQ (sQ (rS [a5 48 0,dC 49 48,bn 50 1 49,a5 51 50,a5 52 0,dC 53 52,bn 54 0 53,a5 55 54,wS 56 (.len true (.t 55)),wS 57 (bC .lss 51 56),ab 58 57,wT 59 58 (dn 0),wT 60 58 (oX 59),wT 61 58 (dW 0 60),wT 62 58 (dn 61),wT 63 58 (dn 0),wT 64 58 (oX 63),wT 65 58 (dW 1 64),wT 66 58 (dn 65),wT 67 58 (.cO (.t 62) (.t 66)),wT 68 58 (.bin .eql (.t 67) (.c (.int .u8 94))),wS 69 (eB 58 68)]) (.cond (.t 69) (ay [a5 70 0,dC 71 70,bn 72 1 71,a5 73 72,dG 74 73 2,dC 75 70,bn 76 1 75,cU 1 76 74] (rG [a5 77 2,ab 78 4,ab 79 4,wS 80 (.call 76 [.t 77,ki 5, .t 78, .t 79]),ab 4 80])) (.skip))) arq
def ars:ae:=mK 226 aap
def aaq:ae:=ay [bF 3 0] (ay [bF 4 0] (sQ (ay [a5 8 0,bK 9 122 [8],wS 10 (.bin .eql (.t 9) (.c (.int .u8 40)))] (.cond (.t 10) (ay [a5 11 0,dC 12 11,bn 13 1 12,a5 14 13,dG 15 14 1,dC 16 11,bn 17 1 16,cU 1 17 15] (ay [a5 18 1,wS 19 (.cV (.t 18) []),ab 4 19] (ay [a5 20 0,bK 21 122 [20]] (rG [a5 22 0,dC 23 22,bn 24 1 23,a5 25 24,dG 26 25 1,dC 27 22,bn 28 1 27,cU 1 28 26])))) (ay [a5 29 0,bK 30 123 [29],ab 5 30] (ay [ab 31 5,wS 32 (.cO (.t 31) (ki 0)),wS 33 (.bin .leq (.t 32) (.c (.int .u8 57)))] (.cond (.t 33) (ay [ab 35 5,bK 36 124 [35],ab 34 36,wS 37 (gm 34 0),wS 38 (gm 34 1),ab 6 37,ab 7 38] (rG [a5 39 2,ab 40 6,wS 41 (.call 76 [.t 39,ki 2, .t 40,ki 0]),ab 4 41])) (rG [a5 42 2,dC 43 42,bn 44 4 43,a5 45 44,ab 46 5,wS 47 (.lookup .str (.int .i64 0) false (.t 45) (.t 46)),ab 4 47])))))) ars))
def M5:bT:={np:=3,nt:=82,results:=[.t 3],aK:=false,body:=aaq}
def aar:ae:=.block 1 (rG [ab 25 0,dC 26 25,bn 27 1 26,a5 28 27,dG 29 28 1,dC 30 25,bn 31 1 30,cU 1 31 29])
def art:ae:=mK 3 aar
def Km:ae:=sQ (sQ (rS [ab 3 0,dC 4 3,bn 5 1 4,a5 6 5,ab 7 0,dC 8 7,bn 9 0 8,a5 10 9,wS 11 (.len true (.t 10)),wS 12 (bC .lss 6 11),ab 13 12,wT 14 13 (bY 0),wT 15 13 (oX 14),wT 16 13 (dW 0 15),wT 17 13 (dn 16),wT 18 13 (bY 0),wT 19 13 (oX 18),wT 20 13 (dW 1 19),wT 21 13 (dn 20),wT 22 13 (.cO (.t 17) (.t 21)),wT 23 13 (.bin .eql (.t 22) (.c (.int .u8 32))),wS 24 (eB 13 23)]) (cE 24 0)) art
def aas:ae:=sQ (rS [ab 42 0,dC 43 42,bn 44 0 43,a5 45 44,ab 46 0,dC 47 46,bn 48 1 47,a5 49 48,wS 50 (.cO (.t 45) (.t 49)),ab 2 50]) (.ret)
def aru:ae:=mK 3 aas
def aat:ae:=sQ (sQ (rS [ab 32 0,dC 33 32,bn 34 1 33,a5 35 34,ab 36 0,dC 37 36,bn 38 0 37,a5 39 38,wS 40 (.len true (.t 39)),wS 41 (bC .eql 35 40)]) (.cond (.t 41) (rR [wS 2 (.move (.c (.int .u8 0)))]) (.skip))) aru
def aau:ae:=mK 3 aat
def aav:ae:=ay [wS 2 (.move (.c (.int .u8 0)))] (sQ (bL 0 3 Km) aau)
def IY:bT:={np:=1,nt:=51,results:=[.t 2],aK:=false,body:=aav}
def aaw:ae:=rG [ab 44 0,dC 45 44,bn 46 1 45,a5 47 46,dG 48 47 1,dC 49 44,bn 50 1 49,cU 1 50 48]
def arv:ae:=mK 54 aaw
def aax:ae:=.block 1 (sQ (rS [ab 21 0,dC 22 21,bn 23 0 22,a5 24 23,ab 25 0,dC 26 25,bn 27 1 26,a5 28 27,wS 29 (.cO (.t 24) (.t 28)),ab 4 29]) (sQ (ay [ab 30 4,wS 31 (.bin .lss (.t 30) (.c (.int .u8 97))),ab 32 31,wF 33 32 (bY 4),wF 34 32 (.bin .gtr (.t 33) (.c (.int .u8 122))),wS 35 (fH 32 34),ab 36 35,wT 37 36 (bY 4),wT 38 36 (.bin .lss (.t 37) (.c (.int .u8 48))),wT 39 36 (bY 38),wF 40 39 (bY 4),wF 41 39 (.bin .gtr (.t 40) (.c (.int .u8 57))),wT 42 36 (fH 39 41),wS 43 (eB 36 42)] (.cond (.t 43) (.exit 0) (.skip))) arv))
def arw:ae:=mK 54 aax
def Kn:ae:=sQ (sQ (rS [ab 11 0,dC 12 11,bn 13 1 12,a5 14 13,ab 15 0,dC 16 15,bn 17 0 16,a5 18 17,wS 19 (.len true (.t 18)),wS 20 (bC .lss 14 19)]) (cE 20 0)) arw
def aay:ae:=sQ (rS [ab 51 0,dC 52 51,bn 53 0 52,a5 54 53,ab 55 3,ab 56 0,dC 57 56,bn 58 1 57,a5 59 58,wS 60 (.gu (.t 54) (some (.t 55)) (some (.t 59))),ab 2 60]) (.ret)
def aaz:ae:=mK 54 aay
def aaA:ae:=ay [wS 2 (.move (.c (.str [])))] (ay [ab 5 0,bK 6 122 [5]] (ay [ab 7 0,dC 8 7,bn 9 1 8,a5 10 9,ab 3 10] (sQ (bL 0 54 Kn) aaz)))
def M6:bT:={np:=1,nt:=61,results:=[.t 2],aK:=false,body:=aaA}
def aaB:ae:=ay [ab 17 4,ab 2 17,wS 3 (.move (.c .fa))] (.ret)
def arx:ae:=mK 209 aaB
def aaC:ae:=ay [bF 2 0,wS 3 (.move (.c .fa))] (ay [ab 7 0,bK 8 153 [7],ab 6 8,wS 9 (gm 6 0),wS 10 (gm 6 1),ab 4 9,ab 5 10] (sQ (ay [ab 11 5,wS 12 (.w7 true (.t 11))] (.cond (.t 12) (rR [ab 13 4,ab 14 0,ab 15 5,wS 16 (.call 154 [.c (bi 4 0x41746f69), .t 14,ki 0,ki 0, .t 15]),ab 2 13,ab 3 16]) (.skip))) arx))
def aaD:bT:={np:=1,nt:=18,results:=[.t 2, .t 3],aK:=false,body:=aaC}
def aaE:ae:=rG [a5 25 1,bK 26 122 [25],ab 5 26]
def ary:ae:=mK 238 aaE
def aaF:ae:=sQ (.block 1 (ay [a5 27 0,wS 28 (.cV (.t 27) []),ab 6 28] (rG [a5 29 2,ab 30 4,ab 31 6,wS 32 (.call 76 [.t 29,ki 5, .t 30, .t 31]),ab 4 32]))) ary
def arz:ae:=mK 238 aaF
def Ko:ae:=sQ (ay [ab 11 5,wS 12 (.bin .neq (.t 11) (.c (.int .u8 0))),ab 13 12,wT 14 13 (bY 5),wT 15 13 (.bin .neq (.t 14) (.c (.int .u8 43))),wS 16 (eB 13 15),ab 17 16,wT 18 17 (bY 5),wT 19 17 (.bin .neq (.t 18) (.c (.int .u8 45))),wS 20 (eB 17 19),ab 21 20,wT 22 21 (bY 5),wT 23 21 (.bin .neq (.t 22) (.c (.int .u8 41))),wS 24 (eB 21 23)] (cE 24 0)) arz
def aaG:ae:=ay [ab 33 4,ab 3 33] (.ret)
def aaH:ae:=mK 209 aaG
def aaI:ae:=ay [bF 3 0] (ay [a5 7 0,wS 8 (.cV (.t 7) []),ab 4 8] (sQ (ay [a5 9 1,bK 10 122 [9],ab 5 10] (bL 0 3786 Ko)) aaH))
def M7:bT:={np:=3,nt:=34,results:=[.t 3],aK:=false,body:=aaI}
def aaJ:ae:=rG [a5 49 1,ab 50 8,ab 51 4,ab 52 7,bK 53 76 [49,50,51,52],ab 4 53]
def arA:ae:=mK 0x3a0da aaJ
def aaK:ae:=rG [a5 36 0,bK 37 122 [36],ab 6 37]
def aaL:ae:=mK 238 aaK
def aaM:ae:=sQ (.block 1 (ay [a5 38 0,dC 39 38,bn 40 1 39,a5 41 40,dG 42 41 1,dC 43 38,bn 44 1 43,cU 1 44 42] (ay [a5 45 2,wS 46 (.cV (.t 45) []),ab 7 46] (ay [bF 8 3] (sQ (ay [ab 47 6,wS 48 (.bin .eql (.t 47) (.c (.int .u8 45)))] (.cond (.t 48) (rG [bF 8 4]) (.skip))) arA))))) aaL
def arB:ae:=mK 1006 aaM
def Kp:ae:=sQ (ay [ab 30 6,wS 31 (.bin .eql (.t 30) (.c (.int .u8 43))),ab 32 31,wF 33 32 (bY 6),wF 34 32 (.bin .eql (.t 33) (.c (.int .u8 45))),wS 35 (fH 32 34)] (cE 35 0)) arB
def aaN:ae:=ay [ab 54 4,ab 3 54] (.ret)
def aaO:ae:=mK 209 aaN
def M8:ae:=sQ (ay [a5 28 0,bK 29 122 [28],ab 6 29] (bL 0 1006 Kp)) aaO
def akN:ae:=mK 238 M8
def aaP:ae:=ay [bF 3 0] (ay [bF 4 0] (sQ (ay [a5 9 0,bK 10 122 [9],wS 11 (.bin .eql (.t 10) (.c (.int .u8 45)))] (.cond (.t 11) (ay [a5 12 0,dC 13 12,bn 14 1 13,a5 15 14,dG 16 15 1,dC 17 12,bn 18 1 17,cU 1 18 16] (ay [a5 19 1,wS 20 (.call 76 [.t 19,ki 2,ki 0,ki 0]),ab 5 20] (rS [a5 21 1,ab 22 5,a5 23 2,wS 24 (.lF [(none, .t 1)] (.t 23) []),wS 25 (.call 76 [.t 21,ki 4, .t 22, .t 24]),ab 4 25]))) (rG [a5 26 2,wS 27 (.cV (.t 26) []),ab 4 27]))) akN))
def IZ:bT:={np:=3,nt:=55,results:=[.t 3],aK:=false,body:=aaP}
def aaQ:ae:=ay [ab 5 0,ab 6 0,dC 7 6,bn 8 8 7,a5 9 8,wS 10 (.call 146 [.t 5,ki 1, .t 9,ki 0]),ab 4 10] (ay [ab 11 0,dC 12 11,bn 13 8 12,a5 14 13,dG 15 14 1,dC 16 11,bn 17 8 16,cU 1 17 15] (rG [ab 18 0,ab 19 1,ab 20 4,bK 21 107 [18,19,20]]))
def akO:bT:={np:=2,nt:=22,results:=[],aK:=false,body:=aaQ}
def aaR:ae:=ay [ab 15 0,wS 16 (gL [(.str [109]),(bi 7 0x31202b20745e32),(.str [107]),(bi 7 0x31202d20745e32),(bi 2 0x6478),(bi 13 0x322075206178202b207020617a),(bi 2 0x6479),(bi 13 0x322075206179202b207120617a)]),bK 17 110 [15,16]] (rR [ab 18 0,wS 19 (gL [(bi 23 0x2d7020617a206d202b206b206478202d20322074206479),(bi 23 0x2d7120617a206d202b20322074206478202b206b206479),(bi 8 0x32207520617a206d)]),bK 20 108 [18,19],ab 4 20])
def arC:ae:=mK 3 aaR
def aaS:ae:=ay [wS 4 (.move (.c (.sl 1 [] .nil)))] (ay [ab 5 0,wS 6 (.call 127 [.t 5, .c (.str [116])])] (sQ (ay [ab 7 1,wS 8 (.un .not (.t 7))] (.cond (.t 8) (ay [ab 9 0,wS 10 (gL [(.str [110]),(bi 9 0x615e32202b20625e32)]),bK 11 110 [9,10]] (rR [ab 12 0,wS 13 (gL [(bi 12 0x2d612063202d20742062206e),(bi 12 0x2d622063202b20742061206e),(.str [110])]),bK 14 108 [12,13],ab 4 14])) (.skip))) arC))
def aaT:bT:={np:=2,nt:=21,results:=[.t 4],aK:=false,body:=aaS}
def aaU:ae:=ay [wS 2 (.move (.c (.sl 1 [] .nil)))] (ay [ab 3 0,wS 4 (gL [(.str [119]),(bi 5 0x7a32207a33),(bi 2 0x6578),(bi 13 0x7833207a32202d207832207a33),(bi 2 0x6579),(bi 13 0x7933207a32202d207932207a33),(.str [100]),(bi 11 0x65785e32202b2065795e32),(.str [118]),(bi 3 0x775e32),(.str [103]),(bi 4 0x7a315e32)]),bK 5 110 [3,4]] (rR [ab 6 0,wS 7 (gL [(bi 3 0x672076),(bi 10 0x2d32207831207a312076),(bi 10 0x2d32207931207a312076),(bi 21 0x2878315e32202b2079315e32292076202d20672064),(bi 12 0x78312077202b207a31206578),(bi 12 0x79312077202b207a31206579),(bi 4 0x7a312077)]),bK 8 108 [6,7],ab 2 8]))
def akP:bT:={np:=1,nt:=9,results:=[.t 2],aK:=false,body:=aaU}
def aaV:ae:=ay [wS 2 (.move (.c (.sl 1 [] .nil)))] (ay [ab 3 0,wS 4 (.call 111 [.t 3,ki 3])] (rR [ab 5 0,wS 6 (gL [(bi 60 0x663120286732206833202d20683220673329202d20673120286632206833202d20683220663329202b20683120286632206733202d20673220663329),(bi 63 0x2d28733120286732206833202d20683220673329202d20673120287332206833202d20683220733329202b20683120287332206733202d2067322073332929),(bi 60 0x733120286632206833202d20683220663329202d20663120287332206833202d20683220733329202b20683120287332206633202d20663220733329),(bi 63 0x2d28733120286632206733202d20673220663329202d20663120287332206733202d20673220733329202b20673120287332206633202d2066322073332929),(bi 2 0x7831),(bi 2 0x7931),(bi 2 0x7a31)]),bK 7 108 [5,6],ab 2 7]))
def akQ:bT:={np:=1,nt:=8,results:=[.t 2],aK:=false,body:=aaV}
def aaW:ae:=ay [wS 0 (.move (.c (.sl 1 [] .nil)))] (rR [wS 1 (gL [(.str [110]),(bi 9 0x615e32202b20625e32),(.str [107]),(bi 17 0x3220752063202d20612070202d20622071),(.str [100]),(bi 17 0x705e32202b20715e32202d203420752072),(.str [115]),(bi 10 0x216e2064202d206b5e32)]),ab 0 1])
def akR:bT:={np:=0,nt:=2,results:=[.t 0],aK:=false,body:=aaW}
def aaX:ae:=ay [wS 0 (.move (.c (.sl 1 [] .nil)))] (rR [wS 1 (gL [(bi 16 0x2d6e2070202d206b2061202d20732062),(bi 16 0x2d6e2071202d206b2062202b20732061),(bi 5 0x32206e2075)]),ab 0 1])
def akS:bT:={np:=0,nt:=2,results:=[.t 0],aK:=false,body:=aaX}
def aaY:ae:=ay [bn 14 1 1,a5 15 14,bn 16 1 1,a5 17 16,cX 18 17,wS 19 (b7 .sub 18 1),cF 20 1 15 19,a5 21 20,wS 22 (jA .neq 21 0),ab 2 22] (.ret)
def arD:ae:=mK 13 aaY
def aaZ:ae:=sQ (ay [bn 7 1 1,a5 8 7,cX 9 8,de 10 9 0] (.cond (.t 10) (rR [bn 11 0 1,a5 12 11,wS 13 (.un .not (.t 12)),ab 2 13]) (.skip))) arD
def arE:ae:=mK 13 aaZ
def aa0:ae:=ay [wS 1 (.dO (.t 0)),wS 2 (dv false)] (sQ (ay [bn 3 1 1,a5 4 3,cX 5 4,wS 6 (b7 .gtr 5 128)] (.cond (.t 6) (rR [wS 2 (dv false)]) (.skip))) arE)
def M9:bT:={np:=1,nt:=23,results:=[.t 2],aK:=false,body:=aa0}
def aa1:ae:=ay [wS 1 (.dO (.t 0)),wS 2 (dv false)] (rR [bn 3 1 1,a5 4 3,cX 5 4,de 6 5 0,ab 2 6])
def akT:bT:={np:=1,nt:=7,results:=[.t 2],aK:=false,body:=aa1}
def aa2:ae:=.block 1 (rG [ab 51 8,dG 52 51 1,ab 8 52])
def arF:ae:=mK 0x3390d5 aa2
def Kq:ae:=sQ (ay [ab 41 6,ab 42 8,bK 43 157 [41,42],wS 44 (jA .eql 43 0),ab 45 44,wT 46 45 (bY 7),wT 47 45 (bY 8),wT 48 45 (m9 157 [46,47]),wT 49 45 (jA .eql 48 0),wS 50 (eB 45 49)] (cE 50 0)) arF
def aa3:ae:=rG [ab 68 6,ab 69 7,bK 70 160 [68,69],bK 71 158 [70],ab 6 71]
def arG:ae:=mK 0x3390d5 aa3
def aa4:ae:=.block 3 (sQ (ay [ab 61 6,ab 62 7,bK 63 159 [61,62],wS 64 (b7 .lss 63 0)] (.cond (.t 64) (ay [ab 65 6,ab 9 65] (ay [ab 66 7,ab 6 66] (rG [ab 67 9,ab 7 67]))) (.skip))) arG)
def arH:ae:=mK 0x3390d5 aa4
def Kr:ae:=sQ (ay [ab 57 6,ab 58 7,bK 59 159 [57,58],wS 60 (b7 .neq 59 0)] (cE 60 2)) arH
def aa5:ae:=ay [ab 72 6,ab 73 8,bK 74 161 [72,73],wS 75 (.call 155 [.c (.bool false), .t 74]),wS 76 (gm 75 0),wS 77 (gm 75 1),cU 2 4 76,ab 5 77] (.ret)
def Na:ae:=mK 13201 aa5
def Nb:ae:=ay [ab 53 6,bK 54 158 [53],ab 6 54] (ay [ab 55 7,bK 56 158 [55],ab 7 56] (sQ (bL 2 0x3390d5 Kr) Na))
def Nc:ae:=mK 0x3390d5 Nb
def Nd:ae:=ay [bF 8 0] (sQ (bL 0 0x3390d5 Kq) Nc)
def akU:ae:=mK 0x3d0d5 Nd
def Nf:ae:=ay [wS 19 (fU 1 []),bn 20 1 2,a5 21 20,wS 22 (.append 1 4 none (.t 19) (.t 21)),ab 6 22] (ay [wS 23 (fU 1 []),bn 24 1 3,a5 25 24,wS 26 (.append 1 4 none (.t 23) (.t 25)),ab 7 26] (sQ (ay [ab 27 6,cX 28 27,de 29 28 0,ab 30 29,wF 31 30 (bY 7),wF 32 30 (kv 31),wF 33 30 (sf 32 0),wS 34 (fH 30 33)] (.cond (.t 34) (rR [ab 35 6,ab 36 7,bK 37 156 [35,36],wS 38 (.call 155 [.c (.bool false), .t 37]),wS 39 (gm 38 0),wS 40 (gm 38 1),cU 2 4 39,ab 5 40]) (.skip))) akU))
def akV:ae:=mK 3637 Nf
def aa6:ae:=ay [wS 2 (.dO (.t 0)),wS 3 (.dO (.t 1)),wS 4 (.alloc [.bool false, .sl 1 [] .nil]),bF 5 0] (sQ (ay [wS 10 (fu 2 2),bK 11 133 [10],wS 12 (.un .not (.t 11)),ab 13 12,wF 14 13 (fu 2 3),wF 15 13 (m9 133 [14]),wF 16 13 (.un .not (.t 15)),wS 17 (fH 13 16)] (.cond (.t 17) (rR [wS 18 (.build [.bool false, .sl 1 [] .nil] []),cU 2 4 18,bF 5 1]) (.skip))) akV)
def yo:bT:={np:=2,nt:=78,results:=[.cell 4 (some 2), .t 5],aK:=false,body:=aa6}
def aa7:ae:=ay [wS 1 (.dO (.t 0)),wS 2 (dv false)] (rR [bn 3 0 1,a5 4 3,wS 5 (.un .not (.t 4)),ab 6 5,wT 7 6 (dW 1 1),wT 8 6 (dn 7),wT 9 6 (kv 8),wT 10 6 (sf 9 1),wS 11 (eB 6 10),ab 12 11,wT 13 12 (dW 1 1),wT 14 12 (dn 13),wT 15 12 (.gh 1 (.t 14) (ki 0)),wT 16 12 (dn 15),wT 17 12 (jA .eql 16 1),wS 18 (eB 12 17),ab 2 18])
def akW:bT:={np:=1,nt:=19,results:=[.t 2],aK:=false,body:=aa7}
def aa8:ae:=ay [wS 2 (.dO (.t 0)),wS 3 (.dO (.t 1)),wS 4 (dv false)] (ay [bn 7 0 2,wS 8 (fu 2 7),bn 9 0 3,wS 10 (fu 2 9),bK 11 162 [8,10],ab 5 11] (ay [bn 12 2 2,wS 13 (fu 2 12),bn 14 2 3,wS 15 (fu 2 14),bK 16 162 [13,15],ab 6 16] (rR [ab 17 5,ab 18 17,wT 19 18 (bY 6),wS 20 (eB 18 19),ab 4 20])))
def akX:bT:={np:=2,nt:=21,results:=[.t 4],aK:=false,body:=aa8}
def arI:ae:=ay [wS 3 (dv false)] (rR [ab 4 0,wS 5 (b7 .geq 4 0),ab 6 5,wT 7 6 (bY 0),wT 8 6 (dn 1),wT 9 6 (bC .lss 7 8),wS 10 (eB 6 9),ab 3 10])
def aD5:bT:={np:=2,nt:=11,results:=[.t 3],aK:=false,body:=arI}
def aa9:ae:=ay [bF 4 0] (ay [ab 5 0,ab 6 1,dC 7 5,bn 8 6 7,cU 1 8 6] (ay [ab 9 0,dC 10 9,bn 11 7 10,wN (.store 1 (.t 11) (ki 0))] (rR [ab 12 0,bK 13 168 [12],ab 4 13])))
def akY:bT:={np:=2,nt:=14,results:=[.t 4],aK:=false,body:=aa9}
def aba:ae:=ay [bF 8 0] (ay [ab 9 0,ab 10 0,dC 11 10,bn 12 0 11,bn 13 1 12,a5 14 13,ab 15 1,ab 16 2,ab 17 3,wS 18 (.build [kn 0,kn 0,kn 0] [(0,1, .t 15),(1,1, .t 16),(2,1, .t 17)]),wS 19 (fU 3 [.t 18]),wS 20 (.append 3 24 (some (.t 0)) (.t 14) (.t 19)),dC 21 9,bn 22 0 21,bn 23 1 22,cU 1 23 20] (rR [ab 24 0,dC 25 24,bn 26 0 25,bn 27 1 26,a5 28 27,cX 29 28,wS 30 (b7 .sub 29 1),ab 8 30]))
def akZ:bT:={np:=4,nt:=31,results:=[.t 8],aK:=false,body:=aba}
def abb:ae:=ay [ab 12 3,wS 13 (b7 .leq 12 128),ab 14 13,wT 15 14 (dW 1 1),wT 16 14 (dn 15),wT 17 14 (bY 3),wT 18 14 (b7 .sub 17 1),wT 19 14 (uh 1 16 18),wT 20 14 (dn 19),wT 21 14 (jA .neq 20 0),wS 22 (eB 14 21),ab 2 22] (.ret)
def arJ:ae:=mK 57 abb
def abc:ae:=ay [wS 1 (.dO (.t 0)),wS 2 (dv false)] (ay [bn 4 1 1,a5 5 4,cX 6 5,ab 3 6] (sQ (ay [ab 7 3,de 8 7 0] (.cond (.t 8) (rR [bn 9 0 1,a5 10 9,wS 11 (.un .not (.t 10)),ab 2 11]) (.skip))) arJ))
def abd:bT:={np:=1,nt:=23,results:=[.t 2],aK:=false,body:=abc}
def abe:ae:=ay [wS 1 (.dO (.t 0)),wS 2 (dv false)] (rR [bn 3 1 1,a5 4 3,cX 5 4,de 6 5 0,ab 2 6])
def ak0:bT:={np:=1,nt:=7,results:=[.t 2],aK:=false,body:=abe}
def abf:ae:=ay [wS 1 (.dO (.t 0)),wS 2 (dv false)] (rR [bn 3 0 1,a5 4 3,wS 5 (.un .not (.t 4)),ab 6 5,wT 7 6 (dW 1 1),wT 8 6 (dn 7),wT 9 6 (kv 8),wT 10 6 (sf 9 1),wS 11 (eB 6 10),ab 12 11,wT 13 12 (dW 1 1),wT 14 12 (dn 13),wT 15 12 (.gh 1 (.t 14) (ki 0)),wT 16 12 (dn 15),wT 17 12 (jA .eql 16 1),wS 18 (eB 12 17),ab 2 18])
def ak1:bT:={np:=1,nt:=19,results:=[.t 2],aK:=false,body:=abf}
def abg:ae:=.block 1 (ay [ab 35 6,ab 36 7,bK 37 170 [35,36],ab 34 37,wS 38 (gm 34 0),wS 39 (gm 34 1),ab 8 38,ab 9 39] (rG [ab 40 7,ab 41 9,ab 6 40,ab 7 41]))
def arK:ae:=mK 0x3d0d5 abg
def Ks:ae:=sQ (ay [ab 21 7,cX 22 21,wS 23 (b7 .gtr 22 0),ab 24 23,wT 25 24 (bY 6),wT 26 24 (kv 25),wT 27 24 (b7 .gtr 26 2),wT 28 24 (bY 27),wF 29 28 (bY 7),wF 30 28 (kv 29),wF 31 28 (b7 .gtr 30 2),wT 32 24 (fH 28 31),wS 33 (eB 24 32)] (cE 33 0)) arK
def abh:ae:=.block 3 (rS [ab 55 11,ab 56 10,ab 57 11,wS 58 (bC .rem 56 57),ab 10 55,ab 11 58])
def arL:ae:=mK 0xdd315 abh
def Kt:ae:=sQ (ay [ab 53 11,wS 54 (.bin .gtr (.t 53) (.c (.int .u64 0)))] (cE 54 2)) arL
def abi:ae:=ay [ab 59 10,wS 60 (eJ .u32 59),ab 61 10,wS 62 (.bin .shr (.t 61) (.c (.int .u64 32))),wS 63 (eJ .u32 62),wS 64 (fU 1 [.t 60, .t 63]),wS 65 (.call 171 [.c (.bool false), .t 64]),wS 66 (gm 65 0),wS 67 (gm 65 1),cU 2 4 66,ab 5 67] (.ret)
def abj:ae:=mK 3537 abi
def abk:ae:=ay [ab 49 6,bK 50 172 [49],ab 51 7,bK 52 172 [51],ab 10 50,ab 11 52] (sQ (bL 2 0xdd315 Kt) abj)
def ak2:ae:=mK 0x3d0d5 abk
def Ng:ae:=sQ (ay [ab 42 6,cX 43 42,wS 44 (b7 .gtr 43 2)] (.cond (.t 44) (rR [ab 45 6,wS 46 (.call 171 [.c (.bool false), .t 45]),wS 47 (gm 46 0),wS 48 (gm 46 1),cU 2 4 47,ab 5 48]) (.skip))) ak2
def Nh:ae:=mK 0x3d0d5 Ng
def Ni:ae:=sQ (rS [bn 17 1 2,a5 18 17,bn 19 1 3,a5 20 19,ab 6 18,ab 7 20]) (sQ (bL 0 0x3d0d5 Ks) Nh)
def ak3:ae:=mK 3637 Ni
def abl:ae:=ay [wS 2 (.dO (.t 0)),wS 3 (.dO (.t 1)),wS 4 (.alloc [.bool false, .sl 1 [] .nil]),bF 5 0] (sQ (ay [wS 12 (fu 2 2),wS 13 (fu 2 3),bK 14 169 [12,13],wS 15 (.un .not (.t 14))] (.cond (.t 15) (rR [wS 16 (.build [.bool false, .sl 1 [] .nil] []),cU 2 4 16,bF 5 1]) (.skip))) ak3)
def yp:bT:={np:=2,nt:=68,results:=[.cell 4 (some 2), .t 5],aK:=false,body:=abl}
def abm:ae:=rG [dG 18 8 1,ab 8 18]
def arM:ae:=mK 0x350da abm
def abn:ae:=sQ (.block 1 (ay [ab 10 8,ab 5 10] (ay [ab 11 1,ab 12 0,ab 13 5,cF 14 12 12 13,wS 15 (fu 12 14),wS 16 (.cV (.t 11) [.t 15])] (.cond (.t 16) (rR [ab 17 5,ab 4 17]) (.skip))))) arM
def arN:ae:=mK 0x350da abn
def Ku:ae:=ay [wS 9 (bC .lss 8 7)] (sQ (cE 9 0) arN)
def abo:ae:=ay [wS 4 (.move (.c (.int .i64 (-1))))] (.ret)
def abp:ae:=mK 0 abo
def abq:ae:=ay [bF 4 0] (sQ (ay [ab 6 0,cX 7 6,bF 8 0] (bL 0 0x350da Ku)) abp)
def Nj:bT:={np:=2,nt:=19,results:=[.t 4],aK:=false,body:=abq}
def arO:ae:=ay [ab 40 7,wS 41 (.bin .add (ki 1) (.t 40)),wS 42 (.kG 1 24 (.t 5) (some (ki 1)) (some (.t 41)) none),wS 43 (.f6 (.t 42)),ab 4 43] (.ret)
def arP:ae:=mK 3285 arO
def arQ:ae:=ay [ab 26 6,bK 27 164 [26],ab 7 27] (ay [ab 28 7,wS 29 (.bin .add (ki 1) (.t 28)),wS 30 (.kG 1 24 (.t 5) (some (ki 1)) (some (.t 29)) none),ab 31 6,bK 32 165 [30,31]] (sQ (ay [ab 33 0,wS 34 (b7 .lss 33 0)] (.cond (.t 34) (ay [wS 35 (.gz 1 24 (.t 5) (ki 0)),wN (.store 1 (.t 35) (.c (.int .u8 45)))] (rR [ab 36 7,wS 37 (.bin .add (ki 1) (.t 36)),wS 38 (.kG 1 24 (.t 5) none (some (.t 37)) none),wS 39 (.f6 (.t 38)),ab 4 39])) (.skip))) arP))
def arR:ae:=mK 12742 arQ
def abr:ae:=ay [wS 5 (.alloc [.int .u8 0, .int .u8 0, .int .u8 0, .int .u8 0, .int .u8 0, .int .u8 0, .int .u8 0, .int .u8 0, .int .u8 0, .int .u8 0, .int .u8 0, .int .u8 0, .int .u8 0, .int .u8 0, .int .u8 0, .int .u8 0, .int .u8 0, .int .u8 0, .int .u8 0, .int .u8 0, .int .u8 0, .int .u8 0, .int .u8 0, .int .u8 0])] (ay [ab 20 0,wS 21 (eJ .u64 20),ab 6 21] (sQ (ay [ab 22 0,wS 23 (b7 .lss 22 0)] (.cond (.t 23) (rG [ab 24 6,wS 25 (.un .neg (.t 24)),ab 6 25]) (.skip))) arR))
def arS:ae:=mK 3 abr
def abt:ae:=ay [ab 45 0,wS 46 (eJ .u64 45),ab 47 1,ab 48 0,wS 49 (b7 .lss 48 0),wS 50 (.call 166 [.c (.sl 1 [] .nil), .t 46, .t 47, .t 49, .c (.bool false)]),ab 44 50,wS 51 (gm 44 0),wS 52 (gm 44 1),ab 8 51,ab 9 52] (rR [ab 53 9,ab 4 53])
def abu:ae:=mK 14 abt
def abv:ae:=ay [wS 4 (.move (.c (.str [])))] (sQ (ay [ab 10 1,de 11 10 10] (.cond (.t 11) (sQ (ay [ab 12 0,wS 13 (.bin .leq (ki 0) (.t 12)),ab 14 13,wT 15 14 (bY 0),wT 16 14 (b7 .lss 15 100),wS 17 (eB 14 16)] (.cond (.t 17) (rR [ab 18 0,bK 19 163 [18],ab 4 19]) (.skip))) arS) (.skip))) abu)
def Nk:bT:={np:=2,nt:=54,results:=[.t 4],aK:=false,body:=abv}
def abw:ae:=rG [ab 58 6,wS 59 (b7 .mul 58 10),ab 60 8,wS 61 (eJ .i64 60),wS 62 (bC .add 59 61),ab 6 62]
def arT:ae:=mK 0x30c650c583155 abw
def abx:ae:=rG [dG 63 49 1,ab 49 63]
def aby:ae:=mK 0x30c550c583155 abx
def abz:ae:=sQ (.block 1 (ay [cF 51 1 47 49,a5 52 51,ab 8 52] (ay [ab 53 8,wS 54 (.bin .sub (.t 53) (.c (.int .u8 48))),ab 8 54] (sQ (ay [ab 55 8,wS 56 (.bin .gtr (.t 55) (.c (.int .u8 9)))] (.cond (.t 56) (rR [wS 57 (.dD 188 (ki 2)),bF 2 0,ab 3 57]) (.skip))) arT)))) aby
def arU:ae:=mK 0x30c550c583155 abz
def Kv:ae:=ay [wS 50 (bC .lss 49 48)] (sQ (cE 50 0) arU)
def abA:ae:=ay [ab 69 6,ab 2 69,wS 3 (.move (.c .fa))] (.ret)
def arV:ae:=mK 785 abA
def Nl:ae:=sQ (ay [ab 64 5,wS 65 (.cO (.t 64) (ki 0)),wS 66 (.bin .eql (.t 65) (.c (.int .u8 45)))] (.cond (.t 66) (rG [ab 67 6,wS 68 (.un .neg (.t 67)),ab 6 68]) (.skip))) arV
def Nm:ae:=mK 12741 Nl
def Nn:ae:=ay [bF 6 0] (sQ (ay [ab 46 0,wS 47 (.ji (.t 46)),cX 48 47,bF 49 0] (bL 0 0x30c550c583155 Kv)) Nm)
def ak4:ae:=mK 198 Nn
def No:ae:=ay [ab 71 0,wS 72 (.call 173 [.t 71,ki 10,ki 0]),ab 70 72,wS 73 (gm 70 0),wS 74 (gm 70 1),ab 9 73,ab 10 74] (rR [ab 75 9,ab 76 10,ab 2 75,ab 3 76])
def Np:ae:=mK 3 No
def abB:ae:=ay [bF 2 0,wS 3 (.move (.c .fa))] (ay [ab 11 0,wS 12 (.len true (.t 11)),ab 4 12] (sQ (ay [wS 13 (dv false),wT 14 13 (bY 4),wT 15 13 (.bin .lss (ki 0) (.t 14)),wT 16 13 (bY 15),wT 17 16 (bY 4),wT 18 16 (b7 .lss 17 10),wT 19 13 (eB 16 18),wS 20 (eB 13 19),ab 21 20,wF 22 21 (dv true),wT 23 22 (bY 4),wT 24 22 (.bin .lss (ki 0) (.t 23)),wT 25 22 (bY 24),wT 26 25 (bY 4),wT 27 25 (b7 .lss 26 19),wT 28 22 (eB 25 27),wF 29 21 (eB 22 28),wS 30 (fH 21 29)] (.cond (.t 30) (ay [ab 31 0,ab 5 31] (sQ (ay [ab 32 0,wS 33 (.cO (.t 32) (ki 0)),wS 34 (.bin .eql (.t 33) (.c (.int .u8 45))),ab 35 34,wF 36 35 (bY 0),wF 37 35 (.cO (.t 36) (ki 0)),wF 38 35 (.bin .eql (.t 37) (.c (.int .u8 43))),wS 39 (fH 35 38)] (.cond (.t 39) (ay [ab 40 0,wS 41 (.gu (.t 40) (some (ki 1)) none),ab 0 41] (ay [ab 42 0,wS 43 (.len true (.t 42)),wS 44 (b7 .lss 43 1)] (.cond (.t 44) (rR [wS 45 (.dD 188 (ki 2)),bF 2 0,ab 3 45]) (.skip)))) (.skip))) ak4)) (.skip))) Np))
def Nq:bT:={np:=1,nt:=77,results:=[.t 2, .t 3],aK:=false,body:=abB}
def arW:ae:=ay [ab 42 4,ab 10 42] (.ret)
def arX:ae:=mK 209 arW
def arY:ae:=ay [wS 10 (.move (.c .fa))] (sQ (ay [ab 11 4] (.block 0 (ay [wS 13 (.dD 188 (ki 2)),wS 14 (.eq false .iface (.t 11) (.t 13)),ab 12 14] (.cond (.t 12) (rR [ab 15 0,ab 16 1,bK 17 174 [15,16],wS 18 (.dD 191 (.t 17)),ab 10 18]) (ay [wS 20 (.dD 188 (ki 1)),wS 21 (.eq false .iface (.t 11) (.t 20)),ab 19 21] (.cond (.t 19) (rR [ab 22 0,ab 23 1,bK 24 175 [22,23],wS 25 (.dD 191 (.t 24)),ab 10 25]) (ay [wS 27 (.dD 188 (ki 3)),wS 28 (.eq false .iface (.t 11) (.t 27)),ab 26 28] (.cond (.t 26) (rR [ab 29 0,ab 30 1,ab 31 2,bK 32 176 [29,30,31],wS 33 (.dD 191 (.t 32)),ab 10 33]) (ay [wS 35 (.dD 188 (ki 4)),wS 36 (.eq false .iface (.t 11) (.t 35)),ab 34 36] (.cond (.t 34) (rR [ab 37 0,ab 38 1,ab 39 3,bK 40 177 [37,38,39],wS 41 (.dD 191 (.t 40)),ab 10 41]) (.skip))))))))))) arX)
def aD6:bT:={np:=5,nt:=43,results:=[.t 10],aK:=false,body:=arY}
def abC:ae:=ay [ab 12 0,ab 13 12,wT 14 13 (bY 1),wT 15 13 (kv 14),wT 16 13 (b7 .gtr 15 0),wS 17 (eB 13 16),wS 18 (fU 1 []),ab 19 1,wS 20 (.append 1 4 none (.t 18) (.t 19)),wS 21 (.build [.bool false, .sl 1 [] .nil] [(0,1, .t 17),(1,1, .t 20)]),cU 2 4 21,bF 5 0] (.ret)
def arZ:ae:=mK 222 abC
def abD:ae:=ay [wS 4 (.alloc [.bool false, .sl 1 [] .nil]),bF 5 0] (ay [ab 6 1,bK 7 178 [6],ab 1 7] (sQ (ay [ab 8 1,cX 9 8,wS 10 (b7 .gtr 9 128)] (.cond (.t 10) (rR [wS 11 (.build [.bool false, .sl 1 [] .nil] []),cU 2 4 11,bF 5 2]) (.skip))) arZ))
def abE:bT:={np:=2,nt:=22,results:=[.cell 4 (some 2), .t 5],aK:=false,body:=abD}
def abF:ae:=ay [ab 45 5,ab 46 7,ab 47 8,wS 48 (eJ .u32 47),cF 49 1 45 46,cU 1 49 48] (rG [ab 50 8,wS 51 (.bin .quo (.t 50) (.c (.int .u64 4294967296))),ab 6 51])
def ar0:ae:=mK 0x35cda abF
def abG:ae:=sQ (ay [ab 34 7,ab 35 1,cX 36 35,wS 37 (bC .lss 34 36)] (.cond (.t 37) (rG [ab 38 8,ab 39 1,ab 40 7,cF 41 1 39 40,a5 42 41,wS 43 (eJ .u64 42),wS 44 (bC .add 38 43),ab 8 44]) (.skip))) ar0
def ar1:ae:=mK 0x35cda abG
def abH:ae:=rG [ab 20 7,dG 21 20 1,ab 7 21]
def abI:ae:=mK 0x31cda abH
def abJ:ae:=sQ (.block 1 (ay [ab 22 6,ab 8 22] (sQ (ay [ab 23 7,ab 24 0,cX 25 24,wS 26 (bC .lss 23 25)] (.cond (.t 26) (rG [ab 27 8,ab 28 0,ab 29 7,cF 30 1 28 29,a5 31 30,wS 32 (eJ .u64 31),wS 33 (bC .add 27 32),ab 8 33]) (.skip))) ar1))) abI
def ar2:ae:=mK 0x31cda abJ
def Kw:ae:=sQ (ay [ab 16 7,ab 17 5,cX 18 17,wS 19 (bC .lss 16 18)] (cE 19 0)) ar2
def Nr:ae:=ay [ab 52 5,bK 53 178 [52],ab 4 53] (.ret)
def Ns:ae:=mK 197 Nr
def abK:ae:=ay [wS 4 (.move (.c (.sl 1 [] .nil)))] (ay [ab 9 0,cX 10 9,ab 11 1,cX 12 11,wS 13 (.max [.t 10, .t 12]),dG 14 13 1,wS 15 (.makeSlice [.int .u32 0] 4 (.t 14) (.t 14)),ab 5 15] (ay [wS 6 (.move (.c (.int .u64 0)))] (sQ (ay [bF 7 0] (bL 0 0x31cda Kw)) Ns)))
def Nt:bT:={np:=2,nt:=54,results:=[.t 4],aK:=false,body:=abK}
def abL:ae:=ay [ab 10 0,ab 11 1,wS 12 (b7 .quo 11 32),cF 13 1 10 12,a5 14 13,ab 15 1,wS 16 (b7 .rem 15 32),wS 17 (bC .shr 14 16),wS 18 (jA .and 17 1),ab 4 18] (.ret)
def ar3:ae:=mK 14 abL
def abM:ae:=ay [wS 4 (.move (.c (.int .u32 0)))] (sQ (ay [ab 5 1,wS 6 (b7 .quo 5 32),ab 7 0,cX 8 7,wS 9 (bC .geq 6 8)] (.cond (.t 9) (rR [wS 4 (.move (.c (.int .u32 0)))]) (.skip))) ar3)
def abN:bT:={np:=2,nt:=19,results:=[.t 4],aK:=false,body:=abM}
def abO:ae:=.block 1 (rG [ab 10 3,dG 11 10 1,ab 3 11])
def ar4:ae:=mK 54 abO
def Kx:ae:=sQ (ay [ab 6 0,ab 7 3,bK 8 157 [6,7],wS 9 (jA .eql 8 0)] (cE 9 0)) ar4
def abP:ae:=ay [ab 13 0,ab 14 3,bK 15 179 [13,14],ab 12 15,wS 16 (gm 12 0),wS 17 (gm 12 1),ab 4 16,ab 5 17] (rR [ab 18 4,ab 2 18])
def abQ:ae:=mK 54 abP
def abR:ae:=ay [wS 2 (.move (.c (.sl 1 [] .nil)))] (ay [bF 3 0] (sQ (bL 0 54 Kx) abQ))
def Nu:bT:={np:=1,nt:=19,results:=[.t 2],aK:=false,body:=abR}
def abS:ae:=ay [bF 4 1] (.ret)
def ar5:ae:=mK 0 abS
def abT:ae:=sQ (rS [ab 32 0,ab 33 5,cF 34 1 32 33,a5 35 34,ab 36 1,ab 37 5,cF 38 1 36 37,a5 39 38,wS 40 (bC .gtr 35 39)]) (.cond (.t 40) (rR [bF 4 1]) (.skip))
def ar6:ae:=mK 202 abT
def abU:ae:=rG [ab 21 5,wS 22 (b7 .sub 21 1),ab 5 22]
def abV:ae:=mK 202 abU
def abW:ae:=sQ (.block 1 (sQ (sQ (rS [ab 23 0,ab 24 5,cF 25 1 23 24,a5 26 25,ab 27 1,ab 28 5,cF 29 1 27 28,a5 30 29,wS 31 (bC .lss 26 30)]) (.cond (.t 31) (rR [wS 4 (.move (.c (.int .i64 (-1))))]) (.skip))) ar6)) abV
def ar7:ae:=mK 202 abW
def Ky:ae:=sQ (ay [ab 19 5,wS 20 (b7 .geq 19 0)] (cE 20 0)) ar7
def Nv:ae:=ay [bF 4 0] (.ret)
def Nw:ae:=mK 0 Nv
def Nx:ae:=sQ (ay [ab 16 0,cX 17 16,wS 18 (b7 .sub 17 1),ab 5 18] (bL 0 202 Ky)) Nw
def Ny:ae:=mK 14 Nx
def abX:ae:=ay [bF 4 0] (sQ (ay [ab 6 0,cX 7 6,ab 8 1,cX 9 8,wS 10 (bC .neq 7 9)] (.cond (.t 10) (sQ (ay [ab 11 0,cX 12 11,ab 13 1,cX 14 13,wS 15 (bC .lss 12 14)] (.cond (.t 15) (rR [wS 4 (.move (.c (.int .i64 (-1))))]) (.skip))) ar5) (.skip))) Ny)
def EU:bT:={np:=2,nt:=41,results:=[.t 4],aK:=false,body:=abX}
def abY:ae:=ay [ab 30 0,ab 31 7,cF 32 1 30 31,a5 33 32,wS 34 (eJ .u64 33),ab 35 8,wS 36 (bC .lss 34 35)] (.cond (.t 36) (ay [ab 37 5,ab 38 7,ab 39 0,ab 40 7,cF 41 1 39 40,a5 42 41,wS 43 (eJ .u64 42),wS 44 (.bin .add (.t 43) (.c (.int .u64 4294967296))),ab 45 8,wS 46 (bC .sub 44 45),wS 47 (eJ .u32 46),cF 48 1 37 38,cU 1 48 47] (rG [wS 6 (.move (.c (.int .u64 1)))])) (ay [ab 49 5,ab 50 7,ab 51 0,ab 52 7,cF 53 1 51 52,a5 54 53,wS 55 (eJ .u64 54),ab 56 8,wS 57 (bC .sub 55 56),wS 58 (eJ .u32 57),cF 59 1 49 50,cU 1 59 58] (rG [wS 6 (.move (.c (.int .u64 0)))])))
def ar8:ae:=mK 0x35cda abY
def abZ:ae:=rG [ab 16 7,dG 17 16 1,ab 7 17]
def ab0:ae:=mK 0x31cda abZ
def ab1:ae:=sQ (.block 1 (ay [ab 18 6,ab 8 18] (sQ (ay [ab 19 7,ab 20 1,cX 21 20,wS 22 (bC .lss 19 21)] (.cond (.t 22) (rG [ab 23 8,ab 24 1,ab 25 7,cF 26 1 24 25,a5 27 26,wS 28 (eJ .u64 27),wS 29 (bC .add 23 28),ab 8 29]) (.skip))) ar8))) ab0
def ar9:ae:=mK 0x31cda ab1
def Kz:ae:=sQ (ay [ab 12 7,ab 13 0,cX 14 13,wS 15 (bC .lss 12 14)] (cE 15 0)) ar9
def ab2:ae:=ay [ab 60 5,bK 61 178 [60],ab 4 61] (.ret)
def ab3:ae:=mK 197 ab2
def ab4:ae:=ay [wS 4 (.move (.c (.sl 1 [] .nil)))] (ay [ab 9 0,cX 10 9,wS 11 (.makeSlice [.int .u32 0] 4 (.t 10) (.t 10)),ab 5 11] (ay [wS 6 (.move (.c (.int .u64 0)))] (sQ (ay [bF 7 0] (bL 0 0x31cda Kz)) ab3)))
def Nz:bT:={np:=2,nt:=62,results:=[.t 4],aK:=false,body:=ab4}
def ab5:ae:=rG [ab 19 6,dG 20 19 1,ab 6 20]
def asa:ae:=mK 12746 ab5
def ab6:ae:=sQ (.block 1 (ay [ab 21 0,ab 22 6,cF 23 1 21 22,a5 24 23,wS 25 (eJ .u64 24),ab 26 1,wS 27 (b7 .rem 26 32),wS 28 (bC .shl 25 27),ab 7 28] (ay [ab 29 5,ab 30 6,ab 31 1,wS 32 (b7 .quo 31 32),wS 33 (bC .add 30 32),ab 34 5,ab 35 6,ab 36 1,wS 37 (b7 .quo 36 32),wS 38 (bC .add 35 37),cF 39 1 34 38,a5 40 39,ab 41 7,wS 42 (eJ .u32 41),wS 43 (bC .or 40 42),cF 44 1 29 33,cU 1 44 43] (rG [ab 45 5,ab 46 6,ab 47 1,wS 48 (b7 .quo 47 32),wS 49 (bC .add 46 48),dG 50 49 1,ab 51 7,wS 52 (.bin .quo (.t 51) (.c (.int .u64 4294967296))),wS 53 (eJ .u32 52),cF 54 1 45 50,cU 1 54 53])))) asa
def asb:ae:=mK 12746 ab6
def KA:ae:=sQ (ay [ab 15 6,ab 16 0,cX 17 16,wS 18 (bC .lss 15 17)] (cE 18 0)) asb
def ab7:ae:=ay [ab 55 5,bK 56 178 [55],ab 4 56] (.ret)
def ab8:ae:=mK 197 ab7
def ab9:ae:=ay [wS 4 (.move (.c (.sl 1 [] .nil)))] (ay [ab 8 0,cX 9 8,ab 10 1,wS 11 (b7 .quo 10 32),wS 12 (bC .add 9 11),dG 13 12 1,wS 14 (.makeSlice [.int .u32 0] 4 (.t 13) (.t 13)),ab 5 14] (sQ (ay [bF 6 0] (bL 0 12746 KA)) ab8))
def NA:bT:={np:=2,nt:=57,results:=[.t 4],aK:=false,body:=ab9}
def aca:ae:=rG [ab 25 5,dG 26 25 1,ab 5 26]
def asc:ae:=mK 1013 aca
def acb:ae:=sQ (.block 1 (sQ (rS [bn 27 1 2,a5 28 27,ab 29 5,cF 30 1 28 29,a5 31 30,bn 32 1 3,a5 33 32,ab 34 5,cF 35 1 33 34,a5 36 35,wS 37 (bC .neq 31 36)]) (.cond (.t 37) (rR [wS 4 (dv false)]) (.skip)))) asc
def asd:ae:=mK 1013 acb
def KE:ae:=sQ (ay [ab 20 5,bn 21 1 2,a5 22 21,cX 23 22,wS 24 (bC .lss 20 23)] (cE 24 0)) asd
def acd:ae:=ay [wS 4 (dv true)] (.ret)
def ace:ae:=mK 0 acd
def acf:ae:=sQ (ay [bF 5 0] (bL 0 1013 KE)) ace
def ase:ae:=mK 821 acf
def acg:ae:=ay [wS 2 (.dO (.t 0)),wS 3 (.dO (.t 1)),wS 4 (dv false)] (sQ (ay [bn 6 0 2,a5 7 6,bn 8 0 3,a5 9 8,wS 10 (.eq true .bool (.t 7) (.t 9)),ab 11 10,wF 12 11 (dW 1 2),wF 13 11 (dn 12),wF 14 11 (kv 13),wF 15 11 (dW 1 3),wF 16 11 (dn 15),wF 17 11 (kv 16),wF 18 11 (bC .neq 14 17),wS 19 (fH 11 18)] (.cond (.t 19) (rR [wS 4 (dv false)]) (.skip))) ase)
def I0:bT:={np:=2,nt:=38,results:=[.t 4],aK:=false,body:=acg}
def ach:ae:=ay [ab 9 0,wS 10 (b7 .mul 9 2),ab 11 0,wS 12 (b7 .mul 11 2),dG 13 12 2,wS 14 (.gu (.c (bi 200 0x3030303130323033303430353036303730383039313031313132313331343135313631373138313932303231323232333234323532363237323832393330333133323333333433353336333733383339343034313432343334343435343634373438343935303531353235333534353535363537353835393630363136323633363436353636363736383639373037313732373337343735373637373738373938303831383238333834383538363837383838393930393139323933393439353936393739383939)) (some (.t 10)) (some (.t 13))),ab 2 14] (.ret)
def asf:ae:=mK 3 ach
def aci:ae:=ay [wS 2 (.move (.c (.str [])))] (sQ (ay [ab 3 0,wS 4 (b7 .lss 3 10)] (.cond (.t 4) (rR [ab 5 0,ab 6 0,dG 7 6 1,wS 8 (.gu (.c (bi 36 0x303132333435363738396162636465666768696a6b6c6d6e6f707172737475767778797a)) (some (.t 5)) (some (.t 7))),ab 2 8]) (.skip))) asf)
def acj:bT:={np:=1,nt:=15,results:=[.t 2],aK:=false,body:=aci}
def asg:ae:=ay [bF 2 0] (ay [ab 4 0,bK 5 181 [4],bK 6 180 [5],ab 3 6] (rR [ab 7 3,ab 8 0,ab 9 3,wS 10 (.gz 1 20 (.g 0) (.t 9)),a5 11 10,wS 12 (bC .geq 8 11),bK 13 182 [12],wS 14 (bC .add 7 13),ab 2 14]))
def aD7:bT:={np:=1,nt:=15,results:=[.t 2],aK:=false,body:=asg}
def ash:ae:=.block 1 (ay [ab 21 1,wS 22 (.bin .rem (.t 21) (.c (.int .u64 100000000))),wS 23 (eJ .u32 22),ab 5 23] (ay [ab 24 1,wS 25 (.bin .quo (.t 24) (.c (.int .u64 100000000))),ab 1 25] (ay [ab 26 5,wS 27 (jA .quo 26 10000),ab 28 5,wS 29 (jA .rem 28 10000),ab 6 27,ab 7 29] (ay [ab 30 7,wS 31 (jA .quo 30 100),wS 32 (jA .mul 31 2),ab 33 7,wS 34 (jA .rem 33 100),wS 35 (jA .mul 34 2),ab 8 32,ab 9 35] (ay [ab 36 6,wS 37 (jA .quo 36 100),wS 38 (jA .mul 37 2),ab 39 6,wS 40 (jA .rem 39 100),wS 41 (jA .mul 40 2),ab 10 38,ab 11 41] (sQ (rS [ab 42 0,ab 43 4,wS 44 (b7 .sub 43 1),ab 45 0,ab 46 4,wS 47 (b7 .sub 46 2),ab 48 9,wS 49 (jA .add 48 1),wS 50 (sg (bi 200 0x3030303130323033303430353036303730383039313031313132313331343135313631373138313932303231323232333234323532363237323832393330333133323333333433353336333733383339343034313432343334343435343634373438343935303531353235333534353535363537353835393630363136323633363436353636363736383639373037313732373337343735373637373738373938303831383238333834383538363837383838393930393139323933393439353936393739383939) 49),ab 51 9,wS 52 (sg (bi 200 0x3030303130323033303430353036303730383039313031313132313331343135313631373138313932303231323232333234323532363237323832393330333133323333333433353336333733383339343034313432343334343435343634373438343935303531353235333534353535363537353835393630363136323633363436353636363736383639373037313732373337343735373637373738373938303831383238333834383538363837383838393930393139323933393439353936393739383939) 51),cF 53 1 42 44,cU 1 53 50,cF 54 1 45 47,cU 1 54 52]) (sQ (rS [ab 55 0,ab 56 4,wS 57 (b7 .sub 56 3),ab 58 0,ab 59 4,wS 60 (b7 .sub 59 4),ab 61 8,wS 62 (jA .add 61 1),wS 63 (sg (bi 200 0x3030303130323033303430353036303730383039313031313132313331343135313631373138313932303231323232333234323532363237323832393330333133323333333433353336333733383339343034313432343334343435343634373438343935303531353235333534353535363537353835393630363136323633363436353636363736383639373037313732373337343735373637373738373938303831383238333834383538363837383838393930393139323933393439353936393739383939) 62),ab 64 8,wS 65 (sg (bi 200 0x3030303130323033303430353036303730383039313031313132313331343135313631373138313932303231323232333234323532363237323832393330333133323333333433353336333733383339343034313432343334343435343634373438343935303531353235333534353535363537353835393630363136323633363436353636363736383639373037313732373337343735373637373738373938303831383238333834383538363837383838393930393139323933393439353936393739383939) 64),cF 66 1 55 57,cU 1 66 63,cF 67 1 58 60,cU 1 67 65]) (sQ (rS [ab 68 0,ab 69 4,wS 70 (b7 .sub 69 5),ab 71 0,ab 72 4,wS 73 (b7 .sub 72 6),ab 74 11,wS 75 (jA .add 74 1),wS 76 (sg (bi 200 0x3030303130323033303430353036303730383039313031313132313331343135313631373138313932303231323232333234323532363237323832393330333133323333333433353336333733383339343034313432343334343435343634373438343935303531353235333534353535363537353835393630363136323633363436353636363736383639373037313732373337343735373637373738373938303831383238333834383538363837383838393930393139323933393439353936393739383939) 75),ab 77 11,wS 78 (sg (bi 200 0x3030303130323033303430353036303730383039313031313132313331343135313631373138313932303231323232333234323532363237323832393330333133323333333433353336333733383339343034313432343334343435343634373438343935303531353235333534353535363537353835393630363136323633363436353636363736383639373037313732373337343735373637373738373938303831383238333834383538363837383838393930393139323933393439353936393739383939) 77),cF 79 1 68 70,cU 1 79 76,cF 80 1 71 73,cU 1 80 78]) (sQ (rS [ab 81 0,ab 82 4,wS 83 (b7 .sub 82 7),ab 84 0,ab 85 4,wS 86 (b7 .sub 85 8),ab 87 10,wS 88 (jA .add 87 1),wS 89 (sg (bi 200 0x3030303130323033303430353036303730383039313031313132313331343135313631373138313932303231323232333234323532363237323832393330333133323333333433353336333733383339343034313432343334343435343634373438343935303531353235333534353535363537353835393630363136323633363436353636363736383639373037313732373337343735373637373738373938303831383238333834383538363837383838393930393139323933393439353936393739383939) 88),ab 90 10,wS 91 (sg (bi 200 0x3030303130323033303430353036303730383039313031313132313331343135313631373138313932303231323232333234323532363237323832393330333133323333333433353336333733383339343034313432343334343435343634373438343935303531353235333534353535363537353835393630363136323633363436353636363736383639373037313732373337343735373637373738373938303831383238333834383538363837383838393930393139323933393439353936393739383939) 90),cF 92 1 81 83,cU 1 92 89,cF 93 1 84 86,cU 1 93 91]) (rG [ab 94 4,wS 95 (b7 .sub 94 8),ab 4 95]))))))))))
def asi:ae:=mK 222 ash
def asj:ae:=sQ (ay [ab 19 4,wS 20 (b7 .geq 19 8)] (cE 20 0)) asi
def asl:ae:=ay [ab 160 4,wS 161 (b7 .gtr 160 0)] (.cond (.t 161) (rG [ab 162 0,ab 163 12,wS 164 (.bin .add (.c (.int .u32 48)) (.t 163)),wS 165 (eJ .u8 164),wS 166 (.gh 1 (.t 162) (ki 0)),cU 1 166 165]) (.skip))
def asm:ae:=mK 3218 asl
def asn:ae:=sQ (ay [ab 138 4,wS 139 (b7 .geq 138 2)] (.cond (.t 139) (ay [ab 140 12,wS 141 (jA .rem 140 100),wS 142 (jA .mul 141 2),ab 16 142] (ay [ab 143 12,wS 144 (jA .quo 143 100),ab 12 144] (sQ (rS [ab 145 0,ab 146 4,wS 147 (b7 .sub 146 1),ab 148 0,ab 149 4,wS 150 (b7 .sub 149 2),ab 151 16,wS 152 (jA .add 151 1),wS 153 (sg (bi 200 0x3030303130323033303430353036303730383039313031313132313331343135313631373138313932303231323232333234323532363237323832393330333133323333333433353336333733383339343034313432343334343435343634373438343935303531353235333534353535363537353835393630363136323633363436353636363736383639373037313732373337343735373637373738373938303831383238333834383538363837383838393930393139323933393439353936393739383939) 152),ab 154 16,wS 155 (sg (bi 200 0x3030303130323033303430353036303730383039313031313132313331343135313631373138313932303231323232333234323532363237323832393330333133323333333433353336333733383339343034313432343334343435343634373438343935303531353235333534353535363537353835393630363136323633363436353636363736383639373037313732373337343735373637373738373938303831383238333834383538363837383838393930393139323933393439353936393739383939) 154),cF 156 1 145 147,cU 1 156 153,cF 157 1 148 150,cU 1 157 155]) (rG [ab 158 4,wS 159 (b7 .sub 158 2),ab 4 159])))) (.skip))) asm
def aso:ae:=mK 3218 asn
def asp:ae:=ay [ab 96 1,wS 97 (eJ .u32 96),ab 12 97] (sQ (ay [ab 98 4,wS 99 (b7 .geq 98 4)] (.cond (.t 99) (ay [ab 100 12,wS 101 (jA .rem 100 10000),ab 13 101] (ay [ab 102 12,wS 103 (jA .quo 102 10000),ab 12 103] (ay [ab 104 13,wS 105 (jA .quo 104 100),wS 106 (jA .mul 105 2),ab 107 13,wS 108 (jA .rem 107 100),wS 109 (jA .mul 108 2),ab 14 106,ab 15 109] (sQ (rS [ab 110 0,ab 111 4,wS 112 (b7 .sub 111 1),ab 113 0,ab 114 4,wS 115 (b7 .sub 114 2),ab 116 15,wS 117 (jA .add 116 1),wS 118 (sg (bi 200 0x3030303130323033303430353036303730383039313031313132313331343135313631373138313932303231323232333234323532363237323832393330333133323333333433353336333733383339343034313432343334343435343634373438343935303531353235333534353535363537353835393630363136323633363436353636363736383639373037313732373337343735373637373738373938303831383238333834383538363837383838393930393139323933393439353936393739383939) 117),ab 119 15,wS 120 (sg (bi 200 0x3030303130323033303430353036303730383039313031313132313331343135313631373138313932303231323232333234323532363237323832393330333133323333333433353336333733383339343034313432343334343435343634373438343935303531353235333534353535363537353835393630363136323633363436353636363736383639373037313732373337343735373637373738373938303831383238333834383538363837383838393930393139323933393439353936393739383939) 119),cF 121 1 110 112,cU 1 121 118,cF 122 1 113 115,cU 1 122 120]) (sQ (rS [ab 123 0,ab 124 4,wS 125 (b7 .sub 124 3),ab 126 0,ab 127 4,wS 128 (b7 .sub 127 4),ab 129 14,wS 130 (jA .add 129 1),wS 131 (sg (bi 200 0x3030303130323033303430353036303730383039313031313132313331343135313631373138313932303231323232333234323532363237323832393330333133323333333433353336333733383339343034313432343334343435343634373438343935303531353235333534353535363537353835393630363136323633363436353636363736383639373037313732373337343735373637373738373938303831383238333834383538363837383838393930393139323933393439353936393739383939) 130),ab 132 14,wS 133 (sg (bi 200 0x3030303130323033303430353036303730383039313031313132313331343135313631373138313932303231323232333234323532363237323832393330333133323333333433353336333733383339343034313432343334343435343634373438343935303531353235333534353535363537353835393630363136323633363436353636363736383639373037313732373337343735373637373738373938303831383238333834383538363837383838393930393139323933393439353936393739383939) 132),cF 134 1 123 125,cU 1 134 131,cF 135 1 126 128,cU 1 135 133]) (rG [ab 136 4,wS 137 (b7 .sub 136 4),ab 4 137])))))) (.skip))) aso)
def asq:ae:=mK 222 asp
def asr:ae:=ay [ab 17 0,cX 18 17,ab 4 18] (sQ (bL 0 222 asj) asq)
def aD8:bT:={np:=2,nt:=167,results:=[],aK:=false,body:=asr}
def ass:ae:=.block 1 (ay [ab 47 13,wS 48 (b7 .sub 47 1),ab 13 48] (ay [ab 49 13,ab 50 1,ab 51 16,wS 52 (bC .and 50 51),wS 53 (sg (bi 36 0x303132333435363738396162636465666768696a6b6c6d6e6f707172737475767778797a) 52),wS 54 (.gz 1 65 (.t 12) (.t 49)),cU 1 54 53] (rG [ab 55 1,ab 56 14,wS 57 (bC .shr 55 56),ab 1 57])))
def ast:ae:=mK 0x3dcd9c736a ass
def asu:ae:=sQ (ay [ab 44 1,ab 45 15,wS 46 (bC .geq 44 45)] (cE 46 0)) ast
def asv:ae:=ay [ab 58 13,wS 59 (b7 .sub 58 1),ab 13 59] (rG [ab 60 13,ab 61 1,wS 62 (sg (bi 36 0x303132333435363738396162636465666768696a6b6c6d6e6f707172737475767778797a) 61),wS 63 (.gz 1 65 (.t 12) (.t 60)),cU 1 63 62])
def asw:ae:=mK 0xdc9c72a asv
def asx:ae:=.block 3 (ay [ab 69 13,wS 70 (b7 .sub 69 1),ab 13 70] (ay [ab 71 1,ab 72 17,wS 73 (bC .quo 71 72),ab 18 73] (ay [ab 74 13,ab 75 1,ab 76 18,ab 77 17,wS 78 (bC .mul 76 77),wS 79 (bC .sub 75 78),wS 80 (sg (bi 36 0x303132333435363738396162636465666768696a6b6c6d6e6f707172737475767778797a) 79),wS 81 (.gz 1 65 (.t 12) (.t 74)),cU 1 81 80] (rG [ab 82 18,ab 1 82]))))
def asy:ae:=mK 0xdc9cd72a asx
def asz:ae:=sQ (ay [ab 66 1,ab 67 17,wS 68 (bC .geq 66 67)] (cE 68 2)) asy
def asA:ae:=ay [ab 83 13,wS 84 (b7 .sub 83 1),ab 13 84] (rG [ab 85 13,ab 86 1,wS 87 (sg (bi 36 0x303132333435363738396162636465666768696a6b6c6d6e6f707172737475767778797a) 86),wS 88 (.gz 1 65 (.t 12) (.t 85)),cU 1 88 87])
def ak5:ae:=mK 0xdc9c72a asA
def ak6:ae:=ay [ab 99 13,wS 100 (.kG 1 65 (.t 12) (some (.t 99)) none none),wS 101 (.f6 (.t 100)),ab 11 101] (.ret)
def ak7:ae:=mK 0xdc5c45 ak6
def ak8:ae:=sQ (ay [ab 94 4] (.cond (.t 94) (rR [ab 95 0,ab 96 13,wS 97 (.kG 1 65 (.t 12) (some (.t 96)) none none),wS 98 (.append 1 1 none (.t 95) (.t 97)),ab 10 98]) (.skip))) ak7
def ak9:ae:=mK 0xdc9c716 ak8
def ala:ae:=sQ (ay [ab 89 3] (.cond (.t 89) (ay [ab 90 13,wS 91 (b7 .sub 90 1),ab 13 91] (rG [ab 92 13,wS 93 (.gz 1 65 (.t 12) (.t 92)),wN (.store 1 (.t 93) (.c (.int .u8 45)))])) (.skip))) ak9
def alb:ae:=mK 0xdc9c726 ala
def alc:ae:=sQ (ay [ab 33 2,bK 34 183 [33]] (.cond (.t 34) (ay [ab 35 2,wS 36 (eJ .u64 35),bK 37 184 [36],wS 38 (eJ .u64 37),ab 14 38] (ay [ab 39 2,wS 40 (eJ .u64 39),ab 15 40] (ay [ab 41 2,wS 42 (eJ .u64 41),wS 43 (.bin .sub (.t 42) (.c (.int .u64 1))),ab 16 43] (sQ (bL 0 0x3dcd9c736a asu) asw)))) (ay [ab 64 2,wS 65 (eJ .u64 64),ab 17 65] (sQ (bL 2 0xdc9cd72a asz) ak5)))) alb
def ald:ae:=mK 0xdcac72a alc
def ale:ae:=ay [wS 12 (.alloc [.int .u8 0, .int .u8 0, .int .u8 0, .int .u8 0, .int .u8 0, .int .u8 0, .int .u8 0, .int .u8 0, .int .u8 0, .int .u8 0, .int .u8 0, .int .u8 0, .int .u8 0, .int .u8 0, .int .u8 0, .int .u8 0, .int .u8 0, .int .u8 0, .int .u8 0, .int .u8 0, .int .u8 0, .int .u8 0, .int .u8 0, .int .u8 0, .int .u8 0, .int .u8 0, .int .u8 0, .int .u8 0, .int .u8 0, .int .u8 0, .int .u8 0, .int .u8 0, .int .u8 0, .int .u8 0, .int .u8 0, .int .u8 0, .int .u8 0, .int .u8 0, .int .u8 0, .int .u8 0, .int .u8 0, .int .u8 0, .int .u8 0, .int .u8 0, .int .u8 0, .int .u8 0, .int .u8 0, .int .u8 0, .int .u8 0, .int .u8 0, .int .u8 0, .int .u8 0, .int .u8 0, .int .u8 0, .int .u8 0, .int .u8 0, .int .u8 0, .int .u8 0, .int .u8 0, .int .u8 0, .int .u8 0, .int .u8 0, .int .u8 0, .int .u8 0, .int .u8 0])] (ay [bF 13 65] (sQ (ay [ab 30 3] (.cond (.t 30) (rG [ab 31 1,wS 32 (.un .neg (.t 31)),ab 1 32]) (.skip))) ald))
def alf:ae:=mK 0xde32a ale
def asB:ae:=ay [wS 10 (.move (.c (.sl 1 [] .nil))),wS 11 (.move (.c (.str [])))] (sQ (ay [ab 19 2,wS 20 (b7 .lss 19 2),ab 21 20,wF 22 21 (bY 2),wF 23 21 (sf 22 10),wS 24 (fH 21 23),ab 25 24,wF 26 25 (bY 2),wF 27 25 (b7 .gtr 26 36),wS 28 (fH 25 27)] (.cond (.t 28) (rG [wS 29 (.dD 9 (.c (bi 41 0x737472636f6e763a20696c6c6567616c20417070656e64496e742f466f726d6174496e742062617365))),wN (.no)]) (.skip))) alf)
def aD9:bT:={np:=5,nt:=102,results:=[.t 10, .t 11],aK:=false,body:=asB}
def ack:ae:=ay [ab 38 0,bK 39 188 [38],ab 10 39] (rG [ab 40 0,ab 41 3,ab 42 10,wS 43 (.call 146 [.t 40,ki 4, .t 41, .t 42]),ab 3 43])
def asC:ae:=mK 54 ack
def acm:ae:=ay [ab 33 0,wS 34 (.call 187 [.t 33, .c (.int .u8 45)]),ab 9 34] (sQ (ay [ab 35 9,wS 36 (.un .not (.t 35))] (.cond (.t 36) (rR [ab 37 3,ab 2 37]) (.skip))) asC)
def asD:ae:=mK 54 acm
def KF:ae:=.block 1 (ay [ab 24 0,wS 25 (.call 187 [.t 24, .c (.int .u8 43)]),ab 7 25] (sQ (ay [ab 26 7] (.cond (.t 26) (ay [ab 27 0,bK 28 188 [27],ab 8 28] (ay [ab 29 0,ab 30 3,ab 31 8,wS 32 (.call 146 [.t 29,ki 3, .t 30, .t 31]),ab 3 32] (.exit 1))) (.skip))) asD))
def acn:ae:=bL 0 54 KF
def asE:ae:=mK 54 acn
def aco:ae:=ay [bF 2 0] (ay [bF 3 0] (ay [ab 11 0,wS 12 (.call 187 [.t 11, .c (.int .u8 45)]),ab 4 12] (sQ (ay [ab 13 4] (.cond (.t 13) (ay [ab 14 0,wS 15 (.call 146 [.t 14,ki 2,ki 0,ki 0]),ab 5 15] (ay [ab 16 0,bK 17 188 [16],ab 6 17] (rG [ab 18 0,ab 19 5,ab 20 6,wS 21 (.call 146 [.t 18,ki 4, .t 19, .t 20]),ab 3 21]))) (rG [ab 22 0,bK 23 188 [22],ab 3 23]))) asE)))
def NB:bT:={np:=1,nt:=44,results:=[.t 2],aK:=false,body:=aco}
def acp:ae:=ay [wS 2 (.dO (.t 0)),wS 3 (.dO (.t 1)),wS 4 (dv false)] (rR [wS 5 (fu 2 2),bK 6 147 [5],ab 7 6,wT 8 7 (fu 2 3),wT 9 7 (m9 147 [8]),wS 10 (eB 7 9),ab 4 10])
def alg:bT:={np:=2,nt:=11,results:=[.t 4],aK:=false,body:=acp}
def acq:ae:=rG [dG 83 64 1,ab 64 83]
def asF:ae:=mK 0xd00d653703555 acq
def acr:ae:=sQ (.block 1 (ay [ab 66 64,ab 12 66] (ay [ab 67 11,cX 68 67,wS 69 (b7 .sub 68 1),ab 70 12,wS 71 (bC .sub 69 70),ab 13 71] (rG [ab 72 11,ab 73 13,ab 74 10,ab 75 13,ab 76 9,ab 77 10,ab 78 13,ab 79 9,bK 80 195 [77,78,79],bK 81 194 [74,75,76,80],cF 82 1 72 73,cU 1 82 81])))) asF
def asG:ae:=mK 0xd00d653703555 acr
def KG:ae:=ay [wS 65 (bC .lss 64 63)] (sQ (cE 65 0) asG)
def acs:ae:=ay [ab 85 10,bK 86 191 [85],ab 87 8,bK 88 196 [86,87],ab 84 88,wS 89 (gm 84 0),wS 90 (gm 84 1),ab 14 89,ab 15 90] (rR [ab 91 11,bK 92 191 [91],ab 93 14,ab 4 92,ab 5 93])
def acu:ae:=mK 0xd35315 acs
def acv:ae:=ay [ab 36 1,ab 37 1,cX 38 37,wS 39 (b7 .sub 38 1),cF 40 1 36 39,a5 41 40,bK 42 192 [41],ab 8 42] (ay [ab 43 1,ab 44 8,bK 45 193 [43,44],ab 9 45] (ay [ab 46 0,cX 47 46,dG 48 47 1,wS 49 (.makeSlice [.int .u32 0] 4 (.t 48) (.t 48)),ab 10 49] (ay [ab 50 10,ab 51 0,ab 52 8,bK 53 193 [51,52],wS 54 (.copy 1 (.t 50) (.t 53))] (ay [ab 55 0,cX 56 55,ab 57 1,cX 58 57,wS 59 (bC .sub 56 58),dG 60 59 1,wS 61 (.makeSlice [.int .u32 0] 4 (.t 60) (.t 60)),ab 11 61] (sQ (ay [ab 62 11,cX 63 62,bF 64 0] (bL 0 0xd00d653703555 KG)) acu)))))
def asH:ae:=mK 14 acv
def NC:ae:=sQ (ay [ab 21 1,cX 22 21,de 23 22 1] (.cond (.t 23) (ay [ab 25 0,ab 26 1,wS 27 (.gh 1 (.t 26) (ki 0)),a5 28 27,bK 29 190 [25,28],ab 24 29,wS 30 (gm 24 0),wS 31 (gm 24 1),ab 6 30,ab 7 31] (rR [ab 32 6,ab 33 7,wS 34 (fU 1 [.t 33]),bK 35 191 [34],ab 4 32,ab 5 35])) (.skip))) asH
def alh:ae:=mK 14 NC
def acw:ae:=ay [wS 4 (.move (.c (.sl 1 [] .nil))),wS 5 (.move (.c (.sl 1 [] .nil)))] (sQ (ay [ab 16 0,ab 17 1,bK 18 189 [16,17],wS 19 (b7 .lss 18 0)] (.cond (.t 19) (rR [ab 20 0,wS 4 (.move (.c (.sl 1 [] .nil))),ab 5 20]) (.skip))) alh)
def EW:bT:={np:=2,nt:=94,results:=[.t 4, .t 5],aK:=false,body:=acw}
def acx:ae:=ay [ab 13 1,cX 14 13,wS 15 (.makeSlice [.int .u32 0] 4 (.t 14) (.t 14)),ab 6 15] (ay [ab 16 6,ab 17 1,wS 18 (.copy 1 (.t 16) (.t 17))] (rR [ab 19 0,ab 20 19,wT 21 20 (bY 1),wT 22 20 (kv 21),wT 23 20 (b7 .gtr 22 0),wS 24 (eB 20 23),ab 25 6,wS 26 (.build [.bool false, .sl 1 [] .nil] [(0,1, .t 24),(1,1, .t 25)]),cU 2 4 26,bF 5 0]))
def asI:ae:=mK 222 acx
def acy:ae:=ay [wS 4 (.alloc [.bool false, .sl 1 [] .nil]),bF 5 0] (ay [ab 7 1,bK 8 191 [7],ab 1 8] (sQ (ay [ab 9 1,cX 10 9,wS 11 (b7 .gtr 10 128)] (.cond (.t 11) (rR [wS 12 (.build [.bool false, .sl 1 [] .nil] []),cU 2 4 12,bF 5 2]) (.skip))) asI))
def acz:bT:={np:=2,nt:=27,results:=[.cell 4 (some 2), .t 5],aK:=false,body:=acy}
def acA:ae:=rG [dG 20 7 1,ab 7 20]
def asJ:ae:=mK 0x310e6 acA
def acB:ae:=sQ (.block 1 (ay [ab 9 7,ab 4 9] (rG [ab 10 3,ab 11 0,ab 12 4,cF 13 1 11 12,a5 14 13,wS 15 (eJ .u64 14),ab 16 4,wS 17 (.bin .mul (ki 32) (.t 16)),wS 18 (bC .shl 15 17),wS 19 (bC .or 10 18),ab 3 19]))) asJ
def asK:ae:=mK 0x310e6 acB
def KH:ae:=ay [wS 8 (bC .lss 7 6)] (sQ (cE 8 0) asK)
def acC:ae:=ay [ab 21 3,ab 2 21] (.ret)
def acD:ae:=mK 53 acC
def acE:ae:=ay [wS 2 (.move (.c (.int .u64 0)))] (ay [wS 3 (.move (.c (.int .u64 0)))] (sQ (ay [ab 5 0,cX 6 5,bF 7 0] (bL 0 0x310e6 KH)) acD))
def ND:bT:={np:=1,nt:=22,results:=[.t 2],aK:=false,body:=acE}
def asL:ae:=ay [ab 72 11,ab 6 72,wS 7 (.move (.c .fa))] (.ret)
def asM:ae:=mK 789 asL
def asN:ae:=ay [ab 67 9,wS 68 (eJ .i64 67),ab 11 68] (sQ (ay [ab 69 8] (.cond (.t 69) (rG [ab 70 11,wS 71 (.un .neg (.t 70)),ab 11 71]) (.skip))) asM)
def asO:ae:=mK 0x35345 asN
def asP:ae:=sQ (ay [ab 57 8,ab 58 57,wT 59 58 (bY 9),wT 60 58 (bY 10),wT 61 58 (bC .gtr 59 60),wS 62 (eB 58 61)] (.cond (.t 62) (rR [ab 63 10,wS 64 (eJ .i64 63),wS 65 (.un .neg (.t 64)),wS 66 (.dD 188 (ki 1)),ab 6 65,ab 7 66]) (.skip))) asO
def asQ:ae:=mK 0xd35345 asP
def asR:ae:=ay [ab 42 2,wS 43 (b7 .sub 42 1),wS 44 (eJ .u64 43),wS 45 (.bin .shl (.c (.int .u64 1)) (.t 44)),ab 10 45] (sQ (ay [ab 46 8,wS 47 (.un .not (.t 46)),ab 48 47,wT 49 48 (bY 9),wT 50 48 (bY 10),wT 51 48 (bC .geq 49 50),wS 52 (eB 48 51)] (.cond (.t 52) (rR [ab 53 10,wS 54 (.bin .sub (.t 53) (.c (.int .u64 1))),wS 55 (eJ .i64 54),wS 56 (.dD 188 (ki 1)),ab 6 55,ab 7 56]) (.skip))) asQ)
def asS:ae:=mK 0x36345 asR
def asT:ae:=sQ (ay [ab 40 2,de 41 40 0] (.cond (.t 41) (rG [bF 2 64]) (.skip))) asS
def ali:ae:=mK 0x36345 asT
def alj:ae:=ay [wS 9 (.move (.c (.int .u64 0)))] (ay [ab 26 0,ab 27 1,ab 28 2,bK 29 197 [26,27,28],ab 25 29,wS 30 (gm 25 0),wS 31 (gm 25 1),ab 9 30,ab 7 31] (sQ (ay [ab 32 7,wS 33 (.w7 true (.t 32)),ab 34 33,wT 35 34 (bY 7),wT 36 34 (.dD 188 (ki 1)),wT 37 34 (.eq true .iface (.t 35) (.t 36)),wS 38 (eB 34 37)] (.cond (.t 38) (rR [ab 39 7,bF 6 0,ab 7 39]) (.skip))) ali))
def alk:ae:=mK 878 alj
def alm:ae:=ay [wS 8 (dv false)] (sQ (ay [ab 15 0,wS 16 (.cO (.t 15) (ki 0))] (.block 0 (ay [wS 18 (.bin .eql (.t 16) (.c (.int .u8 43))),ab 17 18] (.cond (.t 17) (rG [ab 19 0,wS 20 (.gu (.t 19) (some (ki 1)) none),ab 0 20]) (ay [wS 22 (.bin .eql (.t 16) (.c (.int .u8 45))),ab 21 22] (.cond (.t 21) (ay [ab 23 0,wS 24 (.gu (.t 23) (some (ki 1)) none),ab 0 24] (rG [wS 8 (dv true)])) (.skip))))))) alk)
def aln:ae:=mK 62 alm
def asU:ae:=ay [bF 6 0,wS 7 (.move (.c .fa))] (sQ (ay [ab 12 0,wS 13 (.bin .eql (.t 12) (.c (.str [])))] (.cond (.t 13) (rR [wS 14 (.dD 188 (ki 2)),bF 6 0,ab 7 14]) (.skip))) aln)
def aEa:bT:={np:=3,nt:=73,results:=[.t 6, .t 7],aK:=false,body:=asU}
def asV:ae:=ay [wS 4 (.move (.c .iz))] (sQ (rS [ab 5 0,ab 6 1,wS 7 (.jI 198 [.t 6]),wS 8 (.load none (.g 1)),wS 9 (.build [.str [], .str [], .fa] [(0,1, .t 5),(1,1, .t 7),(2,1, .t 8)]),wS 10 (.jE (.t 9)),ab 4 10]) (.ret))
def aEb:bT:={np:=2,nt:=11,results:=[.t 4],aK:=false,body:=asV}
def asW:ae:=ay [wS 4 (.move (.c .iz))] (sQ (rS [ab 5 0,ab 6 1,wS 7 (.jI 198 [.t 6]),wS 8 (.load none (.g 2)),wS 9 (.build [.str [], .str [], .fa] [(0,1, .t 5),(1,1, .t 7),(2,1, .t 8)]),wS 10 (.jE (.t 9)),ab 4 10]) (.ret))
def aEc:bT:={np:=2,nt:=11,results:=[.t 4],aK:=false,body:=asW}
def asX:ae:=ay [wS 6 (.move (.c .iz))] (rR [ab 7 0,ab 8 1,bK 9 198 [8],ab 10 2,bK 11 75 [10],wS 12 (.bin .add (.c (bi 13 0x696e76616c6964206261736520)) (.t 11)),bK 13 199 [12],wS 14 (.build [.str [], .str [], .fa] [(0,1, .t 7),(1,1, .t 9),(2,1, .t 13)]),wS 15 (.jE (.t 14)),ab 6 15])
def aEd:bT:={np:=3,nt:=16,results:=[.t 6],aK:=false,body:=asX}
def asY:ae:=ay [wS 6 (.move (.c .iz))] (rR [ab 7 0,ab 8 1,bK 9 198 [8],ab 10 2,bK 11 75 [10],wS 12 (.bin .add (.c (bi 17 0x696e76616c6964206269742073697a6520)) (.t 11)),bK 13 199 [12],wS 14 (.build [.str [], .str [], .fa] [(0,1, .t 7),(1,1, .t 9),(2,1, .t 13)]),wS 15 (.jE (.t 14)),ab 6 15])
def aEe:bT:={np:=3,nt:=16,results:=[.t 6],aK:=false,body:=asY}
def acF:ae:=.block 1 (rG [ab 15 0,ab 16 0,cX 17 16,wS 18 (b7 .sub 17 1),wS 19 (.slice 1 (.t 15) none (some (.t 18)) none),ab 0 19])
def asZ:ae:=mK 3 acF
def KJ:ae:=sQ (ay [ab 3 0,cX 4 3,wS 5 (b7 .gtr 4 0),ab 6 5,wT 7 6 (bY 0),wT 8 6 (bY 0),wT 9 6 (kv 8),wT 10 6 (b7 .sub 9 1),wT 11 6 (uh 1 7 10),wT 12 6 (dn 11),wT 13 6 (jA .eql 12 0),wS 14 (eB 6 13)] (cE 14 0)) asZ
def acG:ae:=ay [ab 20 0,ab 2 20] (.ret)
def acH:ae:=mK 3 acG
def acI:ae:=ay [wS 2 (.move (.c (.sl 1 [] .nil)))] (sQ (bL 0 3 KJ) acH)
def NE:bT:={np:=1,nt:=21,results:=[.t 2],aK:=false,body:=acI}
def acJ:ae:=rG [ab 24 7,dG 25 24 1,ab 7 25]
def as0:ae:=mK 0x310da acJ
def acK:ae:=sQ (.block 1 (rG [ab 26 6,ab 27 26,wF 28 27 (bY 0),wF 29 27 (bY 7),wF 30 27 (uh 1 28 29),wF 31 27 (dn 30),wF 32 27 (jA .neq 31 0),wS 33 (fH 27 32),ab 6 33])) as0
def as3:ae:=mK 0x310da acK
def KL:ae:=sQ (ay [ab 20 7,ab 21 1,wS 22 (b7 .quo 21 32),wS 23 (bC .lss 20 22)] (cE 23 0)) as3
def acL:ae:=rG [ab 74 8,ab 75 9,ab 76 10,ab 77 1,wS 78 (b7 .rem 77 32),wS 79 (bC .shr 76 78),wS 80 (eJ .u32 79),cF 81 1 74 75,cU 1 81 80]
def as4:ae:=mK 0xe3534a acL
def acM:ae:=rG [ab 44 9,dG 45 44 1,ab 9 45]
def acN:ae:=mK 0x33534a acM
def NF:ae:=sQ (.block 3 (ay [ab 46 0,ab 47 9,ab 48 1,wS 49 (b7 .quo 48 32),wS 50 (bC .add 47 49),cF 51 1 46 50,a5 52 51,wS 53 (eJ .u64 52),ab 10 53] (sQ (ay [ab 54 9,ab 55 1,wS 56 (b7 .quo 55 32),wS 57 (bC .add 54 56),dG 58 57 1,ab 59 0,cX 60 59,wS 61 (bC .lss 58 60)] (.cond (.t 61) (rG [ab 62 10,ab 63 0,ab 64 9,ab 65 1,wS 66 (b7 .quo 65 32),wS 67 (bC .add 64 66),dG 68 67 1,cF 69 1 63 68,a5 70 69,wS 71 (eJ .u64 70),wS 72 (.bin .mul (.t 71) (.c (.int .u64 4294967296))),wS 73 (bC .add 62 72),ab 10 73]) (.skip))) as4))) acN
def alo:ae:=mK 0x33534a NF
def EX:ae:=sQ (ay [ab 40 9,ab 41 8,cX 42 41,wS 43 (bC .lss 40 42)] (cE 43 2)) alo
def NG:ae:=ay [ab 82 1,wS 83 (b7 .rem 82 32),wS 84 (.bin .shl (.c (.int .u64 1)) (.t 83)),wS 85 (.bin .sub (.t 84) (.c (.int .u64 1))),ab 11 85] (sQ (rS [ab 86 8,bK 87 178 [86],ab 88 6,ab 89 88,wF 90 89 (bY 0),wF 91 89 (bY 1),wF 92 89 (b7 .quo 91 32),wF 93 89 (uh 1 90 92),wF 94 89 (dn 93),wF 95 89 (eJ .u64 94),wF 96 89 (bY 11),wF 97 89 (bC .and 95 96),wF 98 89 (.bin .neq (.t 97) (.c (.int .u64 0))),wS 99 (fH 89 98),ab 4 87,ab 5 99]) (.ret))
def NH:ae:=mK 13150 NG
def NI:ae:=ay [ab 34 0,cX 35 34,ab 36 1,wS 37 (b7 .quo 36 32),wS 38 (bC .sub 35 37),wS 39 (.makeSlice [.int .u32 0] 4 (.t 38) (.t 38)),ab 8 39] (sQ (ay [bF 9 0] (bL 2 0x33534a EX)) NH)
def NJ:ae:=mK 798 NI
def NK:ae:=ay [wS 6 (dv false)] (sQ (ay [bF 7 0] (bL 0 0x310da KL)) NJ)
def alp:ae:=mK 14 NK
def acO:ae:=ay [wS 4 (.move (.c (.sl 1 [] .nil))),wS 5 (dv false)] (sQ (ay [ab 12 1,wS 13 (b7 .quo 12 32),ab 14 0,cX 15 14,wS 16 (bC .geq 13 15)] (.cond (.t 16) (rR [ab 17 0,cX 18 17,wS 19 (b7 .gtr 18 0),wS 4 (.move (.c (.sl 1 [] .nil))),ab 5 19]) (.skip))) alp)
def BT:bT:={np:=2,nt:=100,results:=[.t 4, .t 5],aK:=false,body:=acO}
def as5:ae:=ay [bF 2 0] (rR [ab 3 0,wS 4 (b7 .mul 3 78913),wS 5 (.bin .shr (.t 4) (.c (.int .u64 18))),ab 2 5])
def aEf:bT:={np:=1,nt:=6,results:=[.t 2],aK:=false,body:=as5}
def as6:ae:=ay [ab 19 2,ab 20 0,wS 21 (eJ .u8 20),wS 22 (sg (bi 256 0x00010202030303030404040404040404050505050505050505050505050505050606060606060606060606060606060606060606060606060606060606060606070707070707070707070707070707070707070707070707070707070707070707070707070707070707070707070707070707070707070707070707070707070808080808080808080808080808080808080808080808080808080808080808080808080808080808080808080808080808080808080808080808080808080808080808080808080808080808080808080808080808080808080808080808080808080808080808080808080808080808080808080808080808080808080808) 21),wS 23 (eJ .i64 22),wS 24 (bC .add 19 23),ab 2 24] (.ret)
def as7:ae:=mK 50 as6
def as8:ae:=sQ (ay [ab 13 0,wS 14 (.bin .geq (.t 13) (.c (.int .u64 256)))] (.cond (.t 14) (ay [ab 15 0,wS 16 (.bin .shr (.t 15) (.c (.int .u64 8))),ab 0 16] (rG [ab 17 2,dG 18 17 8,ab 2 18])) (.skip))) as7
def as9:ae:=mK 50 as8
def ata:ae:=sQ (ay [ab 7 0,wS 8 (.bin .geq (.t 7) (.c (.int .u64 65536)))] (.cond (.t 8) (ay [ab 9 0,wS 10 (.bin .shr (.t 9) (.c (.int .u64 16))),ab 0 10] (rG [ab 11 2,dG 12 11 16,ab 2 12])) (.skip))) as9
def atb:ae:=mK 50 ata
def atc:ae:=ay [bF 2 0] (sQ (ay [ab 3 0,wS 4 (.bin .geq (.t 3) (.c (.int .u64 4294967296)))] (.cond (.t 4) (ay [ab 5 0,wS 6 (.bin .shr (.t 5) (.c (.int .u64 32))),ab 0 6] (rG [bF 2 32])) (.skip))) atb)
def aEg:bT:={np:=1,nt:=25,results:=[.t 2],aK:=false,body:=atc}
def atd:ae:=ay [bF 2 0] (.ret)
def ate:ae:=mK 0 atd
def atf:ae:=ay [bF 2 0] (sQ (ay [ab 3 0] (.cond (.t 3) (rR [bF 2 1]) (.skip))) ate)
def aEh:bT:={np:=1,nt:=4,results:=[.t 2],aK:=false,body:=atf}
def atg:ae:=ay [wS 2 (dv false)] (rR [ab 3 0,ab 4 0,wS 5 (b7 .sub 4 1),wS 6 (bC .and 3 5),de 7 6 0,ab 2 7])
def aEi:bT:={np:=1,nt:=8,results:=[.t 2],aK:=false,body:=atg}
def ath:ae:=ay [ab 6 0,bK 7 201 [6],ab 2 7] (.ret)
def ati:ae:=mK 3 ath
def atj:ae:=ay [bF 2 0] (sQ (.cond (.c (.bool false)) (rR [ab 3 0,wS 4 (eJ .u32 3),bK 5 200 [4],ab 2 5]) (.skip)) ati)
def aEj:bT:={np:=1,nt:=8,results:=[.t 2],aK:=false,body:=atj}
def acP:ae:=ay [wS 4 (dv false)] (.ret)
def atk:ae:=mK 0 acP
def acQ:ae:=ay [wS 4 (dv false)] (ay [ab 5 0,bK 6 202 [5]] (sQ (sQ (rS [ab 7 0,dC 8 7,bn 9 7 8,a5 10 9,ab 11 0,dC 12 11,bn 13 6 12,a5 14 13,wS 15 (.len true (.t 14)),wS 16 (bC .lss 10 15),ab 17 16,wT 18 17 (bY 0),wT 19 17 (oX 18),wT 20 17 (dW 6 19),wT 21 17 (dn 20),wT 22 17 (bY 0),wT 23 17 (oX 22),wT 24 17 (dW 7 23),wT 25 17 (dn 24),wT 26 17 (.cO (.t 21) (.t 25)),wT 27 17 (bY 1),wT 28 17 (bC .eql 26 27),wS 29 (eB 17 28)]) (.cond (.t 29) (ay [ab 30 0,dC 31 30,bn 32 7 31,a5 33 32,dG 34 33 1,dC 35 30,bn 36 7 35,cU 1 36 34] (rR [wS 4 (dv true)])) (.skip))) atk))
def acR:bT:={np:=2,nt:=37,results:=[.t 4],aK:=false,body:=acQ}
def acS:ae:=ay [ab 56 0,bK 57 203 [56],ab 4 57] (rG [ab 58 0,ab 59 3,ab 60 4,wS 61 (.call 146 [.t 58,ki 5, .t 59, .t 60]),ab 3 61])
def atl:ae:=mK 54 acS
def KN:ae:=.block 1 (ay [ab 7 0,bK 8 202 [7]] (sQ (sQ (rS [ab 9 0,dC 10 9,bn 11 7 10,a5 12 11,ab 13 0,dC 14 13,bn 15 6 14,a5 16 15,wS 17 (.len true (.t 16)),wS 18 (bC .eql 12 17),ab 19 18,wF 20 19 (bY 0),wF 21 19 (oX 20),wF 22 19 (dW 6 21),wF 23 19 (dn 22),wF 24 19 (bY 0),wF 25 19 (oX 24),wF 26 19 (dW 7 25),wF 27 19 (dn 26),wF 28 19 (.cO (.t 23) (.t 27)),wF 29 19 (.bin .eql (.t 28) (.c (.int .u8 43))),wS 30 (fH 19 29),ab 31 30,wF 32 31 (bY 0),wF 33 31 (oX 32),wF 34 31 (dW 6 33),wF 35 31 (dn 34),wF 36 31 (bY 0),wF 37 31 (oX 36),wF 38 31 (dW 7 37),wF 39 31 (dn 38),wF 40 31 (.cO (.t 35) (.t 39)),wF 41 31 (.bin .eql (.t 40) (.c (.int .u8 45))),wS 42 (fH 31 41),ab 43 42,wF 44 43 (bY 0),wF 45 43 (oX 44),wF 46 43 (dW 6 45),wF 47 43 (dn 46),wF 48 43 (bY 0),wF 49 43 (oX 48),wF 50 43 (dW 7 49),wF 51 43 (dn 50),wF 52 43 (.cO (.t 47) (.t 51)),wF 53 43 (.bin .eql (.t 52) (.c (.int .u8 41))),wS 54 (fH 43 53)]) (.cond (.t 54) (rR [ab 55 3,ab 2 55]) (.skip))) atl))
def acT:ae:=ay [bF 2 0] (ay [ab 5 0,bK 6 203 [5],ab 3 6] (bL 0 54 KN))
def acU:bT:={np:=1,nt:=62,results:=[.t 2],aK:=false,body:=acT}
def acV:ae:=ay [bF 4 1] (.ret)
def atm:ae:=mK 0 acV
def acW:ae:=ay [bF 4 1] (.ret)
def atn:ae:=mK 0 acW
def acX:ae:=rG [dG 45 19 1,ab 19 45]
def acY:ae:=mK 0x3510d1a acX
def acZ:ae:=sQ (.block 1 (ay [ab 21 19,ab 5 21] (ay [ab 22 0,cX 23 22,wS 24 (b7 .sub 23 1),ab 25 5,wS 26 (bC .sub 24 25),ab 6 26] (sQ (rS [ab 27 0,ab 28 6,cF 29 1 27 28,a5 30 29,ab 31 1,ab 32 6,cF 33 1 31 32,a5 34 33,wS 35 (bC .neq 30 34)]) (.cond (.t 35) (sQ (sQ (rS [ab 36 0,ab 37 6,cF 38 1 36 37,a5 39 38,ab 40 1,ab 41 6,cF 42 1 40 41,a5 43 42,wS 44 (bC .lss 39 43)]) (.cond (.t 44) (rR [wS 4 (.move (.c (.int .i64 (-1))))]) (.skip))) atn) (.skip)))))) acY
def ato:ae:=mK 0x3510d1a acZ
def KO:ae:=ay [wS 20 (bC .lss 19 18)] (sQ (cE 20 0) ato)
def NL:ae:=ay [bF 4 0] (.ret)
def NM:ae:=mK 0 NL
def NN:ae:=sQ (ay [ab 17 0,cX 18 17,bF 19 0] (bL 0 0x3510d1a KO)) NM
def NO:ae:=mK 14 NN
def ac0:ae:=ay [bF 4 0] (sQ (ay [ab 7 0,cX 8 7,ab 9 1,cX 10 9,wS 11 (bC .neq 8 10)] (.cond (.t 11) (sQ (ay [ab 12 0,cX 13 12,ab 14 1,cX 15 14,wS 16 (bC .lss 13 15)] (.cond (.t 16) (rR [wS 4 (.move (.c (.int .i64 (-1))))]) (.skip))) atm) (.skip))) NO)
def EY:bT:={np:=2,nt:=46,results:=[.t 4],aK:=false,body:=ac0}
def ac1:ae:=rG [dG 44 16 1,ab 16 44]
def atp:ae:=mK 0x30d5039a ac1
def ac2:ae:=sQ (.block 1 (ay [ab 18 16,ab 8 18] (ay [ab 19 0,cX 20 19,wS 21 (b7 .sub 20 1),ab 22 8,wS 23 (bC .sub 21 22),ab 9 23] (ay [ab 24 7,wS 25 (.bin .shl (.t 24) (.c (.int .u64 32))),ab 26 0,ab 27 9,cF 28 1 26 27,a5 29 28,wS 30 (eJ .u64 29),wS 31 (bC .or 25 30),ab 10 31] (ay [ab 32 6,ab 33 9,ab 34 10,ab 35 1,wS 36 (eJ .u64 35),wS 37 (bC .quo 34 36),wS 38 (eJ .u32 37),cF 39 1 32 33,cU 1 39 38] (rG [ab 40 10,ab 41 1,wS 42 (eJ .u64 41),wS 43 (bC .rem 40 42),ab 7 43])))))) atp
def atq:ae:=mK 0x30d5039a ac2
def KP:ae:=ay [wS 17 (bC .lss 16 15)] (sQ (cE 17 0) atq)
def ac3:ae:=ay [ab 45 6,bK 46 191 [45],ab 47 7,wS 48 (eJ .u32 47),ab 4 46,ab 5 48] (.ret)
def ac4:ae:=mK 0x310d5 ac3
def ac5:ae:=ay [wS 4 (.move (.c (.sl 1 [] .nil))),wS 5 (.move (.c (.int .u32 0)))] (ay [ab 11 0,cX 12 11,wS 13 (.makeSlice [.int .u32 0] 4 (.t 12) (.t 12)),ab 6 13] (ay [wS 7 (.move (.c (.int .u64 0)))] (sQ (ay [ab 14 0,cX 15 14,bF 16 0] (bL 0 0x30d5039a KP)) ac4)))
def NQ:bT:={np:=2,nt:=49,results:=[.t 4, .t 5],aK:=false,body:=ac5}
def ac6:ae:=.block 1 (rG [ab 16 3,wS 17 (b7 .sub 16 1),ab 3 17])
def atr:ae:=mK 54 ac6
def KQ:ae:=sQ (ay [ab 6 3,wS 7 (b7 .gtr 6 0),ab 8 7,wT 9 8 (bY 0),wT 10 8 (bY 3),wT 11 8 (b7 .sub 10 1),wT 12 8 (uh 1 9 11),wT 13 8 (dn 12),wT 14 8 (jA .eql 13 0),wS 15 (eB 8 14)] (cE 15 0)) atr
def ac7:ae:=ay [ab 18 0,ab 19 3,wS 20 (.slice 1 (.t 18) none (some (.t 19)) none),ab 2 20] (.ret)
def ac8:ae:=mK 54 ac7
def ac9:ae:=ay [wS 2 (.move (.c (.sl 1 [] .nil)))] (ay [ab 4 0,cX 5 4,ab 3 5] (sQ (bL 0 54 KQ) ac8))
def NR:bT:={np:=1,nt:=21,results:=[.t 2],aK:=false,body:=ac9}
def ada:ae:=ay [bF 2 0] (rR [ab 3 0,bK 4 204 [3],wS 5 (.bin .sub (ki 32) (.t 4)),ab 2 5])
def alq:bT:={np:=1,nt:=6,results:=[.t 2],aK:=false,body:=ada}
def adb:ae:=rG [dG 49 17 1,ab 17 49]
def ats:ae:=mK 0xd50d8a adb
def ade:ae:=sQ (.block 1 (ay [ab 19 17,ab 6 19] (ay [ab 20 0,ab 21 6,cF 22 1 20 21,a5 23 22,wS 24 (eJ .u64 23),ab 25 1,wS 26 (b7 .rem 25 32),wS 27 (bC .shl 24 26),ab 7 27] (ay [ab 28 5,ab 29 6,ab 30 1,wS 31 (b7 .quo 30 32),wS 32 (bC .add 29 31),cF 33 1 28 32,a5 34 33,ab 35 7,wS 36 (eJ .u32 35),wS 37 (bC .or 34 36),cF 38 1 28 32,cU 1 38 37] (rG [ab 39 5,ab 40 6,ab 41 1,wS 42 (b7 .quo 41 32),wS 43 (bC .add 40 42),dG 44 43 1,ab 45 7,wS 46 (.bin .shr (.t 45) (.c (.int .u64 32))),wS 47 (eJ .u32 46),cF 48 1 39 44,cU 1 48 47]))))) ats
def att:ae:=mK 0xd50d8a ade
def KR:ae:=ay [wS 18 (bC .lss 17 16)] (sQ (cE 18 0) att)
def adf:ae:=ay [ab 50 5,bK 51 191 [50],ab 4 51] (.ret)
def adg:ae:=mK 197 adf
def adh:ae:=ay [wS 4 (.move (.c (.sl 1 [] .nil)))] (ay [ab 8 0,cX 9 8,ab 10 1,wS 11 (b7 .quo 10 32),wS 12 (bC .add 9 11),dG 13 12 1,wS 14 (.makeSlice [.int .u32 0] 4 (.t 13) (.t 13)),ab 5 14] (sQ (ay [ab 15 0,cX 16 15,bF 17 0] (bL 0 0xd50d8a KR)) adg))
def NS:bT:={np:=2,nt:=52,results:=[.t 4],aK:=false,body:=adh}
def adi:ae:=rG [dG 54 19 1,ab 19 54]
def atu:ae:=mK 0x39234d2a adi
def adj:ae:=sQ (.block 1 (ay [ab 21 19,ab 11 21] (ay [ab 22 3,ab 23 2,ab 24 11,cF 25 1 23 24,a5 26 25,wS 27 (eJ .u64 26),wS 28 (bC .mul 22 27),ab 29 9,wS 30 (bC .add 28 29),ab 12 30] (ay [ab 31 12,wS 32 (.bin .shr (.t 31) (.c (.int .u64 32))),ab 9 32] (ay [ab 33 0,ab 34 1,ab 35 11,wS 36 (bC .add 34 35),cF 37 1 33 36,a5 38 37,wS 39 (eJ .u64 38),ab 40 12,wS 41 (.bin .and (.t 40) (.c (.int .u64 4294967295))),wS 42 (bC .sub 39 41),ab 43 10,wS 44 (bC .sub 42 43),ab 13 44] (ay [ab 45 0,ab 46 1,ab 47 11,wS 48 (bC .add 46 47),ab 49 13,wS 50 (eJ .u32 49),cF 51 1 45 48,cU 1 51 50] (rG [ab 52 13,wS 53 (.bin .shr (.t 52) (.c (.int .u64 63))),ab 10 53]))))))) atu
def atv:ae:=mK 0x39234d2a adj
def KS:ae:=ay [wS 20 (bC .lss 19 18)] (sQ (cE 20 0) atv)
def adk:ae:=rG [dG 109 82 1,ab 82 109]
def atw:ae:=mK 0xd15203467a adk
def adl:ae:=sQ (.block 3 (ay [ab 84 82,ab 15 84] (sQ (rS [ab 85 0,ab 86 1,ab 87 15,wS 88 (bC .add 86 87),cF 89 1 85 88,a5 90 89,wS 91 (eJ .u64 90),ab 92 2,ab 93 15,cF 94 1 92 93,a5 95 94,wS 96 (eJ .u64 95),wS 97 (bC .add 91 96),ab 98 9,wS 99 (bC .add 97 98),ab 16 99]) (ay [ab 100 0,ab 101 1,ab 102 15,wS 103 (bC .add 101 102),ab 104 16,wS 105 (eJ .u32 104),cF 106 1 100 103,cU 1 106 105] (rG [ab 107 16,wS 108 (.bin .shr (.t 107) (.c (.int .u64 32))),ab 9 108]))))) atw
def atx:ae:=mK 0xd15203467a adl
def EZ:ae:=ay [wS 83 (bC .lss 82 81)] (sQ (cE 83 2) atx)
def NT:ae:=ay [ab 110 0,ab 111 1,ab 112 2,cX 113 112,wS 114 (bC .add 111 113),cF 115 1 110 114,a5 116 115,ab 117 9,wS 118 (eJ .u32 117),wS 119 (bC .add 116 118),cF 120 1 110 114,cU 1 120 119] (rR [ab 121 3,wS 122 (.bin .sub (.t 121) (.c (.int .u64 1))),wS 123 (eJ .u32 122),ab 8 123])
def NU:ae:=mK 13178 NT
def NV:ae:=ay [wS 9 (.move (.c (.int .u64 0)))] (sQ (ay [ab 80 2,cX 81 80,bF 82 0] (bL 2 0xd15203467a EZ)) NU)
def alr:ae:=mK 826 NV
def NW:ae:=ay [ab 55 0,ab 56 1,ab 57 2,cX 58 57,wS 59 (bC .add 56 58),cF 60 1 55 59,a5 61 60,wS 62 (eJ .u64 61),ab 63 9,wS 64 (bC .sub 62 63),ab 65 10,wS 66 (bC .sub 64 65),ab 14 66] (ay [ab 67 0,ab 68 1,ab 69 2,cX 70 69,wS 71 (bC .add 68 70),ab 72 14,wS 73 (eJ .u32 72),cF 74 1 67 71,cU 1 74 73] (sQ (ay [ab 75 14,wS 76 (.bin .shr (.t 75) (.c (.int .u64 63))),wS 77 (.bin .eql (.t 76) (.c (.int .u64 0)))] (.cond (.t 77) (rR [ab 78 3,wS 79 (eJ .u32 78),ab 8 79]) (.skip))) alr))
def NX:ae:=mK 0xd237a NW
def adm:ae:=ay [wS 8 (.move (.c (.int .u32 0)))] (ay [wS 9 (.move (.c (.int .u64 0))),wS 10 (.move (.c (.int .u64 0)))] (sQ (ay [ab 17 2,cX 18 17,bF 19 0] (bL 0 0x39234d2a KS)) NX))
def BU:bT:={np:=4,nt:=124,results:=[.t 8],aK:=false,body:=adm}
def adn:ae:=.block 1 (ay [ab 70 9,wS 71 (.bin .sub (.t 70) (.c (.int .u64 1))),ab 9 71] (ay [ab 72 10,ab 73 2,ab 74 7,wS 75 (b7 .sub 74 1),cF 76 1 73 75,a5 77 76,wS 78 (eJ .u64 77),wS 79 (bC .add 72 78),ab 10 79] (ay [ab 80 10,wS 81 (.bin .geq (.t 80) (.c (.int .u64 4294967296)))] (.cond (.t 81) (.exit 0) (.skip)))))
def aty:ae:=mK 0xd234da adn
def KT:ae:=sQ (sQ (rS [ab 46 9,wS 47 (.bin .geq (.t 46) (.c (.int .u64 4294967296))),ab 48 47,wF 49 48 (bY 9),wF 50 48 (bY 2),wF 51 48 (bY 7),wF 52 48 (b7 .sub 51 2),wF 53 48 (uh 1 50 52),wF 54 48 (dn 53),wF 55 48 (eJ .u64 54),wF 56 48 (bC .mul 49 55),wF 57 48 (bY 10),wF 58 48 (.bin .shl (.t 57) (.c (.int .u64 32))),wF 59 48 (bY 0),wF 60 48 (bY 1),wF 61 48 (bY 7),wF 62 48 (bC .add 60 61),wF 63 48 (b7 .sub 62 2),wF 64 48 (uh 1 59 63),wF 65 48 (dn 64),wF 66 48 (eJ .u64 65),wF 67 48 (bC .or 58 66),wF 68 48 (bC .gtr 56 67),wS 69 (fH 48 68)]) (cE 69 0)) aty
def ado:ae:=ay [ab 82 9,ab 6 82] (.ret)
def adp:ae:=mK 837 ado
def adq:ae:=ay [wS 6 (.move (.c (.int .u64 0)))] (ay [ab 11 2,cX 12 11,ab 7 12] (sQ (rS [ab 13 0,ab 14 1,ab 15 7,wS 16 (bC .add 14 15),cF 17 1 13 16,a5 18 17,wS 19 (eJ .u64 18),wS 20 (.bin .shl (.t 19) (.c (.int .u64 32))),ab 21 0,ab 22 1,ab 23 7,wS 24 (bC .add 22 23),wS 25 (b7 .sub 24 1),cF 26 1 21 25,a5 27 26,wS 28 (eJ .u64 27),wS 29 (bC .or 20 28),ab 8 29]) (ay [ab 30 8,ab 31 2,ab 32 7,wS 33 (b7 .sub 32 1),cF 34 1 31 33,a5 35 34,wS 36 (eJ .u64 35),wS 37 (bC .quo 30 36),ab 9 37] (ay [ab 38 8,ab 39 2,ab 40 7,wS 41 (b7 .sub 40 1),cF 42 1 39 41,a5 43 42,wS 44 (eJ .u64 43),wS 45 (bC .rem 38 44),ab 10 45] (sQ (bL 0 0xd234da KT) adp)))))
def NY:bT:={np:=3,nt:=83,results:=[.t 6],aK:=false,body:=adq}
def adr:ae:=rG [ab 73 8,ab 74 9,ab 75 10,ab 76 1,wS 77 (b7 .rem 76 32),wS 78 (bC .shr 75 77),wS 79 (eJ .u32 78),cF 80 1 73 74,cU 1 80 79]
def atz:ae:=mK 0xe34753474da adr
def ads:ae:=rG [dG 81 45 1,ab 45 81]
def adt:ae:=mK 0x334753444da ads
def adu:ae:=sQ (.block 1 (ay [ab 47 45,ab 9 47] (ay [ab 48 0,ab 49 9,ab 50 6,wS 51 (bC .add 49 50),cF 52 1 48 51,a5 53 52,wS 54 (eJ .u64 53),ab 10 54] (sQ (ay [ab 55 9,ab 56 6,wS 57 (bC .add 55 56),dG 58 57 1,ab 59 0,cX 60 59,wS 61 (bC .lss 58 60)] (.cond (.t 61) (rG [ab 62 10,ab 63 0,ab 64 9,ab 65 6,wS 66 (bC .add 64 65),dG 67 66 1,cF 68 1 63 67,a5 69 68,wS 70 (eJ .u64 69),wS 71 (.bin .shl (.t 70) (.c (.int .u64 32))),wS 72 (bC .or 62 71),ab 10 72]) (.skip))) atz)))) adt
def atA:ae:=mK 0x334753444da adu
def KU:ae:=ay [wS 46 (bC .lss 45 44)] (sQ (cE 46 0) atA)
def adw:ae:=ay [ab 82 8,bK 83 191 [82],ab 84 7,ab 4 83,ab 5 84] (.ret)
def adx:ae:=mK 0x350d5 adw
def NZ:ae:=sQ (rS [ab 20 0,ab 21 6,wS 22 (.slice 1 (.t 20) none (some (.t 21)) none),bK 23 191 [22],cX 24 23,wS 25 (b7 .gtr 24 0),ab 26 25,wF 27 26 (bY 0),wF 28 26 (bY 6),wF 29 26 (uh 1 27 28),wF 30 26 (dn 29),wF 31 26 (bY 1),wF 32 26 (b7 .rem 31 32),wF 33 26 (.bin .shl (.c (.int .u32 1)) (.t 32)),wF 34 26 (jA .sub 33 1),wF 35 26 (bC .and 30 34),wF 36 26 (jA .neq 35 0),wS 37 (fH 26 36),ab 7 37]) (ay [ab 38 0,cX 39 38,ab 40 6,wS 41 (bC .sub 39 40),wS 42 (.makeSlice [.int .u32 0] 4 (.t 41) (.t 41)),ab 8 42] (sQ (ay [ab 43 8,cX 44 43,bF 45 0] (bL 0 0x334753444da KU)) adx))
def als:ae:=mK 798 NZ
def ady:ae:=ay [wS 4 (.move (.c (.sl 1 [] .nil))),wS 5 (dv false)] (ay [ab 11 1,wS 12 (b7 .quo 11 32),ab 6 12] (sQ (ay [ab 13 6,ab 14 0,cX 15 14,wS 16 (bC .geq 13 15)] (.cond (.t 16) (rR [ab 17 0,cX 18 17,wS 19 (b7 .gtr 18 0),wS 4 (.move (.c (.sl 1 [] .nil))),ab 5 19]) (.skip))) als))
def I1:bT:={np:=2,nt:=85,results:=[.t 4, .t 5],aK:=false,body:=ady}
def atB:ae:=rG [ab 162 17,ab 13 162]
def atC:ae:=mK 0xd0c5b50c54e431619 atB
def atD:ae:=ay [ab 144 13,ab 145 1,wS 146 (eJ .u64 145),wS 147 (bC .mul 144 146),ab 13 147] (ay [ab 148 13,ab 149 16,wS 150 (eJ .u64 149),wS 151 (bC .add 148 150),ab 17 151] (sQ (ay [ab 152 17,ab 153 13,wS 154 (bC .lss 152 153),ab 155 154,wF 156 155 (bY 17),wF 157 155 (bY 11),wF 158 155 (bC .gtr 156 157),wS 159 (fH 155 158)] (.cond (.t 159) (rR [ab 160 11,wS 161 (.dD 188 (ki 1)),ab 6 160,ab 7 161]) (.skip))) atC))
def atE:ae:=mK 0xd0c58e50c5b431619 atD
def atF:ae:=sQ (ay [ab 139 13,ab 140 10,wS 141 (bC .geq 139 140)] (.cond (.t 141) (rR [ab 142 11,wS 143 (.dD 188 (ki 1)),ab 6 142,ab 7 143]) (.skip))) atE
def atG:ae:=mK 0xd0c58e50c5b431619 atF
def atH:ae:=sQ (ay [ab 134 16,ab 135 1,wS 136 (eJ .u8 135),wS 137 (bC .geq 134 136)] (.cond (.t 137) (rR [wS 138 (.dD 188 (ki 2)),wS 6 (.move (.c (.int .u64 0))),ab 7 138]) (.skip))) atG
def atI:ae:=mK 0xd0c58e50c5b431619 atH
def atJ:ae:=rG [dG 163 101 1,ab 101 163]
def alt:ae:=mK 0xd0c5b50c5b431619 atJ
def alu:ae:=sQ (.block 4 (ay [cF 103 1 99 101,a5 104 103,ab 15 104] (ay [wS 16 (.move (.c (.int .u8 0)))] (sQ (.block 5 (ay [ab 107 15,wS 108 (.bin .eql (.t 107) (.c (.int .u8 95))),ab 109 108,wT 110 109 (bY 8),wS 111 (eB 109 110),ab 106 111] (.cond (.t 106) (ay [wS 12 (dv true)] (.exit 4)) (ay [ab 113 15,wS 114 (.bin .leq (.c (.int .u8 48)) (.t 113)),ab 115 114,wT 116 115 (bY 15),wT 117 115 (.bin .leq (.t 116) (.c (.int .u8 57))),wS 118 (eB 115 117),ab 112 118] (.cond (.t 112) (rG [ab 119 15,wS 120 (.bin .sub (.t 119) (.c (.int .u8 48))),ab 16 120]) (ay [ab 122 15,bK 123 205 [122],wS 124 (.bin .leq (.c (.int .u8 97)) (.t 123)),ab 125 124,wT 126 125 (bY 15),wT 127 125 (m9 205 [126]),wT 128 125 (.bin .leq (.t 127) (.c (.int .u8 122))),wS 129 (eB 125 128),ab 121 129] (.cond (.t 121) (rG [ab 130 15,bK 131 205 [130],wS 132 (.bin .sub (.t 131) (.c (.int .u8 97))),wS 133 (.bin .add (.t 132) (.c (.int .u8 10))),ab 16 133]) (rR [wS 105 (.dD 188 (ki 2)),wS 6 (.move (.c (.int .u64 0))),ab 7 105])))))))) atI)))) alt
def alv:ae:=mK 0xd0c5b50c5b431619 alu
def alw:ae:=ay [wS 102 (bC .lss 101 100)] (sQ (cE 102 3) alv)
def alx:ae:=ay [ab 171 13,ab 6 171,wS 7 (.move (.c .fa))] (.ret)
def aly:ae:=mK 3141 alx
def alz:ae:=sQ (ay [ab 164 12,ab 165 164,wT 166 165 (bY 9),wT 167 165 (m9 206 [166]),wT 168 165 (.un .not (.t 167)),wS 169 (eB 165 168)] (.cond (.t 169) (rR [wS 170 (.dD 188 (ki 2)),wS 6 (.move (.c (.int .u64 0))),ab 7 170]) (.skip))) aly
def alA:ae:=mK 0xc5f45 alz
def alB:ae:=ay [ab 94 2,wS 95 (eJ .u64 94),wS 96 (.bin .shl (.c (.int .u64 1)) (.t 95)),wS 97 (.bin .sub (.t 96) (.c (.int .u64 1))),ab 11 97] (ay [wS 12 (dv false)] (ay [wS 13 (.move (.c (.int .u64 0)))] (sQ (ay [ab 98 0,wS 99 (.ji (.t 98)),cX 100 99,bF 101 0] (bL 3 0xd0c5b50c5b431619 alw)) alA)))
def alC:ae:=mK 0xd3634a alB
def alD:ae:=ay [wS 10 (.move (.c (.int .u64 0)))] (sQ (ay [ab 85 1] (.block 2 (ay [de 91 85 10,ab 90 91] (.cond (.t 90) (rG [wS 10 (.move (.c (.int .u64 1844674407370955162)))]) (ay [de 93 85 16,ab 92 93] (.cond (.t 92) (rG [wS 10 (.move (.c (.int .u64 1152921504606846976)))]) (rG [ab 86 1,wS 87 (eJ .u64 86),wS 88 (.bin .quo (.c (.int .u64 18446744073709551615)) (.t 87)),wS 89 (.bin .add (.t 88) (.c (.int .u64 1))),ab 10 89]))))))) alC)
def alE:ae:=mK 0x3634a alD
def alF:ae:=sQ (ay [ab 76 2,de 77 76 0] (.cond (.t 77) (rG [bF 2 64]) (ay [ab 78 2,wS 79 (b7 .lss 78 0),ab 80 79,wF 81 80 (bY 2),wF 82 80 (b7 .gtr 81 64),wS 83 (fH 80 82)] (.cond (.t 83) (rR [wS 84 (.dD 188 (ki 4)),wS 6 (.move (.c (.int .u64 0))),ab 7 84]) (.skip))))) alE
def alG:ae:=mK 0x3634a alF
def alH:ae:=ay [ab 21 1,de 22 21 0,ab 8 22] (ay [ab 23 0,ab 9 23] (sQ (.block 0 (ay [ab 26 1,wS 27 (.bin .leq (ki 2) (.t 26)),ab 28 27,wT 29 28 (bY 1),wT 30 28 (b7 .leq 29 36),wS 31 (eB 28 30),ab 25 31] (.cond (.t 25) (.skip) (ay [ab 33 1,de 34 33 0,ab 32 34] (.cond (.t 32) (ay [bF 1 10] (ay [ab 35 0,wS 36 (.cO (.t 35) (ki 0)),wS 37 (.bin .eql (.t 36) (.c (.int .u8 48)))] (.cond (.t 37) (.block 1 (ay [ab 41 0,wS 42 (.len true (.t 41)),wS 43 (b7 .geq 42 3),ab 44 43,wT 45 44 (bY 0),wT 46 44 (.cO (.t 45) (ki 1)),wT 47 44 (m9 205 [46]),wT 48 44 (.bin .eql (.t 47) (.c (.int .u8 98))),wS 49 (eB 44 48),ab 40 49] (.cond (.t 40) (ay [bF 1 2] (rG [ab 50 0,wS 51 (.gu (.t 50) (some (ki 2)) none),ab 0 51])) (ay [ab 53 0,wS 54 (.len true (.t 53)),wS 55 (b7 .geq 54 3),ab 56 55,wT 57 56 (bY 0),wT 58 56 (.cO (.t 57) (ki 1)),wT 59 56 (m9 205 [58]),wT 60 56 (.bin .eql (.t 59) (.c (.int .u8 111))),wS 61 (eB 56 60),ab 52 61] (.cond (.t 52) (ay [bF 1 8] (rG [ab 62 0,wS 63 (.gu (.t 62) (some (ki 2)) none),ab 0 63])) (ay [ab 65 0,wS 66 (.len true (.t 65)),wS 67 (b7 .geq 66 3),ab 68 67,wT 69 68 (bY 0),wT 70 68 (.cO (.t 69) (ki 1)),wT 71 68 (m9 205 [70]),wT 72 68 (.bin .eql (.t 71) (.c (.int .u8 120))),wS 73 (eB 68 72),ab 64 73] (.cond (.t 64) (ay [bF 1 16] (rG [ab 74 0,wS 75 (.gu (.t 74) (some (ki 2)) none),ab 0 75])) (ay [bF 1 8] (rG [ab 38 0,wS 39 (.gu (.t 38) (some (ki 1)) none),ab 0 39]))))))))) (.skip)))) (rR [wS 24 (.dD 188 (ki 3)),wS 6 (.move (.c (.int .u64 0))),ab 7 24])))))) alG))
def alI:ae:=mK 62 alH
def atK:ae:=ay [wS 6 (.move (.c (.int .u64 0))),wS 7 (.move (.c .fa))] (sQ (ay [ab 18 0,wS 19 (.bin .eql (.t 18) (.c (.str [])))] (.cond (.t 19) (rR [wS 20 (.dD 188 (ki 2)),wS 6 (.move (.c (.int .u64 0))),ab 7 20]) (.skip))) alI)
def aEk:bT:={np:=3,nt:=172,results:=[.t 6, .t 7],aK:=false,body:=atK}
def atL:ae:=ay [ab 7 0,wS 8 (.len true (.t 7)),wS 9 (.makeSlice [.int .u8 0] 1 (.t 8) (.t 8)),ab 3 9] (ay [ab 10 3,ab 11 0,wS 12 (.copy 1 (.t 10) (.t 11))] (rR [ab 13 3,wS 14 (.gh 1 (.t 13) (ki 0)),ab 15 3,cX 16 15,wS 17 (.no),ab 2 17]))
def atM:ae:=mK 3 atL
def atN:ae:=ay [wS 2 (.move (.c (.str [])))] (sQ (ay [ab 4 0,wS 5 (.len true (.t 4)),de 6 5 0] (.cond (.t 6) (rR [wS 2 (.move (.c (.str [])))]) (.skip))) atM)
def aEl:bT:={np:=1,nt:=18,results:=[.t 2],aK:=false,body:=atN}
def atO:ae:=ay [wS 2 (.move (.c .fa))] (rR [ab 3 0,wS 4 (.build [.str []] [(0,1, .t 3)]),wS 5 (.jE (.t 4)),wS 6 (.dD 219 (.t 5)),ab 2 6])
def aEm:bT:={np:=1,nt:=7,results:=[.t 2],aK:=false,body:=atO}
def atP:ae:=ay [ab 5 0,ab 6 0,wS 7 (.un .neg (.t 6)),wS 8 (bC .and 5 7),wS 9 (jA .mul 8 125613361),wS 10 (.bin .shr (.t 9) (.c (.int .u64 27))),wS 11 (.gz 1 32 (.g 3) (.t 10)),a5 12 11,wS 13 (eJ .i64 12),ab 2 13] (.ret)
def atQ:ae:=mK 3 atP
def atS:ae:=ay [bF 2 0] (sQ (ay [ab 3 0,wS 4 (jA .eql 3 0)] (.cond (.t 4) (rR [bF 2 32]) (.skip))) atQ)
def aEn:bT:={np:=1,nt:=14,results:=[.t 2],aK:=false,body:=atS}
def atT:ae:=ay [ab 5 0,ab 6 0,wS 7 (.un .neg (.t 6)),wS 8 (bC .and 5 7),wS 9 (.bin .mul (.t 8) (.c (.int .u64 285870213051353865))),wS 10 (.bin .shr (.t 9) (.c (.int .u64 58))),wS 11 (.gz 1 64 (.g 4) (.t 10)),a5 12 11,wS 13 (eJ .i64 12),ab 2 13] (.ret)
def atU:ae:=mK 3 atT
def atW:ae:=ay [bF 2 0] (sQ (ay [ab 3 0,wS 4 (.bin .eql (.t 3) (.c (.int .u64 0)))] (.cond (.t 4) (rR [bF 2 64]) (.skip))) atU)
def aEo:bT:={np:=1,nt:=14,results:=[.t 2],aK:=false,body:=atW}
def adz:ae:=.block 1 (rG [ab 24 0,dC 25 24,bn 26 7 25,a5 27 26,dG 28 27 1,dC 29 24,bn 30 7 29,cU 1 30 28])
def atX:ae:=mK 3 adz
def KV:ae:=sQ (sQ (rS [ab 2 0,dC 3 2,bn 4 7 3,a5 5 4,ab 6 0,dC 7 6,bn 8 6 7,a5 9 8,wS 10 (.len true (.t 9)),wS 11 (bC .lss 5 10),ab 12 11,wT 13 12 (bY 0),wT 14 12 (oX 13),wT 15 12 (dW 6 14),wT 16 12 (dn 15),wT 17 12 (bY 0),wT 18 12 (oX 17),wT 19 12 (dW 7 18),wT 20 12 (dn 19),wT 21 12 (.cO (.t 16) (.t 20)),wT 22 12 (.bin .eql (.t 21) (.c (.int .u8 32))),wS 23 (eB 12 22)]) (cE 23 0)) atX
def adA:ae:=bL 0 3 KV
def adB:bT:={np:=1,nt:=31,results:=[],aK:=false,body:=adA}
def adC:ae:=ay [ab 40 3,ab 2 40] (.ret)
def atY:ae:=mK 53 adC
def adD:ae:=ay [bF 2 0] (ay [ab 4 0,bK 5 207 [4],ab 3 5] (sQ (sQ (rS [ab 6 0,dC 7 6,bn 8 7 7,a5 9 8,ab 10 0,dC 11 10,bn 12 6 11,a5 13 12,wS 14 (.len true (.t 13)),wS 15 (bC .lss 9 14),ab 16 15,wT 17 16 (bY 0),wT 18 16 (oX 17),wT 19 16 (dW 6 18),wT 20 16 (dn 19),wT 21 16 (bY 0),wT 22 16 (oX 21),wT 23 16 (dW 7 22),wT 24 16 (dn 23),wT 25 16 (.cO (.t 20) (.t 24)),wT 26 16 (.bin .eql (.t 25) (.c (.int .u8 94))),wS 27 (eB 16 26)]) (.cond (.t 27) (ay [ab 28 0,ab 29 0,dC 30 29,bn 31 7 30,a5 32 31,dG 33 32 2,dC 34 28,bn 35 7 34,cU 1 35 33] (rG [ab 36 0,ab 37 3,ab 38 3,wS 39 (.call 146 [.t 36,ki 5, .t 37, .t 38]),ab 3 39])) (.skip))) atY))
def adE:bT:={np:=1,nt:=41,results:=[.t 2],aK:=false,body:=adD}
def adF:ae:=ay [ab 13 2,ab 14 0,wS 15 (eJ .u8 14),wS 16 (sg (bi 256 0x00010202030303030404040404040404050505050505050505050505050505050606060606060606060606060606060606060606060606060606060606060606070707070707070707070707070707070707070707070707070707070707070707070707070707070707070707070707070707070707070707070707070707070808080808080808080808080808080808080808080808080808080808080808080808080808080808080808080808080808080808080808080808080808080808080808080808080808080808080808080808080808080808080808080808080808080808080808080808080808080808080808080808080808080808080808) 15),wS 17 (eJ .i64 16),wS 18 (bC .add 13 17),ab 2 18] (.ret)
def atZ:ae:=mK 50 adF
def adG:ae:=sQ (ay [ab 7 0,wS 8 (jA .geq 7 256)] (.cond (.t 8) (ay [ab 9 0,wS 10 (.bin .shr (.t 9) (.c (.int .u64 8))),ab 0 10] (rG [ab 11 2,dG 12 11 8,ab 2 12])) (.skip))) atZ
def at0:ae:=mK 50 adG
def adH:ae:=ay [bF 2 0] (sQ (ay [ab 3 0,wS 4 (jA .geq 3 65536)] (.cond (.t 4) (ay [ab 5 0,wS 6 (.bin .shr (.t 5) (.c (.int .u64 16))),ab 0 6] (rG [bF 2 16])) (.skip))) at0)
def N0:bT:={np:=1,nt:=19,results:=[.t 2],aK:=false,body:=adH}
def at2:ae:=ay [wS 2 (.move (.c (.int .u8 0)))] (rR [ab 3 0,wS 4 (.bin .or (.t 3) (.c (.int .u8 32))),ab 2 4])
def aEp:bT:={np:=1,nt:=5,results:=[.t 2],aK:=false,body:=at2}
def at3:ae:=ay [wS 3 (.move (.c (.int .i32 95)))] (.exit 1)
def at4:ae:=mK 3526 at3
def at5:ae:=rG [wS 3 (.move (.c (.int .i32 33)))]
def at6:ae:=mK 3526 at5
def at7:ae:=sQ (ay [ab 90 3,wS 91 (.bin .eql (.t 90) (.c (.int .i32 95)))] (.cond (.t 91) (rR [wS 2 (dv false)]) (.skip))) at6
def aua:ae:=mK 3574 at7
def aub:ae:=sQ (ay [ab 84 0,ab 85 4,wS 86 (.cO (.t 84) (.t 85)),wS 87 (.bin .eql (.t 86) (.c (.int .u8 95)))] (.cond (.t 87) (sQ (ay [ab 88 3,wS 89 (.bin .neq (.t 88) (.c (.int .i32 48)))] (.cond (.t 89) (rR [wS 2 (dv false)]) (.skip))) at4) (.skip))) aua
def auc:ae:=mK 3574 aub
def aud:ae:=rG [ab 55 4,dG 56 55 1,ab 4 56]
def alJ:ae:=mK 3574 aud
def alK:ae:=sQ (.block 1 (sQ (ay [ab 57 0,ab 58 4,wS 59 (.cO (.t 57) (.t 58)),wS 60 (.bin .leq (.c (.int .u8 48)) (.t 59)),ab 61 60,wT 62 61 (bY 0),wT 63 61 (bY 4),wT 64 61 (.cO (.t 62) (.t 63)),wT 65 61 (.bin .leq (.t 64) (.c (.int .u8 57))),wS 66 (eB 61 65),ab 67 66,wF 68 67 (bY 5),wF 69 67 (bY 68),wT 70 69 (bY 0),wT 71 69 (bY 4),wT 72 69 (.cO (.t 70) (.t 71)),wT 73 69 (m9 205 [72]),wT 74 69 (.bin .leq (.c (.int .u8 97)) (.t 73)),wF 75 67 (eB 69 74),wF 76 67 (bY 75),wT 77 76 (bY 0),wT 78 76 (bY 4),wT 79 76 (.cO (.t 77) (.t 78)),wT 80 76 (m9 205 [79]),wT 81 76 (.bin .leq (.t 80) (.c (.int .u8 102))),wF 82 67 (eB 76 81),wS 83 (fH 67 82)] (.cond (.t 83) (ay [wS 3 (.move (.c (.int .i32 48)))] (.exit 1)) (.skip))) auc)) alJ
def alL:ae:=mK 3574 alK
def alM:ae:=sQ (ay [ab 51 4,ab 52 0,wS 53 (.len true (.t 52)),wS 54 (bC .lss 51 53)] (cE 54 0)) alL
def alN:ae:=ay [ab 92 3,wS 93 (.bin .neq (.t 92) (.c (.int .i32 95))),ab 2 93] (.ret)
def alO:ae:=mK 53 alN
def alP:ae:=sQ (bL 0 3574 alM) alO
def alQ:ae:=mK 3574 alP
def alR:ae:=ay [wS 5 (dv false)] (sQ (ay [ab 21 0,wS 22 (.len true (.t 21)),wS 23 (b7 .geq 22 2),ab 24 23,wT 25 24 (bY 0),wT 26 24 (.cO (.t 25) (ki 0)),wT 27 24 (.bin .eql (.t 26) (.c (.int .u8 48))),wS 28 (eB 24 27),ab 29 28,wT 30 29 (bY 0),wT 31 29 (.cO (.t 30) (ki 1)),wT 32 29 (m9 205 [31]),wT 33 29 (.bin .eql (.t 32) (.c (.int .u8 98))),wT 34 29 (bY 33),wF 35 34 (bY 0),wF 36 34 (.cO (.t 35) (ki 1)),wF 37 34 (m9 205 [36]),wF 38 34 (.bin .eql (.t 37) (.c (.int .u8 111))),wT 39 29 (fH 34 38),wT 40 29 (bY 39),wF 41 40 (bY 0),wF 42 40 (.cO (.t 41) (ki 1)),wF 43 40 (m9 205 [42]),wF 44 40 (.bin .eql (.t 43) (.c (.int .u8 120))),wT 45 29 (fH 40 44),wS 46 (eB 29 45)] (.cond (.t 46) (ay [bF 4 2] (ay [wS 3 (.move (.c (.int .i32 48)))] (rG [ab 47 0,wS 48 (.cO (.t 47) (ki 1)),bK 49 205 [48],wS 50 (.bin .eql (.t 49) (.c (.int .u8 120))),ab 5 50]))) (.skip))) alQ)
def alS:ae:=mK 3382 alR
def aue:ae:=ay [wS 2 (dv false)] (ay [wS 3 (.move (.c (.int .i32 94)))] (ay [bF 4 0] (sQ (ay [ab 6 0,wS 7 (.len true (.t 6)),wS 8 (b7 .geq 7 1),ab 9 8,wT 10 9 (bY 0),wT 11 9 (.cO (.t 10) (ki 0)),wT 12 9 (.bin .eql (.t 11) (.c (.int .u8 45))),wT 13 9 (bY 12),wF 14 13 (bY 0),wF 15 13 (.cO (.t 14) (ki 0)),wF 16 13 (.bin .eql (.t 15) (.c (.int .u8 43))),wT 17 9 (fH 13 16),wS 18 (eB 9 17)] (.cond (.t 18) (rG [ab 19 0,wS 20 (.gu (.t 19) (some (ki 1)) none),ab 0 20]) (.skip))) alS)))
def aEq:bT:={np:=1,nt:=94,results:=[.t 2],aK:=false,body:=aue}
def adI:ae:=.block 1 (rG [ab 77 0,dC 78 77,bn 79 7 78,a5 80 79,dG 81 80 1,dC 82 77,bn 83 7 82,cU 1 83 81])
def auf:ae:=mK 198 adI
def KW:ae:=sQ (sQ (rS [ab 19 0,dC 20 19,bn 21 7 20,a5 22 21,ab 23 0,dC 24 23,bn 25 6 24,a5 26 25,wS 27 (.len true (.t 26)),wS 28 (bC .lss 22 27),ab 29 28,wT 30 29 (bY 0),wT 31 29 (oX 30),wT 32 29 (dW 6 31),wT 33 29 (dn 32),wT 34 29 (bY 0),wT 35 29 (oX 34),wT 36 29 (dW 7 35),wT 37 29 (dn 36),wT 38 29 (.cO (.t 33) (.t 37)),wT 39 29 (.bin .geq (.t 38) (.c (.int .u8 97))),wT 40 29 (bY 39),wT 41 40 (bY 0),wT 42 40 (oX 41),wT 43 40 (dW 6 42),wT 44 40 (dn 43),wT 45 40 (bY 0),wT 46 40 (oX 45),wT 47 40 (dW 7 46),wT 48 40 (dn 47),wT 49 40 (.cO (.t 44) (.t 48)),wT 50 40 (.bin .leq (.t 49) (.c (.int .u8 122))),wT 51 29 (eB 40 50),wT 52 29 (bY 51),wF 53 52 (bY 0),wF 54 52 (oX 53),wF 55 52 (dW 6 54),wF 56 52 (dn 55),wF 57 52 (bY 0),wF 58 52 (oX 57),wF 59 52 (dW 7 58),wF 60 52 (dn 59),wF 61 52 (.cO (.t 56) (.t 60)),wF 62 52 (.bin .geq (.t 61) (.c (.int .u8 48))),wF 63 52 (bY 62),wT 64 63 (bY 0),wT 65 63 (oX 64),wT 66 63 (dW 6 65),wT 67 63 (dn 66),wT 68 63 (bY 0),wT 69 63 (oX 68),wT 70 63 (dW 7 69),wT 71 63 (dn 70),wT 72 63 (.cO (.t 67) (.t 71)),wT 73 63 (.bin .leq (.t 72) (.c (.int .u8 57))),wF 74 52 (eB 63 73),wT 75 29 (fH 52 74),wS 76 (eB 29 75)]) (cE 76 0)) auf
def adJ:ae:=ay [ab 108 0,ab 109 6,bK 110 208 [108,109],ab 2 110] (.ret)
def aug:ae:=mK 786 adJ
def adK:ae:=sQ (rS [ab 84 0,dC 85 84,bn 86 6 85,a5 87 86,ab 88 5,ab 89 0,dC 90 89,bn 91 7 90,a5 92 91,wS 93 (.gu (.t 87) (some (.t 88)) (some (.t 92))),ab 6 93]) (sQ (ay [ab 94 6,wS 95 (.cO (.t 94) (ki 0)),wS 96 (.bin .geq (.t 95) (.c (.int .u8 48))),ab 97 96,wT 98 97 (bY 6),wT 99 97 (.cO (.t 98) (ki 0)),wT 100 97 (.bin .leq (.t 99) (.c (.int .u8 57))),wS 101 (eB 97 100)] (.cond (.t 101) (rR [ab 102 0,ab 103 6,wS 104 (.cO (.t 103) (ki 0)),wS 105 (.bin .sub (.t 104) (.c (.int .u8 48))),wS 106 (eJ .i64 105),wS 107 (.call 146 [.t 102,ki 2, .t 106,ki 0]),ab 2 107]) (.skip))) aug)
def adL:ae:=mK 198 adK
def adM:ae:=ay [ab 15 0,dC 16 15,bn 17 7 16,a5 18 17,ab 5 18] (sQ (bL 0 198 KW) adL)
def auh:ae:=mK 3 adM
def adN:ae:=ay [bF 2 0] (ay [ab 7 0,wS 8 (.call 187 [.t 7, .c (.int .u8 40)]),ab 3 8] (sQ (ay [ab 9 3] (.cond (.t 9) (ay [ab 10 0,bK 11 168 [10],ab 4 11] (ay [ab 12 0,wS 13 (.call 187 [.t 12, .c (.int .u8 41)])] (rR [ab 14 4,ab 2 14]))) (.skip))) auh))
def E0:bT:={np:=1,nt:=111,results:=[.t 2],aK:=false,body:=adN}
def adO:ae:=rG [ab 14 5,wS 15 (b7 .sub 14 1),ab 5 15]
def aui:ae:=mK 202 adO
def adP:ae:=sQ (.block 1 (ay [ab 16 0,dC 17 16,bn 18 4 17,a5 19 18,ab 20 5,cF 21 1 19 20,a5 22 21,ab 23 1,wS 24 (bC .eql 22 23)] (.cond (.t 24) (rR [ab 25 0,dC 26 25,bn 27 5 26,a5 28 27,ab 29 5,cF 30 1 28 29,a5 31 30,ab 4 31]) (.skip)))) aui
def auj:ae:=mK 202 adP
def KX:ae:=sQ (ay [ab 12 5,wS 13 (b7 .geq 12 0)] (cE 13 0)) auj
def adQ:ae:=ay [bF 4 0] (.ret)
def adR:ae:=mK 0 adQ
def adS:ae:=ay [bF 4 0] (sQ (ay [ab 6 0,dC 7 6,bn 8 4 7,a5 9 8,cX 10 9,wS 11 (b7 .sub 10 1),ab 5 11] (bL 0 202 KX)) adR)
def N1:bT:={np:=2,nt:=32,results:=[.t 4],aK:=false,body:=adS}
def L1:List (Nat×bT):=[(3,c3),(10,c10),(11,c11),(12,c12),(13,M0),(14,c14),(15,c15),(18,c18),(19,c19),(20,c20),(24,c24),(26,c26),(28,c28),(30,c30),(32,c32),(41,c41),(42,c42),(43,c43),(44,c44),(45,UJ),(46,c46),(47,c47),(48,CU),(49,c49),(50,c50),(52,c52),(53,c53),(54,c54),(55,c55),(56,c56),(57,c57),(65,M1),(66,c66),(70,Ii),(71,c71),(72,c72),(73,c73),(74,c74),(75,c75),(76,c76),(77,c77),(78,c78),(79,c79),(80,c80),(81,c81),(82,c82),(83,Ki),(84,c84),(85,c85),(86,c86),(87,c87),(88,c88),(103,M2),(106,ZU),(107,akH),(108,M3),(109,akI),(110,Z7),(111,aab),(115,ET),(116,M4),(117,akJ),(118,akK),(119,akL),(120,akM),(121,M5),(122,IY),(123,M6),(124,aaD),(125,M7),(126,IZ),(127,akO),(128,aaT),(129,akP),(130,akQ),(131,akR),(132,akS),(133,M9),(134,akT),(135,yo),(136,akW),(137,akX),(138,aD5),(145,akY),(146,akZ),(147,abd),(148,ak0),(149,ak1),(150,yp),(151,Nj),(152,Nk),(153,Nq),(154,aD6),(155,abE),(156,Nt),(157,abN),(158,Nu),(159,EU),(160,Nz),(161,NA),(162,I0),(163,acj),(164,aD7),(165,aD8),(166,aD9),(168,NB),(169,alg),(170,EW),(171,acz),(172,ND),(173,aEa),(174,aEb),(175,aEc),(176,aEd),(177,aEe),(178,NE),(179,BT),(180,aEf),(181,aEg),(182,aEh),(183,aEi),(184,aEj),(187,acR),(188,acU),(189,EY),(190,NQ),(191,NR),(192,alq),(193,NS),(194,BU),(195,NY),(196,I1),(197,aEk),(198,aEl),(199,aEm),(200,aEn),(201,aEo),(202,adB),(203,adE),(204,N0),(205,aEp),(206,aEq),(207,E0),(208,N1)]
def T1:Nat→Option bT:=fun f=>CX f L1
end
end Go.jY
end
