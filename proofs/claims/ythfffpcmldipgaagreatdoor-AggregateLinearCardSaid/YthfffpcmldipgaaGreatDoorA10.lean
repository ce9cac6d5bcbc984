/- Texts of the proof, part 10. -/
import Derived.Test.YthfffpcmldipgaaGreatDoorA9
namespace Go.Proofs.YthfffpcmldipgaaGreatDoor
set_option maxHeartbeats 8000000
set_option linter.all false
set_option maxRecDepth 100000
variable{ai:Prop}
open Go.RowKit Go.Lib Go.Maps Go.ChangeShapes Go.WideShapes Go.ChangeAt Go.Proofs.Tryz
variable{a b c d e f g h:Nat}{i j k l:List Nat}{m n o:World}{p q r s:Value}{t u v:List Value}{w x:TypeId}{y z:Nat→Option Nat}{A:Nat→List Nat}{B C:Int}{E F:Option Addr}{H I:Rat}{J:Nat→Nat}{K:Nat→Bool}{L:List Int}{N:Array Bool}{O:Option Nat}{Q:Act}{R S:Bool}{T:List UInt8}
def Iu(x:aQ)(T:List (List Rw))(v:Nat)(t:aF):Prop:=∃h∈bV x,v∈bJ x h/\∃y∈bR T h,EQ (bJ x h) v y.1=t
def aep{x:aQ}{T:List (List Rw)}{i:Nat->Option aF}{c:Nat->aF}{v:Nat}{t:aF}(h:t∈iE (bJ x) (bR T) (bV x) i K c v):Iu x T v t:=by
 unfold iE at h;have b:=xS.1 (fI.1 h).1;unfold ym at b;split at b
 ·cases b
 ·rename_i d l g;obtain⟨y,f,e⟩:=dH.1 b;have a:d∈gQ (bJ x) (bV x) v:=by rw[g];exact lI
  unfold gQ at a;rw[fI,pD] at a;exact⟨d,a.1,a.2,y,(fI.1 f).1,e⟩
structure Pw(α:Type) where
 R:SR α
 V:World->Value->α->Prop
 G:Nat->Nat->α->Prop
 wt:Int->α
 yK:α->Bool
 fa:FuncId
 fm:FuncId
 fz:FuncId
 fw:FuncId
 fl:FuncId
 g:Nat->aF->α
 fx:Nat->Option aF
 fv:Value
 U:List aF
 x:aQ
 T:List (List Rw)
 p:Nat->Option Nat
 d:Nat->Nat
 homes:Nat->List Nat
 key:Nat->List Nat
 ch:List (List Nat)
 ks:List (List Nat)
 hs:List (List Nat)
 wl:List Nat
 w0:World
 w1:World
 cs:List Value
 tX:TypeId
 xb:Nat
 jb:Nat
 nb:Nat
 sb:Nat
 kb:Nat
section
variable{α:Type}
abbrev Pw.dL(D:Pw α):Nat:=D.x.aq.length
abbrev Pw.vT(D:Pw α)(v:Nat)(e:Nat->aF):α:=Go.Proofs.YthfffpcmldipgaaGreatDoor.vT D.R D.x D.T D.p D.homes D.g D.wt D.U v e
abbrev Pw.bT(D:Pw α)(v:Nat)(t:aF)(e:Nat->aF):α:=Go.Proofs.YthfffpcmldipgaaGreatDoor.bT D.R D.x D.T D.p D.homes D.g D.wt D.U v t e
noncomputable abbrev Pw.tN(D:Pw α)(v:Nat)(e:Nat->aF):List aF:=iE (bJ D.x) (bR D.T) (bV D.x) D.fx (bK D.p v) e v
structure cC(D:Pw α)(oN oS:Nat)(cur:Nat->aF)(on:Nat->Bool)(w:au):Prop where
 st:eY oN oS D.tX D.cs D.w0 w D.xb D.jb D.nb D.sb D.x D.T cur on
 mem:my D.V D.dL D.key D.U D.vT w D.kb
 k1:Kept cO D.w1 w
 k2:Kept aU D.w1 w
structure ji(D:Pw α)(oA:Nat)(lc:Array Value):Prop where
 ring:Jh D.R D.V D.G D.wt D.yK D.fa D.fm D.fz D.fw
 wk:Wk D.R D.G D.wt D.g D.fx D.U D.x D.T D.p D.d D.homes
 pl:RZ D.w1 D.cs D.dL D.ch D.ks D.hs D.wl
 ch:∀v,v<D.dL->D.ch[v]?=some (kids D.dL D.p (some v))
 cr:D.ch[D.dL]?=some (kids D.dL D.p none)
 hs:∀v,v<D.dL->D.hs[v]?=some (D.homes v)
 ks:∀v,v<D.dL->D.ks[v]?=some (D.key v)
 ka:∀v,v<D.dL->∀a∈D.key v,bK D.p v a=true/\a<D.dL
 kl:∀v,v<D.dL->(D.key v).length<=5
 kv:∀v,v<D.dL->∀e e',(∀a∈D.key v,e' a=e a)->D.vT v e'=D.vT v e
 ca:D.cs[oA]?=some (.func (.func D.fa) #[] #[])
 cm:D.cs[oA+1]?=some (.func (.func D.fm) #[] #[])
 cz:D.cs[oA+2]?=some (.func (.func D.fz) #[] #[])
 cl:D.cs[oA+3]?=some (.func (.func D.fl) #[] lc)
 cw:D.cs[oA+4]?=some (.func (.func D.fw) #[] #[])
 cf:D.cs[oA+5]?=some D.fv
 ck:D.cs[oA+8]?=some (.map (some D.kb))
 kw:D.w0.heap.size<=D.kb
 kx:D.xb≠D.kb
 kn:D.nb≠D.kb
 Yx:D.sb≠D.kb
 il:∀args w,(callFunc D.fl args).run prog w= .ok (.enter D.fl args) w
 lift:∀w,Ext D.w0 w->∀v t,v<D.dL->Iu D.x D.T v t->dt D.fx v t=true->Calls prog D.fl (#[av v,aO t]++lc) w fun e w'=>∃u,e= .returned u/\D.V w' u (D.g v t)/\Ext w w'
 XF:vL D.w0 D.fv D.fx
 r6:D.x.aA.length<=6
 a12:D.dL<=12
 tl:∀l∈D.T,l.length<=60
 wb:∀h∈bV D.x,∀y∈bR D.T h,1<=y.2/\y.2<=1000000
 u0:∀t∈D.U,(0:UInt8)∉t/\t.length<=1000
 u1:1<=D.U.length
 um:D.dL*D.U.length^5<maxLen
def Jg(D:Pw α)(oN oS:Nat)(f:FuncId)(v:Nat):Prop:=∀(cur:Nat->aF) (w:au),cC D oN oS cur (bK D.p v) w->(∀a,bK D.p v a=true->cur a∈D.U)->
 Calls prog f #[aJ D.xb 0,av v] w fun e w'=>∃u cur',e= .returned u/\D.V w' u (D.vT v cur)/\cC D oN oS cur' (bK D.p v) w'/\(∀a,bK D.p v a=true->cur' a=cur a)/\a7 [D.nb,D.sb,D.kb] w w'
def NQ(D:Pw α)(oN oS:Nat)(f:FuncId)(v:Nat):Prop:=∀(t:aF) (cur:Nat->aF) (w:au),cC D oN oS cur (bK D.p v) w->(∀a,bK D.p v a=true->cur a∈D.U)->t∈D.tN v cur->
 Calls prog f #[aJ D.xb 0,av v,aO t] w fun e w'=>∃u cur',e= .returned u/\D.V w' u (D.bT v t cur)/\cC D oN oS cur' (bK D.p v) w'/\(∀a,bK D.p v a=true->cur' a=cur a)/\a7 [D.nb,D.sb,D.kb] w w'
variable{D:Pw α}{oN oS oA v:Nat}{lc:Array Value}{cur cur':Nat->aF}{on LX:Nat->Bool}{w w':au}
theorem d7.same{f:Lit->Option Value}(h:d7 w x a b f)(e:w'.heap[a]?=w.heap[a]?):d7 w' x a b f:=by obtain⟨D,⟨i,c,d,F⟩,g⟩:=h;exact⟨D,⟨i,c,e.trans d,F⟩,g⟩
theorem my.same{V:World->Value->α->Prop}{U:List aF}{val:Nat->(Nat->aF)->α}(h:my V a A U val w b)(e:w'.heap[b]?=w.heap[b]?)(j:∀{u c},V w u c->V w' u c):my V a A U val w' b:=by obtain⟨m,f,g,i⟩:=h;refine⟨m,f,g.same e,fun l u d=> ?_⟩;obtain⟨v,e,q,p,o,k⟩:=i l u d;exact⟨v,e,q,p,o,j k⟩
theorem my.lt{V:World->Value->α->Prop}{n:Nat}{U:List aF}{val:Nat->(Nat->aF)->α}(h:my V n A U val w a):a<w.heap.size:=by obtain⟨_,_,b,_⟩:=h;exact b.lt
theorem my.asz{V:World->Value->α->Prop}{U:List aF}{val:Nat->(Nat->aF)->α}(h:my V a A U val w b){cur:Array Value}{f:Nat×Nat}(c:w.heap[b]?=some (.cells cur x f)):False:=by obtain⟨_,_,⟨D,⟨g,d,e,_⟩,_⟩,_⟩:=h;rw[e] at c;injection c with c;cases c
theorem cC.drew(h:cC D oN oS cur on w)(a:ji D oA lc):cC D oN oS cur on w.drew:=⟨h.st.drew,h.mem.same rfl fun b=>a.ring.vk b (jL _ _).drew,h.k1.drew,h.k2.drew⟩
theorem cC.fW(h:cC D oN oS cur on w)(a:ji D oA lc)(k:Ext w w'):cC D oN oS cur on w':=⟨h.st.ext k,h.mem.same (k.block _ h.mem.lt) fun b=>a.ring.vk b (.jd k),h.k1.trans (.jd k),h.k2.trans (.jd k)⟩
theorem cC.past(h:cC D oN oS cur on w)(c:ji D oA lc)(k:Only g w w')(b:ar w g x t)(a:x≠r_/\x≠cO/\x≠aU)(e:D.w0.heap.size<=g)(m:g≠D.xb)(j:g≠D.nb)(i:g≠D.sb)(f:g≠D.kb):cC D oN oS cur on w':=
 ⟨h.st.past k e m j i,h.mem.same (k.block _ h.mem.lt (by simpa using fM f)) fun d=>c.ring.vk d (k.kept b a.1),h.k1.trans (k.kept b a.2.1),h.k2.trans (k.kept b a.2.2)⟩
theorem cC.asC(h:cC D oN oS cur on w)(k:Only D.nb w w'):Kept r_ w w':=k.kept h.st.nc Od
theorem cC.Wx(h:cC D oN oS cur on w)(k:Only D.sb w w'):Kept r_ w w':=k.kept h.st.sc Od
theorem cC.Qp(h:cC D oN oS cur on w)(d:ji D oA lc){v:Nat}(c:v<D.dL)(t:aF):∃b,w.setCell (aB D.nb v) (aO t)=b/\ah (cC D oN oS (put cur v t) on b)/\ah (Only D.nb w b):=by obtain⟨b,e,f,a⟩:=h.st.Qp c t;exact⟨b,e,⟨f,h.mem.same (a.block _ h.mem.lt (by simpa using d.kn.symm)) fun c=>d.ring.vk c (h.asC a),h.k1.trans (wn a h.st.nc Od),h.k2.trans (wn a h.st.nc Od)⟩,a⟩
theorem cC.EG(h:cC D oN oS cur on w)(g:ji D oA lc){v:Nat}(f:v<D.dL)(b:Bool):∃d,w.setCell (aB D.sb v) (.bool b)=d/\ah (cC D oN oS cur (fun a=>if a=v then b else on a) d)/\ah (Only D.sb w d):=by obtain⟨d,e,i,c⟩:=h.st.EG f b;exact⟨d,e,⟨i,h.mem.same (c.block _ h.mem.lt (by simpa using g.Yx.symm)) fun f=>g.ring.vk f (h.Wx c),h.k1.trans (wn c h.st.sc Od),h.k2.trans (wn c h.st.sc Od)⟩,c⟩
theorem cC.Bg(h:cC D oN oS cur on w)(k:a7 [D.nb,D.sb,D.kb] w w')(f:bI≠x)(e:gh≠x):Kept x w w':=fun g j i a=>by
 refine(k.block g (ie a) fun d=> ?_).trans a;simp only[aI,bF,or_false] at d;have c:=h.st.nc;have b:=h.st.sc;unfold ar at c b;rcases d with rfl|rfl|rfl
 ·rw[c] at a;injection a with a;injection a with _ a;exact f a
 ·rw[b] at a;injection a with a;injection a with _ a;exact e a
 ·exact h.mem.asz a
theorem cC.Qe(h:cC D oN oS cur on w)(k:a7 [D.nb,D.sb,D.kb] w w'):Kept r_ w w':=h.Bg k Od Od
theorem cC.vC(h:cC D oN oS cur on w)(b:ji D oA lc)(k:a7 [D.nb,D.sb,D.kb] w w'){a:α}(c:D.V w p a):D.V w' p a:=b.ring.vk c (h.Qe k)
theorem cC.tN(h:cC D oN oS cur on w)(b:ji D oA lc)(e:eY oN oS D.tX D.cs D.w0 w' D.xb D.jb D.nb D.sb D.x D.T cur' LX)(k:a7 [D.nb,D.sb] w w'):cC D oN oS cur' LX w':=by
 have c:a7 [D.nb,D.sb,D.kb] w w':=k.mono fun i f _=>by simp only[aI,bF,or_false] at f⊢;omega
 refine⟨e,h.mem.same (k.block _ h.mem.lt ?_) fun d=>h.vC b c d,h.k1.trans (h.Bg c Od Od),h.k2.trans (h.Bg c Od Od)⟩;simp only[aI,bF,or_false];exact fun a=>by
  rcases a with a|a
  ·exact b.kn a.symm
  ·exact b.Yx a.symm
theorem cC.read(h:cC D oN oS cur on w)(r:ji D oA lc)(k:Below a w w')(o:OthersKept t8 (some b) w w')(m:ar w b tB [p,q])(E:D.w0.heap.size<=a)(C:D.xb<a)(A:D.nb<a)(z:D.sb<a)(y:D.kb<a):cC D oN oS cur on w'/\Kept r_ w w':=by
 have f:∀t,t≠tB->t≠t8->Kept t w w':=fun t u s g H G d=>by
  refine o g _ d (fun e=> ?_) (fun c F e=> ?_)
  ·injection e with e;subst e;unfold ar at m;rw[m] at d;injection d with d;injection d with _ d;exact u d.symm
  ·injection e with _ e;exact s e
 have n:=f r_ Od Od;have j:=h.st.ex;refine⟨⟨⟨h.st.qh,⟨k.os.trans j.os,k.tape.trans j.tape,k.output.trans j.output,a8 j.size k.size,fun i l=>(k.block i (cE l E)).trans (j.block i l)⟩,h.st.nl,h.st.sl,h.st.ne,h.st.xn,h.st.xs,(k.block _ C).trans h.st.sx,h.st.c0,h.st.cN,h.st.cS,(k.block _ A).trans h.st.nc,(k.block _ z).trans h.st.sc⟩,h.mem.same (k.block _ y) fun x=>r.ring.vk x n,h.k1.trans (f _ Od Od),h.k2.trans (f _ Od Od)⟩,n⟩
theorem ads{on:Nat->Bool}{v:Nat}(h:cV on v a=true)(b:a≠v):on a=true:=by unfold cV at h;rw[lK,beq_iff_eq] at h;exact h.resolve_left b
theorem ji.afr(g:ji D oA lc)(o:v<D.dL){t:aF}{e i:Nat->aF}(h:∀a,bK D.p v a=true->i a=e a):D.bT v t i=D.bT v t e:=by
 have k:∀a,cV (bK D.p v) v a=true->put i v t a=put e v t a:=fun a f=>by
  unfold put;by_cases b:a=v
  ·rw[if_pos b,if_pos b]
  ·rw[if_neg b,if_neg b];exact h a (ads f b)
 obtain⟨S,m,l⟩:=g.wk.E4 (D.d v) v o (aK _);unfold Pw.bT Go.Proofs.YthfffpcmldipgaaGreatDoor.bT;congr 1
 ·congr 1
  refine rK fun q r=>Pc q _ _ fun a f=>k a ?_;unfold cV;rw[lK,beq_iff_eq,<-l a];exact(m.1 q r).2 a f
 ·refine rK fun c s=> ?_;obtain⟨j,n⟩:=iC.1 s;refine g.kv c j _ _ fun a f=>k a ?_;rw[x9 n];exact(g.ka c j a f).1
theorem ji.self(a:ji D oA lc)(b:v<D.dL):bK D.p v v=false:=by
 cases h:bK D.p v v with
 |false=>rfl
 |true=>have:=(th.1 h).mW a.wk.r v rfl b;omega
theorem ad3:∀{l:List aF},(∀t∈l,t.length<=1000)->(kO l).length<=1001*l.length
 | [],_=>aT _
 |t::l,h=>by have b:=ad3 (l:=l) fun s a=>h s ay5;have c:=h t Ou;unfold kO at b⊢;rw[vP,bC,bC,iM,cW];omega
theorem anM(l:List aF)(t:aF):kO (l++ [t])=kO l++(t++ [0]):=by unfold kO;rw[GF,vP,aaI,kG]
theorem aoq{on:Nat->Bool}{v:Nat}{cur:Nat->aF}{t:aF}{P:aF->Prop}(c:P t)(h:∀a,on a=true->P (cur a))(a:Nat)(d:cV on v a=true):P (put cur v t a):=by
 unfold put;by_cases b:a=v
 ·rw[if_pos b];exact c
 ·rw[if_neg b];exact h a (ads d b)
theorem a7.below(h:a7 i m n)(k:Below m.heap.size n o):a7 i m o:=⟨k.os.trans h.os,k.tape.trans h.tape,k.output.trans h.output,a8 h.size k.size,fun d e f=>(k.block d e).trans (h.block d e f)⟩
theorem cC.agd(h:cC D oN oS cur on w)(ok:ji D oA lc)(i:v<D.dL){z:TypeId}(l:prog.underlying x=some (.map bI z)){e:Nat->aF}(r:∀a∈D.key v,(0:UInt8)∉e a/\e a∈D.U){g:aF}(n:nL v (D.key v) e=g)(q:g.length<=100000)(j:D.V w p (D.vT v e)):
 ∃w',(Instr.mapUpdate x (.map (some D.kb)) (aO g) p).run prog w= .ok () w'/\ah (cC D oN oS cur on w')/\ah (D.V w' p (D.vT v e))/\ah (Only D.kb w w'):=by
 subst n;have b:∀{w'} (x:TypeId),Only D.kb w w'->Kept x w w':=fun x c=>by obtain⟨m,f,o,_⟩:=h.mem;exact UN o c x
 have k:∀{w'},Only D.kb w w'->Kept r_ w w':=fun c=>b _ c;obtain⟨w',y,s,d⟩:=h.mem.put l ok.kl ok.u1 ok.um (fun i c=>ok.ring.vk i (k c)) i r q j;exact⟨w',y,⟨h.st.past d ok.kw ok.kx.symm ok.kn.symm ok.Yx.symm,s,h.k1.trans (b _ d),h.k2.trans (b _ d)⟩,ok.ring.vk j (k d),d⟩
theorem cC.look(h:cC D oN oS cur on w)(ok:ji D oA lc)(c:v<D.dL){d:TypeId}(j:prog.underlying x=some (.map bI d))(g:(zeroValue d).run prog w= .ok p w){e:Nat->aF}(q:∀a∈D.key v,(0:UInt8)∉e a/\e a∈D.U){b:aF}(k:nL v (D.key v) e=b)(n:b.length<=100000):
 ∃r:Option Value,(Instr.lookup x (.map (some D.kb)) (aO b) true).run prog w= .ok (.tuple #[r.getD p,.bool r.isSome]) w/\∀u,r=some u->D.V w u (D.vT v e):=by
 subst k;obtain⟨m,f,l,o⟩:=h.mem;have y:=ok.a12;exact⟨_,l.look Pd j g (VJ _ n),fun u i=>my.hit o (show D.dL<=256 by omega) (ok.kv v c) c (fun a s=>(q a s).1) i⟩
theorem cC.lookW(h:cC D oN oS cur on w)(ok:ji D oA lc)(c:v<D.dL){d:TypeId}(j:prog.underlying x=some (.map bI d))(g:∀w,(zeroValue d).run prog w= .ok p w){e:Nat->aF}(q:∀a∈D.key v,(0:UInt8)∉e a/\e a∈D.U){b:aF}(k:nL v (D.key v) e=b)(n:b.length<=100000):
 ∃r:Option Value,(∀W:World,W.heap[D.kb]?=w.heap[D.kb]?->(Instr.lookup x (.map (some D.kb)) (aO b) true).run prog W= .ok (.tuple #[r.getD p,.bool r.isSome]) W)/\∀u,r=some u->D.V w u (D.vT v e):=by
 subst k;obtain⟨m,f,l,o⟩:=h.mem;have y:=ok.a12;exact⟨_,fun W hW=>(l.same hW).look Pd j (g W) (VJ _ n),fun u i=>my.hit o (show D.dL<=256 by omega) (ok.kv v c) c (fun a s=>(q a s).1) i⟩
end
def ep.bP(h:ep m a H)(k:a7 i m n)(j:a∉i)(f:Kept r_ m n):ep n a H:=by obtain⟨b,A,d,c,r,s,e,p,o,l⟩:=h;exact⟨b,A,d,c,r,s,e,p,o.bP k j,l.keep f⟩
def ep.drew(h:ep m a H):ep m.drew a H:=h.ext (aC m).drew
def uK{h:Go.Func}{u0 u1 u2 u3:Value}{R:Ending->World->Prop}(c:h.results= #[.cell a dI])(i:Q.tmps.getD a undef=aJ b 0)(j:Q.defers= [])
 (f:ar m b dI [u0,u1,u2,u3]) (l:b_ m (.agg #[p,q,r,s]) H) (k:∀v e,b_ e v H->Only b m e->R (.returned v) e):
 bodyPost prog h R .ret Q ((((m.setCell (aB b 0) p).setCell (aB b 1) q).setCell (aB b 2) r).setCell (aB b 3) s):=by
 have d:ar ((((m.setCell (aB b 0) p).setCell (aB b 1) q).setCell (aB b 2) r).setCell (aB b 3) s) b dI [p,q,r,s]:=(((f.bu 0 p).bu 1 q).bu 2 r).bu 3 s;exact bodyPost_ret (results_cell_row c Q.tmps _ b dI #[p,q,r,s] (0,0) _ i d underlying128 rfl Ok) j (k _ _ (l.keep (f.Ij Od 0 1 2 3 p q r s)) ((((ii b m).bu 0 _).bu 1 _).bu 2 _|>.bu 3 _))
abbrev Bd:List Value:= [.bool false,.slice none 0 0,.bool false,.slice none 0 0]
def auC.k88(h:ai:=by
 have BZa:=af (rF.ext gI);have bB:ah (ar w8 D.xb D.tX D.cs/\ar w8 bq dJ [.slice Bk yv.length dk,.int .i64 yw]/\ar w8 d dI [.bool o0,.slice O0 o1 o2,.bool p0,.slice P0 p1 p2]):=⟨xx.st.sx,aH.2.1.ext gI,aH.2.2.ext gI⟩;have CM:ah (Calls prog D.fm #[.agg #[.bool o0,.slice O0 o1 o2,.bool p0,.slice P0 p1 p2],u8] w8 fun e w'=>∃u,e= .returned u/\b_ w' u (D.R.mul a0 (D.wt yw))/\Ext w8 w'):=(by rw[<-hF];exact aN.ring.mul w8 _ u8 a0 (D.wt yw) (1+k) 1 1 1 (by rw[hF];exact VO.ext gI) pZ Dk (aN.ring.gw yw FJ.1 FJ.2) Om Od Od)
 refine hK.ae _ _ (fun _=>bB.ae) ?_;clear hK CW aH ed iJ rF pZ gI BO VO;refine aL 13 ?_;intro K hK;go_simp;refine CM.mono ?_;rintro e9 w9 ⟨u9,rfl,B,m⟩;obtain⟨r0,R0,r1,r2,s0,S0,s1,s2,rfl,_,_⟩:=B.parts;have Z:=af (xx.fW aN m);have SD:=af (HCa.ext m);have BZb:=af (BZa.ext m);have I:=af (bB.2.2.ext m);have aH:ah (ar w9 D.xb D.tX D.cs/\ar w9 bq dJ [.slice Bk yv.length dk,.int .i64 yw]/\ar w9 d dI [.bool o0,.slice O0 o1 o2,.bool p0,.slice P0 p1 p2]):=⟨Z.st.sx,bB.2.1.ext m,I⟩;refine hK.ae _ _ (fun _=>aH.ae) ?_;obtain⟨k0,k1,k2,k3⟩:=I.four;obtain⟨f0,f1,f2,f3⟩:=I.fO;obtain⟨W',N,Dn,_,_,kX⟩:=ep.put I B Z.st.ex Om;have HW:=af N;have rB:=af (Z.past aN kX I Od Om Om Om Om Om);have Gn:=af (SD.only kX (.inr Om));have zN:=af (BZb.only kX Om);clear hK CM bB xx HCa BZa B m aH bL N I Z SD BZb;refine aL 14 ?_;intro K hK;go_simp;refine hK.ae _ _ Oy9 ?_;refine bY Ok ?_;rw[HW.ae];clear k0 k1 k2 k3 f0 f1 f2 f3 hK HW kX;have bL:=F;go_wp2_with fail
 go_roundw;exact⟨j+1,by omega,by go_num,by rw[Q.ae,if_pos rfl,XJ.ae];exact Dn,zN,rB,Gn⟩;simp [RowKit.intOf];omega):=h
def auD.k56(h:ai:=by
 have Jo:=af (HU.ext cY);have SP:=af (o.ext cY);have iX:d<wr.heap.size:=HU.lt;have pg:=af (cQ nZ iy.st.ex);have nW:=BY.lt;obtain⟨y0,y1⟩:=BY.two;have CA:=af (VC D.xb D.jb D.nb D.sb r D.x (put cur v t) (cV (bK D.p v) v) rl Bk dk yv yw W6 iy.st.FE.st n_ Jt Z6 pg);rw[<-Na.ae] at CA;clear HX HC HU o dD eH cY;generalize wr.heap.size=bq at*;go_wp2_with fail
 refine CA.mono ?_;rintro e7 w7 ⟨rfl,C⟩;have E:=af (iy.fW aN C);have G:=af (NG.ext C);have vE:=af (Jo.ext C);have H:=af (SP.ext C);have Gw:=af (BY.ext C);clear CA y0 y1 iy NG Jo SP BY C pg;cases M:q (yv,yw) with
 |false=>
  have Q:ah ((rows.take (j+1)).any q=(rows.take j).any q):=by rw[ah,JG.ae,M,xQ]
  clear M JG kX Na;go_wp2_with fail;go_roundw;exact⟨j+1,by omega,by go_num,by rw[Q.ae];exact vE,H,E,G⟩;simp [RowKit.intOf];omega
 |true=>
  obtain⟨he,aiF⟩:=kX M;have Q:ah ((rows.take (j+1)).any q=true):=by rw[ah,JG.ae,M,TW]
  have XJ:ah (wh r=D.wt yw):=by rw[ah,ZT.ae,<-he]
  have zk:ah (ep w7.drew d a0):=(by have h:=vE.ae;rw[aiF,if_neg Od] at h;exact h.drew);obtain⟨o0,O0,o1,o2,p0,P0,p1,p2,BO,VO⟩:=zk.parts;have ed:=af (E.drew aN);have iJ:=af G.drew;have rF:=af H.drew;have aH:ah (ar w7.drew D.xb D.tX D.cs/\ar w7.drew bq dJ [.slice Bk yv.length dk,.int .i64 yw]/\ar w7.drew d dI [.bool o0,.slice O0 o1 o2,.bool p0,.slice P0 p1 p2]):=⟨ed.st.sx,Gw.drew,BO⟩;have F:=bL;clear he aiF M JG kX Na vE E G Gw H bL zk;have bL:ah (∀w',(ar w' D.xb D.tX D.cs/\ar w' bq dJ [.slice Bk yv.length dk,.int .i64 yw]/\ar w' d dI [.bool o0,.slice O0 o1 o2,.bool p0,.slice P0 p1 p2])->ay w' D.xb 14 (.func (.func D.fm) #[] #[])/\ay w' D.xb 17 (.func (.func D.fw) #[] #[])/\ay w' bq 1 (.int .i64 yw)/\F4 w' d (.bool o0) (.slice O0 o1 o2) (.bool p0) (.slice P0 p1 p2)):=fun w' h=>⟨(F w' h.1).1,(F w' h.1).2.1,h.2.1.aD 1,h.2.2.four⟩;unfold F4 at bL;go_upto_region 10 with fail
  refine b9 (S:=fun w'=>ar w' D.xb D.tX D.cs/\ar w' bq dJ [.slice Bk yv.length dk,.int .i64 yw]/\ar w' d dI [.bool o0,.slice O0 o1 o2,.bool p0,.slice P0 p1 p2]) (T:=fun j=>decide (14<=j)) Ok ?_;open auC in exact m88):=h
def auE.k26(h:ai:=by
 have uf:ah (ep w4 d (if (rows.take 0).any q=true then D.R.mul a0 (wh r) else a0)):=(by rw[ah,kH,TR,if_neg Od];exact HU);go_loopw [11,58] (fun _ v58 X=>∃j:Nat,j<=rows.length/\v58= .int .i64 j/\ah (ep X d (if (rows.take j).any q=true then D.R.mul a0 (wh r) else a0))/\ah (ar X w.heap.size dI Bd)/\ah (cC D 19 20 (put cur v t) (cV (bK D.p v) v) X)/\ah (a7 [D.nb,D.sb,D.kb] w X)) (fun _ v58 _=>rows.length - (RowKit.intOf v58).toNat);exact⟨0,aT _,rfl,uf,o,HX,HC⟩;clear uf HU HX HC o;obtain⟨j,hj,rfl,HU,o,HX,HC⟩:=hrel;by_cases dX:j<rows.length
 ·open auD in exact m56
 ·obtain rfl:j=rows.length:=Om;have ZY:ah (ep wr d (D.R.mul a0 (wh r))):=(by have h:=HU.ae;rw[f9,ae9 HF.ae,if_pos rfl] at h;exact h)
  have d1:decide ((rows.length:Int)<(rows.length:Int))=false:=aW;clear HU Sc FK HF ZT HQ Jy;go_wp2_with fail;go_roundw;exact⟨k+1,by omega,by go_num,by rw[fp.ae];exact ZY,o,HX,HC⟩;simp [RowKit.intOf];omega):=h
def auA.ahG(h:ai:=by
 have E:ah (cC D 19 20 RM (cV (bK D.p v) v) w8):=by rw[ah,<-zj.ae];exact gI
 have HA8:ah (∀a,cV (bK D.p v) v a=true->RM a=put cur v t a):=fun a ha=>(RA a (by rw[zj.ae];exact ha)).trans (HA a ha);have hk8:=Ix.Qe xh;have G:=af (nD.trans xh);have BO8:=af (vN.bP xh ay0);have H:=af (rG.bP xh ay0);have bB:ah (ar w8 D.xb D.tX D.cs/\ar w8 d dI [.bool o0,.slice O0 o1 o2,.bool p0,.slice P0 p1 p2]):=⟨gI.st.sx,BO8⟩;have CM:ah (Calls prog D.fm #[.agg #[.bool o0,.slice O0 o1 o2,.bool p0,.slice P0 p1 p2],u8] w8 fun e w'=>∃u,e= .returned u/\b_ w' u (D.R.mul acc (D.vT c cu))/\Ext w8 w'):=(by rw[<-hF];exact aN.ring.mul w8 _ u8 acc (D.vT c cu) s1 s2 j1 j2 (by rw[hF];exact RU.keep hk8) pZ vH (by rw[Cz.ae];exact ui) m1 m2 m3)
 refine hK.ae _ _ (fun _=>bB.ae) ?_;clear hK CV aH Ix nD vN RU rG pZ gI RA xh HA hk8 bB;refine aL 9 ?_;intro K hK;go_simp;refine CM.mono ?_;rintro e9 w9 ⟨u9,rfl,B,m⟩;obtain⟨r0,R0,r1,r2,s0,S0,s1,s2,rfl,_,_⟩:=B.parts;have ed:=af (E.fW aN m);have iJ:=af (G.ext m);have J:=af (BO8.ext m);have rF:=af (H.ext m);have aH:ah (ar w9 D.xb D.tX D.cs/\ar w9 d dI [.bool o0,.slice O0 o1 o2,.bool p0,.slice P0 p1 p2]):=⟨ed.st.sx,J⟩;refine hK.ae _ _ (fun _=>aH.ae) ?_;obtain⟨k0,k1,k2,k3⟩:=J.four;obtain⟨f0,f1,f2,f3⟩:=J.fO;obtain⟨W',N,Dn,_,_,kX⟩:=ep.put J B ed.st.ex Om;have HW:=af N;have rB:=af (ed.past aN kX J Od Om Om Om Om Om);have Gn:=af (iJ.only kX (.inr Om));have zN:=af (rF.only kX Om);clear hK CM E G BO8 H B m aH bL N J ed iJ rF;refine aL 10 ?_;intro K hK;go_simp;refine hK.ae _ _ Oy9 ?_;refine bY Ok ?_;rw[HW.ae];clear k0 k1 k2 k3 f0 f1 f2 f3 hK HW kX;have bL:=F;go_wp2_with fail
 go_roundw;exact⟨k+1,_,by omega,by go_num,zN,by rw[fp.ae,<-Cz.ae];exact Dn,rB,HA8,Gn⟩;simp [RowKit.intOf];omega):=h
def auB.k83(h:ai:=by
 have MR:=af (fun h=>aN.ring.z0 (D.R.mul b0 (D.R.prod (kl.take k) fun c=>D.vT c (put cur v t))) h);have JC:ah (∀a,bK D.p kl[k] a=true->cu a∈D.U):=fun a ha=>by rw[<-x9 jk] at ha;rw[HA.ae a ha];exact aiz a ha
 have R5:ah (cC D 19 20 cu (bK D.p kl[k]) wr):=by rw[ah,<-x9 jk];exact HX
 have Cz:ah (D.vT kl[k] cu=D.vT kl[k] (put cur v t)):=aN.kv _ lT _ _ fun a ha=>by have h1:=(aN.ka _ lT a ha).1;rw[<-x9 jk] at h1;exact HA a h1
 have zj:ah (bK D.p kl[k]=cV (bK D.p v) v):=(x9 jk).symm;have avp:kl[k]<D.dL:=lT;clear gX m4 m5 hM jk lT;generalize D.R.mul b0 (D.R.prod (kl.take k) fun c=>D.vT c (put cur v t))=acc at*;generalize kl[k]=c at*;go_upto_region 16 with fail
 obtain⟨o0,O0,o1,o2,p0,P0,p1,p2,BO,VO⟩:=HU.drew.parts;have n:=af (HX.drew aN);have aiX:=af (R5.drew aN);have nE:=af HC.drew;have JL:=af o.drew;have CZ:=af (aN.ring.QO wr.drew (.agg #[.bool o0,.slice O0 o1 o2,.bool p0,.slice P0 p1 p2]) _ sz jz (by rw[hF];exact VO) z3 z1 z2);have aH:ah (ar wr.drew D.xb D.tX D.cs/\ar wr.drew d dI [.bool o0,.slice O0 o1 o2,.bool p0,.slice P0 p1 p2]):=⟨n.st.sx,BO⟩;have F:=bL;clear HX R5 HC HU bL e3 o z3;have bL:ah (∀w',(ar w' D.xb D.tX D.cs/\ar w' d dI [.bool o0,.slice O0 o1 o2,.bool p0,.slice P0 p1 p2])->ay w' D.xb 14 (.func (.func D.fm) #[] #[])/\ay w' D.xb 15 (.func (.func D.fz) #[] #[])/\F4 w' d (.bool o0) (.slice O0 o1 o2) (.bool p0) (.slice P0 p1 p2)):=fun w' h=>⟨(F w' h.1).1,h.1.cell aN.cz,h.2.four⟩;unfold F4 at bL;refine b9 (S:=fun w'=>ar w' D.xb D.tX D.cs/\ar w' d dI [.bool o0,.slice O0 o1 o2,.bool p0,.slice P0 p1 p2]) (T:=fun _=>false) Ok ?_;generalize wr.drew=wd at*;refine ax 0 95 ?_;refine ax 1 96 ?_;refine ax 2 97 ?_;refine ax 3 98 ?_;refine ax 4 99 ?_;refine ax 5 100 ?_;refine aL 6 ?_;intro K hK;go_simp;refine CZ.mono ?_;rintro e5 w5 ⟨rfl,A⟩;have en:=af (n.fW aN A);have O:=af (aiX.fW aN A);have qw:=af (nE.ext A);have W:=af (BO.ext A);have Y:=af (VO.ext A);have xJ:=af (JL.ext A);have bB:ah (ar w5 D.xb D.tX D.cs/\ar w5 d dI [.bool o0,.slice O0 o1 o2,.bool p0,.slice P0 p1 p2]):=⟨en.st.sx,W⟩;refine hK.ae _ _ (fun _=>bB.ae) ?_;clear hK CZ n aiX nE BO VO JL A aH bB;refine bY Ok ?_;cases hz:D.yK acc with
 |true=>have xy:ah (ep w5 d (D.bT v t cur)):=(by have h1:=MR hz;rw[ah,JE.ae,HST.ae h1,<-h1];exact ep.of W Y);have jG:=en;have Dm:=qw;have BZf:=xJ;clear en O qw hz MR HST fp Jm vH ui Cz zj JC W Y xJ;generalize w5=wf at*;exact m34
 |false=>
  clear hz MR HST en;go_upto_region 17 with fail
  have Ix:=af (O.drew aN);have nD:=af qw.drew;have vN:=af W.drew;have RU:=af (Y.ext (aC w5).drew);have rG:=af xJ.drew;have aH:ah (ar w5.drew D.xb D.tX D.cs/\ar w5.drew d dI [.bool o0,.slice O0 o1 o2,.bool p0,.slice P0 p1 p2]):=⟨Ix.st.sx,vN⟩;clear O qw W Y xJ;refine b9 (S:=fun w'=>ar w' D.xb D.tX D.cs/\ar w' d dI [.bool o0,.slice O0 o1 o2,.bool p0,.slice P0 p1 p2]) (T:=fun j=>decide (10<=j)) Ok ?_;open auA in exact agV):=h
def auF.ahD(h:ai:=by
 clear hK aH FL lT hfn;have aH:=bB;clear bB;refine ax 13 26 ?_;refine aL 14 ?_;intro K hK;go_simp;rw[sJ.ae];refine hK.ae _ _ Oy9 ?_;refine bY Ok ?_;clear hK aH sJ hcs p_ bW gZ et kf;go_wp2_with fail
 refine CL.mono ?_;rintro e3 w3 ⟨u3,rfl,yM,L⟩;obtain⟨a0,A0,a1,a2,b0,B0,b1,b2,rfl,_,_⟩:=yM.parts;clear CL;go_upto_region 3 with fail
 refine Lb yM fun w4 n nG LB=> ?_;have Fh:w.heap.size<w3.heap.size:=cE pB.lt L.size;have bZ:=af (aY.fW aN (L.trans n));have iK:=af (fR.ext (L.trans n));have NR:=af (pB.ext (L.trans n));have sK:ah (ep w4 w3.heap.size (D.R.mul (D.g v t) (D.R.prod ((D.homes v).take 0) fun h=>hW D.R D.x D.T D.wt h (put cur v t)))):=by rw[ah,kH];rw[show D.R.prod ([]:List Nat) (fun h=>hW D.R D.x D.T D.wt h (put cur v t))=D.R.one from rfl,SR.Ca];exact nG
 have c3:=bZ.st.sx.cell k3;have ZI:=hhc _ bZ.k1;clear c10 L yM aY fR n nG LB pB cD o;generalize w3.heap.size=d at*;go_upto_region 4 with fail
 clear c3 ZI;obtain⟨wh,lw⟩:∃wh:Nat->Rat,wh=fun h=>hW D.R D.x D.T D.wt h (put cur v t):=⟨_,rfl⟩;have XU:ah (∀h∈D.homes v,h<D.x.aA.length/\∃y,y∈bR D.T h/\(bR D.T h).filter (fun y=>ey (cV (bK D.p v) v) (put cur v t) (bJ D.x h) y.1)= [y]/\wh h=D.wt y.2):=by rw[lw];exact HHB
 rw[<-lw] at JE HG sK Dj;clear HHB lw;generalize D.homes v=hl at*;go_loopw [9,11,43] (fun _ _ v43 wr=>∃k:Nat,k<=hl.length/\v43= .int .i64 k/\ah (ep wr d (D.R.mul (D.g v t) (D.R.prod (hl.take k) wh)))/\ah (ar wr w.heap.size dI Bd)/\ah (cC D 19 20 (put cur v t) (cV (bK D.p v) v) wr)/\ah (a7 [D.nb,D.sb,D.kb] w wr)) (fun _ _ v43 _=>hl.length - (RowKit.intOf v43).toNat);exact⟨0,aT _,rfl,sK,NR,bZ,iK⟩;clear sK bZ iK NR;obtain⟨k,hk,rfl,HU,o,HX,HC⟩:=hrel;by_cases dE:k<hl.length
 ·open auE in exact m26
 ·obtain rfl:k=hl.length:=Om;have d1:decide ((hl.length:Int)<(hl.length:Int))=false:=aW;have sL:ah (ep wr d (D.R.mul (D.R.mul (D.g v t) (D.R.prod hl wh)) (D.R.prod ((kids D.dL D.p (some v)).take 0) fun c=>D.vT c (put cur v t)))):=(by exact agH)
  have c1:=HX.st.sx.cell k1;have ZJ:=hcc _ HX.k1;clear HU HG zm Qy lV XU d_ tS;generalize D.R.mul (D.g v t) (D.R.prod hl wh)=b0 at*;go_upto_region 14 with fail
  clear c1 ZJ d1;generalize kids D.dL D.p (some v)=kl at*;generalize wr=w4 at*;have qy:ah (∀a,cV (bK D.p v) v a=true->put cur v t a=put cur v t a):=fun _ _=>rfl;go_loopw [13,91] (fun _ v91 X=>∃(k:Nat) (cu:Nat->aF),k<=kl.length/\v91= .int .i64 k/\ah (ar X w.heap.size dI Bd)/\ah (ep X d (D.R.mul b0 (D.R.prod (kl.take k) fun c=>D.vT c (put cur v t))))/\ah (cC D 19 20 cu (cV (bK D.p v) v) X)/\ah (∀a,cV (bK D.p v) v a=true->cu a=put cur v t a)/\ah (a7 [D.nb,D.sb,D.kb] w X)) (fun _ v91 _=>kl.length - (RowKit.intOf v91).toNat)
  exact⟨0,_,aT _,rfl,o,sL,HX,qy,HC⟩;clear sL HX qy HC o;obtain⟨k,cu,hk,rfl,o,HU,HX,HA,HC⟩:=hrel;have iX:d<wr.heap.size:=HU.lt;by_cases dE:k<kl.length
  ·open auB in exact m83
  ·obtain rfl:k=kl.length:=Om;have d1:decide ((kl.length:Int)<(kl.length:Int))=false:=aW;have xy:ah (ep wr d (D.bT v t cur)):=(by rw[ah,JE.ae];have h:=HU.ae;rwa[f9] at h)
   have jG:=HX;have Dm:=HC;have BZf:=o;clear HU HX HC o;generalize wr=wf at*;exact m34):=h
def auG.k37(h:ai:=by clear hW1 hW2 h hV ht HLH HLC xg ru;refine b9 (S:=fun w'=>ar w' D.xb D.tX D.cs) (T:=fun j=>decide (14<=j)) Ok ?_;generalize wz.drew=wd at*;open auF in exact agO):=h
def auH.k99(h:ai:=by
 have kf:=af (((ig (S:= [D.nb,D.sb,D.kb]) cD).drew).only gZ.ae (.inl Ou));have pB:ah (ar W2 w.heap.size dI Bd):=(o.drew.only gZ Om).only et.ae Om;have fR:=af (kf.only et (.inl Ou));have aN:=af ok;have HV:=af hV;have FL:=af hW1;have sJ:=af hW2;have aH:=af h.st.drew.sx;have bB:=af bW.st.sx;have bL:ah (∀w',ar w' D.xb D.tX D.cs->w'.cell? (aB D.xb 14)=some (.func (.func D.fm) #[] #[])/\w'.cell? (aB D.xb 17)=some (.func (.func D.fw) #[] #[])/\w'.cell? (aB D.xb 19)=some (aG D.nb 0 D.x.aq.length D.x.aq.length)/\w'.cell? (aB D.xb 20)=some (aG D.sb 0 D.x.aq.length D.x.aq.length)):=(by exact agm)
 have gV:=ok.il;have him:=ok.ring.im;have Rk:=ok.ring.iz;have hiw:=ok.ring.iw;have CL:ah (Calls prog D.fl #[.int .i64 v,.string ⟨t.toArray⟩,s] W2 fun e w'=>∃u,e= .returned u/\b_ w' u (D.g v t)/\Ext W2 w'):=(by rw[<-hF];exact ok.lift W2 aY.st.ex v t hv (aep ht) ru)
 open auG in exact m37):=h
def al8{D:Pw Rat}(ok:ji D 13 #[s])(hF:D.V=b_){v:Nat}(hv:v<D.dL)(hV:∀c∈kids D.dL D.p (some v),Jg D 19 20 210 c):NQ D 19 20 259 v:=by
 intro t cur w h1 xg ht;have HST:=af h1;clear h1;have wV:D.nb<w.heap.size:=HST.st.nc.lt;have E_:D.sb<w.heap.size:=HST.st.sc.lt;have hkb:D.kb<w.heap.size:=HST.mem.lt;have IK:D.xb<w.heap.size:=HST.st.sx.lt;have hw0:D.w0.heap.size<=w.heap.size:=HST.st.ex.size;go_enter func259,ntmps259;go_upto_region 1 with fail
 refine aP fun wz cD o=> ?_;have h:=HST.fW ok cD;have wT:w.heap.size<wz.heap.size:=o.lt;open auH in exact m99
def auu.k88(h:ai:=by
 have bB:ah (ar w8 D.xb D.tX D.cs/\ar w8 W dJ [.slice Bk yv.length dk,av yw]):=⟨xx.st.sx,aH.2.ext gI⟩;have CM:=af (aN.ring.mul w8 u7 u8 a0 (D.wt yw) (1+k) 1 1 1 (aN.ring.vk zk (.jd gI)) pZ Dk (aN.ring.gw yw FJ.1 FJ.2) Om Od Od);refine hK.ae _ _ (fun _=>bB.ae) ?_;clear hK pZ gI;refine aL 13 ?_;intro K hK;go_simp;refine CM.mono ?_;rintro e9 w9 ⟨u9,rfl,o,d⟩;have xt:=af (xx.fW aN d);have SD:=af (HCa.ext d);have ZZ:=af o;have aH:ah (ar w9 D.xb D.tX D.cs/\ar w9 W dJ [.slice Bk yv.length dk,av yw]):=⟨xt.st.sx,bB.2.ext d⟩;refine hK.ae _ _ (fun _=>aH.ae) ?_;clear hK o d;refine ax 14 7 ?_;refine bY Ok ?_;have bL:=Q;go_wp2_with fail
 go_roundw;exact⟨j+1,_,by omega,by go_num,af rfl,by rw[B.ae,if_pos rfl,XJ.ae];exact ZZ,xt,SD⟩;simp [RowKit.intOf];omega):=h
def auv.k56(h:ai:=by
 have Jo:=af (aN.ring.vk HU (.jd cY.ae));have pg:=af (cQ nZ iy.st.ex);have nW:=BY.lt;obtain⟨y0,y1⟩:=BY.two;have CA:=af (VF D.xb D.jb D.nb D.sb r D.x (put cur v t) (cV (bK D.p v) v) rl Bk dk yv yw W6 iy.st.FE.st n_ Jt Z6 pg);rw[<-Na.ae] at CA;clear dD eH;generalize wr.heap.size=W at*;go_wp2_with fail
 refine CA.mono ?_;rintro e7 w7 ⟨rfl,m⟩;have C:=af (iy.fW aN m);have E:=af (NG.ext m);have vE:=af (aN.ring.vk Jo (.jd m));have Gw:=af (BY.ext m);clear y0 y1 BY m;cases A:q (yv,yw) with
 |false=>
  have B:ah ((rows.take (j+1)).any q=(rows.take j).any q):=by rw[ah,JG.ae,A,xQ]
  clear A;go_wp2_with fail;go_roundw;exact⟨j+1,_,by omega,by go_num,af rfl,by rw[B.ae];exact vE,C,E⟩;simp [RowKit.intOf];omega
 |true=>
  obtain⟨he,F⟩:=kX A;have B:ah ((rows.take (j+1)).any q=true):=by rw[ah,JG.ae,A,TW]
  have XJ:ah (wh r=D.wt yw):=by rw[ah,ZT.ae,<-he]
  have zk:ah (D.V w7.drew u7 a0):=(by have h:=vE.ae;rw[F,if_neg Od] at h;exact aN.ring.vk h (jL _ _).drew);have ed:=af (C.drew aN);have iJ:=af E.drew;have aH:ah (ar w7.drew D.xb D.tX D.cs/\ar w7.drew W dJ [.slice Bk yv.length dk,av yw]):=⟨ed.st.sx,Gw.drew⟩;have Q:=bL;clear he F A;have bL:ah (∀w',(ar w' D.xb D.tX D.cs/\ar w' W dJ [.slice Bk yv.length dk,av yw])->ay w' D.xb 8 (.func (.func D.fm) #[] #[])/\ay w' D.xb 11 (.func (.func D.fw) #[] #[])/\ay w' W 1 (av yw)):=fun w' h=>⟨(Q w' h.1).1,(Q w' h.1).2.1,h.2.aD 1⟩;go_upto_region 10 with fail
  refine b9 (S:=fun w'=>ar w' D.xb D.tX D.cs/\ar w' W dJ [.slice Bk yv.length dk,av yw]) (T:=fun _=>false) Ok ?_;open auu in exact m88):=h
def auw.k26(h:ai:=by
 have uf:ah (D.V w4 u (if (rows.take 0).any q=true then D.R.mul a0 (wh r) else a0)):=(by rw[ah,kH,TR,if_neg Od];exact HU);go_loopw [7,11,58] (fun X _ J H=>∃(j:Nat) (u:Value),j<=rows.length/\J=av j/\ah (u=X)/\ah (D.V H u (if (rows.take j).any q=true then D.R.mul a0 (wh r) else a0))/\ah (cC D 13 14 (put cur v t) (cV (bK D.p v) v) H)/\ah (a7 [D.nb,D.sb,D.kb] w H)) (fun _ _ J _=>rows.length - (RowKit.intOf J).toNat);exact⟨0,_,aT _,rfl,af rfl,uf,HX,HC⟩;obtain⟨j,u7,hj,rfl,s,HU,HX,HC⟩:=hrel;have s:=s.ae;subst s;by_cases dX:j<rows.length
 ·open auv in exact m56
 ·obtain rfl:j=rows.length:=Om;have ZY:ah (D.V wr u7 (D.R.mul a0 (wh r))):=(by have h:=HU.ae;rw[f9,ae9 HF.ae,if_pos rfl] at h;exact h)
  have d1:decide ((rows.length:Int)<(rows.length:Int))=false:=aW;go_wp2_with fail;go_roundw;exact⟨k+1,_,by omega,by go_num,af rfl,by rw[fp.ae];exact ZY,HX,HC⟩;simp [RowKit.intOf];omega):=h
def aus.ahG(h:ai:=by
 have C:ah (cC D 13 14 RM (cV (bK D.p v) v) w8):=by rw[ah,<-zj.ae];exact gI
 have HA8:ah (∀a,cV (bK D.p v) v a=true->RM a=put cur v t a):=fun a ha=>(RA a (by rw[zj.ae];exact ha)).trans (HA a ha);have E:=af (nD.trans xh);have bB:=af gI.st.sx;have CM:=af (aN.ring.mul w8 u u8 Z (D.vT c cu) s1 s2 j1 j2 (Ix.vC aN xh M2) pZ vH (by rw[Cz.ae];exact ui) m1 m2 m3);refine hK.ae _ _ (fun _=>bB.ae) ?_;clear hK pZ gI RA xh;refine aL 9 ?_;intro K hK;go_simp;refine CM.mono ?_;rintro e9 w9 ⟨u9,rfl,o,d⟩;have ed:=af (C.fW aN d);have iJ:=af (E.ext d);have zk:=af o;have aH:=af ed.st.sx;refine hK.ae _ _ (fun _=>aH.ae) ?_;clear hK o d;refine ax 10 7 ?_;refine bY Ok ?_;go_wp2_with fail
 go_roundw;exact⟨k+1,_,_,by omega,by go_num,af rfl,by rw[fp.ae,<-Cz.ae];exact zk,ed,HA8,iJ⟩;simp [RowKit.intOf];omega):=h
def aut.k83(h:ai:=by
 have e4:=HX.st.sx.cell aN.cz;have CZ:=af (aN.ring.QO wr u _ sz jz HU z3 z1 z2);have MR:=af (fun h=>aN.ring.z0 (D.R.mul b0 (D.R.prod (kl.take k) fun c=>D.vT c (put cur v t))) h);have JC:ah (∀a,bK D.p kl[k] a=true->cu a∈D.U):=fun a ha=>by rw[<-x9 jk] at ha;rw[HA.ae a ha];exact aiz a ha
 have R5:ah (cC D 13 14 cu (bK D.p kl[k]) wr):=by rw[ah,<-x9 jk];exact HX
 have Cz:ah (D.vT kl[k] cu=D.vT kl[k] (put cur v t)):=aN.kv _ lT _ _ fun a ha=>by have h1:=(aN.ka _ lT a ha).1;rw[<-x9 jk] at h1;exact HA a h1
 have zj:ah (bK D.p kl[k]=cV (bK D.p v) v):=(x9 jk).symm;have avp:kl[k]<D.dL:=lT;clear gX m4 m5 z3 hM jk lT;generalize D.R.mul b0 (D.R.prod (kl.take k) fun c=>D.vT c (put cur v t))=Z at*;generalize kl[k]=c at*;go_wp2_with fail
 refine CZ.mono ?_;rintro e5 w5 ⟨rfl,n⟩;have en:=af (HX.fW aN n);have G:=af (R5.fW aN n);have qw:=af (HC.ext n);have ue:=af (aN.ring.vk HU (.jd n));clear n e3 e4;cases hz:D.yK Z with
 |true=>have xy:ah (D.V w5 u (D.bT v t cur)):=(by have h1:=MR hz;rw[ah,JE.ae,HST.ae h1,<-h1];exact ue);have jG:=en;have Dm:=qw;clear hz;generalize w5=wf at*;exact m43
 |false=>
  clear hz;go_upto_region 17 with fail
  have aH:=af G.st.drew.sx;have Ix:=af (G.drew aN);have nD:=af qw.drew;have M2:=af (aN.ring.vk ue (jL _ _).drew);refine b9 (S:=fun w'=>ar w' D.xb D.tX D.cs) (T:=fun _=>false) Ok ?_;open aus in exact agV):=h
def aux.ahD(h:ai:=by
 clear hK lT hfn;have aH:=bB;refine ax 13 26 ?_;refine aL 14 ?_;intro K hK;go_simp;rw[sJ.ae];refine hK.ae _ _ Oy9 ?_;refine bY Ok ?_;clear hK hcs p_;go_wp2_with fail
 refine CL.mono ?_;rintro e3 w3 ⟨u3,rfl,Y,M⟩;have O:=af (aY.fW aN M);have iK:=af (fR.ext M);have sK:ah (D.V w3 u3 (D.R.mul (D.g v t) (D.R.prod ((D.homes v).take 0) fun h=>hW D.R D.x D.T D.wt h (put cur v t)))):=by rw[ah,kH];rw[show D.R.prod ([]:List Nat) (fun h=>hW D.R D.x D.T D.wt h (put cur v t))=D.R.one from rfl,SR.Ca];exact Y
 have c3:=O.st.sx.cell k3;have ZI:=hhc _ O.k1;clear c10 M Y;go_upto_region 4 with fail
 clear c3 ZI;obtain⟨wh,N⟩:∃wh:Nat->α,wh=fun h=>hW D.R D.x D.T D.wt h (put cur v t):=⟨_,rfl⟩;have XU:ah (∀h∈D.homes v,h<D.x.aA.length/\∃y,y∈bR D.T h/\(bR D.T h).filter (fun y=>ey (cV (bK D.p v) v) (put cur v t) (bJ D.x h) y.1)= [y]/\wh h=D.wt y.2):=by rw[N];exact HHB
 rw[<-N] at JE HG sK Dj;clear N;generalize D.homes v=hl at*;go_loopw [7,9,11,43] (fun X _ _ L wr=>∃(k:Nat) (u:Value),k<=hl.length/\L=av k/\ah (u=X)/\ah (D.V wr u (D.R.mul (D.g v t) (D.R.prod (hl.take k) wh)))/\ah (cC D 13 14 (put cur v t) (cV (bK D.p v) v) wr)/\ah (a7 [D.nb,D.sb,D.kb] w wr)) (fun _ _ _ L _=>hl.length - (RowKit.intOf L).toNat);exact⟨0,_,aT _,rfl,af rfl,sK,O,iK⟩;obtain⟨k,u,hk,rfl,s,HU,HX,HC⟩:=hrel;have s:=s.ae;subst s;by_cases dE:k<hl.length
 ·open auw in exact m26
 ·obtain rfl:k=hl.length:=Om;have d1:decide ((hl.length:Int)<(hl.length:Int))=false:=aW;have sL:ah (D.V wr u (D.R.mul (D.R.mul (D.g v t) (D.R.prod hl wh)) (D.R.prod ((kids D.dL D.p (some v)).take 0) fun c=>D.vT c (put cur v t)))):=(by exact agH)
  have c1:=HX.st.sx.cell k1;have ZJ:=hcc _ HX.k1;clear tS;generalize D.R.mul (D.g v t) (D.R.prod hl wh)=b0 at*;go_upto_region 14 with fail
  clear c1 ZJ d1;generalize kids D.dL D.p (some v)=kl at*;generalize wr=w4 at*;have qy:ah (∀a,cV (bK D.p v) v a=true->put cur v t a=put cur v t a):=fun _ _=>rfl;go_loopw [7,13,91] (fun X _ I H=>∃(k:Nat) (u:Value) (cu:Nat->aF),k<=kl.length/\I=av k/\ah (u=X)/\ah (D.V H u (D.R.mul b0 (D.R.prod (kl.take k) fun c=>D.vT c (put cur v t))))/\ah (cC D 13 14 cu (cV (bK D.p v) v) H)/\ah (∀a,cV (bK D.p v) v a=true->cu a=put cur v t a)/\ah (a7 [D.nb,D.sb,D.kb] w H)) (fun _ _ I _=>kl.length - (RowKit.intOf I).toNat)
  exact⟨0,_,_,aT _,rfl,af rfl,sL,HX,qy,HC⟩;obtain⟨k,u,cu,hk,rfl,s,HU,HX,HA,HC⟩:=hrel;have s:=s.ae;subst s;by_cases dE:k<kl.length
  ·open aut in exact m83
  ·obtain rfl:k=kl.length:=Om;have d1:decide ((kl.length:Int)<(kl.length:Int))=false:=aW;have xy:ah (D.V wr u (D.bT v t cur)):=(by rw[ah,JE.ae];have h:=HU.ae;rwa[f9] at h)
   have jG:=HX;have Dm:=HC;generalize wr=wf at*;exact m43):=h
def auy.k37(h:ai:=by
 clear hW1 hW2 h hV ht xg ru;go_enter func207,ntmps207;go_upto_region 1 with fail
 refine b9 (S:=fun w'=>ar w' D.xb D.tX D.cs) (T:=fun j=>decide (14<=j)) Ok ?_;generalize w.drew=wd at*;open aux in exact agO):=h
def auz.k99(h:ai:=by
 have kf:=af (((ig (S:= [D.nb,D.sb,D.kb]) (aC w)).drew).only gZ.ae (.inl Ou));have fR:=af (kf.only et (.inl Ou));have aN:=af ok;have HV:=af hV;have FL:=af hW1;have sJ:=af hW2;have aH:=af h.st.drew.sx;have bB:=af bW.st.sx;have bL:ah (∀w',ar w' D.xb D.tX D.cs->ay w' D.xb 8 (.func (.func D.fm) #[] #[])/\ay w' D.xb 11 (.func (.func D.fw) #[] #[])/\ay w' D.xb 13 (aG D.nb 0 D.x.aq.length D.x.aq.length)/\ay w' D.xb 14 (aG D.sb 0 D.x.aq.length D.x.aq.length)):=(by exact agm)
 have gV:=ok.il;have him:=ok.ring.im;have Rk:=ok.ring.iz;have hiw:=ok.ring.iw;have CL:=af (ok.lift W2 aY.st.ex v t hv (aep ht) ru);open auy in exact m37):=h
def amk{α:Type}{D:Pw α}(ok:ji D 7 #[]){v:Nat}(hv:v<D.dL)(hV:∀c∈kids D.dL D.p (some v),Jg D 13 14 203 c):NQ D 13 14 207 v:=by intro t cur w h xg ht;open auz in exact m99
def aoa(w:au):(zeroValue gh).run prog w= .ok (.bool false) w:=Ok
def adf:prog.underlying 272=some (.map bI gh):=Ok
def amg(h:a<256):byteCells [UInt8.ofNat a]= [.int .u8 (a:Int)]:=by unfold byteCells;rw[Oh];congr 2;simp;omega
def Eh{S:List Nat}(h:IsBuilderF tB t8 a b t m)(k:a7 S m n)(l:∀i∈S,i<a):IsBuilderF tB t8 a b t n:=by
 have d:∀{v:Value},m.ownsRowF a t8 1 v t.length t->n.ownsRowF a t8 1 v t.length t:=fun {v} ⟨s,c⟩=>by
  refine⟨s,?_⟩;rcases c with c|⟨g,q,p,u,z,y,r,x⟩
  ·exact .inl c
  ·exact .inr ⟨g,q,p,u,z,y,(k.block g (ie r) fun e=>by have:=l g e;omega).trans r,x⟩
 rcases h with⟨o,v,f,c,j⟩|⟨o,v,f,c,j⟩
 ·exact .inl ⟨o,v,(k.block b (ie f) fun e=>by have:=l b e;omega).trans f,d c,j⟩
 ·exact .inr ⟨o,v,(k.block b (ie f) fun e=>by have:=l b e;omega).trans f,d c,j⟩
def PB(h:IsBuilderF tB t8 a b t m):∃p q,ar m b tB [p,q]:=by
 rcases h with⟨f,v,c,d,e⟩|⟨f,v,c,d,e⟩
 ·exact⟨_,_,c⟩
 ·exact⟨_,_,c⟩
def auo.ahv(h:ai:=by go_wp2;go_roundw;exact⟨k+1,by omega,by go_num,qx,cY⟩;simp [RowKit.intOf];omega):=h
def aup.k36(h:ai:=by open auo in exact agl):=h
def auk.k94(h:ai:=by
 have C:=af (d.trans qg);have bB:=af iu.st.sx;have CM:=af (aN.ring.add w5 u u5 acc bt dg _ _ (aY.vC aN qg A) wR Dk Nw xd hgb);refine hK.ae _ _ (fun _=>bB.ae) ?_;refine aL 10 ?_;intro K hK;go_simp;refine CM.mono ?_;rintro e6 w6 ⟨u6,rfl,Y,iq⟩;have cY:=af (en.fW aN iq);have B:=af (C.ext iq);have z:=af Y;have aH:=af cY.st.sx;refine hK.ae _ _ (fun _=>aH.ae) ?_;refine ax 11 10 ?_;refine bY Ok ?_;go_wp2_with fail
 go_roundw;exact⟨k+1,_,_,by omega,by go_num,af rfl,by rw[fp.ae];exact z,cY,SL,B⟩;simp [RowKit.intOf];omega):=h
def aul.k86(h:ai:=by
 have CB:=af (fun b (h:cC D 13 14 n (bK D.p v) b)=>HB cb[k] n b h (fun a ha=>by rw[HA.ae a ha];exact JC a ha) (by rw[SE.ae n HA.ae];exact hm));rw[SJ.ae _ n HA.ae] at CB;have Dk:=af (FW k);have Nw:=af (SI _ hm);have hgb:=nA k Om;generalize cb[k]=t at*;generalize D.bT v t cur=bt at*;generalize D.R.sum (cb.take k) (fun t=>D.bT v t cur)=acc at*;go_upto_region 15 with fail
 have aY:=af (HX.drew aN);have d:=af HC.drew;have A:=af (aN.ring.vk F (jL _ _).drew);have aH:=af aY.st.sx;refine b9 (S:=fun b=>ar b D.xb D.tX D.cs) (T:=fun _=>false) Ok ?_;open auk in exact m94):=h
def aum.k28(h:ai:=by
 have wV:D.nb<w.heap.size:=HST.st.nc.lt;have E_:D.sb<w.heap.size:=HST.st.sc.lt;have hkb:D.kb<w.heap.size:=HST.mem.lt;have P:D.xb<w.heap.size:=HST.st.sx.lt;have X:D.w0.heap.size<=w.heap.size:=HST.st.ex.size;have I:=af (Eh J Bv fun i hi=>by simp only[aI,bF,or_false] at hi;omega);have iJ:ah (a7 [D.nb,D.sb,D.kb] w w9):=(ig c).trans (Bv.mono fun i hi _=>by simp only[aI,bF,or_false] at hi⊢;omega);have Jn:=af (eZ.vC aN (Bv.mono fun i hi _=>by simp only[aI,bF,or_false] at hi⊢;omega) HVZ);have sO:=af hcb;have tR:=c.size;have Do:ah (∀a,bK D.p v a=true->put cur v tc a=cur a):=fun a ha=>by unfold put;rw[if_neg fun e=>by rw[e,wL] at ha;cases ha]
 have MZ:ah (D.V w9 q (D.R.sum (cb.take 0) fun t=>D.bT v t cur)):=by rw[ah,kH];exact Jn
 have NH:ah (a7 [D.nb,D.sb,D.kb] w9 w9):= .ij (aC w9);go_upto_region 13 with fail
 go_loopw [10,12,59] (fun N _ s L=>∃(k:Nat) (u:Value) (n:Nat->aF),k<=cb.length/\s=av k/\ah (u=N)/\ah (D.V L u (D.R.sum (cb.take k) fun t=>D.bT v t cur))/\ah (cC D 13 14 n (bK D.p v) L)/\ah (∀a,bK D.p v a=true->n a=cur a)/\ah (a7 [D.nb,D.sb,D.kb] w9 L)) (fun _ _ s _=>cb.length - (RowKit.intOf s).toNat)
 exact⟨0,_,_,aT _,rfl,af rfl,MZ,rD,Do,NH⟩;obtain⟨k,u,n,hk,rfl,Z,F,HX,HA,HC⟩:=hrel;have Z:=Z.ae;subst Z;by_cases nu:k<cb.length
 ·open aul in exact m86
 ·obtain rfl:k=cb.length:=Om;have d1:decide ((cb.length:Int)<(cb.length:Int))=false:=aW;have xy:ah (D.V wr u (D.vT v cur)):=(by rw[ah,bU.ae];have h:=F.ae;rwa[f9] at h)
  go_upto_region 17 with fail
  have aY:=af (HX.drew aN);have d:=af (iJ.trans HC).drew;have A:=af (aN.ring.vk xy (jL _ _).drew);have o:ah (IsBuilderF tB t8 w.heap.size w.heap.size (byteCells nm) wr.drew):=Eh I HC.drew fun i hi=>by simp only[aI,bF,or_false] at hi;omega
  have CS:=af (Tryz.Builder_String_any_k w.heap.size w.heap.size nm wr.drew o d.size);have aH:=af aY.st.sx;refine b9 (S:=fun b=>ar b D.xb D.tX D.cs) (T:=fun j=>decide (6<=j)) Ok ?_;generalize wr.drew=wd at*;refine ax 0 75 ?_;refine ax 1 76 ?_;refine ax 2 77 ?_;refine ax 3 78 ?_;refine ax 5 80 ?_;refine aL 4 ?_;intro K hK;go_simp;refine CS.mono ?_;rintro e5 w5 ⟨rfl,_,iu,nS⟩;obtain⟨bp,bq,I6⟩:=PB o;have H:=af (aY.read aN iu nS I6 X P wV E_ hkb);have en:=af H.1;have ue:=af (aN.ring.vk A H.2);have C:=af (d.below iu);have bB:=af en.st.sx;obtain⟨w6,hrun,cY,z,qu⟩:=en.agd aN hv adf F_ QA Om ue;have B:=af (C.only qu (.inl Ou));refine hK.ae _ _ (fun _=>bB.ae) ?_;refine aL 6 ?_;intro K hK;go_simp;refine hK.ae _ _ Oy9 ?_;refine bY Ok ?_;go_wp2_with fail
  exact bodyPost_ret (v:=u) (by simp [results,results203,go_sem]) rfl ⟨u,rfl,z,n,cY,HA,B⟩):=h
def aun.ahZ(h:ai:=by
 have CS:=af (Tryz.Builder_String_any_k w.heap.size w.heap.size nm wr.drew HBF aY.size);go_upto_region 8 with fail
 have bL:ah (∀b,ar b D.xb D.tX D.cs->ay b D.xb 15 (.map (some D.kb))/\ay b D.xb 7 (.func (.func D.fa) #[] #[])):=fun b h=>⟨h.cell aN.ck,h.cell aN.ca⟩;have aH:=af d9.st.sx;refine b9 (S:=fun b=>ar b D.xb D.tX D.cs) (T:=fun _=>false) Ok ?_;generalize wr.drew=wd at*;refine ax 0 40 ?_;refine ax 1 41 ?_;refine ax 2 42 ?_;refine ax 3 43 ?_;refine aL 4 ?_;intro K hK;go_simp;refine CS.mono ?_;rintro e8 M ⟨rfl,E,Q,rv⟩;have c:ah (Ext w M):=sZ aY Q;have eZ:=af (HST.fW aN c);have J:=af E;have bB:=af eZ.st.sx;obtain⟨r,hlk,wS⟩:=eZ.look aN hv adf (aoa M) F_ QA Om;have lD:=af wS;refine hK.ae _ _ (fun _=>bB.ae) ?_;have aH:=bB;refine aL 5 ?_;intro K hK;go_simp;refine hK.ae _ _ (fun _=>aH.ae) ?_;refine ax 6 39 ?_;refine ax 7 46 ?_;refine ax 8 47 ?_;refine ax 9 8 ?_;refine ax 10 9 ?_;refine bY Ok ?_;cases r with
 |some u=>have F:=af (lD u rfl);go_wp2_with fail;exact bodyPost_ret (v:=u) (by simp [results,results203,go_sem]) rfl (by first|exact⟨u,rfl,F,cur,eZ,fun _ _=>rfl,.ij c⟩|exact⟨u,cur,rfl,F,eZ,fun _ _=>rfl,.ij c⟩)
 |none=>have c5:=eZ.st.sx.cell O;have HVZ:=af (aN.ring.vk hz (.jd eZ.st.ex));have oq:=af (aer D.tX D.cs D.xb D.jb D.nb D.sb v D.x D.T cur (bK D.p v) D.fv D.fx D.w0 M eZ.st wL hv aN.cf aN.XF (aN.wk.ne v hv) aN.r6 a12 (fun l hl=>a8 (aN.tl l hl) Od));open aum in exact m28):=h
def auq.k81(h:ai:=by
 go_upto_region 4 with fail
 go_loopw [7,25] (fun _ y wr=>∃k:Nat,k<=kl.length/\y=av k/\ah (IsBuilder tB t8 w.heap.size w.heap.size (byteCells (UInt8.ofNat v::kO ((kl.take k).map cur))) wr)/\ah (Ext w wr)) (fun _ y _=>kl.length - (RowKit.intOf y).toNat)
 exact⟨0,aT _,rfl,nH,bW⟩;obtain⟨k,hk,rfl,nH,bW⟩:=hrel;by_cases Cg:k<kl.length
 ·open aup in exact m36
 ·open aun in exact ahq):=h
def aur.k31(h:ai:=by
 have HKV:=af (ok.kv v hv);obtain⟨kl,m⟩:∃kl,D.key v=kl:=⟨_,rfl⟩;have XS:=af m;rw[m] at dE xE HNM Sv nu Dh F_ yC;go_enter func203,ntmps203;go_upto_region 2 with fail
 refine aP fun W HX BB=> ?_;have zG:ah (IsBuilder tB t8 w.heap.size w.heap.size [] W):= .inl ⟨aK _,_,BB,lJ _ _ _ _,by simp [Value.ownBlock]⟩;have hsz:w.heap.size<=W.heap.size:=HX.size;open auq in exact m81):=h
def aqa{α:Type}{D:Pw α}(ok:ji D 7 #[]){v:Nat}(hv:v<D.dL)(O:D.cs[5]?=some q)(hz:D.V D.w0 q D.R.zero)(hB:NQ D 13 14 207 v):Jg D 13 14 203 v:=by intro cur w h xg;open aur in exact m31
def aoe(h:IsBuilderF tB t8 a b t m)(k:a7 i m n)(p:∀c∈i,c<a\/(c≠b/\∃d l,ar m c d l/\d≠t8)):IsBuilderF tB t8 a b t n:=by
 have own:∀{v:Value},m.ownsRowF a t8 1 v t.length t->n.ownsRowF a t8 1 v t.length t:=fun {v} ⟨s,ho⟩=>by
  refine⟨s,?_⟩;rcases ho with ho|⟨q,o,j,x,A,z,e,y⟩
  ·exact .inl ho
  ·refine .inr ⟨q,o,j,x,A,z,(k.block q (ie e) fun f=> ?_).trans e,y⟩;rcases p q f with g|⟨_,d,l,hB,r⟩
   ·omega
   ·unfold ar at hB;rw[hB] at e;injection e with e;injection e with _ e;exact r e
 have u:a<=b:=by rcases h with⟨h,_⟩|⟨h,_⟩<;>exact h
 have hb':n.heap[b]?=m.heap[b]?:=k.block b (by
  rcases h with⟨_,v,hb,_⟩|⟨_,v,hb,_⟩<;>exact ie hb) fun f=>by
  rcases p b f with g|⟨g,_⟩
  ·omega
  ·exact g rfl
 exact agN
def ar.others(h:ar m a w t)(o:OthersKept t8 (some b) m n)(f:a≠b)(d:w≠t8):ar n a w t:=
 o a _ h (fun e=>by injection e with e;exact f e) (fun c i e=>by injection e with _ e;exact d e)
def ar.EH(h:ar m a w [p,q,r,s])(u0 u1 u2 u3:Value):∃b,((((m.setCell (aB a 0) u0).setCell (aB a 1) u1).setCell (aB a 2) u2).setCell (aB a 3) u3)=b/\ah (ar b a w [u0,u1,u2,u3])/\ah (Only a m b):=
 ⟨_,rfl,(((h.bu 0 u0).bu 1 u1).bu 2 u2).bu 3 u3,(((ii a m).bu 0 _).bu 1 _).bu 2 _|>.bu 3 _⟩
def aod(h:IsBuilderF tB t8 a b t m)(k:Only c m n)(r:b≠c)(hB:ar m c w u)(o:w≠t8):IsBuilderF tB t8 a b t n:=by
 have own:∀{v:Value},m.ownsRowF a t8 1 v t.length t->n.ownsRowF a t8 1 v t.length t:=fun {v} ⟨p,ho⟩=>by
  refine⟨p,?_⟩;rcases ho with ho|⟨q,j,i,s,z,y,d,x⟩
  ·exact .inl ho
  ·refine .inr ⟨q,j,i,s,z,y,(k.block q (ie d) fun f=> ?_).trans d,x⟩;injection f with f;subst f;unfold ar at hB;rw[hB] at d;injection d with d;injection d with _ d;exact o d
 have hb':n.heap[b]?=m.heap[b]?:=k.block b (by rcases h with⟨_,v,hb,_⟩|⟨_,v,hb,_⟩<;>exact ie hb) fun e=>by injection e with e;exact r e
 exact agN
def an1(w:au):(zeroValue dI).run prog w= .ok (.agg #[.bool false,.slice none 0 0,.bool false,.slice none 0 0]) w:=Ok
def ac':prog.underlying 279=some (.map bI dI):=Ok
def auf.ahv(h:ai:=by clear Zl iq e3 e4 e5 avt;go_wp2;go_roundw;exact⟨k+1,by omega,by go_num,qx,cY⟩;simp [RowKit.intOf];omega):=h
def aug.k36(h:ai:=by clear gX;open auf in exact agl):=h
def at9.k52(h:ai:=by
 have Gn:=af (nD.only kX (.inl Ou));have zN:=af (rG.only kX Om);clear hK su iq jp;refine aL 11 ?_;intro K hK;go_simp;refine hK.ae _ _ Oy9 ?_;refine bY Ok ?_;rw[HW.ae];clear k0 k1 k2 k3 f0 f1 f2 f3 hK;go_wp2_with fail
 go_roundw;exact⟨k+1,_,by omega,by go_num,zN,by rw[fp.ae];exact Dn,rB,SL,Gn⟩;simp [RowKit.intOf];omega):=h
def at'.ahL(h:ai:=by have CM:ah (Calls prog D.fa #[.agg #[.bool o0,.slice O0 o1 o2,.bool p0,.slice P0 p1 p2],u5] w5 fun e o=>∃u,e= .returned u/\b_ o u (D.R.add acc bt)/\Ext w5 o):=(by rw[<-hF];exact aN.ring.add w5 _ u5 acc bt dg _ _ (by rw[hF];exact VO.keep Ri) wR Dk Nw xd hgb);refine hK.ae _ _ (fun _=>bB.ae) ?_;clear hK BO VO wR iu ha5 qg Ri;refine aL 10 ?_;open at9 in exact m52):=h
def aua.k94(h:ai:=by have qw:=af (fR.trans (qg.mono fun i hi _=>by simp only[aI,bF,or_false] at hi⊢;omega));open at' in exact ag2):=h
def aub.ahA(h:ai:=by have bL:ah (∀o,(ar o D.xb D.tX D.cs/\ar o ob dI [.bool o0,.slice O0 o1 o2,.bool p0,.slice P0 p1 p2])->ay o D.xb 13 (.func (.func D.fa) #[] #[])/\F4 o ob (.bool o0) (.slice O0 o1 o2) (.bool p0) (.slice P0 p1 p2)):=fun o h=>⟨h.1.cell aN.ca,h.2.four⟩;unfold F4 at bL;clear BZ;refine b9 (S:=fun o=>ar o D.xb D.tX D.cs/\ar o ob dI [.bool o0,.slice O0 o1 o2,.bool p0,.slice P0 p1 p2]) (T:=fun j=>decide (11<=j)) Ok ?_;open aua in exact m94):=h
def auc.k86(h:ai:=by
 have CB:=af (fun o (h:cC D 19 20 Q (bK D.p v) o)=>HB cb[k] Q o h (fun a ha=>by rw[HA.ae a ha];exact JC a ha) (by rw[SE.ae Q HA.ae];exact hm));rw[SJ.ae _ Q HA.ae] at CB;have Dk:=af (FW k);have Nw:=af (SI _ hm);have hgb:=nA k Om;clear RJ hcell hm t_;generalize cb[k]=t at*;generalize D.bT v t cur=bt at*;generalize D.R.sum (cb.take k) (fun t=>D.bT v t cur)=acc at*;go_upto_region 15 with fail
 clear e3;open aub in exact agD):=h
def aud.k28(h:ai:=by
 have O:=af (Eh y Bv fun i hi=>by simp only[aI,bF,or_false] at hi;omega);have iJ:ah (a7 [D.nb,D.sb,D.kb] wy w9):=(ig (cD.trans s)).trans (Bv.mono fun i hi _=>by simp only[aI,bF,or_false] at hi⊢;omega);have Sh:ah (ob≠w.heap.size):=fun e=>by
  obtain⟨bx,bA,bn,bc,bx',bA',bn',bc',B1,_⟩:=SF.parts;obtain⟨bp,bq,z⟩:=PB y;have h1:=B1.ae;rw[e] at h1;unfold ar at h1 z;rw[h1] at z;injection z with z;injection z with _ z;revert z
  decide
 have H:a7 [D.nb,D.sb,D.kb] L w9:=Bv.mono fun i hi _=>by simp only[aI,bF,or_false] at hi⊢;omega
 have Jn:=af (SF.bP H ay0 (eZ.Qe H));have SG:=Jn;have hw9:=H.size;have rF:=af (J.bP H ay0);have sO:=af hcb;have tR:=s.size;have Do:ah (∀a,bK D.p v a=true->put cur v tc a=cur a):=fun a ha=>by unfold put;rw[if_neg fun e=>by rw[e,wL] at ha;cases ha]
 have MZ:ah (ep w9 ob (D.R.sum (cb.take 0) fun t=>D.bT v t cur)):=by rw[ah,kH];exact Jn
 have NH:ah (a7 [D.nb,D.sb,D.kb,ob] w9 w9):= .ij (aC w9);clear hcb aib Bv H;go_upto_region 13 with fail
 go_loopw [12,59] (fun _ v59 wq=>∃(k:Nat) (Q:Nat->aF),k<=cb.length/\v59=av k/\ah (ar wq wy.heap.size dI Bd)/\ah (ep wq ob (D.R.sum (cb.take k) fun t=>D.bT v t cur))/\ah (cC D 19 20 Q (bK D.p v) wq)/\ah (∀a,bK D.p v a=true->Q a=cur a)/\ah (a7 [D.nb,D.sb,D.kb,ob] w9 wq)) (fun _ v59 _=>cb.length - (RowKit.intOf v59).toNat)
 exact⟨0,_,aT _,rfl,rF,MZ,rD,Do,NH⟩;obtain⟨k,Q,hk,rfl,BZ,HU,HX,HA,HC⟩:=hrel;have iX:ob<wr.heap.size:=HU.lt;by_cases nu:k<cb.length
 ·open auc in exact m86
 ·obtain rfl:k=cb.length:=Om;have d1:decide ((cb.length:Int)<(cb.length:Int))=false:=aW;have xy:ah (ep wr ob (D.vT v cur)):=(by rw[ah,bU.ae];have h:=HU.ae;rwa[f9] at h)
  go_upto_region 17 with fail
  have aY:=af (HX.drew aN);have fR:ah (a7 [D.nb,D.sb,D.kb] wy wr.drew):=(((iJ.mono (S':= [D.nb,D.sb,D.kb,ob]) fun i hi _=>by simp only[aI,bF,or_false] at hi⊢;omega).trans HC.ae).mono fun i hi hlt=>by simp only[aI,bF,or_false] at hi⊢;omega).drew;have pB:=af BZ.drew;obtain⟨o0,O0,o1,o2,p0,P0,p1,p2,BO,VO⟩:=xy.drew.parts;have A:ah (IsBuilderF tB t8 w.heap.size w.heap.size (byteCells nm) wr.drew):=aoe O HC.drew fun i hi=>by
   simp only[aI,bF,or_false] at hi;rcases hi with hi|hi|hi|hi
   ·exact .inl Om
   ·exact .inl Om
   ·exact .inl Om
   ·obtain⟨bx,bA,bn,bc,bx',bA',bn',bc',B1,_⟩:=SG.parts;rw[hi];exact .inr ⟨Sh,_,_,B1,by decide⟩
  have yz:w.heap.size<=wr.drew.heap.size:=a8 Om HC.size;have CS:=af (Tryz.Builder_String_any_k w.heap.size w.heap.size nm wr.drew A yz);have hoy:=Sh.ae;have aH:ah (ar wr.drew D.xb D.tX D.cs/\ar wr.drew ob dI [.bool o0,.slice O0 o1 o2,.bool p0,.slice P0 p1 p2]):=⟨aY.st.sx,BO⟩;have bL:ah (∀o,(ar o D.xb D.tX D.cs/\ar o ob dI [.bool o0,.slice O0 o1 o2,.bool p0,.slice P0 p1 p2])->ay o D.xb 21 (.map (some D.kb))/\F4 o ob (.bool o0) (.slice O0 o1 o2) (.bool p0) (.slice P0 p1 p2)):=fun o h=>⟨h.1.cell aN.ck,h.2.four⟩;unfold F4 at bL;clear BZ;refine b9 (S:=fun o=>ar o D.xb D.tX D.cs/\ar o ob dI [.bool o0,.slice O0 o1 o2,.bool p0,.slice P0 p1 p2]) (T:=fun j=>decide (6<=j)) Ok ?_;generalize wr.drew=wd at*;refine ax 0 75 ?_;refine ax 1 76 ?_;refine ax 2 77 ?_;refine ax 3 78 ?_;refine ax 5 80 ?_;refine aL 4 ?_;intro K hK;go_simp;refine CS.mono ?_;rintro e5 w5 ⟨rfl,_,iu,nS⟩;obtain⟨bp,bq,z⟩:=PB A;have FZ:=af (aY.read aN iu nS z Om Om Om Om Om);have en:=af FZ.1;have VO5:=af (VO.keep FZ.2);have xL:=af (BO.others nS Om Od);have xJ:ah (ar w5 wy.heap.size dI Bd):=(iu.block _ wT).trans pB.ae;have qw:=af (fR.below (iu.mono Om));have bB:ah (ar w5 D.xb D.tX D.cs/\ar w5 ob dI [.bool o0,.slice O0 o1 o2,.bool p0,.slice P0 p1 p2]):=⟨en.st.sx,xL⟩;obtain⟨w6,hrun,cY,M2,qu⟩:=en.agd aN hv ac' F_ QA Om (by rw[hF];exact VO5);have nD:=af (qw.only qu (.inl Ou));have vN:=af (xL.only qu Om);have rG:=af (xJ.only qu Om);have RU:ah (b_ w6 (.agg #[.bool o0,.slice O0 o1 o2,.bool p0,.slice P0 p1 p2]) (D.vT v cur)):=by rw[ah,<-hF];exact M2
  refine hK.ae _ _ (fun _=>bB.ae) ?_;clear hK BO VO iu nS z;refine aL 6 ?_;intro K hK;go_simp;refine hK.ae _ _ Oy9 ?_;clear hK hrun;refine bY Ok ?_;obtain⟨q0,q1,q2,q3⟩:=vN.four;obtain⟨f0,f1,f2,f3⟩:=rG.fO;obtain⟨j0,j1,j2,j3⟩:=rG.four;go_wp2_with fail;refine uK rfl rfl rfl rG.ae RU (fun u W' h1 h2=> ?_);have h3:=cY.past aN h2 rG Od Om Om Om Om Om;have h4:=nD.only h2 (.inr (aK _));first|exact⟨u,rfl,h1,Q,h3,HA,h4⟩|exact⟨u,Q,rfl,by rw[hF];exact h1,h3,HA,h4⟩):=h
def aue.ahZ(h:ai:=by
 have A:ah (IsBuilderF tB t8 w.heap.size w.heap.size (byteCells nm) wr.drew):=Eh HBF (ig (S:= []) (aC wr).drew) Ou;obtain⟨r,hlk,wS⟩:=HST.lookW aN hv ac' an1 F_ QA Om;have lD:=af wS;have C:=af (fun(W:au) (h:Ext w W)=>h.block D.kb HST.mem.lt);have aim:∀o,ar o D.xb D.tX D.cs->ay o D.xb 21 (.map (some D.kb)):=fun o h=>h.cell aN.ck;have bL:ah (∀o,(ar o D.xb D.tX D.cs/\o.heap[D.kb]?=w.heap[D.kb]?)->ay o D.xb 21 (.map (some D.kb))/\(Instr.lookup 279 (.map (some D.kb)) (aO nm) true).run prog o= .ok (.tuple #[r.getD (.agg #[.bool false,.slice none 0 0,.bool false,.slice none 0 0]),.bool r.isSome]) o):=fun o h=>⟨aim o h.1,hlk o h.2⟩;have aH:ah (ar wr.drew D.xb D.tX D.cs/\wr.drew.heap[D.kb]?=w.heap[D.kb]?):=⟨d9.st.sx,C.ae _ aY⟩;clear yC dE wS hlk aim;obtain⟨v0,V0,v1,v2,t0,T0,t1,t2,hu⟩:∃(v0:Bool) (V0:aS) (v1 v2:Nat) (t0:Bool) (T0:aS) (t1 t2:Nat),r.getD (.agg #[.bool false,.slice none 0 0,.bool false,.slice none 0 0])= .agg #[.bool v0,.slice V0 v1 v2,.bool t0,.slice T0 t1 t2]:=by
  cases r with
  |none=>exact⟨_,_,_,_,_,_,_,_,rfl⟩
  |some u=>have h1:=lD u rfl;rw[hF] at h1;obtain⟨b0,A0,b1,b2,c0,C0,c1,c2,rfl,_,_⟩:=h1.parts;exact⟨_,_,_,_,_,_,_,_,rfl⟩
 have CU:ah (r.isSome=true->b_ w (.agg #[.bool v0,.slice V0 v1 v2,.bool t0,.slice T0 t1 t2]) (D.vT v cur)):=fun h=>by obtain⟨u,rfl⟩:=JT.1 h;rw[<-hu,<-hF];exact lD u rfl
 rw[hu] at bL;clear hu;generalize r.isSome=m at*;go_upto_region 8 with fail
 go_cut [8,9] (fun s8 s9 wx=>∃n,s8=aJ n 0/\s9= .bool m/\ah (ar wx n dI [.bool v0,.slice V0 v1 v2,.bool t0,.slice T0 t1 t2])/\ah (Ext w wx)/\ah (IsBuilderF tB t8 w.heap.size w.heap.size (byteCells nm) wx))
 case first=>
  have CS:=af (fun W h (hX:Ext w W)=>Tryz.Builder_String_any_k w.heap.size w.heap.size nm W h hX.size);refine b9 (S:=fun o=>ar o D.xb D.tX D.cs/\o.heap[D.kb]?=w.heap[D.kb]?) (T:=fun _=>false) Ok ?_;generalize wr.drew=wd at*;refine ax 0 40 ?_;refine ax 1 41 ?_;refine ax 2 42 ?_;refine ax 3 43 ?_;refine KO 4 9 Ok ?_ ?_
  ·skip
   refine BC ?_;intro K hK;go_simp;refine(CS wd A aY).mono ?_;rintro e8 L ⟨rfl,I,M,P⟩;have s:ah (Ext w L):=sZ aY M;have y:=af I;have eZ:=af (HST.fW aN s);have bB:ah (ar L D.xb D.tX D.cs/\L.heap[D.kb]?=w.heap[D.kb]?):=⟨eZ.st.sx,C.ae _ s⟩;refine hK.ae _ _ (fun _=>bB.ae) ?_;clear hK M I P;have aH:=bB;refine ax 5 45 ?_;refine ax 6 39 ?_;refine ax 7 46 ?_;refine ax 8 47 ?_;refine aL 9 ?_;intro K hK;go_simp;refine hK.ae _ _ (fun _=>⟨aH.1.ext ((aC _).alloc _),C.ae _ (s.alloc _)⟩) ?_;clear hK;refine aL 10 ?_;intro K hK;go_simp;refine hK.ae _ _ (fun _=>⟨aH.1.ext ((aC _).alloc _),C.ae _ (s.alloc _)⟩) ?_;refine aP fun W9 Y BQ=> ?_;have B:=af (s.trans Y);have HBf:=af (Eh y (ig (S:= []) Y) Ou);clear hK;refine aL 11 ?_;intro K hK;go_simp;refine hK.ae _ _ (fun _=>⟨(HST.fW aN B).st.sx,C.ae _ B⟩) ?_;refine bY Ok ?_;clear hK;go_wp2_with fail
   go_meet;exact⟨_,rfl,rfl,BQ,B,HBf⟩
  ·skip
   refine BC ?_;intro K hK;go_simp;refine hK.ae _ _ (fun _=>⟨aH.1.ext ((aC _).alloc _),C.ae _ (aY.alloc _)⟩) ?_;refine aP fun W7 iy BQ=> ?_;have bZ:=af (aY.trans iy);have awY:=af (Eh A (ig (S:= []) iy) Ou);have hwd:w.heap.size<=wd.heap.size:=aY.size;have nW:w.heap.size≠wd.heap.size:=fun e=>by obtain⟨bp,bq,z⟩:=PB A;have:=z.lt;omega
   clear hK;generalize wd.heap.size=n at*;refine aL 4 ?_;intro K hK;go_simp;refine(CS W7 awY bZ).mono ?_;rintro e8 L ⟨rfl,I,M,P⟩;have s:ah (Ext w L):=sZ bZ M;have y:=af I;have eZ:=af (HST.fW aN s);have Z:=af (BQ.others P nW.symm Od);have bB:ah (ar L D.xb D.tX D.cs/\L.heap[D.kb]?=w.heap[D.kb]?):=⟨eZ.st.sx,C.ae _ s⟩;refine hK.ae _ _ (fun _=>bB.ae) ?_;clear hK M I P BQ;have aH:=bB;refine ax 5 45 ?_;refine ax 6 39 ?_;refine ax 7 46 ?_;refine ax 8 47 ?_;obtain⟨k0,k1,k2,k3⟩:=Z.four;obtain⟨f0,f1,f2,f3⟩:=Z.fO;obtain⟨W9,Cm,BQ9,ke⟩:=Z.EH (.bool v0) (.slice V0 v1 v2) (.bool t0) (.slice T0 t1 t2);have ZU:=af Cm;have B:=af (s.only ke hwd);have HBf:=af (aod y ke nW Z Od);clear Cm;refine aL 10 ?_;intro K hK;go_simp;rw[ZU.ae];refine hK.ae _ _ (fun _=>⟨(HST.fW aN B).st.sx,C.ae _ B⟩) ?_;clear hK k0 k1 k2 k3 f0 f1 f2 f3;refine aL 11 ?_;intro K hK;go_simp;refine hK.ae _ _ (fun _=>⟨(HST.fW aN B).st.sx,C.ae _ B⟩) ?_;refine bY Ok ?_;clear hK;go_wp2_with fail
   go_meet;exact⟨_,rfl,rfl,BQ9,B,HBf⟩
 case rest=>
 obtain⟨n,rfl,rfl,BQ,s,y⟩:=hcut;generalize wc=L at*;have eZ:=af (HST.fW aN s);have J:=af (BZ.ext s);clear BZ;cases m with
 |true=>have HU:=af ((CU rfl).ext s.ae);obtain⟨q0,q1,q2,q3⟩:=BQ.four;obtain⟨f0,f1,f2,f3⟩:=J.fO;obtain⟨j0,j1,j2,j3⟩:=J.four;go_wp2_with fail;refine uK rfl rfl rfl J.ae HU (fun u W' h1 h2=> ?_);have h3:=eZ.past aN h2 J Od hw0 Om Om Om Om;have h4:=(ig (S:= [D.nb,D.sb,D.kb]) (cD.trans s)).only h2 (.inr (aK _));first|exact⟨u,rfl,h1,cur,h3,fun _ _=>rfl,h4⟩|exact⟨u,cur,rfl,by rw[hF];exact h1,h3,fun _ _=>rfl,h4⟩
 |false=>
  clear BQ;have c5:=eZ.st.sx.cell hz5;have c6:=eZ.st.sx.cell hz6;have c7:=eZ.st.sx.cell QQ;have c8:=eZ.st.sx.cell YA;go_upto_region 12 with fail
  refine Lb (hz.ext eZ.st.ex) fun wo X SF _=> ?_;have Fh:w.heap.size<=L.heap.size:=s.size;have Y:=af (s.trans X);have rD:=af (eZ.fW aN X);have rF:=af (J.ext X);have O:=af (Eh y (ig (S:= []) X) Ou);clear c5 c6 c7 c8;have s:=Y;have eZ:=rD;have J:=rF;have y:=O;generalize L.heap.size=ob at*;generalize wo=L at*;have oq:=af (apR D.tX D.cs D.xb D.jb D.nb D.sb v D.x D.T cur (bK D.p v) D.fv D.fx D.w0 L eZ.st wL hv aN.cf aN.XF (aN.wk.ne v hv) aN.r6 a12 (fun l hl=>a8 (aN.tl l hl) Od));open aud in exact m28):=h
def auh.k81(h:ai:=by
 clear hsz hb1 hx1 tR;go_upto_region 4 with fail
 clear c2 ck2 nu;go_loopw [7,25] (fun _ v25 wr=>∃k:Nat,k<=kl.length/\v25=av k/\ah (IsBuilder tB t8 w.heap.size w.heap.size (byteCells (UInt8.ofNat v::kO ((kl.take k).map cur))) wr)/\ah (Ext w wr)) (fun _ v25 _=>kl.length - (RowKit.intOf v25).toNat);exact⟨0,aT _,rfl,nH,bW⟩;obtain⟨k,hk,rfl,nH,bW⟩:=hrel;by_cases Cg:k<kl.length
 ·open aug in exact m36
 ·open aue in exact ahq):=h
def aui.k31(h:ai:=by
 obtain⟨kl,N⟩:∃kl,D.key v=kl:=⟨_,rfl⟩;have XS:=af N;rw[N] at dE xE HNM Sv nu Dh F_ yC;clear h N xg hB;go_upto_region 2 with fail
 refine aP fun W HX BB=> ?_;have zG:ah (IsBuilder tB t8 w.heap.size w.heap.size [] W):= .inl ⟨aK _,_,BB,lJ _ _ _ _,by simp [Value.ownBlock]⟩;have hsz:w.heap.size<=W.heap.size:=HX.size;clear BB;open auh in exact m81):=h
def auj.ahS(h:ai:=by open aui in exact m31):=h
def apO{D:Pw Rat}(ok:ji D 13 #[q])(hF:D.V=b_){v:Nat}(hv:v<D.dL){zb:Bool}{zb':Bool}{zc':Nat}(hz5:D.cs[5]?=some (.bool zb))(hz6:D.cs[6]?=some (.slice E b c))(QQ:D.cs[7]?=some (.bool zb'))(YA:D.cs[8]?=some (.slice F d zc'))(hz:b_ D.w0 (.agg #[.bool zb,.slice E b c,.bool zb',.slice F d zc']) D.R.zero)(hB:NQ D 19 20 259 v):Jg D 19 20 210 v:=by intro cur wy h0 xg;go_enter func210,ntmps210;open auj in exact ahf
def WI{α:Type}{D:Pw α}(a:ji D 7 #[]){f:Value}(b:D.cs[5]?=some f)(j:D.V D.w0 f D.R.zero):∀(m v:Nat),v<D.dL->D.dL<=D.d v+m->Jg D 13 14 203 v/\NQ D 13 14 207 v
 |0,v,e,n=>by have:=a.wk.r.lt v e;have h:D.dL=D.x.aq.length:=rfl;omega
 |m+1,v,e,n=>by
  have k:=amk a e fun c o=>by obtain⟨i,l⟩:=iC.1 o;have q:=(a.wk.r.up c v i l).2;exact(WI a b j m c i Om).1
  exact⟨aqa a e b j k,k⟩
def afM{D:Pw Rat}{z:Value}(i:ji D 13 #[z])(hF:D.V=b_){t:Bool}{u:aS}{q s:Nat}{e:Bool}{f:aS}{a b:Nat}(n:D.cs[5]?=some (.bool t))(l:D.cs[6]?=some (.slice u q s))(k:D.cs[7]?=some (.bool e))(j:D.cs[8]?=some (.slice f a b))(y:b_ D.w0 (.agg #[.bool t,.slice u q s,.bool e,.slice f a b]) D.R.zero):
 ∀(m v:Nat),v<D.dL->D.dL<=D.d v+m->Jg D 19 20 210 v
 |0,v,o,B=>by have:=i.wk.r.lt v o;have h:D.dL=D.x.aq.length:=rfl;omega
 |m+1,v,o,B=>by
  have E:=al8 i hF o fun c C=>by obtain⟨w,A⟩:=iC.1 C;have F:=(i.wk.r.up c v w A).2;exact afM i hF n l k j y m c w Om
  exact apO i hF o n l k j y E
section
variable{α:Type}{R:SR α}{G:Nat->Nat->α->Prop}{wt:Int->α}{g:Nat->aM->α}{fx:Nat->Option aM}{U:List aM}{x:aQ}{T:List (List Rw)}{p:Nat->Option Nat}{d:Nat->Nat}{homes:Nat->List Nat}
theorem Wk.afg(k:Wk R G wt g fx U x T p d homes)(i:Nat):(((kids x.aq.length p none).take i).map (dT x.aq.length p homes)).sum<=x.aq.length+x.aA.length/\(((kids x.aq.length p none).take i).map (nT x.aq.length p homes)).sum<=x.aq.length:=by
 have e:eF x.aq.length p homes x.aq.length none=eD homes (j4 x.aq.length p homes) (kids x.aq.length p none):=uF k.r (Oo _ _);have j:∀b,(none:Option Nat)=some b->b<x.aq.length:=fun b h=>by cases h
 have l:x.aq.length<=x.aq.length+gH d none:=Oo _ _;have m:=J_ (homes:=homes) k.r x.aq.length none j l;have o:=Hk m fun a c=>((xO k.r x.aq.length none a j l).1 c).1;have n:=Hk (Uf k.nd k.ap (AA x.aq.length none) m) fun a c=>by obtain⟨w,_,q⟩:=((AA x.aq.length none).mem a).1 c;exact km.1 (k.hh w a q)
 rw[e,TG] at o;rw[e,Tz] at n;have y:((kids x.aq.length p none).map (nT x.aq.length p homes)).sum<=x.aq.length:=o;have v:((kids x.aq.length p none).map (hT x.aq.length p homes)).sum<=x.aA.length:=n;have u:((kids x.aq.length p none).map (dT x.aq.length p homes)).sum=((kids x.aq.length p none).map (nT x.aq.length p homes)).sum+((kids x.aq.length p none).map (hT x.aq.length p homes)).sum:=Vc _;have t:=Hs (f:=dT x.aq.length p homes) (kids x.aq.length p none) i;have s:=Hs (f:=nT x.aq.length p homes) (kids x.aq.length p none) i;omega
theorem Wk.aff(k:Wk R G wt g fx U x T p d homes)(e:Nat->aM)(a:x.aq.length<=12)(t:x.aA.length<=6)(i:Nat)(m:i<(kids x.aq.length p none).length):
 ∃s j b h,s+b<=40/\j<=lO/\h<=lO/\G s j (R.prod ((kids x.aq.length p none).take i) fun c=>vT R x T p homes g wt U c e)/\G b h (vT R x T p homes g wt U (kids x.aq.length p none)[i] e):=by
 have o:=k.gr.prod (K:=60) (s:=dT x.aq.length p homes) (e:=nT x.aq.length p homes) (l:=(kids x.aq.length p none).take i) (f:=fun c=>vT R x T p homes g wt U c e) fun c q=>k.Qg (iC.1 (sR q)).1 e;have n:=(iC.1 (aZ m)).1;have r:=(k.afg (i+1)).1;have u:=(k.afg i).2;rw[g9 m,mL,aaO,Oh,List.sum_singleton] at r;exact⟨_,_,_,_,by omega,gM Od Om,k.WT n a (aK _),o,k.Qg n e⟩
end
def ToC{α:Type}(D:Pw α)(j i:Nat)(f:FuncId):Prop:=∀(h:Nat->aF) (w:au),cC D j i h (fun _=>false) w->
 Calls prog f #[aJ D.xb 0] w fun e b=>∃u a,e= .returned u/\D.V b u (D.R.prod (kids D.dL D.p none) fun c=>D.vT c fun _=> [])/\cC D j i a (fun _=>false) b/\a7 [D.nb,D.sb,D.kb] w b
def at7.ahQ(h:ai:=by
 have bB:=af iu.st.sx;have CM:=af (aN.ring.mul w5 u u5 E _ s1 s2 j1 j2 (aY.vC aN qg i) wR vH ui m1 m2 m3);refine hK.ae _ _ (fun _=>bB.ae) ?_;refine aL 9 ?_;intro K hK;go_simp;refine CM.mono ?_;rintro e6 w6 ⟨u6,rfl,t,m⟩;have n:=af (en.fW aN m);have L:=af (qw.ext m);have H:=af t;have aH:=af n.st.sx;refine hK.ae _ _ (fun _=>aH.ae) ?_;refine ax 10 3 ?_;refine bY Ok ?_;go_wp2_with fail
 go_roundw;exact⟨k+1,_,_,by omega,by go_num,af rfl,by rw[fp.ae];exact H,n,L⟩;simp [RowKit.intOf];omega):=h
def at8.k53(h:ai:=by
 generalize D.R.prod (rl.take k) (fun c=>D.vT c fun _=> [])=E at*;generalize rl[k]=c at*;go_upto_region 5 with fail
 have aY:=af (HX.drew aN);have fR:=af N.drew;have i:=af (aN.ring.vk P (jL _ _).drew);have aH:=af aY.st.sx;have CV:ah (∀w',cC D 13 14 cu (fun _=>false) w'->Calls prog 203 #[aJ D.xb 0,av c] w' fun e w''=>∃u cur',e= .returned u/\D.V w'' u (D.vT c fun _=> [])/\cC D 13 14 cur' (fun _=>false) w''/\a7 [D.nb,D.sb,D.kb] w' w''):=fun w' h=>by exact aha
 refine b9 (S:=fun w'=>ar w' D.xb D.tX D.cs) (T:=fun _=>false) Ok ?_;open at7 in exact ahb):=h
def acb{α:Type}{D:Pw α}(f:ji D 7 #[])(z:D.cs[6]?=some q)(X:D.V D.w0 q D.R.one)(s:D.cs[5]?=some r)(W:D.V D.w0 r D.R.zero):ToC D 13 14 148:=by
 intro C w h;have aN:=af f;have J:=af h;have Y:=f.ring.im;have a12:=f.a12;have c6:=h.st.sx.cell z;have F:=af (f.ring.vk X (.jd h.st.ex));have HV:=af (fun c (B:c<D.dL)=>(WI f s W D.dL c B (Tt _ _)).1);have Z:=af (amj D.tX D.cs D.xb D.jb D.nb D.sb D.x D.T C (fun _=>false) D.ch D.ks D.hs D.wl _ D.w0 D.w1 w h.st f.pl h.k1 f.cr a12);have Nt:=af (fun(c:Nat) (B:c∈kids D.dL D.p none)=>iC.1 B);have HGM:=af (f.wk.aff (fun _=> []) a12 f.r6);have bL:ah (∀w',ar w' D.xb D.tX D.cs->ay w' D.xb 8 (.func (.func D.fm) #[] #[])):=fun w' h=>h.cell f.cm;generalize kids D.dL D.p none=rl at*;go_enter func148,ntmps148;go_wp2_with fail
 refine Z.mono ?_;rintro e1 w1 ⟨A,c,rfl,d_,b,rfl⟩;have l:=af ((aC w).drewN b);generalize w.drewN b=w1 at*;have bB:=af (J.fW aN l);have I:ah (D.V w1 q (D.R.prod (rl.take 0) fun c=>D.vT c fun _=> [])):=by rw[ah,kH];exact f.ring.vk F (.jd l.ae)
 have M:ah (a7 [D.nb,D.sb,D.kb] w w1):= .ij l;have O:=(bE d_).2;go_upto_region 3 with fail
 go_loopw [3,5,14] (fun Q _ j o=>∃(k:Nat) (u:Value) (cu:Nat->aF),k<=rl.length/\j=av k/\ah (u=Q)/\ah (D.V o u (D.R.prod (rl.take k) fun c=>D.vT c fun _=> []))/\ah (cC D 13 14 cu (fun _=>false) o)/\ah (a7 [D.nb,D.sb,D.kb] w o)) (fun _ _ j _=>rl.length - (RowKit.intOf j).toNat)
 exact⟨0,_,_,aT _,rfl,af rfl,I,bB,M⟩;obtain⟨k,u,cu,hk,rfl,y,P,HX,N⟩:=hrel;have y:=y.ae;subst y;by_cases dE:k<rl.length
 ·open at8 in exact m53
 ·obtain rfl:k=rl.length:=Om;have d1:=aW;have i:ah (D.V wr u (D.R.prod rl fun c=>D.vT c fun _=> [])):=(by have h:=P.ae;rwa[f9] at h)
  go_wp2_with fail
  exact bodyPost_ret (v:=u) (by simp [results,results148,go_sem]) rfl (by first|exact⟨u,rfl,i,⟨cu,HX⟩,N⟩|exact⟨u,cu,rfl,i,HX,N⟩)
def at0.k52(h:ai:=by
 have Gn:=af (nD.only kX (.inr Om));have zN:=af (rG.only kX Om);clear hK su iq jp;refine aL 10 ?_;intro K hK;go_simp;refine hK.ae _ _ Oy9 ?_;refine bY Ok ?_;rw[HW.ae];clear k0 k1 k2 k3 f0 f1 f2 f3 hK;go_wp2_with fail
 go_roundw;exact⟨k+1,_,by omega,by go_num,zN,by rw[fp.ae];exact Dn,rB,Gn⟩;simp [RowKit.intOf];omega):=h
def at1.ahL(h:ai:=by have CM:ah (Calls prog D.fm #[.agg #[.bool o0,.slice O0 o1 o2,.bool p0,.slice P0 p1 p2],u5] w5 fun e w'=>∃u,e= .returned u/\b_ w' u (D.R.mul M (D.vT c fun _=> []))/\Ext w5 w'):=(by rw[<-hF];exact aN.ring.mul w5 _ u5 M _ s1 s2 j1 j2 (by rw[hF];exact VO.keep Ri) wR vH ui m1 m2 m3);refine hK.ae _ _ (fun _=>bB.ae) ?_;clear hK BO VO wR iu qg Ri;refine aL 9 ?_;open at0 in exact m52):=h
def at3.ahQ(h:ai:=by open at1 in exact ag2):=h
def at4.ahA(h:ai:=by
 have bL:ah (∀w',(ar w' D.xb D.tX D.cs/\ar w' ob dI [.bool o0,.slice O0 o1 o2,.bool p0,.slice P0 p1 p2])->ay w' D.xb 14 (.func (.func D.fm) #[] #[])/\F4 w' ob (.bool o0) (.slice O0 o1 o2) (.bool p0) (.slice P0 p1 p2)):=fun w' h=>⟨h.1.cell aN.cm,h.2.four⟩;unfold F4 at bL;have CV:ah (∀w',cC D 19 20 cu (fun _=>false) w'->Calls prog 210 #[aJ D.xb 0,av c] w' fun e w''=>∃u cur',e= .returned u/\D.V w'' u (D.vT c fun _=> [])/\cC D 19 20 cur' (fun _=>false) w''/\a7 [D.nb,D.sb,D.kb] w' w''):=fun w' h=>by exact aha
 clear e3 BZ;refine b9 (S:=fun w'=>ar w' D.xb D.tX D.cs/\ar w' ob dI [.bool o0,.slice O0 o1 o2,.bool p0,.slice P0 p1 p2]) (T:=fun j=>decide (10<=j)) Ok ?_;open at3 in exact ahb):=h
def at5.k53(h:ai:=by
 clear gX m4 m5 lT jk My;generalize D.R.prod (rl.take k) (fun c=>D.vT c fun _=> [])=M at*;generalize rl[k]=c at*;go_upto_region 5 with fail
 open at4 in exact agD):=h
def at6.ahS(h:ai:=by
 have aN:=af ok;have him:=ok.ring.im;have a12:D.x.aq.length<=12:=ok.a12;have c9:=h.st.sx.cell X;have c10:=h.st.sx.cell J;have c11:=h.st.sx.cell I;have c12:=h.st.sx.cell H;have HV:=af (fun c (Y:c<D.dL)=>afM ok hF W U Q P hz D.dL c Y (Tt _ _));have Nt:=af (fun(c:Nat) (Y:c∈kids D.dL D.p none)=>iC.1 Y);have L:∀rl,kids D.dL D.p none=rl->∀i (hi:i<rl.length),∃s j s' j',s+s'<=40/\j<=lO/\j'<=lO/\D.G s j (D.R.prod (rl.take i) fun c=>D.vT c fun _=> [])/\D.G s' j' (D.vT rl[i] fun _=> []):=(by rintro rl rfl;exact ok.wk.aff (fun _=> []) a12 ok.r6)
 go_upto_region 2 with fail
 refine Lb (ho.ext h.st.ex) fun t aY r _=> ?_;have d9:=af (h.fW ok aY);have pB:=af (BZ.ext aY);have fR:ah (a7 [D.nb,D.sb,D.kb] wy t):= .ij (cD.trans aY);have CR:=af (al5 D.tX D.cs D.xb D.jb D.nb D.sb D.x D.T Z (fun _=>false) D.ch D.ks D.hs D.wl _ D.w0 D.w1 t d9.st ok.pl d9.k1 ok.cr a12);clear h c9 c10 c11 c12 BZ;generalize w.heap.size=ob at*;obtain⟨rl,m⟩:∃rl,kids D.dL D.p none=rl:=⟨_,rfl⟩;have N:=af m;have HGM:=af (L rl m);rw[m] at Nt CR;clear m L;go_wp2_with fail
 refine CR.mono ?_;rintro e1 w1 ⟨A,c,rfl,d_,l,rfl⟩;have n:ah (Ext t (t.drewN l)):=(aC t).drewN l;generalize t.drewN l=w1 at*;have bB:=af (d9.fW aN n);have BZ1:=af (pB.ext n);have sL:ah (ep w1 ob (D.R.prod (rl.take 0) fun c=>D.vT c fun _=> [])):=by rw[ah,kH];exact r.ext n
 have kf:=af (fR.ext n);have yC:=(bE d_).2;go_upto_region 3 with fail
 go_loopw [5,14] (fun _ o O=>∃(k:Nat) (cu:Nat->aF),k<=rl.length/\o=av k/\ah (ar O wy.heap.size dI Bd)/\ah (ep O ob (D.R.prod (rl.take k) fun c=>D.vT c fun _=> []))/\ah (cC D 19 20 cu (fun _=>false) O)/\ah (a7 [D.nb,D.sb,D.kb] wy O)) (fun _ o _=>rl.length - (RowKit.intOf o).toNat)
 exact⟨0,_,aT _,rfl,BZ1,sL,bB,kf⟩;obtain⟨k,cu,hk,rfl,BZ,HU,HX,HC⟩:=hrel;have iX:ob<wr.heap.size:=HU.lt;by_cases dE:k<rl.length
 ·open at5 in exact m53
 ·obtain rfl:k=rl.length:=Om;have d1:decide ((rl.length:Int)<(rl.length:Int))=false:=aW;have r:ah (ep wr ob (D.R.prod rl fun c=>D.vT c fun _=> [])):=(by have h:=HU.ae;rwa[f9] at h)
  obtain⟨o0,O0,o1,o2,p0,P0,p1,p2,BO,VO⟩:=r.parts;obtain⟨q0,q1,q2,q3⟩:=BO.four;obtain⟨f0,f1,f2,f3⟩:=BZ.fO;obtain⟨j0,j1,j2,j3⟩:=BZ.four;go_wp2_with fail;refine uK rfl rfl rfl BZ.ae VO (fun u W' h1 h2=> ?_);have h3:=HX.past aN h2 BZ Od Om Om Om Om Om;have h4:=HC.only h2 (.inr (aK _));first|exact⟨u,rfl,by rw[N.ae];exact h1,⟨cu,h3⟩,h4⟩|exact⟨u,cu,rfl,by rw[hF,N.ae];exact h1,h3,h4⟩):=h
def al2{D:Pw Rat}(ok:ji D 13 #[q])(hF:D.V=b_){zb:Bool}{v:Bool}(W:D.cs[5]?=some (.bool zb))(U:D.cs[6]?=some (.slice E b d))(Q:D.cs[7]?=some (.bool v))(P:D.cs[8]?=some (.slice F f g))(hz:b_ D.w0 (.agg #[.bool zb,.slice E b d,.bool v,.slice F f g]) D.R.zero)
 {yb:Bool} {yA:aS} {yn yc:Nat} {B:Bool} {C:aS} {y z:Nat} (X:D.cs[9]?=some (.bool yb)) (J:D.cs[10]?=some (.slice yA yn yc)) (I:D.cs[11]?=some (.bool B)) (H:D.cs[12]?=some (.slice C y z)) (ho:b_ D.w0 (.agg #[.bool yb,.slice yA yn yc,.bool B,.slice C y z]) D.R.one):ToC D 19 20 153:=by
 intro Z wy h0;go_enter func153,ntmps153;open at6 in exact ahf
abbrev EA:TypeId:=151
abbrev Wd:TypeId:=149
def oP(w:au)(u:Value)(x:aQ)(first:Int):Prop:=
 ∃b d c,(∀a,a∈b↔a<x.aq.length)/\(∀f:Nat,first=f->b.head?=some f)/\dp x.aq.length (nN x b) d/\Whole x.aq.length (bJ x) (bV x) (eF x.aq.length (nN x b) (fun v=>(bV x).filter fun t=>fu d (bJ x t) ((bJ x t).headD 0)==v) x.aq.length none)/\
  Il w u x.aq.length (oO x.aq.length (nN x b)) (Bf (ik x.aq.length x.aA) (nN x b)) (Ey x.aq.length d x.aA) c
section
variable{w w':au}{u:Value}{x:aQ}{T:List (List Rw)}{jb pb:Nat}{first:Int}
theorem Il.keep{k g j:List (List Nat)}(h:Il w u a k g j i)(m:Kept cO w w')(d:Kept aU w w'):Il w' u a k g j i:=by
 obtain⟨v,l,o,A,c,e,s,r,q,p⟩:=h;have f:∀t∈ [cO,aU,aU],Kept t w w':=fun t b=>by
  simp only[aI,bF,or_false] at b;rcases b with rfl|rfl|rfl
  ·exact m
  ·exact d
  ·exact d
 exact⟨v,l,o,A,c,e,fN sI.jN s f,fN sI.jN r f,fN sI.jN q f,fN cI p fun t b=>by simp only[aI,bF,or_false] at b;subst b;exact d⟩
theorem oP.keep(h:oP w u x first)(e:Kept cO w w')(c:Kept aU w w'):oP w' u x first:=by obtain⟨a,d,b,k,j,i,g,f⟩:=h;exact⟨a,d,b,k,j,i,g,f.keep e c⟩
theorem oP.parts(h:oP w u x first):∃f a b A m c,u= .agg #[aG f 0 (x.aq.length+1) (x.aq.length+1),aG a 0 x.aq.length x.aq.length,aG b 0 x.aq.length x.aq.length,.slice A m c]:=by obtain⟨g,d,i,n,l,k,j,f,a,b,A,c,e,_⟩:=h;exact⟨f,a,b,A,_,c,e⟩
def gJ(x:aQ)(T:List (List Rw))(jb pb:Nat)(w:au):Prop:=
 ∃A c B d E e At b g f,∃l:List Nat,ar w jb EA [.slice A x.aq.length c,.slice B x.aA.length d,.slice E x.bk.length e,.int .i64 x.label,.slice At T.length b,.slice g l.length f,.map (some pb)]/\dK w (.agg #[.slice A x.aq.length c,.slice B x.aA.length d,.slice E x.bk.length e,.int .i64 x.label]) x/\
  fS w (.slice At T.length b) T/\IL w (.slice g l.length f) (ints l)/\l.Nodup/\∀a,a∈l↔a<x.aq.length
def dF(x:aQ)(pb:Nat)(w:au):Prop:=∃m f,d7 w aU pb m f/\∀k u,f k=some u->∃v:Int,k= .int .i64 v/\ -1<=v/\v<(x.aq.length:Int)/\oP w u x v
theorem gJ.keep(h:gJ x T jb pb w)(b:w'.heap[jb]?=w.heap[jb]?)(a:∀t,Kept t w w'):gJ x T jb pb w':=by obtain⟨A,c,B,d,E,e,At,v,F,y,l,m,k,j,i,g,f⟩:=h;refine⟨A,c,B,d,E,e,At,v,F,y,l,b.trans m,?_,fN mU j fun t _=>a t,fN cI i fun t _=>a t,g,f⟩;obtain⟨G,z,D,s,C,r,q,p,o,n⟩:=k;exact⟨G,z,D,s,C,r,q,fN mS p fun t _=>a t,fN oF o fun t _=>a t,fN uN n fun t _=>a t⟩
theorem gJ.lt(h:gJ x T jb pb w):jb<w.heap.size:=by obtain⟨A,c,B,d,E,e,At,b,g,f,l,a,_⟩:=h;exact a.lt
theorem gJ.ext(h:gJ x T jb pb w)(k:Ext w w'):gJ x T jb pb w':=h.keep (k.block _ h.lt) fun _=> .jd k
theorem dF.keep(h:dF x pb w)(d:w'.heap[pb]?=w.heap[pb]?)(b:Kept cO w w')(a:Kept aU w w'):dF x pb w':=by obtain⟨m,f,g,e⟩:=h;refine⟨m,f,g.same d,fun k u c=> ?_⟩;obtain⟨v,n,l,j,i⟩:=e k u c;exact⟨v,n,l,j,i.keep b a⟩
theorem dF.lt(h:dF x pb w):pb<w.heap.size:=by obtain⟨_,_,a,_⟩:=h;exact a.lt
theorem dF.ext(h:dF x pb w)(k:Ext w w'):dF x pb w':=h.keep (k.block _ h.lt) (.jd k) (.jd k)
theorem dF.kept(h:dF x pb w)(k:a7 [pb] w w')(t:TypeId):Kept t w w':=fun g i e a=>by refine(k.block g (ie a) fun c=> ?_).trans a;simp only[aI,bF,or_false] at c;subst c;obtain⟨_,_,⟨D,⟨f,b,d,_⟩,_⟩,_⟩:=h;rw[d] at a;injection a with a;cases a
theorem gJ.bP(h:gJ x T jb pb w)(b:dF x pb w)(a:jb≠pb)(k:a7 [pb] w w'):gJ x T jb pb w':=h.keep (k.block _ h.lt aza) (b.kept k)
theorem d7.Bg{k:TypeId}{f:Lit->Option Value}(h:d7 w k a b f)(c:Only a w w')(t:TypeId):Kept t w w':=UN h c t
end
def acy{h:Go.Func}{u0 u1 u2 u3:Value}{R:Ending->World->Prop}(c:h.results= #[.cell a gT])(i:Q.tmps.getD a undef=aJ b 0)(j:Q.defers= [])
 (f:ar m b gT [u0,u1,u2,u3]) (k:∀d,Only b m d->Kept cO m d->Kept aU m d->R (.returned (.agg #[p,q,r,s])) d):
 bodyPost prog h R .ret Q ((((m.setCell (aB b 0) p).setCell (aB b 1) q).setCell (aB b 2) r).setCell (aB b 3) s):=by
 have e:ar ((((m.setCell (aB b 0) p).setCell (aB b 1) q).setCell (aB b 2) r).setCell (aB b 3) s) b gT [p,q,r,s]:=(((f.bu 0 p).bu 1 q).bu 2 r).bu 3 s;exact bodyPost_ret (results_cell_row c Q.tmps _ b gT #[p,q,r,s] (0,0) _ i e underlying271 rfl Ok) j (k _ ((((ii b m).bu 0 _).bu 1 _).bu 2 _|>.bu 3 _) (f.Ij Od 0 1 2 3 p q r s) (f.Ij Od 0 1 2 3 p q r s))
def am5(w:au):(zeroValue gT).run prog w= .ok (.agg #[.slice none 0 0,.slice none 0 0,.slice none 0 0,.slice none 0 0]) w:=Ok
def adN:prog.underlying Wd=some (.map aU gT):=Ok
def aef(d: -1<=B)(c:B<100):keyOf prog aU (.int .i64 B)=some (.int .i64 B):=keyOf_int_mk Ok (by have b:IntKind.min .i64= -9223372036854775808:=Od;have a:IntKind.max .i64=9223372036854775807:=Od;simp only[Lit.wf,b,a,cZ,decide_eq_true_eq];omega)
def alm(c:∀b,b∈i↔b<a)(d:f<a):(∀b,b∈f::i.filter (fun b=> !(b==f))↔b<a):=fun b=>by
 rw[aI,fI,c];constructor
 ·rintro(rfl|⟨h,_⟩)
  ·exact d
  ·exact h
 ·intro h;by_cases e:b=f
  ·exact .inl e
  ·exact .inr ⟨h,by simpa using e⟩
def ac5{w:au}(h:ar w a aU (je b y))(f:b<=1000):IL w (aG a 0 b b) (tG b y):=by
 have d:(tG b y).length=b:=by unfold tG;simp
 refine⟨cT a 0,b,je b y,by rw[d],by rw[d];exact aK _,by unfold maxLen;omega,fun h=>(by cases h),h.sl 0,?_⟩;unfold je tG;clear h f d;induction List.range b with
 |nil=>rfl
 |cons c l e=>exact⟨[.int .i64 (tM (y c))],_,rfl,rfl,e⟩
def dF.put{x:aQ}{first:Int}(h:dF x a m)(o: -1<=first)(A:first<(x.aq.length:Int))(F:x.aq.length<=99)(z:oP m p x first):
 ∃d,(Instr.mapUpdate Wd (.map (some a)) (.int .i64 first) p).run prog m= .ok () d/\ah (dF x a d)/\ah (Only a m d):=by
 obtain⟨b,f,g,n⟩:=h;have k:=g.bound mQ ((List.range 101).map fun i:Nat=>Lit.int .i64 ((i:Int) - 1)) fun l c=>by obtain⟨p,y⟩:=JT.1 c;obtain⟨v,e,s,r,_⟩:=n l p y;exact dH.2 ⟨(v+1).toNat,dP.2 Om,by rw[e];congr 1;omega⟩
 obtain⟨d,C,B,j⟩:=k.put mQ adN (by rw[cy,gN];unfold maxLen;omega) (aef o Om) p;refine⟨d,C,⟨_,_,B,fun l t c=> ?_⟩,j⟩;by_cases q:l= .int .i64 first
 ·subst q;rw[D3] at c;injection c with c;subst c;exact⟨first,rfl,o,A,z.keep (g.Bg j _) (g.Bg j _)⟩
 ·rw[vY q] at c;obtain⟨v,s,r,E,D⟩:=n l t c;exact⟨v,s,r,E,D.keep (g.Bg j _) (g.Bg j _)⟩
def am6(b:Nat)(f a:Int)(w:au)(h:w.cell? ⟨b,0,none⟩=some (.int .i64 f)):
 Calls prog 255 #[.int .i64 a,.pointer (some ⟨b,0,none⟩)] w fun e c=>e= .returned (.bool (a==f))/\c=w:=by
 go_enter func255,ntmps255;go_wp2;exact bodyPost_ret (by simp [results,results255,go_sem]) rfl ⟨rfl,rfl⟩
def Vl(h:ar m b w [p])(c:a<=b):m.ownsRow a w 1 (.slice (some ⟨b,0,none⟩) 1 1) 1 [p]:=
 ⟨rfl,.inr ⟨b,1,#[p],rfl,c,h,by decide,by unfold maxLen;omega,rfl,rfl⟩⟩
def arG{rest:List Value}(h:ar m a w (t++rest)):Sl m w (some ⟨a,0,none⟩) t:=fun j u b=>h.sl 0 j u (by
 rw[mO];rcases cA j t.length with c|c
 ·rw[pC c];exact b
 ·rw[fH c] at b;cases b)
def aq9(h:m.ownsRow a aU 1 (.slice E (1+i.length) c) (1+i.length) ([.int .i64 (b:Int)]++fh (ints i))):IL m (.slice E (b::i).length c) (ints (b::i)):=by
 have e:1+i.length=(ints (b::i)).length:=by unfold ints;rw[cy,cW,oD]
 have d:(b::i).length=(ints (b::i)).length:=azg;rw[e] at h;rw[d];exact D5 h (PO m (ints (b::i)))
def ao3(h:m.ownsRow a aU 1 (.slice E b c) b t)(f:b≠0):∃g rest,E=some ⟨g,0,none⟩/\a<=g/\b<=c/\c<=maxLen/\ar m g aU (t++rest):=by
 obtain⟨v,p⟩:=h;rcases p with⟨_,q⟩|⟨g,u,d,e,j,i,o,l,x,k⟩
 ·exact absurd q f
 ·injection e with s y r;subst r;refine⟨g,d.toList.drop (b*1),s,j,o,l,?_⟩;unfold ar;rw[i,<-k,sQ]
def abo(f:Nat):∀l:List Nat,(ints l).filter (fun a=> !(a==(f:Int)))=ints (l.filter fun a=> !(a==f))
 | []=>rfl
 |a::l=>by
  have b:=abo f l;unfold ints at b⊢;rw[sW,rJ,rJ,b];have e:((a:Int)==(f:Int))=(a==f):=by rw[lZ,beq_iff_eq,beq_iff_eq];omega
  rw[e];cases(a==f)<;>rfl
def anO(D o:Nat)(x:aQ)(T:List (List Rw))(ok:cF x)(first:Int)(w:au)(hB:gJ x T D o w)(hM:dF x o w)(N: -1<=first)(h2:first<(x.aq.length:Int)):
 Calls prog 208 #[.pointer (some ⟨D,0,none⟩),.int .i64 first] w fun e i=>∃u,e= .returned u/\oP i u x first/\dF x o i/\a7 [o] w i:=by
 have a12:=ok.a12;have aN:=af ok;have HM:=af hM;have hpl:=hM.lt;obtain⟨A,c,B,d,E,e,At,ct,Al,cl,l,hJ,hSc,MB,hIl,MC,hLm⟩:=hB;have HJ:=af hJ;have dX:=hJ.lt;have CK:=af hSc;have d_:=af hIl;have Nq:=af hLm;have IY:l.length<=12:=a8 (Hk MC fun a ha=>(hLm a).1 ha) a12;obtain⟨m0,f,hm,hf⟩:=hM;have hlk:=fun(W:au) (hW:W.heap[o]?=w.heap[o]?)=>(hm.same hW).look mQ adN (am5 W) (aef N Om);have lD:ah (∀u,f (.int .i64 first)=some u->oP w u x first):=fun u hu=>by obtain⟨v,e1,_,_,h4⟩:=hf _ u hu;injection e1 with _ e1;rwa[<-e1] at h4
 generalize f (.int .i64 first)=r at*;clear hm hf hJ hSc MB hIl;obtain⟨X0,y0,z0,X1,y1,z1,X2,y2,z2,X3,y3,z3,hu⟩:∃X0 y0 z0 X1 y1 z1 X2 y2 z2 X3 y3 z3,r.getD (.agg #[.slice none 0 0,.slice none 0 0,.slice none 0 0,.slice none 0 0])= .agg #[.slice X0 y0 z0,.slice X1 y1 z1,.slice X2 y2 z2,.slice X3 y3 z3]:=by
  cases r with
  |none=>exact⟨_,_,_,_,_,_,_,_,_,_,_,_,rfl⟩
  |some u=>obtain⟨cb,kb,hb,A,m,c,rfl⟩:=(lD u rfl).parts;exact⟨_,_,_,_,_,_,_,_,_,_,_,_,rfl⟩
 have CU:ah (r.isSome=true->oP w (.agg #[.slice X0 y0 z0,.slice X1 y1 z1,.slice X2 y2 z2,.slice X3 y3 z3]) x first):=fun h=>by obtain⟨u,rfl⟩:=JT.1 h;rw[<-hu];exact lD u rfl
 simp only[hu] at hlk;have sM:=af hlk;clear hu hlk;generalize r.isSome=b at*;go_enter func208,ntmps208;go_upto_region 1 with fail
 refine fX fun W HX BQ BZ=> ?_;have nW:=BQ.lt;have Zi:=BZ.lt;obtain⟨S,s⟩:∃S:World->Prop,S=fun i=>ar i D EA [.slice A x.aq.length c,.slice B x.aA.length d,.slice E x.bk.length e,.int .i64 x.label,.slice At T.length ct,.slice Al l.length cl,.map (some o)]/\ar i w.heap.size aU [.int .i64 first]/\i.heap[o]?=w.heap[o]?:=⟨_,rfl⟩;have bL:ah (∀i,S i->i.cell? ⟨D,6,none⟩=some (.map (some o))/\i.cell? ⟨w.heap.size,0,none⟩=some (.int .i64 first)/\(Instr.lookup Wd (.map (some o)) (.int .i64 first) true).run prog i= .ok (.tuple #[.agg #[.slice X0 y0 z0,.slice X1 y1 z1,.slice X2 y2 z2,.slice X3 y3 z3],.bool b]) i):=by rw[ah,s];exact fun i h=>⟨h.1.aD 6,h.2.1.aD 0,sM.ae i h.2.2⟩
 have q:ah (∀i,Ext W i->S i):=(by rw[ah,s];exact fun i h=>⟨HJ.ext (HX.trans h),BQ.ext h,(HX.trans h).block _ hpl⟩);have aH:ah (S W.drew):=q _ (aC W).drew;clear s;refine b9 (S:=S) (T:=fun _=>false) Ok ?_;have G:=af (aC W).drew;have hwd:w.heap.size+1<W.drew.heap.size:=Zi;generalize W.drew=L at*;refine ax 0 9 ?_;refine ax 1 10 ?_;refine ax 2 11 ?_;refine ax 3 12 ?_;refine ax 4 13 ?_;refine ax 5 14 ?_;refine ax 6 8 ?_;refine ax 7 15 ?_;refine ax 8 16 ?_;refine aL 9 ?_;intro K hK;go_simp;refine hK.ae _ _ (fun _=>q _ (G.alloc _)) ?_;clear hK;refine aL 10 ?_;intro K hK;go_simp;refine hK.ae _ _ (fun _=>q _ (G.alloc _)) ?_;refine aP fun W2 n BP=> ?_;have X:=af (G.trans n);clear hK;refine aL 11 ?_;intro K hK;go_simp;refine hK.ae _ _ (fun _=>q _ X) ?_;refine bY Ok ?_;clear hK;have n:=af (HX.trans X);have SS:=af (BQ.ext X);have pB:=af (BZ.ext X);clear BQ BZ nW Zi;generalize L.heap.size=bp at*;have iA:=af (HM.ext n);have HJ2:=af (HJ.ext n);cases b with
 |true=>have HP:=af ((CU rfl).keep (.jd n.ae) (.jd n.ae));obtain⟨k0,k1,k2,k3⟩:=BP.four;obtain⟨f0,f1,f2,f3⟩:=pB.fO;obtain⟨j0,j1,j2,j3⟩:=pB.four;go_wp2_with fail;refine acy rfl rfl rfl pB.ae (fun F q1 q2 q3=> ?_);have g1:=HP.keep q2 q3;have g2:=iA.keep (q1.block _ iA.lt Oc) q2 q3;have g3:=(ig (S:= [o]) n).only q1 (.inr Om);first|exact⟨_,rfl,g1,g2,g3⟩
 |false=>
  have QT:w.heap.size<W2.heap.size:=SS.lt;have avZ:=af (CK.ext n);have awB:=af (iP d_ n);obtain⟨Ax,cx,xs,e0,g1,g2,g3,g4,g5⟩:=awB.ae;have Q:=V8 g5;have V:(ints l).length=l.length:=azg;rw[V] at e0 g1;injection e0 with e1 _ e2;subst e1 e2;have CC:=af (ame Al l.length cl xs W2 g3 g4 (by rw[Q];unfold fh;rw[cy,V,l8]) g1 (fun u hu=>by rw[Q] at hu;obtain⟨a,_,rfl⟩:=dH.1 hu;rfl) Om)
  have ze:=af Q;have Y:=af V;have j2:=HJ2.aD 5;clear g1 g2 g3 g4 g5 Q V;go_wp2_with fail
  refine CC.mono ?_;rintro e3 w3 ⟨v3,rfl,eX,hx3⟩;obtain⟨A3,c3,rfl,_,_,_⟩:=dZ eX;have gL:=af eX;have BQ3:=af (SS.ext hx3);have bZ:=af hx3;have FE:=BQ3.aD 0;clear eX hx3 j2;go_upto_if 25 with fail
  go_cut [7] (fun s7 wx=>∃(Ap:aS) (cp:Nat) (k:List Nat),s7= .slice Ap k.length cp/\ah (IL wx (.slice Ap k.length cp) (ints k))/\ah (∀a,a∈k↔a<x.aq.length)/\ah (∀f:Nat,first=f->k.head?=some f)/\ah (Ext W2 wx))
  case first=>
   by_cases hf:0<=first
   ·have d1:decide (0<=first)=true:=decide_eq_true hf;obtain⟨fn,hfn⟩:∃fn:Nat,first=fn:=⟨first.toNat,by omega⟩
    have hl0:l.length≠0:=fun e=>by have:=(Nq fn).2 Om;rw[lH e] at this;cases this
    obtain⟨g,rest,MH,tZ,hc1,hc2,hBg⟩:=ao3 gL hl0;subst MH;have SI:=af hBg;have nC:=af hfn;clear hBg hfn;go_upto_region 5 with fail
    refine b9 (S:=fun i=>i.cell? ⟨w.heap.size,0,none⟩=some (.int .i64 first)) (T:=fun _=>false) Ok ?_;have bL:ah (∀i:World,i.cell? ⟨w.heap.size,0,none⟩=some (.int .i64 first)->i.cell? ⟨w.heap.size,0,none⟩=some (.int .i64 first)):=fun _ h=>h;have aH:ah (w3.drew.cell? ⟨w.heap.size,0,none⟩=some (.int .i64 first)):=FE;have J:=af BQ3.drew;have dU:=af bZ.drew;have nG:=af SI.drew;have kS:g≠w.heap.size:=by have:=SS.lt;omega
    clear FE;generalize w3.drew=L at*;refine ax 0 26 ?_;refine ax 2 28 ?_;refine ax 3 29 ?_;have CD:=af (fun W (hX:W.cell? ⟨w.heap.size,0,none⟩=some (.int .i64 first)) (hl:w.heap.size<W.heap.size) (hB:ar W g aU (fh (ints l)++rest))=>apY 255 (fun _ _=>by rfl) (.pointer (some ⟨w.heap.size,0,none⟩)) (fun a=>a==first) (fun F=>Only g W F) g c3 (ints l) rest W (ii g W) hB (by rw[Y.ae];exact hc1) hc2 (fun W1 W2 N h2=>N.trans h2)
     (fun W1 v ys N _ II=>(am6 w.heap.size first v W1 (by rw[<-hX];unfold World.cell?;simp only;rw[N.block w.heap.size hl Oc])).mono fun e i hh=>⟨hh.1,by rw[hh.2];exact N,by rw[hh.2];exact II⟩))
    rw[ze.ae] at nG;have Z:ah ((ints l).filter (fun v=> !(v==first))=ints (l.filter fun a=> !(a==fn))):=by rw[ah,nC.ae];exact abo fn l
    have C8:=af (alm (f:=fn) Nq (by have:=nC.ae;omega));have HPH:ah (∀f:Nat,first=f->(fn::l.filter fun a=> !(a==fn)).head?=some f):=fun f h=>by have N:=nC.ae;have h2:fn=f:=Om;rw[h2];rfl
    have axX:(l.filter fun a=> !(a==fn)).length<=12:=a8 (mK _ _) IY;have hw2:W2.heap.size<=L.heap.size:=dU.size;have Gf:ah (∀l:List Nat,(ints l).length=l.length):=fun l=>by unfold ints;rw[cy]
    rw[Y.ae] at CD;clear d1;generalize l.filter (fun a=> !(a==fn))=lf at*;refine KO 1 4 Ok ?_ ?_
    ·skip
     refine BC ?_;intro K hK;go_simp;refine hK.ae _ _ (fun _=>by rw[<-aH.ae];exact((aC L).alloc _).cell (p:=⟨w.heap.size,0,none⟩) J.lt) ?_;refine aP fun W5 H BN=> ?_;have C:=af (J.ext H);have ut:=af (nG.ext H);have I3:g≠L.heap.size:=by have:=nG.lt;omega
     have O:=af (dU.trans H);clear hK;generalize L.heap.size=nb at*;have CD2:=af (CD W5 (C.aD 0) C.lt ut);refine aL 4 ?_;intro K hK;go_simp;refine CD2.mono ?_;rintro e6 w6 ⟨rfl,U,axu,ZA⟩;rw[Z.ae,Gf.ae];rw[Z.ae] at ZA;have NU:=af (C.only U Om);have JN:=af (BN.only U Om);have iy:=af (O.only U Om);have qx:=af ZA;have bB:ah (w6.cell? ⟨w.heap.size,0,none⟩=some (.int .i64 first)):=NU.aD 0;refine hK.ae _ _ (fun _=>bB.ae) ?_;clear hK BN U ZA;exact m29
    ·skip
     refine BC ?_;intro K hK;go_simp;have CD2:=af (CD L aH J.lt nG);refine CD2.mono ?_;rintro e5 w5 ⟨rfl,nS,afH,ZB⟩;rw[Z.ae,Gf.ae];rw[Z.ae] at ZB;have C:=af (J.only nS Om);have H:=af (dU.only nS Om);have ut:=af ZB;have bB:ah (w5.cell? ⟨w.heap.size,0,none⟩=some (.int .i64 first)):=C.aD 0;refine hK.ae _ _ (fun _=>bB.ae) ?_;clear hK nS ZB;refine aL 1 ?_;intro K hK;go_simp;refine hK.ae _ _ (fun _=>(C.ext ((aC w5).alloc _)).aD 0) ?_;refine aP fun w6 O JN=> ?_;have NU:=af (C.ext O);have qx:=af (ut.ext O);have iy:=af (H.trans O);have Cb:W2.heap.size<=w5.heap.size:=H.size;clear hK;generalize w5.heap.size=nb at*;exact m29
   ·have d1:decide (0<=first)=false:=decide_eq_false hf;have awx:ah (IL w3 (.slice A3 l.length c3) (ints l)):=(by have N:=gL.ae;rw[<-Y.ae] at N;have h:=D5 (R:=dr) (l:=ints l) N (by rw[ze.ae];exact PO w3 (ints l));rwa[Y.ae] at h)
    go_wp2_with fail
    go_meet;exact⟨_,_,l,rfl,awx,Nq,fun f hf2=>by omega,bZ⟩
  case rest=>
   obtain⟨Ap,cp,k,rfl,HIP,C8,HPH,z⟩:=hcut;clear FE;have axy:k.length=k.length:=rfl;obtain⟨dd,QZ,lw⟩:=alp aN (fun a ha=>(C8 a).2 ha);have M_:=af QZ;have Cw:=af lw;have MT:=af (n.trans z);have HJ4:=af (HJ2.ext z);have BP4:=af (BP.ext z);have J:=af (SS.ext z);have JL:=af (pB.ext z);have LG:=af (avZ.ext z);have vH:=af (iA.ext z);have CO:=af (fun W (hX:Ext wc W)=>ao6 _ x Ap cp k W (LG.ext hX) aN (iP HIP hX) (fun a ha=>(C8 a).1 ha));have CL:=af (fun W (hX:Ext wc W) g (hB:ar W g aU (je x.aq.length (nN x k)))=>ao7 _ x (some ⟨g,0,none⟩) x.aq.length (nN x k) dd W (LG.ext hX) aN M_ (ac5 hB Om));have ayI:bp<W2.heap.size:=BP.lt;clear QZ lw BP;go_upto_region 6 with fail
   obtain⟨S,s⟩:∃S:World->Prop,S=fun i=>ar i D EA [.slice A x.aq.length c,.slice B x.aA.length d,.slice E x.bk.length e,.int .i64 x.label,.slice At T.length ct,.slice Al l.length cl,.map (some o)]:=⟨_,rfl⟩;have bL:ah (∀i,S i->i.cell? ⟨D,0,none⟩=some (.slice A x.aq.length c)/\i.cell? ⟨D,1,none⟩=some (.slice B x.aA.length d)/\i.cell? ⟨D,2,none⟩=some (.slice E x.bk.length e)/\i.cell? ⟨D,3,none⟩=some (.int .i64 x.label)):=(by rw[ah,s];exact fun i h=>⟨h.aD 0,h.aD 1,h.aD 2,h.aD 3⟩)
   have q:ah (∀i,Ext wc i->S i):=(by rw[ah,s];exact fun i h=>HJ4.ext h);have aH:ah (S wc.drew):=q _ (aC wc).drew;clear s;refine b9 (S:=S) (T:=fun j=>decide (11<=j)) Ok ?_;have G:=af (aC wc).drew;generalize wc.drew=L at*;refine ax 0 32 ?_;refine ax 1 33 ?_;refine ax 2 34 ?_;refine ax 3 35 ?_;refine ax 4 36 ?_;refine ax 5 37 ?_;refine ax 6 38 ?_;refine ax 7 39 ?_;refine ax 8 40 ?_;have CO2:=af (CO L G);refine aL 9 ?_;intro K hK;go_simp;refine CO2.mono ?_;rintro e5 w5 ⟨ob,rfl,o8,ayQ,iu⟩;have vz:=af (G.trans iu);have CL2:=af (CL w5 vz ob o8);refine hK.ae _ _ (fun _=>q _ vz) ?_;clear hK o8 iu;refine aL 10 ?_;intro K hK;go_simp;refine CL2.mono ?_;rintro e6 w6 ⟨u6,wl,rfl,hpv,iq⟩;have y:=af (vz.trans iq);have HPV:=af hpv;obtain⟨cb,kb,hb,A6,c6,e6,_⟩:=hpv;subst e6;refine hK.ae _ _ (fun _=>q _ y) ?_;have SU:=af (BP4.ext y);have NU:=af (J.ext y);have rG:=af (JL.ext y);have HJ6:=af (HJ4.ext y);have Sj:=af (vH.ext y);have HXg:=af (MT.trans y);obtain⟨k0,k1,k2,k3⟩:=SU.four;obtain⟨f0,f1,f2,f3⟩:=SU.fO;obtain⟨F,jp,BPN,I⟩:=SU.EH (.slice (some ⟨cb,0,none⟩) (x.aq.length+1) (x.aq.length+1)) (.slice (some ⟨kb,0,none⟩) x.aq.length x.aq.length) (.slice (some ⟨hb,0,none⟩) x.aq.length x.aq.length) (.slice A6 wl.length c6);have HW:=af jp;have M:∀t,gT≠t->Kept t w6 F:=fun t ht=>wn I SU ht;have HPO:ah (oP F (.agg #[.slice (some ⟨cb,0,none⟩) (x.aq.length+1) (x.aq.length+1),.slice (some ⟨kb,0,none⟩) x.aq.length x.aq.length,.slice (some ⟨hb,0,none⟩) x.aq.length x.aq.length,.slice A6 wl.length c6]) x first):=⟨k,dd,wl,C8,HPH,M_,Cw,HPV.keep (M _ Od) (M _ Od)⟩;have SQ:=af (NU.only I Om);have SP:=af (rG.only I Om);have HJ7:=af (HJ6.only I Om);have HM7:=af (Sj.keep (I.block _ Sj.lt Oc) (M _ Od) (M _ Od));have NG:ah (a7 [o] w F):=(ig HXg).only I.ae (.inr Om);clear hK iq jp M;refine aL 11 ?_;intro K hK;go_simp;refine hK.ae _ _ Oy9 ?_;refine bY Ok ?_;rw[HW.ae];clear k0 k1 k2 k3 f0 f1 f2 f3 hK;go_upto_region 7 with fail
   have ai9:=af (HPO.keep (jL _ _).drew (jL _ _).drew);obtain⟨w8,hrun,HM8,P⟩:=(HM7.ext (aC F).drew).put N h2 Om ai9;have BPd:=af BPN.drew;have BQd:=af SQ.drew;have BZd:=af SP.drew;have HJd:=af HJ7.drew;have HCd:=af NG.drew;have HMd:=af (HM7.ext (aC F).drew);have aH:ah (ar F.drew D EA [.slice A x.aq.length c,.slice B x.aA.length d,.slice E x.bk.length e,.int .i64 x.label,.slice At T.length ct,.slice Al l.length cl,.map (some o)]/\ar F.drew w.heap.size aU [.int .i64 first]/\ar F.drew bp gT [.slice (some ⟨cb,0,none⟩) (x.aq.length+1) (x.aq.length+1),.slice (some ⟨kb,0,none⟩) x.aq.length x.aq.length,.slice (some ⟨hb,0,none⟩) x.aq.length x.aq.length,.slice A6 wl.length c6]):=⟨HJd,BQd,BPd⟩;have bL:ah (∀i,(ar i D EA [.slice A x.aq.length c,.slice B x.aA.length d,.slice E x.bk.length e,.int .i64 x.label,.slice At T.length ct,.slice Al l.length cl,.map (some o)]/\ar i w.heap.size aU [.int .i64 first]/\ar i bp gT [.slice (some ⟨cb,0,none⟩) (x.aq.length+1) (x.aq.length+1),.slice (some ⟨kb,0,none⟩) x.aq.length x.aq.length,.slice (some ⟨hb,0,none⟩) x.aq.length x.aq.length,.slice A6 wl.length c6])->i.cell? ⟨D,6,none⟩=some (.map (some o))/\i.cell? ⟨w.heap.size,0,none⟩=some (.int .i64 first)/\F4 i bp (.slice (some ⟨cb,0,none⟩) (x.aq.length+1) (x.aq.length+1)) (.slice (some ⟨kb,0,none⟩) x.aq.length x.aq.length) (.slice (some ⟨hb,0,none⟩) x.aq.length x.aq.length) (.slice A6 wl.length c6)):=fun i h=>⟨h.1.aD 6,h.2.1.aD 0,h.2.2.four⟩;unfold F4 at bL;clear BPN;refine b9 (S:=fun i=>ar i D EA [.slice A x.aq.length c,.slice B x.aA.length d,.slice E x.bk.length e,.int .i64 x.label,.slice At T.length ct,.slice Al l.length cl,.map (some o)]/\ar i w.heap.size aU [.int .i64 first]/\ar i bp gT [.slice (some ⟨cb,0,none⟩) (x.aq.length+1) (x.aq.length+1),.slice (some ⟨kb,0,none⟩) x.aq.length x.aq.length,.slice (some ⟨hb,0,none⟩) x.aq.length x.aq.length,.slice A6 wl.length c6]) (T:=fun j=>decide (6<=j)) Ok ?_;generalize F.drew=L at*;refine ax 0 43 ?_;refine ax 1 44 ?_;refine ax 2 45 ?_;refine ax 3 46 ?_;refine ax 4 47 ?_;refine ax 5 48 ?_;refine aL 6 ?_;intro K hK;go_simp;refine hK.ae _ _ Oy9 ?_;refine bY Ok ?_;have NV:=af (BPd.only P Om);have BZ8:=af (BZd.only P Om);have HP8:=af (ai9.keep (HMd.kept ((ig (aC L)).only P.ae (.inl Ou)) _) (HMd.kept ((ig (aC L)).only P.ae (.inl Ou)) _));have ur:=af (HCd.only P (.inl Ou));clear hK hrun;obtain⟨k0,k1,k2,k3⟩:=NV.four;obtain⟨f0,f1,f2,f3⟩:=BZ8.fO;obtain⟨j0,j1,j2,j3⟩:=BZ8.four;go_wp2_with fail
   refine acy rfl rfl rfl BZ8.ae (fun F q1 q2 q3=> ?_);have g1:=HP8.keep q2 q3;have g2:=HM8.keep (q1.block _ HM8.lt Oc) q2 q3;have g3:=ur.only q1 (.inr Om);first|exact⟨_,rfl,g1,g2,g3⟩
def anA(n:Nat)(h:n<=1000)(w:au):
 (Instr.makeSlice rW (av (n:Int)) (av (n:Int))).run prog w= .ok (aG w.heap.size 0 n n) (w.alloc (.cells (List.replicate n (Value.string ⟨#[]⟩)).toArray bI)):=by
 obtain⟨e,f,c,b,a⟩:=info_parts (show(prog.info? bI).map (fun i=>(i.zero,i.size,i.bytes))=some (some (.string ⟨#[]⟩),1,16) by kernel_rfl);have d:=run_make (P:=prog) w rW bI e (.string ⟨#[]⟩) underlying39 f c .i64 .i64 (n:Int) (n:Int) Om (AB _) azC Om;simp only[kF,b,l8,Value.cells,Ai] at d;rw[d]
def OO{n:Nat}{v:Value}:(List.range n).map (fun _=>v)=List.replicate n v:=by rw[List.map_const',gN]
def EU(n base:Nat)(u:Value)(w:au):Prop:=∃g,u=aG g 0 n n/\ar w g bI (uR n fun _=> [])/\base<=g
def ET(n base:Nat)(u:Value)(w:au):Prop:=∃g,u=aG g 0 n n/\ar w g gh (gf n fun _=>false)/\base<=g
def EW(base:Nat)(u:Value)(w:au):Prop:=∃g,u= .map (some g)/\d7 w bI g 0 (fun _=>none)/\base<=g
def Iw(x:aQ)(first:Int)(u:Value)(w:au):Prop:=oP w u x first
section
variable{w w':au}{u:Value}{x:aQ}{pb base n:Nat}{first:Int}
theorem EU.bP(h:EU n base u w)(k:a7 [pb] w w')(c:pb<base):EU n base u w':=by obtain⟨g,e,b,a⟩:=h;exact⟨g,e,b.bP k Oc,a⟩
theorem ET.bP(h:ET n base u w)(k:a7 [pb] w w')(c:pb<base):ET n base u w':=by obtain⟨g,e,b,a⟩:=h;exact⟨g,e,b.bP k Oc,a⟩
theorem EW.bP(h:EW base u w)(k:a7 [pb] w w')(c:pb<base):EW base u w':=by obtain⟨g,e,a,b⟩:=h;exact⟨g,e,a.same (k.block g a.lt Oc),b⟩
theorem Iw.bP(h:Iw x first u w)(a:dF x pb w)(k:a7 [pb] w w'):Iw x first u w':=oP.keep h (a.kept k _) (a.kept k _)
end
def atW.k27(h:ai:=by exact bodyPost_ret (v:=aJ w3.heap.size 0) (by simp [results,results198,go_sem]) rfl ⟨w3.heap.size,nb,sb,kb,_,_,_,_,rfl,BX,HPf,HNf,HSf,HMf,⟨by omega,by omega,by omega,by omega⟩,⟨by omega,by omega,by omega⟩,Di.2,HC⟩):=h
def atY.ahP(h:ai:=by
 refine cG.RR [⟨3,23,Iw x first⟩,⟨9,29,EU x.aq.length W.heap.size⟩,⟨11,31,ET x.aq.length W.heap.size⟩,⟨12,32,EW W.heap.size⟩] I (fun _ _=>True) [3,9,11,12] [23,29,31,32] [[],[],[],[]] #[true,true,true,true,true,true,true,true,true,true,true,true,true,false,false,false] 4 3 rfl rfl rfl Od Ok Ok (fun _ h=>h) aH ?_ ?_
 ·exact m9
 ·open atW in exact m27):=h
def atZ.k68(h:ai:=by
 have py:ah (∀w',I w'->ar w' w.heap.size 266 [.bool f,.bool g,.func (.func p) #[] #[],.func (.func m) #[] #[],.func (.func i) #[] #[]]):=fun w' h=>BR.bP (ul w' h).1 Oc;have bL:ah (∀w',I w'->ay w' w.heap.size 0 (.bool f)/\ay w' w.heap.size 1 (.bool g)/\ay w' w.heap.size 2 (.func (.func p) #[] #[])/\ay w' w.heap.size 3 (.func (.func m) #[] #[])/\ay w' w.heap.size 4 (.func (.func i) #[] #[])):=fun w' h=>by exact m77
 open atY in exact ag_):=h
def amh(jb pb:Nat)(x:aQ)(T:List (List Rw))(C:cF x)(first:Int)(D:Option Nat)(f g:Bool)(p m i J H:FuncId)(F:Array Value)(w:au)(r:gJ x T jb pb w)(q:dF x pb w)(hne:jb≠pb)(h1: -1<=first)(h2:first<(x.aq.length:Int)):
 Calls prog 198 #[aJ jb 0,av first,.map D,.agg #[.bool f,.bool g,.func (.func p) #[] #[],.func (.func m) #[] #[],.func (.func i) #[] #[]],.func (.func J) #[] F,.func (.func H) #[] #[]] w fun e w'=>∃a nb sb kb z y t s,e= .returned (aJ a 0)/\
  ar w' a 274 [aJ jb 0,z,y,t,s,.bool f,.bool g,.func (.func p) #[] #[],.func (.func m) #[] #[],.func (.func i) #[] #[],.func (.func J) #[] F,.func (.func H) #[] #[],.map D,aG nb 0 x.aq.length x.aq.length,aG sb 0 x.aq.length x.aq.length,.map (some kb)]/\
  oP w' (.agg #[z,y,t,s]) x first/\ar w' nb bI (uR x.aq.length fun _=> [])/\ar w' sb gh (gf x.aq.length fun _=>false)/\d7 w' bI kb 0 (fun _=>none)/\(w.heap.size<=a/\w.heap.size<=nb/\w.heap.size<=sb/\w.heap.size<=kb)/\(a≠nb/\a≠sb/\a≠kb)/\dF x pb w'/\a7 [pb] w w':=by
 have a12:=C.a12;have aN:=af C;have hpl:=q.lt;have L:=r.lt;have HM:=af q;have JA:=af r;obtain⟨A,c,B,d,E,e,At,M,O,N,l,G,_⟩:=r;have HJ:=af G;clear G q;go_enter func198,ntmps198;open atZ in exact m68
def atT.k27(h:ai:=by exact bodyPost_ret (v:=aJ w3.heap.size 0) (by simp [results,results152,go_sem]) rfl ⟨w3.heap.size,nb,sb,kb,_,_,_,_,rfl,BX,HPf,HNf,HSf,HMf,⟨by omega,by omega,by omega,by omega⟩,⟨by omega,by omega,by omega⟩,Di.2,HC⟩):=h
def atU.ahP(h:ai:=by
 refine cG.RR [⟨3,23,Iw x first⟩,⟨9,29,EU x.aq.length W.heap.size⟩,⟨11,31,ET x.aq.length W.heap.size⟩,⟨12,32,EW W.heap.size⟩] I (fun _ _=>True) [3,9,11,12] [23,29,31,32] [[],[],[],[]] #[true,true,true,true,true,true,true,true,true,true,true,true,true,false,false,false] 4 3 rfl rfl rfl Od Ok Ok (fun _ h=>h) aH ?_ ?_
 ·exact m9
 ·open atT in exact m27):=h
def atV.k68(h:ai:=by
 have py:ah (∀w',I w'->ar w' w.heap.size 159 [.bool i,.slice F g f,.bool q,.slice G p m,.bool y,.slice J t s,.bool r,.slice H q1 q2,.func (.func D) #[] #[],.func (.func C) #[] #[],.func (.func z) #[] #[]]):=fun w' h=>BR.bP (ul w' h).1 Oc;have bL:ah (∀w',I w'->ay w' w.heap.size 0 (.bool i)/\ay w' w.heap.size 1 (.slice F g f)/\ay w' w.heap.size 2 (.bool q)/\ay w' w.heap.size 3 (.slice G p m)/\ay w' w.heap.size 4 (.bool y)/\ay w' w.heap.size 5 (.slice J t s)/\ay w' w.heap.size 6 (.bool r)/\ay w' w.heap.size 7 (.slice H q1 q2)/\ay w' w.heap.size 8 (.func (.func D) #[] #[])/\ay w' w.heap.size 9 (.func (.func C) #[] #[])/\ay w' w.heap.size 10 (.func (.func z) #[] #[])):=fun w' h=>by exact m77
 open atU in exact ag_):=h
def al3(jb pb:Nat)(x:aQ)(T:List (List Rw))(U:cF x)(first:Int)(V:Option Nat)(i:Bool)(F:aS)(g f:Nat)(q:Bool)(G:aS)(p m:Nat)(y:Bool)(J:aS)(t s:Nat)(r:Bool)(H:aS)(q1 q2:Nat)(D C z fl Z:FuncId)(X:Array Value)(w:au)(M:gJ x T jb pb w)(L:dF x pb w)(hne:jb≠pb)(h1: -1<=first)(h2:first<(x.aq.length:Int)):
 Calls prog 152 #[aJ jb 0,av first,.map V,.agg #[.bool i,.slice F g f,.bool q,.slice G p m,.bool y,.slice J t s,.bool r,.slice H q1 q2,.func (.func D) #[] #[],.func (.func C) #[] #[],.func (.func z) #[] #[]],.func (.func fl) #[] X,.func (.func Z) #[] #[]] w fun e w'=>∃a nb sb kb Q P O N,e= .returned (aJ a 0)/\
  ar w' a 281 [aJ jb 0,Q,P,O,N,.bool i,.slice F g f,.bool q,.slice G p m,.bool y,.slice J t s,.bool r,.slice H q1 q2,.func (.func D) #[] #[],.func (.func C) #[] #[],.func (.func z) #[] #[],.func (.func fl) #[] X,.func (.func Z) #[] #[],.map V,aG nb 0 x.aq.length x.aq.length,aG sb 0 x.aq.length x.aq.length,.map (some kb)]/\
  oP w' (.agg #[Q,P,O,N]) x first/\ar w' nb bI (uR x.aq.length fun _=> [])/\ar w' sb gh (gf x.aq.length fun _=>false)/\d7 w' bI kb 0 (fun _=>none)/\(w.heap.size<=a/\w.heap.size<=nb/\w.heap.size<=sb/\w.heap.size<=kb)/\(a≠nb/\a≠sb/\a≠kb)/\dF x pb w'/\a7 [pb] w w':=by
 have a12:=U.a12;have aN:=af U;have hpl:=L.lt;have dX:=M.lt;have HM:=af L;have JA:=af M;obtain⟨A,c,B,d,E,e,At,ct,Al,cl,l,Y,_⟩:=M;have HJ:=af Y;clear Y L;go_enter func152,ntmps152;open atV in exact m68
def amv(h:eL B T):T.length<=60:=by
 rcases h with rfl|⟨-,f⟩|⟨-,z,rfl,c⟩|⟨-,q,rfl,a⟩
 ·simp
 ·have:=f.2.1;omega
 ·have j:=vW z;have i:=AE c.lt;omega
 ·have j:=vW q.num;have i:=AE a.1.lt;by_cases b:q.den=1
  ·rw[pG b];omega
  ·rw[qH b,bC,cW,decDigits_length];have l:=AE (n:=q.den) (e:=1) (by have:=a.2;omega);omega
def univ(T:List (List Rw)):List aF:=kr ([]::T.flatMap fun l=>l.flatMap fun y=>y.1)
def Hi(T:List (List Rw)):(univ T).Nodup:=UV (Ko _)
def U9{T:List (List Rw)}{l:List Rw}{y:Rw}{t:aF}(c:l∈T)(a:y∈l)(b:t∈y.1):t∈univ T:=
 xS.2 (aI.2 (.inr (ox.2 ⟨l,c,ox.2 ⟨y,a,b⟩⟩)))
def adt{T:List (List Rw)}{t:aF}(h:t∈univ T):t= []\/∃l∈T,∃y∈l,t∈y.1:=by
 rcases aI.1 (xS.1 h) with h|h
 ·exact .inl h
 ·obtain⟨l,b,h⟩:=ox.1 h;obtain⟨y,a,h⟩:=ox.1 h;exact .inr ⟨l,b,y,a,h⟩
def aos(T:List (List Rw)):1<=(univ T).length:=by have h:([]:aF)∈univ T:=xS.2 Ou;exact List.length_pos_of_mem h
def Pv{α β:Type}{f:α->List β}{m:Nat}:∀{l:List α},(∀a∈l,(f a).length<=m)->(l.flatMap f).length<=l.length*m
 | [],_=>by simp
 |a::l,h=>by rw[vP,bC,cW,k9,qK];have i:=h a Ou;have e:=Pv (l:=l) fun b c=>h b azz;omega
def aot{T:List (List Rw)}(i:T.length<=6)(h:∀l∈T,l.length<=60)(e:∀l∈T,∀y∈l,y.1.length<=6):(univ T).length<=2161:=by
 refine a8 (Uj _) ?_;rw[cW];have o:=Pv (m:=360) (l:=T) (f:=fun l=>l.flatMap fun y=>y.1) fun l a=>by have n:=Pv (f:=fun y:Rw=>y.1) fun y b=>e l a y b;have c:=h l a;have k:l.length*6<=60*6:=fc _ c;omega
 have j:T.length*360<=6*360:=fc _ i;omega
section
variable{x:aQ}{D:List (List Rw)}
theorem Va{T:List (List Rw)}{y:Rw}(b:y∈bR T a):∃l∈T,y∈l:=by
 unfold bR at b;cases c:T[a]? with
 |none=>rw[c] at b;cases b
 |some l=>rw[c] at b;exact⟨l,uy c,b⟩
theorem Po(f:jD x D){l:List Rw}(h:l∈aX x D):∃(i:Nat) (j:i<x.aA.length) (c:i<D.length),l=iR x.aA x.aA[i].2 D[i]/\tC x x.aA[i].2 D[i]:=by
 obtain⟨i,a,e⟩:=ju h;rw[mP] at a;have c:i<D.length:=by rw[f.1];exact a
 have b:=Ks a c;rw[aV (by rw[mP];exact a),e] at b;injection b with b;exact⟨i,a,c,b,f.2 i _ _ (aV c) (aV a)⟩
theorem Pp(c:jD x D){l:List Rw}(b:l∈aX x D):l.length<=60:=by obtain⟨i,f,e,rfl,a⟩:=Po c b;exact a8 (mK _ _) a.len
theorem apk(n:jD x D){l:List Rw}(m:l∈aX x D){y:Rw}(h:y∈l){t:aF}(k:t∈y.1):(0:UInt8)∉t/\t.length<=1000:=by
 obtain⟨i,q,o,rfl,a⟩:=Po n m;have c:=a.val y (xY h);obtain⟨j,e,rfl⟩:=ju k;have b:j<x.aA[i].2.length:=by rw[<-c.1];exact e
 have f:=c.2 j _ _ (aV b) (aV e);have:=amv f;exact⟨akj f,by omega⟩
theorem VX(e:jD x D):∀h∈bV x,∀y∈bR (aX x D) h,1<=y.2/\y.2<=1000000:=fun h f y a=>by obtain⟨l,c,a⟩:=Va a;obtain⟨i,k,j,rfl,b⟩:=Po e c;have:=b.wt y (xY a);omega
theorem apm(c:cF x)(n:x.aq.length<=6)(j:jD x D){l:List Rw}(h:l∈aX x D){y:Rw}(f:y∈l):y.1.length<=6:=by
 obtain⟨i,k,m,rfl,b⟩:=Po j h;rw[(b.val y (xY f)).1];have e:=aZ k;have a:=Ib (c.ra _ e) (c.ri _ e);rcases a with a|a
 ·rw[a];simp
 ·omega
def gD(x:aQ)(d:Nat->Nat):Nat->List Nat:=fun v=>(bV x).filter fun t=>fu d (bJ x t) ((bJ x t).headD 0)==v
theorem aq5{p:Nat->Option Nat}{d:Nat->Nat}{g:List Nat}(r:dp a p d)(f:b<a):(pS a p g b).length+1<=a:=by
 have h:(b::pS a p g b).Nodup:=(by refine ja.2 ⟨fun i=> ?_,zT zU sV⟩;unfold pS at i;have j:=(fI.1 i).2;rw[cZ,th] at j;have:=j.2.mW r b rfl f;omega);exact Hk h fun c e=>by
  rcases aI.1 e with rfl|e
  ·exact f
  ·exact dP.1 (fI.1 e).1
variable{α:Type}{R:SR α}{G:Nat->Nat->α->Prop}{wt:Int->α}{g:Nat->aF->α}{fx:Nat->Option aF}{p:Nat->Option Nat}{d:Nat->Nat}
theorem auL(ok:cF x)(b:jD x D)(r:dp x.aq.length p d)(hW:Whole x.aq.length (bJ x) (bV x) (eF x.aq.length p (gD x d) x.aq.length none))(gr:yE R G)(hg:∀v t,dt fx v t=false->g v t=R.zero)(gg:∀v t,v<x.aq.length->t∈univ (aX x D)->G 1 1 (g v t))(m:∀k:Int,1<=k->k<=1000000->G 1 1 (wt k)):
 Wk R G wt g fx (univ (aX x D)) x (aX x D) p d (gD x d) where
 gr:=gr
 r:=r
 sc:=ok
 tb:=acW ok b
 hg:=hg
 un:=Hi _
 hU:=fun h _ y a t c=>by obtain⟨l,e,a⟩:=Va a;exact U9 e a c
 gg:=gg
 hw:=fun h hh y a=>m _ (VX b h hh y a).1 (VX b h hh y a).2
 hK:=fun h hh=>by have f:=km.1 hh;unfold bR;rw[aV (by rw[mP];exact f)];exact Pp b (aZ _)
 whole:=hW.ok
 hh:=fun v h hh=>(fI.1 hh).1
 nd:=fun v=>zT zU sV
 ap:=fun v w h j i=>(beq_iff_eq.1 (fI.1 j).2).symm.trans (beq_iff_eq.1 (fI.1 i).2)
end
def Jh.gr{α:Type}{R:SR α}{V:World->Value->α->Prop}{G:Nat->Nat->α->Prop}{wt:Int->α}{a:α->Bool}{f e b c:FuncId}(h:Jh R V G wt a f e b c):yE R G:=⟨h.XD,h.XC,h.WF,h.WE,h.gone⟩
noncomputable def Ym{α:Type}(R:SR α)(V:World->Value->α->Prop)(G:Nat->Nat->α->Prop)(wt:Int->α)(yK:α->Bool)(fa fm fz fw fl:FuncId)(g:Nat->aF->α)(fx:Nat->Option aF)(fv:Value)(x:aQ)(D:List (List Rw))(p:Nat->Option Nat)(d:Nat->Nat)(wl:List Nat)(w0 w1:au)(cs:List Value)(tX:TypeId)(xb jb nb sb kb:Nat):Pw α where
 R:=R
 V:=V
 G:=G
 wt:=wt
 yK:=yK
 fa:=fa
 fm:=fm
 fz:=fz
 fw:=fw
 fl:=fl
 g:=g
 fx:=fx
 fv:=fv
 U:=univ (aX x D)
 x:=x
 T:=aX x D
 p:=p
 d:=d
 homes:=gD x d
 key:=fun v=>pS x.aq.length p (ik x.aq.length x.aA) v
 ch:=oO x.aq.length p
 ks:=Bf (ik x.aq.length x.aA) p
 hs:=Ey x.aq.length d x.aA
 wl:=wl
 w0:=w0
 w1:=w1
 cs:=cs
 tX:=tX
 xb:=xb
 jb:=jb
 nb:=nb
 sb:=sb
 kb:=kb
def afj{α:Type}{R:SR α}{V:World->Value->α->Prop}{G:Nat->Nat->α->Prop}{wt:Int->α}{H:α->Bool}{W U Q T I:FuncId}{g:Nat->aF->α}{fx:Nat->Option aF}{x:aQ}{D:List (List Rw)}{p:Nat->Option Nat}{d:Nat->Nat}{K:Array Value}
 (ring:Jh R V G wt H W U Q T) (ok:cF x) (F:jD x D) (X:x.aq.length<=6) (r6:x.aA.length<=6) (r:dp x.aq.length p d) (hW:Whole x.aq.length (bJ x) (bV x) (eF x.aq.length p (gD x d) x.aq.length none)) (hg:∀v s,dt fx v s=false->g v s=R.zero) (gg:∀v s,v<x.aq.length->s∈univ (aX x D)->G 1 1 (g v s))
 (pl:RZ n t x.aq.length (oO x.aq.length p) (Bf (ik x.aq.length x.aA) p) (Ey x.aq.length d x.aA) i)
 (ca:t[h]?=some (.func (.func W) #[] #[])) (cm:t[h+1]?=some (.func (.func U) #[] #[])) (cz:t[h+2]?=some (.func (.func Q) #[] #[])) (cl:t[h+3]?=some (.func (.func I) #[] K)) (cw:t[h+4]?=some (.func (.func T) #[] #[])) (cf:t[h+5]?=some q) (ck:t[h+8]?=some (.map (some f)))
 (kw:m.heap.size<=f) (kx:a≠f) (kn:c≠f) (L:e≠f) (il:∀C z,(callFunc I C).run prog z= .ok (.enter I C) z)
 (lift:∀z,Ext m z->∀v s,v<x.aq.length->Iu x (aX x D) v s->dt fx v s=true->Calls prog I (#[av v,aO s]++K) z fun k Z=>∃u,k= .returned u/\V Z u (g v s)/\Ext z Z) (J:vL m q fx):
 ji (Ym R V G wt H W U Q T I g fx q x D p d i m n t w a b c e f) h K:=by
 have Y:=auL ok F r hW ring.gr hg gg ring.gw;have B:=(AJ ok.ri).len;have hu:=aot (by rw[mP];exact r6) (fun l E=>Pp F E) (fun l E y M=>apm ok X F E M);refine⟨ring,Y,pl,fun v A=>apv A,alO,fun v A=>anW A,fun v A=> ?_,fun v A j P=> ?_,fun v A=> ?_,fun v A k e' N=> ?_,ca,cm,cz,cl,cw,cf,ck,kw,kx,kn,L,il,lift,J,r6,a8 X Od,fun l E=>Pp F E,VX F,fun s ht=> ?_,aos _,?_⟩
 ·have o:=apw (g:=ik x.aq.length x.aA) (p:=p) (show v<(ik x.aq.length x.aA).length by rw[B];exact A);rwa[B] at o
 ·have o:=fI.1 P;exact⟨(cZ _ _▸o.2:_/\_).2,dP.1 o.1⟩
 ·have:=aq5 (g:=ik x.aq.length x.aA) r A;show(pS x.aq.length p (ik x.aq.length x.aA) v).length<=5
  omega
 ·obtain⟨S,s1,s2⟩:=Y.E4 (d v) v A (aK _);refine aow ok r A (fun o k e' N=>Pc o k e' N) s1 (fun j P=>th.1 ((s2 j).1 P)) (fun o hh=> ?_) N;have O:(fj x.aq.length p (gD x d) v).By (gD x d):=⟨rfl,AA _ _,trivial⟩;obtain⟨z,_,hw⟩:=(O.mem o).1 hh;exact km.1 (fI.1 hw).1
 ·rcases adt ht with rfl|⟨l,E,y,M,o⟩
  ·simp
  ·exact apk F E M o
 ·have h1:=Nat.pow_le_pow_left hu 5;have h2:=xN X h1;have h3:6*2161^5<maxLen:=by unfold maxLen;decide
  exact DC h2 h3
section
variable{n:Nat}{adj:Nat->Nat->Prop}{perm:List Nat}
theorem ac7(z:∀a b,adj a b->adj b a)(d:∀a,a<n->a∈perm){f k:Nat}{u:Option Nat}(s:perm.head?=some f):
 ∀(L:List VS),(∀c∈L,(∀x,c x=true->x<n)/\(∃a,c a=true)/\c.count n<=k+1)->∀p:Nat->Option Nat,((∃c∈L,c f=true)\/p f=u)->(L.foldl (fun p c=>match perm.find? c with
  |some a=>jZ n adj perm k (VS.less c (VS.one a)) (some a) (jA p a u)
  |none=>p) p) f=u
 | [],_,p,h=>by
   rcases h with⟨c,D,_⟩|h
   ·cases D
   ·exact h
 |c::L,A,p,h=>by
  obtain⟨v,⟨x,m⟩,E⟩:=A c Ou;rw[J7];refine ac7 z d s L (fun w j=>A w (by simp [j])) _ ?_;obtain⟨a,r⟩:∃a,perm.find? c=some a:=by
   cases C:perm.find? c with
   |some a=>exact⟨a,rfl⟩
   |none=>exact absurd m (DF.1 C x (d x (v x m)))
  have q:c a=true:=z7 r;have B:=uG (n:=n) q (v a q);have o:∀x,(VS.less c (VS.one a)) x=true->c x=true:=fun x m=>by unfold VS.less at m;rw[cZ] at m;exact m.1
  obtain⟨y,_⟩:=OZ (adj:=adj) z d k (VS.less c (VS.one a)) (some a) (jA p a u) (fun x m=>v x (o x m)) Om;rw[r];simp only;cases i:c f with
  |true=>
   right;have e:a=f:=by
    rcases perm with _|⟨b,l⟩
    ·cases s
    ·injection s with s;subst s;rw[List.find?_cons,i] at r;injection r with r;exact r.symm
   subst e;rw[y a azY];unfold jA;rw[if_pos rfl]
  |false=>
   rcases h with⟨w,j,g⟩|h
   ·rcases aI.1 j with rfl|j
    ·rw[i] at g;cases g
    ·exact .inl ⟨w,j,g⟩
   ·right;have t:f≠a:=fun e=>by rw[e,q] at i;cases i
    rw[y f (by unfold VS.less;rw[i];rfl)];unfold jA;rw[if_neg t,h]
theorem alj(i:∀d g,adj d g->adj g d)(h:∀d,d<n->d∈perm){rest:VS}(s:perm.head?=some a)(t:a<n)(r:∀x,rest x=true->x<n)(v:rest.count n<=b+1)(q:rest a=true):jZ n adj perm (b+1) rest O y a=O:=by
 have l:∀c∈parts adj (List.range n) rest,∀x,c x=true->rest x=true:=fun c m x o=>by obtain⟨d,_,j,rfl⟩:=z_ i m;exact rR i j o
 refine ac7 i h s _ (fun c m=> ?_) y (.inl ⟨_,GX (adj:=adj) i t q,fK.2 .refl⟩);obtain⟨d,_,j,e⟩:=z_ i m;refine⟨fun x o=>r x (l c m x o),⟨d,by rw[e];exact fK.2 .refl⟩,?_⟩;have:=xP (n:=n) (l c m);omega
end
def anb{x:aQ}(j:cF x){perm:List Nat}(d:∀c,c∈perm↔c<x.aq.length)(e:perm.head?=some a):nN x perm a=none:=by
 have i:=AJ j.ri;have l:∀c b,fP (ik x.aq.length x.aA) c b->fP (ik x.aq.length x.aA) b c:=fun c b h=>by obtain⟨r,s,q,p,o⟩:=(i.bit c b).1 h;exact(i.bit b c).2 ⟨r,s,p,q,o.symm⟩
 have g:a<x.aq.length:=(d a).1 (List.mem_of_head? e);exact alj (adj:=fP (ik x.aq.length x.aA)) l (fun c m=>(d c).2 m) e g (fun y k=>of_decide_eq_true k) (by rw[Hl];omega) (decide_eq_true g)
def ae7{x:aQ}(q:dF x a m)(k:a7 [a] m n):∃b,Ext b n/\b.heap.size=m.heap.size/\(∀W,Ext b W->a7 [a] m W)/\(∀i,i≠a->b.heap[i]?=m.heap[i]?)/\∀t,Kept t m b:=by
 have r:=q.lt;have l:=cE r k.size;have f:∀i,i≠a->(m.heap.setIfInBounds a n.heap[a])[i]?=m.heap[i]?:=fun i c=>by rw[Array.getElem?_setIfInBounds_ne (fM c)]
 have v:(m.heap.setIfInBounds a n.heap[a])[a]?=n.heap[a]?:=(by rw[Array.getElem?_setIfInBounds_self_of_lt r,aae l]);refine⟨{m with heap:=m.heap.setIfInBounds a n.heap[a]},⟨k.os,k.tape,k.output,?_,fun i c=> ?_⟩,?_,fun W hW=>⟨hW.os,hW.tape,hW.output,?_,fun i c s=> ?_⟩,f,fun t g A y d=> ?_⟩
 ·rw[N9];exact k.size
 ·have o:i<m.heap.size:=(by have h:(m.heap.setIfInBounds a n.heap[a]).size=m.heap.size:=N9 ..;rw[<-h];exact c);by_cases e:i=a
  ·rw[e,v]
  ·rw[f i e];exact k.block i o azm
 ·exact N9 ..
 ·have h:=hW.size;rwa[N9] at h
 ·have h:=hW.block i (by rw[N9];exact c);rw[h,f i (by simpa using s)]
 ·have j:g≠a:=fun e=>by subst e;obtain⟨_,_,⟨D,⟨z,p,u,_⟩,_⟩,_⟩:=q;rw[u] at d;injection d with d;cases d
  exact(f g j).trans d
noncomputable def yD(b:Nat->Option aF)(j:Option Nat)(x:aQ)(D:List (List Rw))(p:Nat->Option Nat)(d:Nat->Nat)(e:List Nat)(g f:au)(m:List Value)(c l i h k:Nat):Pw Bool:=
 Ym dV (fun _ u a=>u= .bool a) (fun _ _ _=>True) (fun _=>true) (fun a=> !a) 242 243 244 201 200 (fun v t=>dt b v t) b (.map j) x D p d e g f m 274 c l i h k
def afs{x:aQ}{D:List (List Rw)}(k:cF x)(n:jD x D)(h:gJ x (aX x D) a b m):Bas m a x (aX x D):=by have g:=h.lt;obtain⟨A,c,B,d,E,e,At,r,C,u,l,i,p,o,_⟩:=h;obtain⟨F,v,z,t,y,s,f,_,j,_⟩:=p;injection f with f;injection f with f;injection f with _ f;injection f with q _;rw[<-q] at j;exact⟨g,⟨B,d,i.cell rfl,j⟩,⟨At,r,i.cell rfl,o⟩,apl k n⟩
def ae'{α:Type}{D:Pw α}(i:Bas D.w0 D.jb D.x D.T)(g:Ext D.w0 m)(f:D.w1=m)(o:D.w0.heap.size<=D.nb)(n:D.w0.heap.size<=D.sb)(l:D.xb≠D.nb)(k:D.xb≠D.sb)(j:ar m D.xb D.tX D.cs)(r:D.cs[0]?=some (aJ D.jb 0))
 (q:D.cs[a]?=some (aG D.nb 0 D.x.aq.length D.x.aq.length)) (p:D.cs[b]?=some (aG D.sb 0 D.x.aq.length D.x.aq.length)) (d:ar m D.nb bI (uR D.x.aq.length fun _=> [])) (c:ar m D.sb gh (gf D.x.aq.length fun _=>false)) (h:d7 m bI D.kb 0 fun _=>none):
 cC D a b (fun _=> []) (fun _=>false) m:=by
 refine⟨⟨i,g,o,n,fun e=> ?_,l,k,j,r,q,p,d,c⟩,my.new h,by rw[f];exact jL _ _,by rw[f];exact jL _ _⟩;rw[e] at d;unfold ar at d c;rw[d] at c;injection c with c;injection c with _ c;revert c
 decide
def KR{f:Lit->Option Value}(h:ar m a x t)(i:d7 m w b c f):a≠b:=fun e=>by obtain⟨D,⟨o,d,j,_⟩,_⟩:=i;unfold ar at h;rw[e,j] at h;injection h with h;cases h
def adh(b l:Nat)(x:aQ)(D:List (List Rw))(F:cF x)(hD:jD x D)(a6:x.aq.length<=6)(r6:x.aA.length<=6)(first:Int)(m:Option Nat)(B:Nat->Option aF)(w:au)(hB:gJ x (aX x D) b l w)(hM:dF x l w)(z:b≠l)(h1: -1<=first)(h2:first<(x.aq.length:Int))(K:∀W,a7 [l] w W->vL W (.map m) B):
 Calls prog 147 #[aJ b 0,av first,.map m] w fun e q=>∃p d n V H j g c i,e= .returned (aJ j 0)/\ji (yD B m x D p d n V q H j b g c i) 7 #[]/\cC (yD B m x D p d n V q H j b g c i) 13 14 (fun _=> []) (fun _=>false) q/\H[5]?=some (.bool false)/\H[6]?=some (.bool true)/\
  dp x.aq.length p d/\Whole x.aq.length (bJ x) (bV x) (eF x.aq.length p (gD x d) x.aq.length none)/\(∀f:Nat,first=f->p f=none)/\(w.heap.size<=j/\w.heap.size<=g/\w.heap.size<=c/\w.heap.size<=i)/\dF x l q/\a7 [l] w q:=by
 have HF:=af K;have S:=af hM;have CS:=af (fun W (G:Ext w W)=>amh b l x (aX x D) F first m false true 242 243 244 200 201 #[] W (hB.ext G) (hM.ext G) z h1 h2);have T:=af hB;go_enter func147,ntmps147;go_wp2_with fail
 refine(akX w).mono ?_;rintro e1 w1 ⟨rfl,s⟩;have U:=af (CS w1 s);have C:=af s;go_wp2_with fail
 refine U.mono ?_;rintro e2 E ⟨j,g,c,i,p0,p1,p2,p3,rfl,G,hP,Z,Y,M,⟨z1,z2,z3,z4⟩,⟨n1,n2,n3⟩,J,L⟩;have hsz:=C.size;have HC:ah (a7 [l] w E):=(ig C).trans L;obtain⟨k,hE,o,Q,P,O⟩:=ae7 S HC;obtain⟨a,d,n,q1,q2,q3,q4,cb,r,X,A6,c6,q5,q6,q7,q8,q9⟩:=hP;injection q5 with q5;injection q5 with q5;injection q5 with e0 q5;injection q5 with e1 q5;injection q5 with e2 q5;injection q5 with e3 _;subst e0 e1 e2 e3;have N:gJ x (aX x D) b l k:=T.keep (P b z) O;have R:=afs F hD N;have y:g≠i:=KR Z M;have u:c≠i:=KR Y M;have A:ji (yD B m x D (nN x a) d n k E [aJ b 0,aG cb 0 (x.aq.length+1) (x.aq.length+1),aG r 0 x.aq.length x.aq.length,aG X 0 x.aq.length x.aq.length,.slice A6 n.length c6,.bool false,.bool true,.func (.func 242) #[] #[],.func (.func 243) #[] #[],.func (.func 244) #[] #[],.func (.func 200) #[] #[],.func (.func 201) #[] #[],.map m,aG g 0 x.aq.length x.aq.length,aG c 0 x.aq.length x.aq.length,.map (some i)] j b g c i) 7 #[]:=
  afj asP F hD a6 r6 q3 q4 (fun v t h=>h) (fun _ _ _ _=>trivial) ⟨cb,r,X,A6,c6,rfl,rfl,rfl,rfl,q6,q7,q8,q9⟩ rfl rfl rfl rfl rfl rfl rfl (by rw[o];omega) n3 y u (fun _ _=>by rfl) (fun W hW v t _ _ ht=>by refine(aoc v ⟨t.toArray⟩ W).mono ?_;rintro e q ⟨rfl,rfl⟩;exact⟨_,rfl,by rw[ht],aC _⟩) (HF k (Q k (aC k)))
 have I:cC (yD B m x D (nN x a) d n k E _ j b g c i) 13 14 (fun _=> []) (fun _=>false) E:=ae' R hE rfl (show k.heap.size<=g by rw[o];omega) (show k.heap.size<=c by rw[o];omega) n1 n2 G rfl rfl rfl Z Y M;go_wp2_with fail;exact bodyPost_ret (v:=aJ j 0) (by simp [results,results147,go_sem]) rfl ⟨nN x a,d,n,k,_,j,g,c,i,rfl,A,I,rfl,rfl,q3,q4,fun f hf=>anb F q1 (q2 f hf),⟨by omega,by omega,by omega,by omega⟩,J,HC⟩
def j6(x:aQ)(D:List (List Rw))(fx:Nat->Option aF):Prop:=kD x.aq.length (bV x) (univ (aX x D)) (iF (bJ x) (bR (aX x D))) fx
noncomputable def eQ(x:aQ)(D:List (List Rw))(fx:Nat->Option aF)(a:Nat):List aF:=(univ (aX x D)).filter fun t=> @decide (j6 x D (fC fx a t)) (Classical.propDecidable _)
def Vo(x:aQ)(D:List (List Rw))(fx:Nat->Option aF)(a:Nat):(eQ x D fx a).Pairwise tP:=zT zU (Ko _)
section
variable{x:aQ}{D:List (List Rw)}{p:Nat->Option Nat}{d:Nat->Nat}{fx:Nat->Option aF}
theorem Lc(e:cF x):∀h∈bV x,∀a∈bJ x h,a<x.aq.length:=fun h f a i=>by have c:=km.1 f;have j:=(wD c fun b g=>(e.ri _ (aZ c) b g).1).1 i;have:=(e.ri _ (aZ c) _ j).2;omega
theorem acn(a:cF x)(r:dp x.aq.length p d)(hW:Whole x.aq.length (bJ x) (bV x) (eF x.aq.length p (gD x d) x.aq.length none)):
 (dV.prod (kids x.aq.length p none) fun c=>vT dV x (aX x D) p (gD x d) (fun v t=>dt fx v t) (fun _=>true) (univ (aX x D)) c fun _=> [])=true↔j6 x D fx:=by
 have e:=aa6 (R:=dV) (U:=univ (aX x D)) (g:=fun v t=>dt fx v t) (W:=dS dV (bJ x) (bR (aX x D)) fun _=>true) (homes:=gD x d) r (fun _=> []);have b:=aco (env:=fun _=> []) (fx:=fx) (U:=univ (aX x D)) (W:=iF (bJ x) (bR (aX x D))) Ur hW.wf hW.vd hW.vm hW.hm (Lc a);unfold j6;rw[<-b];show _↔(eF x.aq.length p (gD x d) x.aq.length none).val dV (univ (aX x D)) (fun v t=>dt fx v t) (dS dV (bJ x) (bR (aX x D)) fun _=>true) (fun _=> [])=true
 rw[e];rfl
theorem aqK{a:Nat}(f:Wk dV (fun _ _ _=>True) (fun _=>true) (fun v t=>dt fx v t) fx (univ (aX x D)) x (aX x D) p d (gD x d))(i:a<x.aq.length)(g:p a=none)(k:fx a=none)(hT:j6 x D fx):
 ((iE (bJ x) (bR (aX x D)) (bV x) fx (bK p a) (fun _=> []) a).filter fun t=>bT dV x (aX x D) p (gD x d) (fun v t=>dt fx v t) (fun _=>true) (univ (aX x D)) a t fun _=> [])=eQ x D fx a:=by
 refine VW (zT zU adc) (Vo x D fx a) fun t=> ?_;have s:=abv f.r f.whole a (iC.2 ⟨i,g⟩);have o:=OJ (homes:=gD x d) f.r i;have A:(fj x.aq.length p (gD x d) a).By (gD x d):=⟨rfl,AA _ _,trivial⟩;have e:=aqL (env:=fun _=> []) (fx:=fx) (U:=univ (aX x D)) (W:=iF (bJ x) (bR (aX x D))) Ur s o (fun v K=>by
  rcases(OU f.r i).1 K with rfl|h
  ·exact i
  ·exact h.1) (fun h u=>by
  obtain⟨w,_,J⟩:=(A.mem h).1 u;exact(fI.1 J).1) k t
 have l:(j4 x.aq.length p (gD x d) a).val dV (univ (aX x D)) (dt fx) (iF (bJ x) (bR (aX x D))) (put (fun _=> []) a t)=dV.prod (kids x.aq.length p (some a)) fun c=>vT dV x (aX x D) p (gD x d) (fun v t=>dt fx v t) (fun _=>true) (univ (aX x D)) c (put (fun _=> []) a t):=(by have h:j4 x.aq.length p (gD x d) a=eD (gD x d) (j4 x.aq.length p (gD x d)) (kids x.aq.length p (some a)):=uF f.r Om;rw[h,O_];rfl);rw[l] at e;have j:dt fx a t=true:=by unfold dt;rw[k]
 have B:bT dV x (aX x D) p (gD x d) (fun v t=>dt fx v t) (fun _=>true) (univ (aX x D)) a t (fun _=> [])=true↔(∀h∈gD x d a,iF (bJ x) (bR (aX x D)) h (put (fun _=> []) a t)=true)/\(dV.prod (kids x.aq.length p (some a)) fun c=>vT dV x (aX x D) p (gD x d) (fun v t=>dt fx v t) (fun _=>true) (univ (aX x D)) c (put (fun _=> []) a t))=true:=by
  unfold bT;show((dt fx a t&&dV.prod (gD x d a) fun h=>hW dV x (aX x D) (fun _=>true) h (put (fun _=> []) a t))&&_)=true↔_
  rw[cZ,cZ,Tr,j];simp only[true_and];rfl
 rw[fI,B];unfold eQ;rw[fI];simp only[decide_eq_true_eq];unfold j6 at hT⊢;constructor
 ·rintro⟨G,n,E⟩;have F:=f.Yz i G;exact⟨F,e.1 ⟨hT,F,n,E⟩⟩
 ·rintro⟨G,n⟩;obtain⟨_,_,E,L⟩:=e.2 n;refine⟨?_,E,L⟩;have q:bK p a a=false:=KL g;refine(Pj f.tb q (f.ne a i)).2 ⟨j,fun h u=> ?_⟩;obtain⟨H,N,M⟩:=n;have z:H a=t:=by have:=(N a i).2;rw[K_,beq_iff_eq] at this;exact this.symm
  obtain⟨y,I,O⟩:=Hr.1 (M h (AD.1 u).1);refine qG.2 ⟨y,I,?_⟩;rw[O];rw[Ux (QJ:=cV (bK p a) a) (Qu:=H) fun b _=>⟨rfl,fun C=> ?_⟩]
  ·exact aqh
  ·have m:b=a:=(by unfold cV at C;rw[KL g,xQ,beq_iff_eq] at C;exact C);unfold put;rw[if_pos m,m,z]
end
end Go.Proofs.YthfffpcmldipgaaGreatDoor
