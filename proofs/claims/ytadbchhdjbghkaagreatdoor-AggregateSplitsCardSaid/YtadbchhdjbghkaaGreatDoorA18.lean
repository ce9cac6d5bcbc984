/- Texts of the proof, part 18. -/
import Derived.Test.YtadbchhdjbghkaaGreatDoorA17
namespace Go.Proofs.YtadbchhdjbghkaaGreatDoor
set_option maxHeartbeats 8000000
set_option linter.all false
set_option maxRecDepth 100000
variable{aq:Prop}
open Go.RowKit Go.Lib Go.Maps Go.ChangeShapes Go.WideShapes Go.ChangeAt Go.Proofs.Tryz
variable{a b c d e f g h:Nat}{i j k l:List Nat}{m n o:World}{p q r s:Value}{t u v:List Value}{w x:TypeId}{y z:Nat→Option Nat}{A:Nat→List Nat}{B C:Int}{E F:Option Addr}{H I:Rat}{J:Nat→Nat}{K:Nat→Bool}{L:List Int}{N:Array Bool}{O:Option Nat}{Q:Act}{R S:Bool}{T:List UInt8}
def qp(x:aP)(T:List (List Rw))(v:Nat)(t:aD):Prop:=∃h∈bM x,v∈bh x h/\∃y∈bY T h,uD (bh x h) v y.1=t
def acI{x:aP}{T:List (List Rw)}{i:Nat->Option aD}{c:Nat->aD}{v:Nat}{t:aD}(h:t∈gZ (bh x) (bY T) (bM x) i K c v):qp x T v t:=by
 unfold gZ at h;have b:=yF.1 (fp.1 h).1;unfold wm at b;split at b
 ·cases b
 ·rename_i d l g;obtain⟨y,f,e⟩:=dU.1 b;have a:d∈f6 (bh x) (bM x) v:=by rw[g];exact lH
  unfold f6 at a;rw[fp,nN] at a;exact⟨d,a.1,a.2,y,(fp.1 f).1,e⟩
structure Pw(α:Type) where
 R:SR α
 V:World->Value->α->Prop
 G:Nat->Nat->α->Prop
 wt:Int->α
 wR:α->Bool
 fa:FuncId
 fm:FuncId
 fz:FuncId
 fw:FuncId
 fl:FuncId
 g:Nat->aD->α
 fx:Nat->Option aD
 fv:Value
 U:List aD
 x:aP
 T:List (List Rw)
 p:Nat->Option Nat
 d:Nat->Nat
 homes:Nat->List Nat
 key:Nat->List Nat
 ch:List (List Nat)
 ks:List (List Nat)
 hs:List (List Nat)
 wl:List Nat
 w0:World
 w1:World
 cs:List Value
 tX:TypeId
 xb:Nat
 jb:Nat
 nb:Nat
 sb:Nat
 kb:Nat
section
variable{α:Type}
abbrev Pw.dr(D:Pw α):Nat:=D.x.ai.length
abbrev Pw.vT(D:Pw α)(v:Nat)(e:Nat->aD):α:=Go.Proofs.YtadbchhdjbghkaaGreatDoor.vT D.R D.x D.T D.p D.homes D.g D.wt D.U v e
abbrev Pw.bT(D:Pw α)(v:Nat)(t:aD)(e:Nat->aD):α:=Go.Proofs.YtadbchhdjbghkaaGreatDoor.bT D.R D.x D.T D.p D.homes D.g D.wt D.U v t e
noncomputable abbrev Pw.rF(D:Pw α)(v:Nat)(e:Nat->aD):List aD:=gZ (bh D.x) (bY D.T) (bM D.x) D.fx (bE D.p v) e v
structure ce(D:Pw α)(oN oS:Nat)(cur:Nat->aD)(on:Nat->Bool)(w:au):Prop where
 st:en oN oS D.tX D.cs D.w0 w D.xb D.jb D.nb D.sb D.x D.T cur on
 mem:lx D.V D.dr D.key D.U D.vT w D.kb
 k1:Kept cI D.w1 w
 k2:Kept aS D.w1 w
structure iA(D:Pw α)(oA:Nat)(lc:Array Value):Prop where
 ring:Gg D.R D.V D.G D.wt D.wR D.fa D.fm D.fz D.fw
 wk:Wk D.R D.G D.wt D.g D.fx D.U D.x D.T D.p D.d D.homes
 pl:Pb D.w1 D.cs D.dr D.ch D.ks D.hs D.wl
 ch:∀v,v<D.dr->D.ch[v]? =some (kids D.dr D.p (some v))
 cr:D.ch[D.dr]? =some (kids D.dr D.p none)
 hs:∀v,v<D.dr->D.hs[v]? =some (D.homes v)
 ks:∀v,v<D.dr->D.ks[v]? =some (D.key v)
 ka:∀v,v<D.dr->∀a∈D.key v,bE D.p v a=true/\a<D.dr
 kl:∀v,v<D.dr->(D.key v).length<=5
 kv:∀v,v<D.dr->∀e e',(∀a∈D.key v,e' a=e a)->D.vT v e'=D.vT v e
 ca:D.cs[oA]? =some (.func (.func D.fa) #[] #[])
 cm:D.cs[oA+1]? =some (.func (.func D.fm) #[] #[])
 cz:D.cs[oA+2]? =some (.func (.func D.fz) #[] #[])
 cl:D.cs[oA+3]? =some (.func (.func D.fl) #[] lc)
 cw:D.cs[oA+4]? =some (.func (.func D.fw) #[] #[])
 cf:D.cs[oA+5]? =some D.fv
 ck:D.cs[oA+8]? =some (.map (some D.kb))
 kw:D.w0.heap.size<=D.kb
 kx:D.xb≠D.kb
 kn:D.nb≠D.kb
 Vd:D.sb≠D.kb
 il:∀args w,(callFunc D.fl args).run prog w= .ok (.enter D.fl args) w
 lift:∀w,Ext D.w0 w->∀v t,v<D.dr->qp D.x D.T v t->cL D.fx v t=true->Calls prog D.fl (#[av v,aL t]++lc) w fun e w'=>∃u,e= .returned u/\D.V w' u (D.g v t)/\Ext w w'
 Uo:tV D.w0 D.fv D.fx
 r6:D.x.ay.length<=6
 a12:D.dr<=12
 tl:∀l∈D.T,l.length<=60
 wb:∀h∈bM D.x,∀y∈bY D.T h,1<=y.2/\y.2<=1000000
 u0:∀t∈D.U,(0:UInt8)∉t/\t.length<=1000
 u1:1<=D.U.length
 um:D.dr*D.U.length^5<maxLen
def Gf(D:Pw α)(oN oS:Nat)(f:FuncId)(v:Nat):Prop:=∀(cur:Nat->aD) (w:au),ce D oN oS cur (bE D.p v) w->(∀a,bE D.p v a=true->cur a∈D.U)->
 Calls prog f #[aI D.xb 0,av v] w fun e w'=>∃u cur',e= .returned u/\D.V w' u (D.vT v cur)/\ce D oN oS cur' (bE D.p v) w'/\(∀a,bE D.p v a=true->cur' a=cur a)/\a8 [D.nb,D.sb,D.kb] w w'
def KU(D:Pw α)(oN oS:Nat)(f:FuncId)(v:Nat):Prop:=∀(t:aD) (cur:Nat->aD) (w:au),ce D oN oS cur (bE D.p v) w->(∀a,bE D.p v a=true->cur a∈D.U)->t∈D.rF v cur->
 Calls prog f #[aI D.xb 0,av v,aL t] w fun e w'=>∃u cur',e= .returned u/\D.V w' u (D.bT v t cur)/\ce D oN oS cur' (bE D.p v) w'/\(∀a,bE D.p v a=true->cur' a=cur a)/\a8 [D.nb,D.sb,D.kb] w w'
variable{D:Pw α}{oN oS oA v:Nat}{lc:Array Value}{cur cur':Nat->aD}{on Jf:Nat->Bool}{w w':au}
theorem dH.same{f:Lit->Option Value}(h:dH w x a b f)(e:w'.heap[a]? =w.heap[a]?):dH w' x a b f:=by obtain⟨D,⟨i,c,d,F⟩,g⟩:=h;exact⟨D,⟨i,c,e.trans d,F⟩,g⟩
theorem lx.same{V:World->Value->α->Prop}{U:List aD}{val:Nat->(Nat->aD)->α}(h:lx V a A U val w b)(e:w'.heap[b]? =w.heap[b]?)(j:∀{u c},V w u c->V w' u c):lx V a A U val w' b:=by obtain⟨m,f,g,i⟩:=h;refine⟨m,f,g.same e,fun l u d=> ?_⟩;obtain⟨v,e,q,p,o,k⟩:=i l u d;exact⟨v,e,q,p,o,j k⟩
theorem lx.lt{V:World->Value->α->Prop}{n:Nat}{U:List aD}{val:Nat->(Nat->aD)->α}(h:lx V n A U val w a):a<w.heap.size:=by obtain⟨_,_,b,_⟩:=h;exact b.lt
theorem lx.ap4{V:World->Value->α->Prop}{U:List aD}{val:Nat->(Nat->aD)->α}(h:lx V a A U val w b){cur:Array Value}{f:Nat×Nat}(c:w.heap[b]? =some (.cells cur x f)):False:=by obtain⟨_,_,⟨D,⟨g,d,e,_⟩,_⟩,_⟩:=h;rw[e] at c;injection c with c;cases c
theorem ce.drew(h:ce D oN oS cur on w)(a:iA D oA lc):ce D oN oS cur on w.drew:=⟨h.st.drew,h.mem.same rfl fun b=>a.ring.vk b (kj _ _).drew,h.k1.drew,h.k2.drew⟩
theorem ce.fB(h:ce D oN oS cur on w)(a:iA D oA lc)(k:Ext w w'):ce D oN oS cur on w':=⟨h.st.ext k,h.mem.same (k.block _ h.mem.lt) fun b=>a.ring.vk b (.je k),h.k1.trans (.je k),h.k2.trans (.je k)⟩
theorem ce.past(h:ce D oN oS cur on w)(d:iA D oA lc)(k:Only a w w')(c:ar w a x t)(b:x≠qm/\x≠cI/\x≠aS)(f:D.w0.heap.size<=a)(n:a≠D.xb)(m:a≠D.nb)(j:a≠D.sb)(i:a≠D.kb):ce D oN oS cur on w':=
 ⟨h.st.past k f n m j,h.mem.same (k.block _ h.mem.lt (by simpa using fP i)) fun e=>d.ring.vk e (k.kept c b.1),h.k1.trans (k.kept c b.2.1),h.k2.trans (k.kept c b.2.2)⟩
theorem ce.ap7(h:ce D oN oS cur on w)(k:Only D.nb w w'):Kept qm w w':=k.kept h.st.nc Od
theorem ce.Tr(h:ce D oN oS cur on w)(k:Only D.sb w w'):Kept qm w w':=k.kept h.st.sc Od
theorem ce.Np(h:ce D oN oS cur on w)(d:iA D oA lc){v:Nat}(c:v<D.dr)(t:aD):∃b,w.setCell (aC D.nb v) (aL t)=b/\ah (ce D oN oS (put cur v t) on b)/\ah (Only D.nb w b):=by obtain⟨b,e,f,a⟩:=h.st.Np c t;exact⟨b,e,⟨f,h.mem.same (a.block _ h.mem.lt (by simpa using d.kn.symm)) fun c=>d.ring.vk c (h.ap7 a),h.k1.trans (uh a h.st.nc Od),h.k2.trans (uh a h.st.nc Od)⟩,a⟩
theorem ce.Ck(h:ce D oN oS cur on w)(g:iA D oA lc){v:Nat}(f:v<D.dr)(b:Bool):∃d,w.setCell (aC D.sb v) (.bool b)=d/\ah (ce D oN oS cur (fun a=>if a=v then b else on a) d)/\ah (Only D.sb w d):=by obtain⟨d,e,i,c⟩:=h.st.Ck f b;exact⟨d,e,⟨i,h.mem.same (c.block _ h.mem.lt (by simpa using g.Vd.symm)) fun f=>g.ring.vk f (h.Tr c),h.k1.trans (uh c h.st.sc Od),h.k2.trans (uh c h.st.sc Od)⟩,c⟩
theorem ce.y4(h:ce D oN oS cur on w)(k:a8 [D.nb,D.sb,D.kb] w w')(f:bJ≠x)(e:fH≠x):Kept x w w':=fun g j i a=>by
 refine(k.block g (gS a) fun d=> ?_).trans a;simp only[aJ,bL,or_false] at d;have c:=h.st.nc;have b:=h.st.sc;unfold ar at c b;rcases d with rfl|rfl|rfl
 ·rw[c] at a;injection a with a;injection a with _ a;exact f a
 ·rw[b] at a;injection a with a;injection a with _ a;exact e a
 ·exact h.mem.ap4 a
theorem ce.Nc(h:ce D oN oS cur on w)(k:a8 [D.nb,D.sb,D.kb] w w'):Kept qm w w':=h.y4 k Od Od
theorem ce.vC(h:ce D oN oS cur on w)(b:iA D oA lc)(k:a8 [D.nb,D.sb,D.kb] w w'){a:α}(c:D.V w p a):D.V w' p a:=b.ring.vk c (h.Nc k)
theorem ce.rF(h:ce D oN oS cur on w)(b:iA D oA lc)(e:en oN oS D.tX D.cs D.w0 w' D.xb D.jb D.nb D.sb D.x D.T cur' Jf)(k:a8 [D.nb,D.sb] w w'):ce D oN oS cur' Jf w':=by
 have c:a8 [D.nb,D.sb,D.kb] w w':=k.mono fun i f _=>by simp only[aJ,bL,or_false] at f⊢;omega
 refine⟨e,h.mem.same (k.block _ h.mem.lt ?_) fun d=>h.vC b c d,h.k1.trans (h.y4 c Od Od),h.k2.trans (h.y4 c Od Od)⟩;simp only[aJ,bL,or_false];exact fun a=>by
  rcases a with a|a
  ·exact b.kn a.symm
  ·exact b.Vd a.symm
theorem ce.read(h:ce D oN oS cur on w)(r:iA D oA lc)(k:Below a w w')(o:OthersKept t8 (some b) w w')(m:ar w b tB [p,q])(E:D.w0.heap.size<=a)(C:D.xb<a)(A:D.nb<a)(z:D.sb<a)(y:D.kb<a):ce D oN oS cur on w'/\Kept qm w w':=by
 have f:∀t,t≠tB->t≠t8->Kept t w w':=fun t u s g H G d=>by
  refine o g _ d (fun e=> ?_) (fun c F e=> ?_)
  ·injection e with e;subst e;unfold ar at m;rw[m] at d;injection d with d;injection d with _ d;exact u d.symm
  ·injection e with _ e;exact s e
 have n:=f qm Od Od;have j:=h.st.ex;refine⟨⟨⟨h.st.kU,⟨k.os.trans j.os,k.tape.trans j.tape,k.output.trans j.output,a7 j.size k.size,fun i l=>(k.block i (cF l E)).trans (j.block i l)⟩,h.st.nl,h.st.sl,h.st.ne,h.st.xn,h.st.xs,(k.block _ C).trans h.st.sx,h.st.c0,h.st.cN,h.st.cS,(k.block _ A).trans h.st.nc,(k.block _ z).trans h.st.sc⟩,h.mem.same (k.block _ y) fun x=>r.ring.vk x n,h.k1.trans (f _ Od Od),h.k2.trans (f _ Od Od)⟩,n⟩
theorem abM{on:Nat->Bool}{v:Nat}(h:cQ on v a=true)(b:a≠v):on a=true:=by unfold cQ at h;rw[kE,beq_iff_eq] at h;exact h.resolve_left b
theorem iA.adM(g:iA D oA lc)(o:v<D.dr){t:aD}{e i:Nat->aD}(h:∀a,bE D.p v a=true->i a=e a):D.bT v t i=D.bT v t e:=by
 have k:∀a,cQ (bE D.p v) v a=true->put i v t a=put e v t a:=fun a f=>by
  unfold put;by_cases b:a=v
  ·rw[if_pos b,if_pos b]
  ·rw[if_neg b,if_neg b];exact h a (abM f b)
 obtain⟨S,m,l⟩:=g.wk.CJ (D.d v) v o (aK _);unfold Pw.bT Go.Proofs.YtadbchhdjbghkaaGreatDoor.bT;congr 1
 ·congr 1
  refine yo fun q r=>EC q _ _ fun a f=>k a ?_;unfold cQ;rw[kE,beq_iff_eq,<-l a];exact(m.1 q r).2 a f
 ·refine yo fun c s=> ?_;obtain⟨j,n⟩:=gU.1 s;refine g.kv c j _ _ fun a f=>k a ?_;rw[vW n];exact(g.ka c j a f).1
theorem iA.self(a:iA D oA lc)(b:v<D.dr):bE D.p v v=false:=by
 cases h:bE D.p v v with
 |false=>rfl
 |true=>have:=(qZ.1 h).lQ a.wk.r v rfl b;omega
theorem acl:∀{l:List aD},(∀t∈l,t.length<=1000)->(jW l).length<=1001*l.length
 | [],_=>aV _
 |t::l,h=>by have b:=acl (l:=l) fun s a=>h s avS;have c:=h t Ou;unfold jW at b⊢;rw[vB,bC,bC,iE,cP];omega
theorem ak8(l:List aD)(t:aD):jW (l++ [t])=jW l++(t++ [0]):=by unfold jW;rw[D7,vB,Y5,i7]
theorem alR{on:Nat->Bool}{v:Nat}{cur:Nat->aD}{t:aD}{P:aD->Prop}(c:P t)(h:∀a,on a=true->P (cur a))(a:Nat)(d:cQ on v a=true):P (put cur v t a):=by
 unfold put;by_cases b:a=v
 ·rw[if_pos b];exact c
 ·rw[if_neg b];exact h a (abM d b)
theorem a8.below(h:a8 i m n)(k:Below m.heap.size n o):a8 i m o:=⟨k.os.trans h.os,k.tape.trans h.tape,k.output.trans h.output,a7 h.size k.size,fun d e f=>(k.block d e).trans (h.block d e f)⟩
theorem ce.aez(h:ce D oN oS cur on w)(ok:iA D oA lc)(i:v<D.dr){z:TypeId}(l:prog.underlying x=some (.map bJ z)){e:Nat->aD}(r:∀a∈D.key v,(0:UInt8)∉e a/\e a∈D.U){g:aD}(n:mv v (D.key v) e=g)(q:g.length<=100000)(j:D.V w p (D.vT v e)):
 ∃w',(Instr.mapUpdate x (.map (some D.kb)) (aL g) p).run prog w= .ok () w'/\ah (ce D oN oS cur on w')/\ah (D.V w' p (D.vT v e))/\ah (Only D.kb w w'):=by
 subst n;have b:∀{w'} (x:TypeId),Only D.kb w w'->Kept x w w':=fun x c=>by obtain⟨m,f,o,_⟩:=h.mem;exact Rp o c x
 have k:∀{w'},Only D.kb w w'->Kept qm w w':=fun c=>b _ c;obtain⟨w',y,s,d⟩:=h.mem.put l ok.kl ok.u1 ok.um (fun i c=>ok.ring.vk i (k c)) i r q j;exact⟨w',y,⟨h.st.past d ok.kw ok.kx.symm ok.kn.symm ok.Vd.symm,s,h.k1.trans (b _ d),h.k2.trans (b _ d)⟩,ok.ring.vk j (k d),d⟩
theorem ce.look(h:ce D oN oS cur on w)(ok:iA D oA lc)(c:v<D.dr){d:TypeId}(j:prog.underlying x=some (.map bJ d))(g:(zeroValue d).run prog w= .ok p w){e:Nat->aD}(q:∀a∈D.key v,(0:UInt8)∉e a/\e a∈D.U){b:aD}(k:mv v (D.key v) e=b)(n:b.length<=100000):
 ∃r:Option Value,(Instr.lookup x (.map (some D.kb)) (aL b) true).run prog w= .ok (.tuple #[r.getD p,.bool r.isSome]) w/\∀u,r=some u->D.V w u (D.vT v e):=by
 subst k;obtain⟨m,f,l,o⟩:=h.mem;have y:=ok.a12;exact⟨_,l.look Mf j g (SC _ n),fun u i=>lx.hit o (show D.dr<=256 by omega) (ok.kv v c) c (fun a s=>(q a s).1) i⟩
theorem ce.lookW(h:ce D oN oS cur on w)(ok:iA D oA lc)(c:v<D.dr){d:TypeId}(j:prog.underlying x=some (.map bJ d))(g:∀w,(zeroValue d).run prog w= .ok p w){e:Nat->aD}(q:∀a∈D.key v,(0:UInt8)∉e a/\e a∈D.U){b:aD}(k:mv v (D.key v) e=b)(n:b.length<=100000):
 ∃r:Option Value,(∀W:World,W.heap[D.kb]? =w.heap[D.kb]?->(Instr.lookup x (.map (some D.kb)) (aL b) true).run prog W= .ok (.tuple #[r.getD p,.bool r.isSome]) W)/\∀u,r=some u->D.V w u (D.vT v e):=by
 subst k;obtain⟨m,f,l,o⟩:=h.mem;have y:=ok.a12;exact⟨_,fun W hW=>(l.same hW).look Mf j (g W) (SC _ n),fun u i=>lx.hit o (show D.dr<=256 by omega) (ok.kv v c) c (fun a s=>(q a s).1) i⟩
end
def dK.cy(h:dK m a H)(k:a8 i m n)(j:a∉i)(f:Kept qm m n):dK n a H:=by obtain⟨b,A,d,c,r,s,e,p,o,l⟩:=h;exact⟨b,A,d,c,r,s,e,p,o.cy k j,l.keep f⟩
def dK.drew(h:dK m a H):dK m.drew a H:=h.ext (aB m).drew
def sW{h:Go.Func}{u0 u1 u2 u3:Value}{R:Ending->World->Prop}(c:h.results= #[.cell a dp])(i:Q.tmps.getD a undef=aI b 0)(j:Q.defers= [])
 (f:ar m b dp [u0,u1,u2,u3]) (l:bX m (.agg #[p,q,r,s]) H) (k:∀v e,bX e v H->Only b m e->R (.returned v) e):
 bodyPost prog h R .ret Q ((((m.setCell (aC b 0) p).setCell (aC b 1) q).setCell (aC b 2) r).setCell (aC b 3) s):=by
 have d:ar ((((m.setCell (aC b 0) p).setCell (aC b 1) q).setCell (aC b 2) r).setCell (aC b 3) s) b dp [p,q,r,s]:=(((f.bu 0 p).bu 1 q).bu 2 r).bu 3 s;exact bodyPost_ret (results_cell_row c Q.tmps _ b dp #[p,q,r,s] (0,0) _ i d underlying91 rfl Ok) j (k _ _ (l.keep (f.E6 Od 0 1 2 3 p q r s)) ((((ig b m).bu 0 _).bu 1 _).bu 2 _|>.bu 3 _))
abbrev yX:List Value:= [.bool false,.slice none 0 0,.bool false,.slice none 0 0]
def arw.k75(h:aq:=by
 have BZa:=af (pR.ext fV);have bB:ah (ar w8 D.xb D.tX D.cs/\ar w8 bq eM [.slice Bk yv.length dk,.int .i64 yw]/\ar w8 d dp [.bool o0,.slice O0 o1 o2,.bool p0,.slice P0 p1 p2]):=⟨zI.st.sx,aH.2.1.ext fV,aH.2.2.ext fV⟩;have CM:ah (Calls prog D.fm #[.agg #[.bool o0,.slice O0 o1 o2,.bool p0,.slice P0 p1 p2],u8] w8 fun e w'=>∃u,e= .returned u/\bX w' u (D.R.mul a0 (D.wt yw))/\Ext w8 w'):=(by rw[<-hF];exact aN.ring.mul w8 _ u8 a0 (D.wt yw) (1+k) 1 1 1 (by rw[hF];exact VO.ext fV) ox xK (aN.ring.gw yw Dt.1 Dt.2) Om Od Od)
 refine hK.ae _ _ (fun _=>bB.ae) ?_;clear hK CW aH eE iY pR ox fV BO VO;refine aO 13 ?_;intro K hK;go_simp;refine CM.mono ?_;rintro e9 w9 ⟨u9,rfl,B,m⟩;obtain⟨r0,R0,r1,r2,s0,S0,s1,s2,rfl,_,_⟩:=B.parts;have Z:=af (zI.fB aN m);have Px:=af (XV.ext m);have BZb:=af (BZa.ext m);have I:=af (bB.2.2.ext m);have aH:ah (ar w9 D.xb D.tX D.cs/\ar w9 bq eM [.slice Bk yv.length dk,.int .i64 yw]/\ar w9 d dp [.bool o0,.slice O0 o1 o2,.bool p0,.slice P0 p1 p2]):=⟨Z.st.sx,bB.2.1.ext m,I⟩;refine hK.ae _ _ (fun _=>aH.ae) ?_;obtain⟨k0,k1,k2,k3⟩:=I.four;obtain⟨f0,f1,f2,f3⟩:=I.eX;obtain⟨W',N,vp,_,_,jP⟩:=dK.put I B Z.st.ex Om;have HW:=af N;have uW:=af (Z.past aN jP I Od Om Om Om Om Om);have DY:=af (Px.only jP (.inr Om));have xW:=af (BZb.only jP Om);clear hK CM bB zI XV BZa B m aH bO N I Z Px BZb;refine aO 14 ?_;intro K hK;go_simp;refine hK.ae _ _ Oe ?_;refine b_ Ok ?_;rw[HW.ae];clear k0 k1 k2 k3 f0 f1 f2 f3 hK HW jP;have bO:=F;go_wp2_with fail
 go_roundw;exact⟨j+1,by omega,by go_num,by rw[Q.ae,if_pos rfl,Uv.ae];exact vp,xW,uW,DY⟩;simp [RowKit.intOf];omega):=h
def q99.k46(h:aq:=by
 have Gr:=af (HU.ext dG);have PH:=af (o.ext dG);have hZ:d<wr.heap.size:=HU.lt;have tN:=af (fu rY gK.st.ex);have mG:=BY.lt;obtain⟨y0,y1⟩:=BY.two;have CA:=af (Su D.xb D.jb D.nb D.sb r D.x (put cur v t) (cQ (bE D.p v) v) rl Bk dk yv yw W6 gK.st.tJ.st pP Gu WY tN);rw[<-Kq.ae] at CA;clear HX HC HU o et gz dG;generalize wr.heap.size=bq at*;go_wp2_with fail
 refine CA.mono ?_;rintro e7 w7 ⟨rfl,C⟩;have E:=af (gK.fB aN C);have G:=af (KN.ext C);have zL:=af (Gr.ext C);have H:=af (PH.ext C);have D2:=af (BY.ext C);clear CA y0 y1 gK KN Gr PH BY C tN;cases M:q (yv,yw) with
 |false=>
  have Q:ah ((rows.take (j+1)).any q=(rows.take j).any q):=by rw[ah,xQ.ae,M,vI]
  clear M xQ jP Kq;go_wp2_with fail;go_roundw;exact⟨j+1,by omega,by go_num,by rw[Q.ae];exact zL,H,E,G⟩;simp [RowKit.intOf];omega
 |true=>
  obtain⟨he,ags⟩:=jP M;have Q:ah ((rows.take (j+1)).any q=true):=by rw[ah,xQ.ae,M,QA]
  have Uv:ah (wh r=D.wt yw):=by rw[ah,WK.ae,<-he]
  have xz:ah (dK w7.drew d a0):=(by have h:=zL.ae;rw[ags,if_neg Od] at h;exact h.drew);obtain⟨o0,O0,o1,o2,p0,P0,p1,p2,BO,VO⟩:=xz.parts;have eE:=af (E.drew aN);have iY:=af G.drew;have pR:=af H.drew;have aH:ah (ar w7.drew D.xb D.tX D.cs/\ar w7.drew bq eM [.slice Bk yv.length dk,.int .i64 yw]/\ar w7.drew d dp [.bool o0,.slice O0 o1 o2,.bool p0,.slice P0 p1 p2]):=⟨eE.st.sx,D2.drew,BO⟩;have F:=bO;clear he ags M xQ jP Kq zL E G D2 H bO xz;have bO:ah (∀w',(ar w' D.xb D.tX D.cs/\ar w' bq eM [.slice Bk yv.length dk,.int .i64 yw]/\ar w' d dp [.bool o0,.slice O0 o1 o2,.bool p0,.slice P0 p1 p2])->aA w' D.xb 14 (.func (.func D.fm) #[] #[])/\aA w' D.xb 17 (.func (.func D.fw) #[] #[])/\aA w' bq 1 (.int .i64 yw)/\F4 w' d (.bool o0) (.slice O0 o1 o2) (.bool p0) (.slice P0 p1 p2)):=fun w' h=>⟨(F w' h.1).1,(F w' h.1).2.1,h.2.1.aF 1,h.2.2.four⟩;unfold F4 at bO;go_upto_region 10 with fail
  refine cD (S:=fun w'=>ar w' D.xb D.tX D.cs/\ar w' bq eM [.slice Bk yv.length dk,.int .i64 yw]/\ar w' d dp [.bool o0,.slice O0 o1 o2,.bool p0,.slice P0 p1 p2]) (T:=fun j=>decide (14<=j)) Ok ?_;open arw in exact m75):=h
def q98.k22(h:aq:=by
 have rX:ah (dK w4 d (if (rows.take 0).any q=true then D.R.mul a0 (wh r) else a0)):=(by rw[ah,kF,Qw,if_neg Od];exact HU);go_loopw [11,58] (fun _ v58 X=>∃j:Nat,j<=rows.length/\v58= .int .i64 j/\ah (dK X d (if (rows.take j).any q=true then D.R.mul a0 (wh r) else a0))/\ah (ar X w.heap.size dp yX)/\ah (ce D 19 20 (put cur v t) (cQ (bE D.p v) v) X)/\ah (a8 [D.nb,D.sb,D.kb] w X)) (fun _ v58 _=>rows.length - (RowKit.intOf v58).toNat);exact⟨0,aV _,rfl,rX,o,HX,HC⟩;clear rX HU HX HC o;obtain⟨j,hj,rfl,HU,o,HX,HC⟩:=hrel;by_cases dI:j<rows.length
 ·open q99 in exact m46
 ·obtain rfl:j=rows.length:=Om;have WQ:ah (dK wr d (D.R.mul a0 (wh r))):=(by have h:=HU.ae;rw[fj,adp HF.ae,if_pos rfl] at h;exact h)
  have d1:decide ((rows.length:Int)<(rows.length:Int))=false:=aY;clear HU Pj J7 HF WK HQ Gz;go_wp2_with fail;go_roundw;exact⟨k+1,by omega,by go_num,by rw[gh.ae];exact WQ,o,HX,HC⟩;simp [RowKit.intOf];omega):=h
def aru.afx(h:aq:=by
 have E:ah (ce D 19 20 OZ (cQ (bE D.p v) v) w8):=by rw[ah,<-xy.ae];exact fV
 have Yb:ah (∀a,cQ (bE D.p v) v a=true->OZ a=put cur v t a):=fun a ha=>(OQ a (by rw[xy.ae];exact ha)).trans (HA a ha);have hk8:=Fj.Nc uQ;have G:=af (qJ.trans uQ);have Yu:=af (tY.cy uQ avL);have H:=af (pS.cy uQ avL);have bB:ah (ar w8 D.xb D.tX D.cs/\ar w8 d dp [.bool o0,.slice O0 o1 o2,.bool p0,.slice P0 p1 p2]):=⟨fV.st.sx,Yu⟩;have CM:ah (Calls prog D.fm #[.agg #[.bool o0,.slice O0 o1 o2,.bool p0,.slice P0 p1 p2],u8] w8 fun e w'=>∃u,e= .returned u/\bX w' u (D.R.mul acc (D.vT c cu))/\Ext w8 w'):=(by rw[<-hF];exact aN.ring.mul w8 _ u8 acc (D.vT c cu) s1 s2 j1 j2 (by rw[hF];exact O_.keep hk8) ox tP (by rw[zK.ae];exact se) m1 m2 m3)
 refine hK.ae _ _ (fun _=>bB.ae) ?_;clear hK CV aH Fj qJ tY O_ pS ox fV OQ uQ HA hk8 bB;refine aO 9 ?_;intro K hK;go_simp;refine CM.mono ?_;rintro e9 w9 ⟨u9,rfl,B,m⟩;obtain⟨r0,R0,r1,r2,s0,S0,s1,s2,rfl,_,_⟩:=B.parts;have eE:=af (E.fB aN m);have iY:=af (G.ext m);have J:=af (Yu.ext m);have pR:=af (H.ext m);have aH:ah (ar w9 D.xb D.tX D.cs/\ar w9 d dp [.bool o0,.slice O0 o1 o2,.bool p0,.slice P0 p1 p2]):=⟨eE.st.sx,J⟩;refine hK.ae _ _ (fun _=>aH.ae) ?_;obtain⟨k0,k1,k2,k3⟩:=J.four;obtain⟨f0,f1,f2,f3⟩:=J.eX;obtain⟨W',N,vp,_,_,jP⟩:=dK.put J B eE.st.ex Om;have HW:=af N;have uW:=af (eE.past aN jP J Od Om Om Om Om Om);have DY:=af (iY.only jP (.inr Om));have xW:=af (pR.only jP Om);clear hK CM E G Yu H B m aH bO N J eE iY pR;refine aO 10 ?_;intro K hK;go_simp;refine hK.ae _ _ Oe ?_;refine b_ Ok ?_;rw[HW.ae];clear k0 k1 k2 k3 f0 f1 f2 f3 hK HW jP;have bO:=F;go_wp2_with fail
 go_roundw;exact⟨k+1,_,by omega,by go_num,xW,by rw[gh.ae,<-zK.ae];exact vp,uW,Yb,DY⟩;simp [RowKit.intOf];omega):=h
def arv.k70(h:aq:=by
 have J4:=af (fun h=>aN.ring.z0 (D.R.mul b0 (D.R.prod (kl.take k) fun c=>D.vT c (put cur v t))) h);have GI:ah (∀a,bE D.p kl[k] a=true->cu a∈D.U):=fun a ha=>by rw[<-vW iB] at ha;rw[HA.ae a ha];exact agl a ha
 have Pe:ah (ce D 19 20 cu (bE D.p kl[k]) wr):=by rw[ah,<-vW iB];exact HX
 have zK:ah (D.vT kl[k] cu=D.vT kl[k] (put cur v t)):=aN.kv _ kT _ _ fun a ha=>by have h1:=(aN.ka _ kT a ha).1;rw[<-vW iB] at h1;exact HA a h1
 have xy:ah (bE D.p kl[k]=cQ (bE D.p v) v):=(vW iB).symm;have asf:kl[k]<D.dr:=kT;clear jv m4 m5 hM iB kT;generalize D.R.mul b0 (D.R.prod (kl.take k) fun c=>D.vT c (put cur v t))=acc at*;generalize kl[k]=c at*;go_upto_region 16 with fail
 obtain⟨o0,O0,o1,o2,p0,P0,p1,p2,BO,VO⟩:=HU.drew.parts;have n:=af (HX.drew aN);have agD:=af (Pe.drew aN);have oQ:=af HC.drew;have GU:=af o.drew;have CZ:=af (aN.ring.NS wr.drew (.agg #[.bool o0,.slice O0 o1 o2,.bool p0,.slice P0 p1 p2]) _ sz jz (by rw[hF];exact VO) z3 z1 z2);have aH:ah (ar wr.drew D.xb D.tX D.cs/\ar wr.drew d dp [.bool o0,.slice O0 o1 o2,.bool p0,.slice P0 p1 p2]):=⟨n.st.sx,BO⟩;have F:=bO;clear HX Pe HC HU bO e3 o z3;have bO:ah (∀w',(ar w' D.xb D.tX D.cs/\ar w' d dp [.bool o0,.slice O0 o1 o2,.bool p0,.slice P0 p1 p2])->aA w' D.xb 14 (.func (.func D.fm) #[] #[])/\aA w' D.xb 15 (.func (.func D.fz) #[] #[])/\F4 w' d (.bool o0) (.slice O0 o1 o2) (.bool p0) (.slice P0 p1 p2)):=fun w' h=>⟨(F w' h.1).1,h.1.cell aN.cz,h.2.four⟩;unfold F4 at bO;refine cD (S:=fun w'=>ar w' D.xb D.tX D.cs/\ar w' d dp [.bool o0,.slice O0 o1 o2,.bool p0,.slice P0 p1 p2]) (T:=fun _=>false) Ok ?_;generalize wr.drew=wd at*;refine ax 0 95 ?_;refine ax 1 96 ?_;refine ax 2 97 ?_;refine ax 3 98 ?_;refine ax 4 99 ?_;refine ax 5 100 ?_;refine aO 6 ?_;intro K hK;go_simp;refine CZ.mono ?_;rintro e5 w5 ⟨rfl,A⟩;have dX:=af (n.fB aN A);have O:=af (agD.fB aN A);have oP:=af (oQ.ext A);have W:=af (BO.ext A);have Y:=af (VO.ext A);have vt:=af (GU.ext A);have bB:ah (ar w5 D.xb D.tX D.cs/\ar w5 d dp [.bool o0,.slice O0 o1 o2,.bool p0,.slice P0 p1 p2]):=⟨dX.st.sx,W⟩;refine hK.ae _ _ (fun _=>bB.ae) ?_;clear hK CZ n agD oQ BO VO GU A aH bB;refine b_ Ok ?_;cases hz:D.wR acc with
 |true=>have uX:ah (dK w5 d (D.bT v t cur)):=(by have h1:=J4 hz;rw[ah,GL.ae,HST.ae h1,<-h1];exact dK.of W Y);have j7:=dX;have tS:=oP;have Yj:=vt;clear dX O oP hz J4 HST gh Gn tP se zK xy GI W Y vt;generalize w5=wf at*;exact m29
 |false=>
  clear hz J4 HST dX;go_upto_region 17 with fail
  have Fj:=af (O.drew aN);have qJ:=af oP.drew;have tY:=af W.drew;have O_:=af (Y.ext (aB w5).drew);have pS:=af vt.drew;have aH:ah (ar w5.drew D.xb D.tX D.cs/\ar w5.drew d dp [.bool o0,.slice O0 o1 o2,.bool p0,.slice P0 p1 p2]):=⟨Fj.st.sx,tY⟩;clear O oP W Y vt;refine cD (S:=fun w'=>ar w' D.xb D.tX D.cs/\ar w' d dp [.bool o0,.slice O0 o1 o2,.bool p0,.slice P0 p1 p2]) (T:=fun j=>decide (10<=j)) Ok ?_;open aru in exact ae4):=h
def q97.afu(h:aq:=by
 clear hK aH Du kT hfn;have aH:=bB;clear bB;refine ax 13 26 ?_;refine aO 14 ?_;intro K hK;go_simp;rw[qE.ae];refine hK.ae _ _ Oe ?_;refine b_ Ok ?_;clear hK aH qE hcs uN bQ gM dY jA;go_wp2_with fail
 refine CL.mono ?_;rintro e3 w3 ⟨u3,rfl,wS,L⟩;obtain⟨a0,A0,a1,a2,b0,B0,b1,b2,rfl,_,_⟩:=wS.parts;clear CL;go_upto_region 3 with fail
 refine EX wS fun w4 n mg I3=> ?_;have Oo:w.heap.size<w3.heap.size:=cF nL.lt L.size;have cH:=af (aZ.fB aN (L.trans n));have jy:=af (gD.ext (L.trans n));have KV:=af (nL.ext (L.trans n));have tM:ah (dK w4 w3.heap.size (D.R.mul (D.g v t) (D.R.prod ((D.homes v).take 0) fun h=>hW D.R D.x D.T D.wt h (put cur v t)))):=by rw[ah,kF];rw[show D.R.prod ([]:List Nat) (fun h=>hW D.R D.x D.T D.wt h (put cur v t))=D.R.one from rfl,SR.zh];exact mg
 have c3:=cH.st.sx.cell k3;have Wx:=hhc _ cH.k1;clear c10 L wS aZ gD n mg I3 nL cG o;generalize w3.heap.size=d at*;go_upto_region 4 with fail
 clear c3 Wx;obtain⟨wh,kQ⟩:∃wh:Nat->Rat,wh=fun h=>hW D.R D.x D.T D.wt h (put cur v t):=⟨_,rfl⟩;have UD:ah (∀h∈D.homes v,h<D.x.ay.length/\∃y,y∈bY D.T h/\(bY D.T h).filter (fun y=>dV (cQ (bE D.p v) v) (put cur v t) (bh D.x h) y.1)= [y]/\wh h=D.wt y.2):=by rw[kQ];exact XD
 rw[<-kQ] at GL HG tM zV;clear XD kQ;generalize D.homes v=hl at*;go_loopw [9,11,43] (fun _ _ v43 wr=>∃k:Nat,k<=hl.length/\v43= .int .i64 k/\ah (dK wr d (D.R.mul (D.g v t) (D.R.prod (hl.take k) wh)))/\ah (ar wr w.heap.size dp yX)/\ah (ce D 19 20 (put cur v t) (cQ (bE D.p v) v) wr)/\ah (a8 [D.nb,D.sb,D.kb] w wr)) (fun _ _ v43 _=>hl.length - (RowKit.intOf v43).toNat);exact⟨0,aV _,rfl,tM,KV,cH,jy⟩;clear tM cH jy KV;obtain⟨k,hk,rfl,HU,o,HX,HC⟩:=hrel;by_cases dR:k<hl.length
 ·open q98 in exact m22
 ·obtain rfl:k=hl.length:=Om;have d1:decide ((hl.length:Int)<(hl.length:Int))=false:=aY;have qF:ah (dK wr d (D.R.mul (D.R.mul (D.g v t) (D.R.prod hl wh)) (D.R.prod ((kids D.dr D.p (some v)).take 0) fun c=>D.vT c (put cur v t)))):=(by exact aeT)
  have c1:=HX.st.sx.cell k1;have Wy:=hcc _ HX.k1;clear HU HG xA NB nD UD dA rM;generalize D.R.mul (D.g v t) (D.R.prod hl wh)=b0 at*;go_upto_region 14 with fail
  clear c1 Wy d1;generalize kids D.dr D.p (some v)=kl at*;generalize wr=w4 at*;have kY:ah (∀a,cQ (bE D.p v) v a=true->put cur v t a=put cur v t a):=fun _ _=>rfl;go_loopw [13,91] (fun _ v91 X=>∃(k:Nat) (cu:Nat->aD),k<=kl.length/\v91= .int .i64 k/\ah (ar X w.heap.size dp yX)/\ah (dK X d (D.R.mul b0 (D.R.prod (kl.take k) fun c=>D.vT c (put cur v t))))/\ah (ce D 19 20 cu (cQ (bE D.p v) v) X)/\ah (∀a,cQ (bE D.p v) v a=true->cu a=put cur v t a)/\ah (a8 [D.nb,D.sb,D.kb] w X)) (fun _ v91 _=>kl.length - (RowKit.intOf v91).toNat)
  exact⟨0,_,aV _,rfl,o,qF,HX,kY,HC⟩;clear qF HX kY HC o;obtain⟨k,cu,hk,rfl,o,HU,HX,HA,HC⟩:=hrel;have hZ:d<wr.heap.size:=HU.lt;by_cases dR:k<kl.length
  ·open arv in exact m70
  ·obtain rfl:k=kl.length:=Om;have d1:decide ((kl.length:Int)<(kl.length:Int))=false:=aY;have uX:ah (dK wr d (D.bT v t cur)):=(by rw[ah,GL.ae];have h:=HU.ae;rwa[fj] at h)
   have j7:=HX;have tS:=HC;have Yj:=o;clear HU HX HC o;generalize wr=wf at*;exact m29):=h
def q96.k32(h:aq:=by clear hW1 hW2 h hV ht HLH HLC uP pM;refine cD (S:=fun w'=>ar w' D.xb D.tX D.cs) (T:=fun j=>decide (14<=j)) Ok ?_;generalize wz.drew=wd at*;open q97 in exact aeZ):=h
def q95.k87(h:aq:=by
 have jA:=af (((gT (S:= [D.nb,D.sb,D.kb]) cG).drew).only gM.ae (.inl Ou));have nL:ah (ar W2 w.heap.size dp yX):=(o.drew.only gM Om).only dY.ae Om;have gD:=af (jA.only dY (.inl Ou));have aN:=af ok;have HV:=af hV;have Du:=af hW1;have qE:=af hW2;have aH:=af h.st.drew.sx;have bB:=af bQ.st.sx;have bO:ah (∀w',ar w' D.xb D.tX D.cs->w'.cell? (aC D.xb 14)=some (.func (.func D.fm) #[] #[])/\w'.cell? (aC D.xb 17)=some (.func (.func D.fw) #[] #[])/\w'.cell? (aC D.xb 19)=some (aG D.nb 0 D.x.ai.length D.x.ai.length)/\w'.cell? (aC D.xb 20)=some (aG D.sb 0 D.x.ai.length D.x.ai.length)):=(by exact aeH)
 have iM:=ok.il;have him:=ok.ring.im;have OC:=ok.ring.iz;have hiw:=ok.ring.iw;have CL:ah (Calls prog D.fl #[.int .i64 v,.string ⟨t.toArray⟩,s] W2 fun e w'=>∃u,e= .returned u/\bX w' u (D.g v t)/\Ext W2 w'):=(by rw[<-hF];exact ok.lift W2 aZ.st.ex v t hv (acI ht) pM)
 open q96 in exact m32):=h
def ajz{D:Pw Rat}(ok:iA D 13 #[s])(hF:D.V=bX){v:Nat}(hv:v<D.dr)(hV:∀c∈kids D.dr D.p (some v),Gf D 19 20 195 c):KU D 19 20 238 v:=by
 intro t cur w h1 uP ht;have HST:=af h1;clear h1;have uM:D.nb<w.heap.size:=HST.st.nc.lt;have CY:D.sb<w.heap.size:=HST.st.sc.lt;have hkb:D.kb<w.heap.size:=HST.mem.lt;have FE:D.xb<w.heap.size:=HST.st.sx.lt;have hw0:D.w0.heap.size<=w.heap.size:=HST.st.ex.size;go_enter func238,ntmps238;go_upto_region 1 with fail
 refine aT fun wz cG o=> ?_;have h:=HST.fB ok cG;have uK:w.heap.size<wz.heap.size:=o.lt;open q95 in exact m87
def arn.k75(h:aq:=by
 have bB:ah (ar w8 D.xb D.tX D.cs/\ar w8 W eM [.slice Bk yv.length dk,av yw]):=⟨zI.st.sx,aH.2.ext fV⟩;have CM:=af (aN.ring.mul w8 u7 u8 a0 (D.wt yw) (1+k) 1 1 1 (aN.ring.vk xz (.je fV)) ox xK (aN.ring.gw yw Dt.1 Dt.2) Om Od Od);refine hK.ae _ _ (fun _=>bB.ae) ?_;clear hK ox fV;refine aO 13 ?_;intro K hK;go_simp;refine CM.mono ?_;rintro e9 w9 ⟨u9,rfl,o,d⟩;have HXb:=af (zI.fB aN d);have Px:=af (XV.ext d);have WS:=af o;have aH:ah (ar w9 D.xb D.tX D.cs/\ar w9 W eM [.slice Bk yv.length dk,av yw]):=⟨HXb.st.sx,bB.2.ext d⟩;refine hK.ae _ _ (fun _=>aH.ae) ?_;clear hK o d;refine ax 14 7 ?_;refine b_ Ok ?_;have bO:=Q;go_wp2_with fail
 go_roundw;exact⟨j+1,_,by omega,by go_num,af rfl,by rw[B.ae,if_pos rfl,Uv.ae];exact WS,HXb,Px⟩;simp [RowKit.intOf];omega):=h
def aro.k46(h:aq:=by
 have Gr:=af (aN.ring.vk HU (.je dG.ae));have tN:=af (fu rY gK.st.ex);have mG:=BY.lt;obtain⟨y0,y1⟩:=BY.two;have CA:=af (Sy D.xb D.jb D.nb D.sb r D.x (put cur v t) (cQ (bE D.p v) v) rl Bk dk yv yw W6 gK.st.tJ.st pP Gu WY tN);rw[<-Kq.ae] at CA;clear et gz;generalize wr.heap.size=W at*;go_wp2_with fail
 refine CA.mono ?_;rintro e7 w7 ⟨rfl,m⟩;have C:=af (gK.fB aN m);have E:=af (KN.ext m);have zL:=af (aN.ring.vk Gr (.je m));have D2:=af (BY.ext m);clear y0 y1 BY m;cases A:q (yv,yw) with
 |false=>
  have B:ah ((rows.take (j+1)).any q=(rows.take j).any q):=by rw[ah,xQ.ae,A,vI]
  clear A;go_wp2_with fail;go_roundw;exact⟨j+1,_,by omega,by go_num,af rfl,by rw[B.ae];exact zL,C,E⟩;simp [RowKit.intOf];omega
 |true=>
  obtain⟨he,F⟩:=jP A;have B:ah ((rows.take (j+1)).any q=true):=by rw[ah,xQ.ae,A,QA]
  have Uv:ah (wh r=D.wt yw):=by rw[ah,WK.ae,<-he]
  have xz:ah (D.V w7.drew u7 a0):=(by have h:=zL.ae;rw[F,if_neg Od] at h;exact aN.ring.vk h (kj _ _).drew);have eE:=af (C.drew aN);have iY:=af E.drew;have aH:ah (ar w7.drew D.xb D.tX D.cs/\ar w7.drew W eM [.slice Bk yv.length dk,av yw]):=⟨eE.st.sx,D2.drew⟩;have Q:=bO;clear he F A;have bO:ah (∀w',(ar w' D.xb D.tX D.cs/\ar w' W eM [.slice Bk yv.length dk,av yw])->aA w' D.xb 8 (.func (.func D.fm) #[] #[])/\aA w' D.xb 11 (.func (.func D.fw) #[] #[])/\aA w' W 1 (av yw)):=fun w' h=>⟨(Q w' h.1).1,(Q w' h.1).2.1,h.2.aF 1⟩;go_upto_region 10 with fail
  refine cD (S:=fun w'=>ar w' D.xb D.tX D.cs/\ar w' W eM [.slice Bk yv.length dk,av yw]) (T:=fun _=>false) Ok ?_;open arn in exact m75):=h
def arp.k22(h:aq:=by
 have rX:ah (D.V w4 u (if (rows.take 0).any q=true then D.R.mul a0 (wh r) else a0)):=(by rw[ah,kF,Qw,if_neg Od];exact HU);go_loopw [7,11,58] (fun X _ J H=>∃(j:Nat) (u:Value),j<=rows.length/\J=av j/\ah (u=X)/\ah (D.V H u (if (rows.take j).any q=true then D.R.mul a0 (wh r) else a0))/\ah (ce D 13 14 (put cur v t) (cQ (bE D.p v) v) H)/\ah (a8 [D.nb,D.sb,D.kb] w H)) (fun _ _ J _=>rows.length - (RowKit.intOf J).toNat);exact⟨0,_,aV _,rfl,af rfl,rX,HX,HC⟩;obtain⟨j,u7,hj,rfl,s,HU,HX,HC⟩:=hrel;have s:=s.ae;subst s;by_cases dI:j<rows.length
 ·open aro in exact m46
 ·obtain rfl:j=rows.length:=Om;have WQ:ah (D.V wr u7 (D.R.mul a0 (wh r))):=(by have h:=HU.ae;rw[fj,adp HF.ae,if_pos rfl] at h;exact h)
  have d1:decide ((rows.length:Int)<(rows.length:Int))=false:=aY;go_wp2_with fail;go_roundw;exact⟨k+1,_,by omega,by go_num,af rfl,by rw[gh.ae];exact WQ,HX,HC⟩;simp [RowKit.intOf];omega):=h
def ark.afx(h:aq:=by
 have C:ah (ce D 13 14 OZ (cQ (bE D.p v) v) w8):=by rw[ah,<-xy.ae];exact fV
 have Yb:ah (∀a,cQ (bE D.p v) v a=true->OZ a=put cur v t a):=fun a ha=>(OQ a (by rw[xy.ae];exact ha)).trans (HA a ha);have E:=af (qJ.trans uQ);have bB:=af fV.st.sx;have CM:=af (aN.ring.mul w8 u u8 Z (D.vT c cu) s1 s2 j1 j2 (Fj.vC aN uQ Kc) ox tP (by rw[zK.ae];exact se) m1 m2 m3);refine hK.ae _ _ (fun _=>bB.ae) ?_;clear hK ox fV OQ uQ;refine aO 9 ?_;intro K hK;go_simp;refine CM.mono ?_;rintro e9 w9 ⟨u9,rfl,o,d⟩;have eE:=af (C.fB aN d);have iY:=af (E.ext d);have xz:=af o;have aH:=af eE.st.sx;refine hK.ae _ _ (fun _=>aH.ae) ?_;clear hK o d;refine ax 10 7 ?_;refine b_ Ok ?_;go_wp2_with fail
 go_roundw;exact⟨k+1,_,_,by omega,by go_num,af rfl,by rw[gh.ae,<-zK.ae];exact xz,eE,Yb,iY⟩;simp [RowKit.intOf];omega):=h
def arl.k70(h:aq:=by
 have e4:=HX.st.sx.cell aN.cz;have CZ:=af (aN.ring.NS wr u _ sz jz HU z3 z1 z2);have J4:=af (fun h=>aN.ring.z0 (D.R.mul b0 (D.R.prod (kl.take k) fun c=>D.vT c (put cur v t))) h);have GI:ah (∀a,bE D.p kl[k] a=true->cu a∈D.U):=fun a ha=>by rw[<-vW iB] at ha;rw[HA.ae a ha];exact agl a ha
 have Pe:ah (ce D 13 14 cu (bE D.p kl[k]) wr):=by rw[ah,<-vW iB];exact HX
 have zK:ah (D.vT kl[k] cu=D.vT kl[k] (put cur v t)):=aN.kv _ kT _ _ fun a ha=>by have h1:=(aN.ka _ kT a ha).1;rw[<-vW iB] at h1;exact HA a h1
 have xy:ah (bE D.p kl[k]=cQ (bE D.p v) v):=(vW iB).symm;have asf:kl[k]<D.dr:=kT;clear jv m4 m5 z3 hM iB kT;generalize D.R.mul b0 (D.R.prod (kl.take k) fun c=>D.vT c (put cur v t))=Z at*;generalize kl[k]=c at*;go_wp2_with fail
 refine CZ.mono ?_;rintro e5 w5 ⟨rfl,n⟩;have dX:=af (HX.fB aN n);have G:=af (Pe.fB aN n);have oP:=af (HC.ext n);have pO:=af (aN.ring.vk HU (.je n));clear n e3 e4;cases hz:D.wR Z with
 |true=>have uX:ah (D.V w5 u (D.bT v t cur)):=(by have h1:=J4 hz;rw[ah,GL.ae,HST.ae h1,<-h1];exact pO);have j7:=dX;have tS:=oP;clear hz;generalize w5=wf at*;exact m36
 |false=>
  clear hz;go_upto_region 17 with fail
  have aH:=af G.st.drew.sx;have Fj:=af (G.drew aN);have qJ:=af oP.drew;have Kc:=af (aN.ring.vk pO (kj _ _).drew);refine cD (S:=fun w'=>ar w' D.xb D.tX D.cs) (T:=fun _=>false) Ok ?_;open ark in exact ae4):=h
def arq.afu(h:aq:=by
 clear hK kT hfn;have aH:=bB;refine ax 13 26 ?_;refine aO 14 ?_;intro K hK;go_simp;rw[qE.ae];refine hK.ae _ _ Oe ?_;refine b_ Ok ?_;clear hK hcs uN;go_wp2_with fail
 refine CL.mono ?_;rintro e3 w3 ⟨u3,rfl,Y,M⟩;have O:=af (aZ.fB aN M);have jy:=af (gD.ext M);have tM:ah (D.V w3 u3 (D.R.mul (D.g v t) (D.R.prod ((D.homes v).take 0) fun h=>hW D.R D.x D.T D.wt h (put cur v t)))):=by rw[ah,kF];rw[show D.R.prod ([]:List Nat) (fun h=>hW D.R D.x D.T D.wt h (put cur v t))=D.R.one from rfl,SR.zh];exact Y
 have c3:=O.st.sx.cell k3;have Wx:=hhc _ O.k1;clear c10 M Y;go_upto_region 4 with fail
 clear c3 Wx;obtain⟨wh,N⟩:∃wh:Nat->α,wh=fun h=>hW D.R D.x D.T D.wt h (put cur v t):=⟨_,rfl⟩;have UD:ah (∀h∈D.homes v,h<D.x.ay.length/\∃y,y∈bY D.T h/\(bY D.T h).filter (fun y=>dV (cQ (bE D.p v) v) (put cur v t) (bh D.x h) y.1)= [y]/\wh h=D.wt y.2):=by rw[N];exact XD
 rw[<-N] at GL HG tM zV;clear N;generalize D.homes v=hl at*;go_loopw [7,9,11,43] (fun X _ _ L wr=>∃(k:Nat) (u:Value),k<=hl.length/\L=av k/\ah (u=X)/\ah (D.V wr u (D.R.mul (D.g v t) (D.R.prod (hl.take k) wh)))/\ah (ce D 13 14 (put cur v t) (cQ (bE D.p v) v) wr)/\ah (a8 [D.nb,D.sb,D.kb] w wr)) (fun _ _ _ L _=>hl.length - (RowKit.intOf L).toNat);exact⟨0,_,aV _,rfl,af rfl,tM,O,jy⟩;obtain⟨k,u,hk,rfl,s,HU,HX,HC⟩:=hrel;have s:=s.ae;subst s;by_cases dR:k<hl.length
 ·open arp in exact m22
 ·obtain rfl:k=hl.length:=Om;have d1:decide ((hl.length:Int)<(hl.length:Int))=false:=aY;have qF:ah (D.V wr u (D.R.mul (D.R.mul (D.g v t) (D.R.prod hl wh)) (D.R.prod ((kids D.dr D.p (some v)).take 0) fun c=>D.vT c (put cur v t)))):=(by exact aeT)
  have c1:=HX.st.sx.cell k1;have Wy:=hcc _ HX.k1;clear rM;generalize D.R.mul (D.g v t) (D.R.prod hl wh)=b0 at*;go_upto_region 14 with fail
  clear c1 Wy d1;generalize kids D.dr D.p (some v)=kl at*;generalize wr=w4 at*;have kY:ah (∀a,cQ (bE D.p v) v a=true->put cur v t a=put cur v t a):=fun _ _=>rfl;go_loopw [7,13,91] (fun X _ I H=>∃(k:Nat) (u:Value) (cu:Nat->aD),k<=kl.length/\I=av k/\ah (u=X)/\ah (D.V H u (D.R.mul b0 (D.R.prod (kl.take k) fun c=>D.vT c (put cur v t))))/\ah (ce D 13 14 cu (cQ (bE D.p v) v) H)/\ah (∀a,cQ (bE D.p v) v a=true->cu a=put cur v t a)/\ah (a8 [D.nb,D.sb,D.kb] w H)) (fun _ _ I _=>kl.length - (RowKit.intOf I).toNat)
  exact⟨0,_,_,aV _,rfl,af rfl,qF,HX,kY,HC⟩;obtain⟨k,u,cu,hk,rfl,s,HU,HX,HA,HC⟩:=hrel;have s:=s.ae;subst s;by_cases dR:k<kl.length
  ·open arl in exact m70
  ·obtain rfl:k=kl.length:=Om;have d1:decide ((kl.length:Int)<(kl.length:Int))=false:=aY;have uX:ah (D.V wr u (D.bT v t cur)):=(by rw[ah,GL.ae];have h:=HU.ae;rwa[fj] at h)
   have j7:=HX;have tS:=HC;generalize wr=wf at*;exact m36):=h
def ars.k32(h:aq:=by
 clear hW1 hW2 h hV ht uP pM;go_enter func192,ntmps192;go_upto_region 1 with fail
 refine cD (S:=fun w'=>ar w' D.xb D.tX D.cs) (T:=fun j=>decide (14<=j)) Ok ?_;generalize w.drew=wd at*;open arq in exact aeZ):=h
def art.k87(h:aq:=by
 have jA:=af (((gT (S:= [D.nb,D.sb,D.kb]) (aB w)).drew).only gM.ae (.inl Ou));have gD:=af (jA.only dY (.inl Ou));have aN:=af ok;have HV:=af hV;have Du:=af hW1;have qE:=af hW2;have aH:=af h.st.drew.sx;have bB:=af bQ.st.sx;have bO:ah (∀w',ar w' D.xb D.tX D.cs->aA w' D.xb 8 (.func (.func D.fm) #[] #[])/\aA w' D.xb 11 (.func (.func D.fw) #[] #[])/\aA w' D.xb 13 (aG D.nb 0 D.x.ai.length D.x.ai.length)/\aA w' D.xb 14 (aG D.sb 0 D.x.ai.length D.x.ai.length)):=(by exact aeH)
 have iM:=ok.il;have him:=ok.ring.im;have OC:=ok.ring.iz;have hiw:=ok.ring.iw;have CL:=af (ok.lift W2 aZ.st.ex v t hv (acI ht) pM);open ars in exact m32):=h
def ajM{α:Type}{D:Pw α}(ok:iA D 7 #[]){v:Nat}(hv:v<D.dr)(hV:∀c∈kids D.dr D.p (some v),Gf D 13 14 188 c):KU D 13 14 192 v:=by intro t cur w h uP ht;open art in exact m87
def aly(w:au):(zeroValue fH).run prog w= .ok (.bool false) w:=Ok
def abA:prog.underlying 257=some (.map bJ fH):=Ok
def ajI(h:a<256):byteCells [UInt8.ofNat a]= [.int .u8 (a:Int)]:=by unfold byteCells;rw[Ll];congr 2;simp;omega
def Bp{S:List Nat}(h:IsBuilderF tB t8 a b t m)(k:a8 S m n)(l:∀i∈S,i<a):IsBuilderF tB t8 a b t n:=by
 have d:∀{v:Value},m.ownsRowF a t8 1 v t t->n.ownsRowF a t8 1 v t t:=fun {v} ⟨s,c⟩=>by
  refine⟨s,?_⟩;rcases c with c|⟨g,q,p,u,z,y,r,x⟩
  ·exact .inl c
  ·exact .inr ⟨g,q,p,u,z,y,(k.block g (gS r) fun e=>by have:=l g e;omega).trans r,x⟩
 rcases h with⟨o,v,f,c,j⟩|⟨o,v,f,c,j⟩
 ·exact .inl ⟨o,v,(k.block b (gS f) fun e=>by have:=l b e;omega).trans f,d c,j⟩
 ·exact .inr ⟨o,v,(k.block b (gS f) fun e=>by have:=l b e;omega).trans f,d c,j⟩
def MD(h:IsBuilderF tB t8 a b t m):∃p q,ar m b tB [p,q]:=by
 rcases h with⟨f,v,c,d,e⟩|⟨f,v,c,d,e⟩
 ·exact⟨_,_,c⟩
 ·exact⟨_,_,c⟩
def arf.afr(h:aq:=by go_wp2;go_roundw;exact⟨k+1,by omega,by go_num,xO,dG⟩;simp [RowKit.intOf];omega):=h
def arh.k31(h:aq:=by open arf in exact aeG):=h
def ara.k83(h:aq:=by
 have C:=af (d.trans oG);have bB:=af fM.st.sx;have CM:=af (aN.ring.add w5 u u5 acc bt dg _ _ (aZ.vC aN oG A) tD xK XI uO hgb);refine hK.ae _ _ (fun _=>bB.ae) ?_;refine aO 10 ?_;intro K hK;go_simp;refine CM.mono ?_;rintro e6 w6 ⟨u6,rfl,Y,gI⟩;have dG:=af (dX.fB aN gI);have B:=af (C.ext gI);have z:=af Y;have aH:=af dG.st.sx;refine hK.ae _ _ (fun _=>aH.ae) ?_;refine ax 11 10 ?_;refine b_ Ok ?_;go_wp2_with fail
 go_roundw;exact⟨k+1,_,_,by omega,by go_num,af rfl,by rw[gh.ae];exact z,dG,PF,B⟩;simp [RowKit.intOf];omega):=h
def arb.k73(h:aq:=by
 have CB:=af (fun b (h:ce D 13 14 n (bE D.p v) b)=>HB cb[k] n b h (fun a ha=>by rw[HA.ae a ha];exact GI a ha) (by rw[Py.ae n HA.ae];exact hm));rw[PD.ae _ n HA.ae] at CB;have xK:=af (Dz k);have XI:=af (PC _ hm);have hgb:=l9 k Om;generalize cb[k]=t at*;generalize D.bT v t cur=bt at*;generalize D.R.sum (cb.take k) (fun t=>D.bT v t cur)=acc at*;go_upto_region 15 with fail
 have aZ:=af (HX.drew aN);have d:=af HC.drew;have A:=af (aN.ring.vk F (kj _ _).drew);have aH:=af aZ.st.sx;refine cD (S:=fun b=>ar b D.xb D.tX D.cs) (T:=fun _=>false) Ok ?_;open ara in exact m83):=h
def arc.k24(h:aq:=by
 have uM:D.nb<w.heap.size:=HST.st.nc.lt;have CY:D.sb<w.heap.size:=HST.st.sc.lt;have hkb:D.kb<w.heap.size:=HST.mem.lt;have P:D.xb<w.heap.size:=HST.st.sx.lt;have X:D.w0.heap.size<=w.heap.size:=HST.st.ex.size;have I:=af (Bp J za fun i hi=>by simp only[aJ,bL,or_false] at hi;omega);have iY:ah (a8 [D.nb,D.sb,D.kb] w w9):=(gT c).trans (za.mono fun i hi _=>by simp only[aJ,bL,or_false] at hi⊢;omega);have Gq:=af (fE.vC aN (za.mono fun i hi _=>by simp only[aJ,bL,or_false] at hi⊢;omega) HVZ);have qI:=af hcb;have zi:=c.size;have sF:ah (∀a,bE D.p v a=true->put cur v tc a=cur a):=fun a ha=>by unfold put;rw[if_neg fun e=>by rw[e,uy] at ha;cases ha]
 have Ka:ah (D.V w9 q (D.R.sum (cb.take 0) fun t=>D.bT v t cur)):=by rw[ah,kF];exact Gq
 have KO:ah (a8 [D.nb,D.sb,D.kb] w9 w9):= .gV (aB w9);go_upto_region 13 with fail
 go_loopw [10,12,59] (fun N _ s L=>∃(k:Nat) (u:Value) (n:Nat->aD),k<=cb/\s=av k/\ah (u=N)/\ah (D.V L u (D.R.sum (cb.take k) fun t=>D.bT v t cur))/\ah (ce D 13 14 n (bE D.p v) L)/\ah (∀a,bE D.p v a=true->n a=cur a)/\ah (a8 [D.nb,D.sb,D.kb] w9 L)) (fun _ _ s _=>cb - (RowKit.intOf s).toNat)
 exact⟨0,_,_,aV _,rfl,af rfl,Ka,uZ,sF,KO⟩;obtain⟨k,u,n,hk,rfl,Z,F,HX,HA,HC⟩:=hrel;have Z:=Z.ae;subst Z;by_cases nv:k<cb
 ·open arb in exact m73
 ·obtain rfl:k=cb.length:=Om;have d1:decide ((cb.length:Int)<(cb.length:Int))=false:=aY;have uX:ah (D.V wr u (D.vT v cur)):=(by rw[ah,cC.ae];have h:=F.ae;rwa[fj] at h)
  go_upto_region 17 with fail
  have aZ:=af (HX.drew aN);have d:=af (iY.trans HC).drew;have A:=af (aN.ring.vk uX (kj _ _).drew);have o:ah (IsBuilderF tB t8 w.heap.size w.heap.size (byteCells nm) wr.drew):=Bp I HC.drew fun i hi=>by simp only[aJ,bL,or_false] at hi;omega
  have CS:=af (Tryz.Builder_String_any_k w.heap.size w.heap.size nm wr.drew o d.size);have aH:=af aZ.st.sx;refine cD (S:=fun b=>ar b D.xb D.tX D.cs) (T:=fun j=>decide (6<=j)) Ok ?_;generalize wr.drew=wd at*;refine ax 0 75 ?_;refine ax 1 76 ?_;refine ax 2 77 ?_;refine ax 3 78 ?_;refine ax 5 80 ?_;refine aO 4 ?_;intro K hK;go_simp;refine CS.mono ?_;rintro e5 w5 ⟨rfl,_,fM,mF⟩;obtain⟨bp,bq,F7⟩:=MD o;have H:=af (aZ.read aN fM mF F7 X P uM CY hkb);have dX:=af H.1;have pO:=af (aN.ring.vk A H.2);have C:=af (d.below fM);have bB:=af dX.st.sx;obtain⟨w6,hrun,dG,z,oO⟩:=dX.aez aN hv abA DJ ND Om pO;have B:=af (C.only oO (.inl Ou));refine hK.ae _ _ (fun _=>bB.ae) ?_;refine aO 6 ?_;intro K hK;go_simp;refine hK.ae _ _ Oe ?_;refine b_ Ok ?_;go_wp2_with fail
  exact bodyPost_ret (v:=u) (by simp [results,results188,go_sem]) rfl ⟨u,rfl,z,n,dG,HA,B⟩):=h
def ard.k94(h:aq:=by
 have CS:=af (Tryz.Builder_String_any_k w.heap.size w.heap.size nm wr.drew HBF aZ.size);go_upto_region 8 with fail
 have bO:ah (∀b,ar b D.xb D.tX D.cs->aA b D.xb 15 (.map (some D.kb))/\aA b D.xb 7 (.func (.func D.fa) #[] #[])):=fun b h=>⟨h.cell aN.ck,h.cell aN.ca⟩;have aH:=af ei.st.sx;refine cD (S:=fun b=>ar b D.xb D.tX D.cs) (T:=fun _=>false) Ok ?_;generalize wr.drew=wd at*;refine ax 0 40 ?_;refine ax 1 41 ?_;refine ax 2 42 ?_;refine ax 3 43 ?_;refine aO 4 ?_;intro K hK;go_simp;refine CS.mono ?_;rintro e8 M ⟨rfl,E,Q,Jq⟩;have c:ah (Ext w M):=qV aZ Q;have fE:=af (HST.fB aN c);have J:=af E;have bB:=af fE.st.sx;obtain⟨r,hlk,uJ⟩:=fE.look aN hv abA (aly M) DJ ND Om;have iO:=af uJ;refine hK.ae _ _ (fun _=>bB.ae) ?_;have aH:=bB;refine aO 5 ?_;intro K hK;go_simp;refine hK.ae _ _ (fun _=>aH.ae) ?_;refine ax 6 39 ?_;refine ax 7 46 ?_;refine ax 8 47 ?_;refine ax 9 8 ?_;refine ax 10 9 ?_;refine b_ Ok ?_;cases r with
 |some u=>have F:=af (iO u rfl);go_wp2_with fail;exact bodyPost_ret (v:=u) (by simp [results,results188,go_sem]) rfl (by first|exact⟨u,rfl,F,cur,fE,fun _ _=>rfl,.gV c⟩|exact⟨u,cur,rfl,F,fE,fun _ _=>rfl,.gV c⟩)
 |none=>have c5:=fE.st.sx.cell O;have HVZ:=af (aN.ring.vk hz (.je fE.st.ex));have sA:=af (acM D.tX D.cs D.xb D.jb D.nb D.sb v D.x D.T cur (bE D.p v) D.fv D.fx D.w0 M fE.st uy hv aN.cf aN.Uo (aN.wk.ne v hv) aN.r6 a12 (fun l hl=>a7 (aN.tl l hl) Od));open arc in exact m24):=h
def ari.k68(h:aq:=by
 go_upto_region 4 with fail
 go_loopw [7,25] (fun _ y wr=>∃k:Nat,k<=kl/\y=av k/\ah (IsBuilder tB t8 w.heap.size w.heap.size (byteCells (UInt8.ofNat v::jW ((kl.take k).map cur))) wr)/\ah (Ext w wr)) (fun _ y _=>kl - (RowKit.intOf y).toNat)
 exact⟨0,aV _,rfl,oT,bQ⟩;obtain⟨k,hk,rfl,oT,bQ⟩:=hrel;by_cases zt:k<kl
 ·open arh in exact m31
 ·open ard in exact m94):=h
def arj.k30(h:aq:=by
 have HKV:=af (ok.kv v hv);obtain⟨kl,m⟩:∃kl,D.key v=kl:=⟨_,rfl⟩;have UC:=af m;rw[m] at dR vg Xq Pt nv GF DJ wI;go_enter func188,ntmps188;go_upto_region 2 with fail
 refine aT fun W HX BB=> ?_;have PE:ah (IsBuilder tB t8 w.heap.size w.heap.size [] W):= .inl ⟨aK _,_,BB,mQ _ _ _ _,by simp [Value.ownBlock]⟩;have hsz:w.heap.size<=W.heap.size:=HX.size;open ari in exact m68):=h
def anH{α:Type}{D:Pw α}(ok:iA D 7 #[]){v:Nat}(hv:v<D.dr)(O:D.cs[5]? =some q)(hz:D.V D.w0 q D.R.zero)(hB:KU D 13 14 192 v):Gf D 13 14 188 v:=by intro cur w h uP;open arj in exact m30
def alC(h:IsBuilderF tB t8 a b t m)(k:a8 i m n)(p:∀c∈i,c<a\/(c≠b/\∃d l,ar m c d l/\d≠t8)):IsBuilderF tB t8 a b t n:=by
 have own:∀{v:Value},m.ownsRowF a t8 1 v t t->n.ownsRowF a t8 1 v t t:=fun {v} ⟨s,ho⟩=>by
  refine⟨s,?_⟩;rcases ho with ho|⟨q,o,j,x,A,z,e,y⟩
  ·exact .inl ho
  ·refine .inr ⟨q,o,j,x,A,z,(k.block q (gS e) fun f=> ?_).trans e,y⟩;rcases p q f with g|⟨_,d,l,hB,r⟩
   ·omega
   ·unfold ar at hB;rw[hB] at e;injection e with e;injection e with _ e;exact r e
 have u:a<=b:=by rcases h with⟨h,_⟩|⟨h,_⟩<;>exact h
 have hb':n.heap[b]? =m.heap[b]?:=k.block b (by
  rcases h with⟨_,v,hb,_⟩|⟨_,v,hb,_⟩<;>exact gS hb) fun f=>by
  rcases p b f with g|⟨g,_⟩
  ·omega
  ·exact g rfl
 exact aeY
def ar.others(h:ar m a w t)(o:OthersKept t8 (some b) m n)(f:a≠b)(d:w≠t8):ar n a w t:=
 o a _ h (fun e=>by injection e with e;exact f e) (fun c i e=>by injection e with _ e;exact d e)
def ar.Cl(h:ar m a w [p,q,r,s])(u0 u1 u2 u3:Value):∃b,((((m.setCell (aC a 0) u0).setCell (aC a 1) u1).setCell (aC a 2) u2).setCell (aC a 3) u3)=b/\ah (ar b a w [u0,u1,u2,u3])/\ah (Only a m b):=
 ⟨_,rfl,(((h.bu 0 u0).bu 1 u1).bu 2 u2).bu 3 u3,(((ig a m).bu 0 _).bu 1 _).bu 2 _|>.bu 3 _⟩
def alB(h:IsBuilderF tB t8 a b t m)(k:Only c m n)(r:b≠c)(hB:ar m c w u)(o:w≠t8):IsBuilderF tB t8 a b t n:=by
 have own:∀{v:Value},m.ownsRowF a t8 1 v t t->n.ownsRowF a t8 1 v t t:=fun {v} ⟨p,ho⟩=>by
  refine⟨p,?_⟩;rcases ho with ho|⟨q,j,i,s,z,y,d,x⟩
  ·exact .inl ho
  ·refine .inr ⟨q,j,i,s,z,y,(k.block q (gS d) fun f=> ?_).trans d,x⟩;injection f with f;subst f;unfold ar at hB;rw[hB] at d;injection d with d;injection d with _ d;exact o d
 have hb':n.heap[b]? =m.heap[b]?:=k.block b (by rcases h with⟨_,v,hb,_⟩|⟨_,v,hb,_⟩<;>exact gS hb) fun e=>by injection e with e;exact r e
 exact aeY
def alk(w:au):(zeroValue dp).run prog w= .ok (.agg #[.bool false,.slice none 0 0,.bool false,.slice none 0 0]) w:=Ok
def abu:prog.underlying 264=some (.map bJ dp):=Ok
def aq7.afr(h:aq:=by clear V' gI e3 e4 e5 asi;go_wp2;go_roundw;exact⟨k+1,by omega,by go_num,xO,dG⟩;simp [RowKit.intOf];omega):=h
def aq8.k31(h:aq:=by clear jv;open aq7 in exact aeG):=h
def aq0.k43(h:aq:=by
 have DY:=af (qJ.only jP (.inl Ou));have xW:=af (pS.only jP Om);clear hK qw gI hW';refine aO 11 ?_;intro K hK;go_simp;refine hK.ae _ _ Oe ?_;refine b_ Ok ?_;rw[HW.ae];clear k0 k1 k2 k3 f0 f1 f2 f3 hK;go_wp2_with fail
 go_roundw;exact⟨k+1,_,by omega,by go_num,xW,by rw[gh.ae];exact vp,uW,PF,DY⟩;simp [RowKit.intOf];omega):=h
def aq1.afC(h:aq:=by have CM:ah (Calls prog D.fa #[.agg #[.bool o0,.slice O0 o1 o2,.bool p0,.slice P0 p1 p2],u5] w5 fun e o=>∃u,e= .returned u/\bX o u (D.R.add acc bt)/\Ext w5 o):=(by rw[<-hF];exact aN.ring.add w5 _ u5 acc bt dg _ _ (by rw[hF];exact VO.keep OB) tD xK XI uO hgb);refine hK.ae _ _ (fun _=>bB.ae) ?_;clear hK BO VO tD fM ha5 oG OB;refine aO 10 ?_;open aq0 in exact m43):=h
def aq2.k83(h:aq:=by have oP:=af (gD.trans (oG.mono fun i hi _=>by simp only[aJ,bL,or_false] at hi⊢;omega));open aq1 in exact ae_):=h
def aq3.afs(h:aq:=by have bO:ah (∀o,(ar o D.xb D.tX D.cs/\ar o ob dp [.bool o0,.slice O0 o1 o2,.bool p0,.slice P0 p1 p2])->aA o D.xb 13 (.func (.func D.fa) #[] #[])/\F4 o ob (.bool o0) (.slice O0 o1 o2) (.bool p0) (.slice P0 p1 p2)):=fun o h=>⟨h.1.cell aN.ca,h.2.four⟩;unfold F4 at bO;clear BZ;refine cD (S:=fun o=>ar o D.xb D.tX D.cs/\ar o ob dp [.bool o0,.slice O0 o1 o2,.bool p0,.slice P0 p1 p2]) (T:=fun j=>decide (11<=j)) Ok ?_;open aq2 in exact m83):=h
def aq4.k73(h:aq:=by
 have CB:=af (fun o (h:ce D 19 20 Q (bE D.p v) o)=>HB cb[k] Q o h (fun a ha=>by rw[HA.ae a ha];exact GI a ha) (by rw[Py.ae Q HA.ae];exact hm));rw[PD.ae _ Q HA.ae] at CB;have xK:=af (Dz k);have XI:=af (PC _ hm);have hgb:=l9 k Om;clear OY hcell hm rU;generalize cb[k]=t at*;generalize D.bT v t cur=bt at*;generalize D.R.sum (cb.take k) (fun t=>D.bT v t cur)=acc at*;go_upto_region 15 with fail
 clear e3;open aq3 in exact aeP):=h
def aq5.k24(h:aq:=by
 have O:=af (Bp y za fun i hi=>by simp only[aJ,bL,or_false] at hi;omega);have iY:ah (a8 [D.nb,D.sb,D.kb] wy w9):=(gT (cG.trans s)).trans (za.mono fun i hi _=>by simp only[aJ,bL,or_false] at hi⊢;omega);have Pn:ah (ob≠w.heap.size):=fun e=>by
  obtain⟨bx,bA,bn,bc,bx',bA',bn',bc',B1,_⟩:=Pz.parts;obtain⟨bp,bq,z⟩:=MD y;have h1:=B1.ae;rw[e] at h1;unfold ar at h1 z;rw[h1] at z;injection z with z;injection z with _ z;revert z
  decide
 have H:a8 [D.nb,D.sb,D.kb] L w9:=za.mono fun i hi _=>by simp only[aJ,bL,or_false] at hi⊢;omega
 have Gq:=af (Pz.cy H avL (fE.Nc H));have PA:=Gq;have hw9:=H.size;have pR:=af (J.cy H avL);have qI:=af hcb;have zi:=s.size;have sF:ah (∀a,bE D.p v a=true->put cur v tc a=cur a):=fun a ha=>by unfold put;rw[if_neg fun e=>by rw[e,uy] at ha;cases ha]
 have Ka:ah (dK w9 ob (D.R.sum (cb.take 0) fun t=>D.bT v t cur)):=by rw[ah,kF];exact Gq
 have KO:ah (a8 [D.nb,D.sb,D.kb,ob] w9 w9):= .gV (aB w9);clear hcb afW za H;go_upto_region 13 with fail
 go_loopw [12,59] (fun _ v59 wq=>∃(k:Nat) (Q:Nat->aD),k<=cb/\v59=av k/\ah (ar wq wy.heap.size dp yX)/\ah (dK wq ob (D.R.sum (cb.take k) fun t=>D.bT v t cur))/\ah (ce D 19 20 Q (bE D.p v) wq)/\ah (∀a,bE D.p v a=true->Q a=cur a)/\ah (a8 [D.nb,D.sb,D.kb,ob] w9 wq)) (fun _ v59 _=>cb - (RowKit.intOf v59).toNat)
 exact⟨0,_,aV _,rfl,pR,Ka,uZ,sF,KO⟩;obtain⟨k,Q,hk,rfl,BZ,HU,HX,HA,HC⟩:=hrel;have hZ:ob<wr.heap.size:=HU.lt;by_cases nv:k<cb
 ·open aq4 in exact m73
 ·obtain rfl:k=cb.length:=Om;have d1:decide ((cb.length:Int)<(cb.length:Int))=false:=aY;have uX:ah (dK wr ob (D.vT v cur)):=(by rw[ah,cC.ae];have h:=HU.ae;rwa[fj] at h)
  go_upto_region 17 with fail
  have aZ:=af (HX.drew aN);have gD:ah (a8 [D.nb,D.sb,D.kb] wy wr.drew):=(((iY.mono (S':= [D.nb,D.sb,D.kb,ob]) fun i hi _=>by simp only[aJ,bL,or_false] at hi⊢;omega).trans HC.ae).mono fun i hi hlt=>by simp only[aJ,bL,or_false] at hi⊢;omega).drew;have nL:=af BZ.drew;obtain⟨o0,O0,o1,o2,p0,P0,p1,p2,BO,VO⟩:=uX.drew.parts;have A:ah (IsBuilderF tB t8 w.heap.size w.heap.size (byteCells nm) wr.drew):=alC O HC.drew fun i hi=>by
   simp only[aJ,bL,or_false] at hi;rcases hi with hi|hi|hi|hi
   ·exact .inl Om
   ·exact .inl Om
   ·exact .inl Om
   ·obtain⟨bx,bA,bn,bc,bx',bA',bn',bc',B1,_⟩:=PA.parts;rw[hi];exact .inr ⟨Pn,_,_,B1,by decide⟩
  have wH:w.heap.size<=wr.drew.heap.size:=a7 Om HC.size;have CS:=af (Tryz.Builder_String_any_k w.heap.size w.heap.size nm wr.drew A wH);have hoy:=Pn.ae;have aH:ah (ar wr.drew D.xb D.tX D.cs/\ar wr.drew ob dp [.bool o0,.slice O0 o1 o2,.bool p0,.slice P0 p1 p2]):=⟨aZ.st.sx,BO⟩;have bO:ah (∀o,(ar o D.xb D.tX D.cs/\ar o ob dp [.bool o0,.slice O0 o1 o2,.bool p0,.slice P0 p1 p2])->aA o D.xb 21 (.map (some D.kb))/\F4 o ob (.bool o0) (.slice O0 o1 o2) (.bool p0) (.slice P0 p1 p2)):=fun o h=>⟨h.1.cell aN.ck,h.2.four⟩;unfold F4 at bO;clear BZ;refine cD (S:=fun o=>ar o D.xb D.tX D.cs/\ar o ob dp [.bool o0,.slice O0 o1 o2,.bool p0,.slice P0 p1 p2]) (T:=fun j=>decide (6<=j)) Ok ?_;generalize wr.drew=wd at*;refine ax 0 75 ?_;refine ax 1 76 ?_;refine ax 2 77 ?_;refine ax 3 78 ?_;refine ax 5 80 ?_;refine aO 4 ?_;intro K hK;go_simp;refine CS.mono ?_;rintro e5 w5 ⟨rfl,_,fM,mF⟩;obtain⟨bp,bq,z⟩:=MD A;have DF:=af (aZ.read aN fM mF z Om Om Om Om Om);have dX:=af DF.1;have VO5:=af (VO.keep DF.2);have vw:=af (BO.others mF Om Od);have vt:ah (ar w5 wy.heap.size dp yX):=(fM.block _ uK).trans nL.ae;have oP:=af (gD.below (fM.mono Om));have bB:ah (ar w5 D.xb D.tX D.cs/\ar w5 ob dp [.bool o0,.slice O0 o1 o2,.bool p0,.slice P0 p1 p2]):=⟨dX.st.sx,vw⟩;obtain⟨w6,hrun,dG,Kc,oO⟩:=dX.aez aN hv abu DJ ND Om (by rw[hF];exact VO5);have qJ:=af (oP.only oO (.inl Ou));have tY:=af (vw.only oO Om);have pS:=af (vt.only oO Om);have O_:ah (bX w6 (.agg #[.bool o0,.slice O0 o1 o2,.bool p0,.slice P0 p1 p2]) (D.vT v cur)):=by rw[ah,<-hF];exact Kc
  refine hK.ae _ _ (fun _=>bB.ae) ?_;clear hK BO VO fM mF z;refine aO 6 ?_;intro K hK;go_simp;refine hK.ae _ _ Oe ?_;clear hK hrun;refine b_ Ok ?_;obtain⟨q0,q1,q2,q3⟩:=tY.four;obtain⟨f0,f1,f2,f3⟩:=pS.eX;obtain⟨j0,j1,j2,j3⟩:=pS.four;go_wp2_with fail;refine sW rfl rfl rfl pS.ae O_ (fun u W' h1 h2=> ?_);have h3:=dG.past aN h2 pS Od Om Om Om Om Om;have h4:=qJ.only h2 (.inr (aK _));first|exact⟨u,rfl,h1,Q,h3,HA,h4⟩|exact⟨u,Q,rfl,by rw[hF];exact h1,h3,HA,h4⟩):=h
def aq6.k94(h:aq:=by
 have A:ah (IsBuilderF tB t8 w.heap.size w.heap.size (byteCells nm) wr.drew):=Bp HBF (gT (S:= []) (aB wr).drew) Ou;obtain⟨r,hlk,uJ⟩:=HST.lookW aN hv abu alk DJ ND Om;have iO:=af uJ;have C:=af (fun(W:au) (h:Ext w W)=>h.block D.kb HST.mem.lt);have af9:∀o,ar o D.xb D.tX D.cs->aA o D.xb 21 (.map (some D.kb)):=fun o h=>h.cell aN.ck;have bO:ah (∀o,(ar o D.xb D.tX D.cs/\o.heap[D.kb]? =w.heap[D.kb]?)->aA o D.xb 21 (.map (some D.kb))/\(Instr.lookup 264 (.map (some D.kb)) (aL nm) true).run prog o= .ok (.tuple #[r.getD (.agg #[.bool false,.slice none 0 0,.bool false,.slice none 0 0]),.bool r.isSome]) o):=fun o h=>⟨af9 o h.1,hlk o h.2⟩;have aH:ah (ar wr.drew D.xb D.tX D.cs/\wr.drew.heap[D.kb]? =w.heap[D.kb]?):=⟨ei.st.sx,C.ae _ aZ⟩;clear wI dR uJ hlk af9;obtain⟨v0,V0,v1,v2,t0,T0,t1,t2,hu⟩:∃(v0:Bool) (V0:aR) (v1 v2:Nat) (t0:Bool) (T0:aR) (t1 t2:Nat),r.getD (.agg #[.bool false,.slice none 0 0,.bool false,.slice none 0 0])= .agg #[.bool v0,.slice V0 v1 v2,.bool t0,.slice T0 t1 t2]:=by
  cases r with
  |none=>exact⟨_,_,_,_,_,_,_,_,rfl⟩
  |some u=>have h1:=iO u rfl;rw[hF] at h1;obtain⟨b0,A0,b1,b2,c0,C0,c1,c2,rfl,_,_⟩:=h1.parts;exact⟨_,_,_,_,_,_,_,_,rfl⟩
 have DG:ah (r.isSome=true->bX w (.agg #[.bool v0,.slice V0 v1 v2,.bool t0,.slice T0 t1 t2]) (D.vT v cur)):=fun h=>by obtain⟨u,rfl⟩:=G6.1 h;rw[<-hu,<-hF];exact iO u rfl
 rw[hu] at bO;clear hu;generalize r.isSome=m at*;go_upto_region 8 with fail
 go_cut [8,9] (fun s8 s9 wx=>∃n,s8=aI n 0/\s9= .bool m/\ah (ar wx n dp [.bool v0,.slice V0 v1 v2,.bool t0,.slice T0 t1 t2])/\ah (Ext w wx)/\ah (IsBuilderF tB t8 w.heap.size w.heap.size (byteCells nm) wx))
 case first=>
  have CS:=af (fun W h (hX:Ext w W)=>Tryz.Builder_String_any_k w.heap.size w.heap.size nm W h hX.size);refine cD (S:=fun o=>ar o D.xb D.tX D.cs/\o.heap[D.kb]? =w.heap[D.kb]?) (T:=fun _=>false) Ok ?_;generalize wr.drew=wd at*;refine ax 0 40 ?_;refine ax 1 41 ?_;refine ax 2 42 ?_;refine ax 3 43 ?_;refine Ip 4 9 Ok ?_ ?_
  ·skip
   refine zg ?_;intro K hK;go_simp;refine(CS wd A aZ).mono ?_;rintro e8 L ⟨rfl,I,M,P⟩;have s:ah (Ext w L):=qV aZ M;have y:=af I;have fE:=af (HST.fB aN s);have bB:ah (ar L D.xb D.tX D.cs/\L.heap[D.kb]? =w.heap[D.kb]?):=⟨fE.st.sx,C.ae _ s⟩;refine hK.ae _ _ (fun _=>bB.ae) ?_;clear hK M I P;have aH:=bB;refine ax 5 45 ?_;refine ax 6 39 ?_;refine ax 7 46 ?_;refine ax 8 47 ?_;refine aO 9 ?_;intro K hK;go_simp;refine hK.ae _ _ (fun _=>⟨aH.1.ext ((aB _).alloc _),C.ae _ (s.alloc _)⟩) ?_;clear hK;refine aO 10 ?_;intro K hK;go_simp;refine hK.ae _ _ (fun _=>⟨aH.1.ext ((aB _).alloc _),C.ae _ (s.alloc _)⟩) ?_;refine aT fun W9 Y BQ=> ?_;have B:=af (s.trans Y);have GK:=af (Bp y (gT (S:= []) Y) Ou);clear hK;refine aO 11 ?_;intro K hK;go_simp;refine hK.ae _ _ (fun _=>⟨(HST.fB aN B).st.sx,C.ae _ B⟩) ?_;refine b_ Ok ?_;clear hK;go_wp2_with fail
   go_meet;exact⟨_,rfl,rfl,BQ,B,GK⟩
  ·skip
   refine zg ?_;intro K hK;go_simp;refine hK.ae _ _ (fun _=>⟨aH.1.ext ((aB _).alloc _),C.ae _ (aZ.alloc _)⟩) ?_;refine aT fun W7 gK BQ=> ?_;have cH:=af (aZ.trans gK);have atU:=af (Bp A (gT (S:= []) gK) Ou);have hwd:w.heap.size<=wd.heap.size:=aZ.size;have mG:w.heap.size≠wd.heap.size:=fun e=>by obtain⟨bp,bq,z⟩:=MD A;have:=z.lt;omega
   clear hK;generalize wd.heap.size=n at*;refine aO 4 ?_;intro K hK;go_simp;refine(CS W7 atU cH).mono ?_;rintro e8 L ⟨rfl,I,M,P⟩;have s:ah (Ext w L):=qV cH M;have y:=af I;have fE:=af (HST.fB aN s);have Z:=af (BQ.others P mG.symm Od);have bB:ah (ar L D.xb D.tX D.cs/\L.heap[D.kb]? =w.heap[D.kb]?):=⟨fE.st.sx,C.ae _ s⟩;refine hK.ae _ _ (fun _=>bB.ae) ?_;clear hK M I P BQ;have aH:=bB;refine ax 5 45 ?_;refine ax 6 39 ?_;refine ax 7 46 ?_;refine ax 8 47 ?_;obtain⟨k0,k1,k2,k3⟩:=Z.four;obtain⟨f0,f1,f2,f3⟩:=Z.eX;obtain⟨W9,Dl,BQ9,kX⟩:=Z.Cl (.bool v0) (.slice V0 v1 v2) (.bool t0) (.slice T0 t1 t2);have WM:=af Dl;have B:=af (s.only kX hwd);have GK:=af (alB y kX mG Z Od);clear Dl;refine aO 10 ?_;intro K hK;go_simp;rw[WM.ae];refine hK.ae _ _ (fun _=>⟨(HST.fB aN B).st.sx,C.ae _ B⟩) ?_;clear hK k0 k1 k2 k3 f0 f1 f2 f3;refine aO 11 ?_;intro K hK;go_simp;refine hK.ae _ _ (fun _=>⟨(HST.fB aN B).st.sx,C.ae _ B⟩) ?_;refine b_ Ok ?_;clear hK;go_wp2_with fail
   go_meet;exact⟨_,rfl,rfl,BQ9,B,GK⟩
 case rest=>
 obtain⟨n,rfl,rfl,BQ,s,y⟩:=hcut;generalize wc=L at*;have fE:=af (HST.fB aN s);have J:=af (BZ.ext s);clear BZ;cases m with
 |true=>have HU:=af ((DG rfl).ext s.ae);obtain⟨q0,q1,q2,q3⟩:=BQ.four;obtain⟨f0,f1,f2,f3⟩:=J.eX;obtain⟨j0,j1,j2,j3⟩:=J.four;go_wp2_with fail;refine sW rfl rfl rfl J.ae HU (fun u W' h1 h2=> ?_);have h3:=fE.past aN h2 J Od hw0 Om Om Om Om;have h4:=(gT (S:= [D.nb,D.sb,D.kb]) (cG.trans s)).only h2 (.inr (aK _));first|exact⟨u,rfl,h1,cur,h3,fun _ _=>rfl,h4⟩|exact⟨u,cur,rfl,by rw[hF];exact h1,h3,fun _ _=>rfl,h4⟩
 |false=>
  clear BQ;have c5:=fE.st.sx.cell Vh;have c6:=fE.st.sx.cell hz6;have c7:=fE.st.sx.cell NU;have c8:=fE.st.sx.cell Vg;go_upto_region 12 with fail
  refine EX (hz.ext fE.st.ex) fun wo X Pz _=> ?_;have Oo:w.heap.size<=L.heap.size:=s.size;have Y:=af (s.trans X);have uZ:=af (fE.fB aN X);have pR:=af (J.ext X);have O:=af (Bp y (gT (S:= []) X) Ou);clear c5 c6 c7 c8;have s:=Y;have fE:=uZ;have J:=pR;have y:=O;generalize L.heap.size=ob at*;generalize wo=L at*;have sA:=af (ann D.tX D.cs D.xb D.jb D.nb D.sb v D.x D.T cur (bE D.p v) D.fv D.fx D.w0 L fE.st uy hv aN.cf aN.Uo (aN.wk.ne v hv) aN.r6 a12 (fun l hl=>a7 (aN.tl l hl) Od));open aq5 in exact m24):=h
def aq9.k68(h:aq:=by
 clear hsz hb1 hx1 zi;go_upto_region 4 with fail
 clear c2 ck2 nv;go_loopw [7,25] (fun _ v25 wr=>∃k:Nat,k<=kl/\v25=av k/\ah (IsBuilder tB t8 w.heap.size w.heap.size (byteCells (UInt8.ofNat v::jW ((kl.take k).map cur))) wr)/\ah (Ext w wr)) (fun _ v25 _=>kl - (RowKit.intOf v25).toNat);exact⟨0,aV _,rfl,oT,bQ⟩;obtain⟨k,hk,rfl,oT,bQ⟩:=hrel;by_cases zt:k<kl
 ·open aq8 in exact m31
 ·open aq6 in exact m94):=h
def aq'.k30(h:aq:=by
 obtain⟨kl,N⟩:∃kl,D.key v=kl:=⟨_,rfl⟩;have UC:=af N;rw[N] at dR vg Xq Pt nv GF DJ wI;clear h N uP hB;go_upto_region 2 with fail
 refine aT fun W HX BB=> ?_;have PE:ah (IsBuilder tB t8 w.heap.size w.heap.size [] W):= .inl ⟨aK _,_,BB,mQ _ _ _ _,by simp [Value.ownBlock]⟩;have hsz:w.heap.size<=W.heap.size:=HX.size;clear BB;open aq9 in exact m68):=h
def aq_.afJ(h:aq:=by open aq' in exact m30):=h
def ani{D:Pw Rat}(ok:iA D 13 #[q])(hF:D.V=bX){v:Nat}(hv:v<D.dr){zb:Bool}{zb':Bool}{zc':Nat}(Vh:D.cs[5]? =some (.bool zb))(hz6:D.cs[6]? =some (.slice E b c))(NU:D.cs[7]? =some (.bool zb'))(Vg:D.cs[8]? =some (.slice F d zc'))(hz:bX D.w0 (.agg #[.bool zb,.slice E b c,.bool zb',.slice F d zc']) D.R.zero)(hB:KU D 19 20 238 v):Gf D 19 20 195 v:=by intro cur wy h0 uP;go_enter func195,ntmps195;open aq_ in exact afm
end Go.Proofs.YtadbchhdjbghkaaGreatDoor
