/- Texts of the proof, part 2. -/
import Derived.Test.YtadbchhdjbghkaaGreatDoorA1
namespace Go.Proofs.YtadbchhdjbghkaaGreatDoor
set_option maxHeartbeats 8000000
set_option linter.all false
set_option maxRecDepth 100000
variable{aq:Prop}
open Go.RowKit Go.Lib Go.Maps Go.ChangeShapes Go.WideShapes Go.ChangeAt Go.Proofs.Tryz
variable{a b c d e f g h:Nat}{i j k l:List Nat}{m n o:World}{p q r s:Value}{t u v:List Value}{w x:TypeId}{y z:Nat→Option Nat}{A:Nat→List Nat}{B C:Int}{E F:Option Addr}{H I:Rat}{J:Nat→Nat}{K:Nat→Bool}{L:List Int}{N:Array Bool}{O:Option Nat}{Q:Act}{R S:Bool}{T:List UInt8}
def mV{k:IntKind}{a:Int}(h:a=B):Ending.returned (.int k a)= .returned (.int k B):=by rw[h]
def amf{a:Bool}(h:a=R):Ending.returned (.bool a)= .returned (.bool R):=by rw[h]
def Tz(w:au)(a:Nat):∃n,w.drewN a=w.drewN n:=⟨a,rfl⟩
def IR(w:au)(a b:Nat):∃n,(w.drewN a).drewN b=w.drewN n:=⟨a+b,P6 _ _ _⟩
def Bb(w:au)(a b:Nat):(w.drewN a).drewN b=w.drewN (a+b):=P6 _ _ _
def Ty(w:au)(a b c:Nat):∃n,((w.drewN a).drewN b).drewN c=w.drewN n:=⟨a+(b+c),by rw[P6,P6]⟩
def M0{P:Program}{f:FuncId}{c:Array Value}{w:au}
 (h:Calls P f c (w.drewN b) fun e w'=>e= .returned p/\w.drewN b=w'):Calls P f c (w.drewN b) fun e d=>e= .returned p/\∃m,d=w.drewN m:=
 h.mono fun _ _ ⟨j,i⟩=>⟨j,b,i.symm⟩
def Kept(t:TypeId)(w w':au):Prop:=∀(g:Nat) (b:Array Value) (c:Nat×Nat),w.heap[g]? =some (.cells b t c)->w'.heap[g]? =some (.cells b t c)
abbrev Ext(w w':au):Prop:=Below w.heap.size w w'
def gS{w:au}{g:Nat}{o:Obj}(h:w.heap[g]? =some o):g<w.heap.size:=by
 rcases cA g w.heap.size with b|c
 ·exact b
 ·rw[x6 c] at h;cases h
def Kept.refl(t:TypeId)(w:au):Kept t w w:=fun _ _ _ h=>h
def kj:=@Kept.refl
def Kept.trans{t:TypeId}{a b:au}(h:Kept t a b)(k:Kept t b m):Kept t a m:=fun g d e f=>k g d e (h g d e f)
def Kept.je{t:TypeId}{w w':au}(h:Below w.heap.size w w'):Kept t w w':=fun g _ _ b=>(h.block g (gS b)).trans b
def Hl:=@Kept.je
def Kept.drew{t:TypeId}{a w:au}(h:Kept t a w):Kept t a w.drew:=h
def Kept.grown{t:TypeId}{w w':au}{size:Nat}(f:w.ownsRow b x size p c u)(m:w.grownBy w' p.ownBlock)(h:x≠t):Kept t w w':=by
 intro g s z d;refine(m.block g (gS d) ?_).trans d;rcases f.2 with⟨rfl,_⟩|⟨r,y,i,rfl,_,k,_⟩
 ·simp [Value.ownBlock]
 ·intro q;have:r=g:=by simpa [Value.ownBlock] using q.symm
  subst this;rw[k] at d;injection d with d;injection d with _ j;exact h j
def pZ:=@Kept.grown
def Ext.refl(w:au):Ext w w:=yE _ _
def aB:=@Ext.refl
def Ext.trans{a b:au}(h:Ext a b)(k:Ext b m):Ext a m:=qV h (Below.mono k h.size)
def Ext.alloc{a w:au}(h:Ext a w)(o:Obj):Ext a (w.alloc o):=Below.alloc h h.size o
def Ext.drew{a w:au}(h:Ext a w):Ext a w.drew:=Below.drew h
def Ext.drewN{a w:au}(h:Ext a w)(n:Nat):Ext a (w.drewN n):=⟨h.os,h.tape,h.output,h.size,h.block⟩
def Sl(w:au)(t:TypeId)(A:aR)(c:List Value):Prop:=
 ∀j u,c[j]? =some u->∃g o b d,A=some ⟨g,o,none⟩/\w.heap[g]? =some (.cells b t d)/\b[o+j]? =some u
def Sl.nil{w:au}{t:TypeId}:Sl w t E []:=fun j u h=>by simp at h
def Sl.keep{w w':au}{t:TypeId}(h:Sl w t E u)(f:Kept t w w'):Sl w' t E u:=fun j b e=>by obtain⟨g,o,c,d,m,i,k⟩:=h j b e;exact⟨g,o,c,d,m,f g c d i,k⟩
def Sl.ext{w w':au}{t:TypeId}(h:Sl w t E u)(b:Ext w w'):Sl w' t E u:=h.keep (.je b)
def Sl.at_{w:au}{t:TypeId}(h:Sl w t E v){k:Nat}{u:Value}(c:v[k]? =some u):∃g o,E=some ⟨g,o,none⟩/\g<w.heap.size/\w.cell? ⟨g,o+k,none⟩=some u:=by obtain⟨g,o,f,i,e,b,d⟩:=h k u c;exact⟨g,o,e,gS b,by simp [World.cell?,b,d]⟩
def Sl.take{w:au}{t:TypeId}{A:aR}(h:Sl w t A u)(k:Nat):Sl w t A (u.take k):=fun j b c=>h j b (by
 rw[YW] at c;split at c
 ·exact c
 ·cases c)
def Sl.apg{w:au}{t:TypeId}{size:Nat}(h:w.ownsRow b t size (.slice E d c) d u):Sl w t E u:=by
 intro j e f;rcases h.2 with⟨k,rfl⟩|⟨g,r,i,k,_,p,_,_,_,m⟩
 ·have:=h.1;simp at this;subst this;simp at f
 ·injection k with q;subst q;refine⟨g,0,i,(0,0),rfl,p,?_⟩;rw[<-m,YW] at f;split at f
  ·simpa using f
  ·cases f
def Ib:=@Sl.apg
def Sl.arz(w:au)(t:TypeId)(b:Array Value)(c:Nat×Nat):Sl (w.alloc (.cells b t c)) t (some ⟨w.heap.size,0,none⟩) b.toList:=fun j u d=>
 ⟨w.heap.size,0,b,c,rfl,heap_alloc_new w _,by simpa using d⟩
def Sl.new(w:au)(t:TypeId)(b:Array Value):Sl (w.alloc (.cells b t)) t (some ⟨w.heap.size,0,none⟩) b.toList:=Sl.arz w t b (0,0)
def ym(z:Value)(n:Nat):madeCells #[z] n=(List.replicate n z).toArray:=by
 apply Array.ext
 ·simp [madeCells]
 ·intro i c b;simp [madeCells,Nat.mod_one]
def ar(w:au)(g:Nat)(t:TypeId)(l:List Value):Prop:=w.heap[g]? =some (.cells l.toArray t (0,0))
section
variable{w w':au}{g:Nat}{t:TypeId}{l:List Value}
theorem ar.lt(h:ar w g t l):g<w.heap.size:=gS h
theorem ar.cell(h:ar w g t l){i:Nat}{u:Value}(b:l[i]? =some u):w.cell? ⟨g,i,none⟩=some u:=by unfold ar at h;simpa [World.cell?,h] using b
theorem ar.aF(h:ar w g t l)(i:Nat)(b:l[i]? =some p:=by(exact rfl)):w.cell? ⟨g,i,none⟩=some p:=h.cell b
theorem ah.aF(h:ah (ar w g t l))(i:Nat)(b:l[i]? =some p:=by(exact rfl)):w.cell? ⟨g,i,none⟩=some p:=ar.cell h b
theorem ar.frozen(h:ar w g t l)(i:Nat):w.frozen? ⟨g,i,none⟩=false:=by unfold ar at h;simp [World.frozen?,h]
theorem ar.new(w:au)(t:TypeId)(l:List Value):ar (w.alloc (.cells l.toArray t)) w.heap.size t l:=heap_alloc_new w _
def iT:=@ar.new
theorem ar.drew(h:ar w g t l):ar w.drew g t l:=h
theorem ar.drewN(h:ar w g t l)(n:Nat):ar (w.drewN n) g t l:=h
theorem ar.alloc(h:ar w g t l)(o:Obj):ar (w.alloc o) g t l:=(Below.heap_alloc w o g h.lt).trans h
theorem ar.bu(h:ar w g t l)(i:Nat)(u:Value):ar (w.setCell ⟨g,i,none⟩ u) g t (l.set i u):=by unfold ar at h⊢;simp [World.setCell,YN,h]
theorem ar.far(h:ar w g t l){p:Addr}(b:g≠p.block)(u:Value):ar (w.setCell p u) g t l:=(Ln w p u g b).trans h
theorem ar.ext(h:ar w g t l)(b:Ext w w'):ar w' g t l:=(b.block g h.lt).trans h
theorem ar.sl(h:ar w g t l)(o:Nat):Sl w t (some ⟨g,o,none⟩) (l.drop o):=fun j u b=>
 ⟨g,o,l.toArray,(0,0),rfl,h,by simpa [D8] using b⟩
theorem Ext.setCell{a:au}(h:Ext a w){p:Addr}(b:a.heap.size<=p.block)(u:Value):Ext a (w.setCell p u):=Below.setCell h b u
end
def ar.Bh{w:au}{g:Nat}{t:TypeId}{l:List Value}(h:ar w g x l)(c:x≠t)(i:Nat)(u:Value):Kept t w (w.setCell ⟨g,i,none⟩ u):=by intro f j k b;refine(Ln w ⟨g,i,none⟩ u f ?_).trans b;rintro rfl;unfold ar at h;rw[h] at b;injection b with b;injection b with _ d;exact c d
def ar.qh{w:au}{g:Nat}{t:TypeId}{l:List Value}(h:ar w g x l)(b:x≠t)(i j:Nat)(u v:Value):Kept t w ((w.setCell ⟨g,i,none⟩ u).setCell ⟨g,j,none⟩ v):=
 (h.Bh b i u).trans ((h.bu i u).Bh b j v)
def ar.E6{w:au}{g:Nat}{t:TypeId}{l:List Value}(h:ar w g x l)(c:x≠t)(i j m n:Nat)(u v b y:Value):
 Kept t w ((((w.setCell ⟨g,i,none⟩ u).setCell ⟨g,j,none⟩ v).setCell ⟨g,m,none⟩ b).setCell ⟨g,n,none⟩ y):=
 (h.qh c i j u v).trans (((h.bu i u).bu j v).qh c m n b y)
abbrev Only(g:Nat)(w w':au):Prop:=w.grownBy w' (some g)
section
variable{a w w':au}{g:Nat}
theorem Only.refl(g:Nat)(w:au):Only g w w:=YS w _
def ig:=@Only.refl
theorem Only.drewN(h:Only g a w)(n:Nat):Only g a (w.drewN n):=⟨h.os,h.tape,h.output,h.size,h.block⟩
theorem Only.drew(h:Only g a w):Only g a w.drew:=⟨h.os,h.tape,h.output,h.size,h.block⟩
theorem Only.bu(h:Only g a w)(i:Nat)(u:Value):Only g a (w.setCell ⟨g,i,none⟩ u):=
 ⟨h.os,h.tape,h.output,by simpa [World.setCell] using h.size,fun j c b=>(Ln w ⟨g,i,none⟩ u j (by rintro rfl;exact b rfl)).trans (h.block j c b)⟩
theorem Sl.only{t:TypeId}(h:Sl w t (some ⟨b,c,none⟩) v)(m:Only g w w')(d:b≠g):Sl w' t (some ⟨b,c,none⟩) v:=fun j u k=>by obtain⟨r,o,f,q,e,i,n⟩:=h j u k;injection e with e;injection e with p h2;subst p h2;exact⟨b,c,f,q,rfl,(m.block b (gS i) awq).trans i,n⟩
theorem ar.only{t:TypeId}{l:List Value}(h:ar w b t l)(d:Only g w w')(c:b≠g):ar w' b t l:=(d.block b h.lt avT).trans h
theorem Ext.only(h:Ext a w)(d:Only g w w')(c:a.heap.size<=g):Ext a w':=ud h d h.size (fun k b=>by injection b with b;omega)
end
def Sl.amD{w:au}(h:∀j b,u[j]? =some b->∃d,E=some d/\w.cell? (d.add j)=some b):∃t,Sl w t E u:=by
 rcases u with _|⟨x,r⟩
 ·exact⟨0,Sl.nil⟩
 ·obtain⟨d,rfl,c⟩:=h 0 x rfl;have s:d.add 0=d:=by simp [Addr.add]
  rw[s] at c;obtain⟨g,o,n⟩:=d;unfold World.cell? at c;dsimp only at c;split at c
  ·rename_i k t v m;split at c
   ·cases c
   ·rename_i q;have f:n=none:=by simpa using q
    subst f;refine⟨t,fun j b p=>⟨g,o,k,v,rfl,m,?_⟩⟩;obtain⟨d,i,e⟩:=h j b p;injection i with i;subst i;rw[LO] at e;simpa [World.cell?,m] using e
  ·cases c
def ej{w:au}{base:Nat}{t:TypeId}{size:Nat}(h:w.ownsRow base t size p b u):
 ∃A c,p= .slice A b c/\b<=c/\c<=maxLen/\Sl w t A u:=by
 rcases h.2 with⟨rfl,rfl⟩|⟨g,d,i,rfl,q,m,f,e,k,j⟩
 ·exact⟨none,0,rfl,aK _,by unfold maxLen;omega,Ib (c:=0) h⟩
 ·exact⟨some ⟨g,0,none⟩,d,rfl,f,e,Ib (c:=d) h⟩
structure jG(P:Program)(t e:TypeId)(size bytes:Nat):Prop where
 ht:P.underlying t=some (.slice e)
 inf:∃i z,P.info? e=some i/\i.zero=some z/\i.size=size/\i.bytes=bytes/\z.cells.size=size
 pos:0<size
 Uq:0<bytes
def jG.mk'{P:Program}{t:TypeId}{size bytes:Nat}{z:Value}(c:P.underlying t=some (.slice x))(f:(P.info? x).map (fun i=>(i.zero,i.size,i.bytes))=some (some z,size,bytes))
 (b:z.cells.size=size) (d:0<size) (h:0<bytes):jG P t x size bytes:=by
 obtain⟨i,n,m,k,j⟩:=info_parts f;exact⟨c,⟨i,z,n,m,k,j,b⟩,d,h⟩
def grownBy_alloc{w w':au}{o:Obj}(h:(w.alloc o).grownBy w' O):w.grownBy w' O:=
 ⟨h.os,h.tape,h.output,a7 Ou h.size,fun i c b=>(h.block i Oc b).trans (Below.heap_alloc w o i c)⟩
section
variable{P:Program}{ops:Array Oper}{rest:List Oper}{o:Oper}{a:Act}{Q:Exit->Act->World->Prop}{w:au}
def q1.afw(h:aq:=by refine wpList_append_own_none y s b t J d x i size T.ht K v n B I f H ?_;have:=h v w awp (YS w _) (.inl rfl);exact this):=h
theorem AO(y:o.guard=none)(s b:Operand)(t:TypeId)
 (J:o.op= .call {callee:= .builtin .append,args:= #[s,b],argTypes:= #[t,t]})
 (d:Nat) {size bytes:Nat} (T:jG P t x size bytes)
 (v:Value) (n:Nat) (B:List Value) (I:a.eval s=v) (f:w.ownsRow d x size v n B)
 (A:aR) (m c:Nat) (news:List Value) (H:a.eval b= .slice A m c) (hc:A=none->c=0) (hl:news.length=m*size) {L:TypeId} (hnews:Sl w L A news) (W:∀u∈news,u.oneCell'=true)
 (k:(n+m)*bytes<=140737488355328) (p:d<=w.heap.size)
 (h:∀q w',w'.ownsRow d x size q (n+m) (B++news)->w.grownBy w' v.ownBlock->(q.ownBlock=v.ownBlock\/q.ownBlock=some w.heap.size)->wpList P ops Q rest (a.put o.dst q) w'):
 wpList P ops Q (o::rest) a w:=by
 obtain⟨i,z,K,M,E,D,C⟩:=T.inf;have F:n+m<=maxLen:=(by have O:=T.Uq;have:=G7 (n+m) O;unfold maxLen;omega)
 rcases A with _|Y
 ·open q1 in exact arC
 ·refine wpList_append_own_at _ y s b t J d x i z size bytes T.ht K M E D C T.pos v n B I f Y m c news H hl ?_ W F k p (fun q w' V U _ S=>h q w' V U S);intro j u N;obtain⟨g,o',X,Z,hA,R,G⟩:=hnews j u N;injection hA with hA;subst hA;rw[LO];simp [World.cell?,R,G]
theorem ahv(y:o.guard=none)(d s:Operand)(dT C:TypeId)
 (K:o.op= .call {callee:= .builtin .copy,args:= #[d,s],argTypes:= #[dT,C]}) (b:TypeId) (B:P.underlying dT=some (.slice b)) (q:(P.info? b).map (·.size)=some 1)
 (g e H O:Nat) (A:aR) (m c:Nat) (M:a.eval d= .slice (some ⟨g,e,none⟩) H O) (J:a.eval s= .slice A m c)
 (t:TypeId) (f:List Value) (F:ar w g t f) (k:List Value) (L:k.length=Nat.min m H) (n:Sl w x A k) (z:e+k.length<=f.length) (T:∀v∈k,v.oneCell'=true)
 (h:∀w',ah (ar w' g t (f.take e++(k++f.drop (e+k.length))))->Only g w w'->wpList P ops Q rest (a.put o.dst (goInt k.length)) w'):wpList P ops Q (o::rest) a w:=by
 by_cases N:k.length=0
 ·obtain rfl:k= []:=mh N;refine wpList_copy_nothing y d s dT C K b B q _ _ _ _ _ _ M J (by simpa using L.symm) ?_;exact h w (show ar _ _ _ _ by simpa using F) (ig _ _)
 ·have p:∃I,A=some I:=by
   rcases k with _|⟨u,r⟩
   ·simp at N
   ·obtain⟨U,S,_,_,p,_⟩:=n 0 u rfl;exact⟨_,p⟩
  obtain⟨I,rfl⟩:=p;refine wpList_copy_own y d s dT C K b B q g e H O I m c M J f.toArray t F k L ?_ (by simpa using z) T ?_
  ·intro j u B;obtain⟨U,S,R,V,p,E,G⟩:=n j u B;injection p with p;subst p;rw[LO];simp [World.cell?,E,G]
  ·refine h _ ?_ ?_
   ·exact(show ar _ _ _ _ from by unfold ar;simpa using setRow_heap w g _ _ t _ F)
   ·exact⟨rfl,rfl,rfl,by simp [World.setRow],fun i _ D=>setRow_other w g i _ (by rintro rfl;exact D rfl)⟩
theorem gQ(q:o.guard=none)(s b:Operand)(t:TypeId)
 (z:o.op= .call {callee:= .builtin .append,args:= #[s,b],argTypes:= #[t,t]})
 (d:Nat) {size bytes:Nat} (T:jG P t x size bytes)
 (v:Value) (n:Nat) (p:List Value) (y:a.eval s=v) (k:w.ownsRow d x size v n p)
 (j:Array Value) (m c:Nat) (u:a.eval b= .slice (some ⟨w.heap.size,0,none⟩) m c) (A:j.size=m*size) (E:j.toList.all (·.oneCell')=true)
 (f:(n+m)*bytes<=140737488355328) (r:d<=w.heap.size)
 (h:∀i w',w'.ownsRow d x size i (n+m) (p++j.toList)->w.grownBy w' v.ownBlock->(i.ownBlock=v.ownBlock\/i.ownBlock=some (w.heap.size+1))->wpList P ops Q rest (a.put o.dst i) w'):
 wpList P ops Q (o::rest) a (w.alloc (.cells j x)):=
 AO q s b t z d T v n p y (k.alloc _) _ m c j.toList u Oe (by simpa using A) (Sl.new w x j)
  (sP.1 E) f Oc (fun i w' D C B=>h i w' D (grownBy_alloc C) (by simpa using B))
end
section
variable{H:Type}{enc:TypeId×Value->H}{P:Program}
theorem ahk(u:laidOutB P=true)(w:Below m.heap.size m n):∀(b:List TypeId) (i:List Value) (j:List (DataW H)) (c:List MemPlace),
 (∀t∈b,P.readableRec t=true/\t<P.types.size)->DataW.TrodAll enc P m 0 (fun _=>true) true b i j c->(∀x∈c,x.block<m.heap.size)->(∀p∈c,K p.block=true)->DataW.TrodAll enc P n 0 K true b i j c:=by
 intro b;induction b with
 |nil=>intro i j c _ h _ _;obtain⟨rfl,rfl,rfl⟩:=trodAll_nil h;exact trodAll_mk0
 |cons t b s=>intro i j c o h g f;obtain⟨v,k,d,l,p,q,rfl,rfl,rfl,z,y⟩:=trodAll_cons h;have e:=o t Ou;refine trodAll_cons_mk (WideElems.Trod_stays u e.1 e.2 z (fun x a=>w.same (g x avS)) (fun x a=>f x avS)) ?_;exact s k l q (fun r A=>o r (by simp [A])) y (fun x a=>g x avS) (fun x a=>f x avS)
theorem akw(L:laidOutB P=true){f:Func}{s:ChangeSpec}(E:s.vars= [])(y:P.underlying w=some .bool)(F:f.resultTypes= #[w])
 (A:∀t∈f.params.toList,P.readableRec t=true/\t<P.types.size) {args:Array Value} {l J:List (DataW H)} {a:List MemPlace}
 (hW:DataW.Whole enc P f.params.toList s.vars false m args.toList l J a)
 (k:s.fn H (l++J)={results:= [.lit (.bool true)],args:=l}) (B:(f.resultTypes.size=1)->∀(j:Nat) (t:TypeId) (r:Value),f.resultTypes[j]? =some t->((Value.bool true).resultList f.resultTypes.size)[j]? =some r->Value.okWide P n .any 0 t r) (C:Below m.heap.size m n):s.post enc P f false true false false m args (.bool true) n:=by
 have i:∀p∈a,p.block<m.heap.size:=fun p A=>hW.lt p A;have D:=hW;obtain⟨p,q,N,I,rfl,K,O⟩:=hW;rw[E] at I;obtain⟨rfl,rfl⟩:=trodVars_none I;have e:∀g:Nat->Bool,(∀x∈p++ [],g x.block=true)->DataW.TrodAll enc P n 0 g true f.params.toList args.toList (s.fn H (l++ [])).args p:=(by intro g z;rw[k];exact ahk L C _ _ _ _ A N (fun x c=>i x awh) (fun x c=>z x awh))
 have h:∀(b:Nat) (g:Nat->Bool) (G:Bool),DataW.TrodAll enc P n b g G f.resultTypes.toList ((Value.bool true).resultList f.resultTypes.size) (s.fn H (l++ [])).results []:=(by intro b g G;rw[k,F];exact trodAll_cons_mk (shut_bool y true) trodAll_mk0);have d:∀g:Nat->Bool,DataW.TrodVars enc P n g s.vars (s.fn H (l++ [])).vars []:=(by intro g;rw[k,E];rfl);have u:∀x∈p++ [],(fun b=>decide (b<m.heap.size)) x.block=true:=fun x c=>by simpa using i x c
 refine⟨l,[],p++ [],[],p,[],D,h _ _ _,e _ u,d _,World.keptBut_mono (fun x c=>⟨c,Or.inr ?_⟩) (C.frame (·∈p++ [])),fun _=> ?_⟩
 ·simpa using c
 ·refine⟨B (by rw[F];rfl),_,_,([]++p)++ [],⟨[]++p,[],trodAll_append (e _ (fun _ _=>rfl)) (h _ _ _),d _,rfl,?_,?_⟩,?_⟩
  ·intro b o c;have v:MemPlace.cell b o∈p++ []:=avT;rw[C.frozen (i _ v)];exact K b o v
  ·intro M;cases M
  ·intro x c _;simpa using c
theorem alV(n:Int)(a:(Lit.int .u8 n).wf=true):∃y:UInt8,n=(y.toNat:Int):=by have b:0<=n/\n<=255:=(by rw[Lit.wf,cZ] at a;exact⟨of_decide_eq_true a.1,of_decide_eq_true a.2⟩);refine⟨UInt8.ofNat n.toNat,?_⟩;simp only[PZ];have c:n.toNat%2^8=n.toNat:=sN Om;rw[c];omega
theorem ah0{f:List (String×DataW Unit)}{k:IntKind}{d:String}(p:(f.all fun c=>c.2.handleName?.isNone)=true)(r:f.filter (fun c=>c.1==d)= [(d,Lib.tabData k L)])
 (q:P.globalNamed d=some a) (i:(P.globals[a]?).map (·.type)=some w) (o:P.underlying w=some (.array b x)) (s:P.underlying x=some (.int k)) (hce:P.cellsOf x=1) (j:P.cellsOf w=b)
 (h:laidMetH P f m):Lib.TabIs P m d k L:=by
 rw[MakeChecks.laidMetH_plain _ _ _ p] at h;have l:=h.filter (fun c=>c.1==d);rw[r] at l;exact Lib.tabIs_of_head q i o s hce j l
theorem akM{r:Reach}{k:IntKind}{d:DataW H}{I:List MemPlace}(C:P.underlying w=some (.slice x))(O:P.underlying x=some (.int k))(Q:P.cellsOf x=1)
 (K:Value.okWide P m r a w p) (h:DataW.Trod enc P m 0 (fun _=>true) true w p d I):
 ∃(A:aR) (i:List Int) (c:Nat),p= .slice A i.length c/\(A=none->c=0)/\i.length<=c/\c<=maxLen/\(∀n∈i,(Lit.int k n).wf=true)/\(∀j (E:j<i.length),∃G,A=some G/\m.cell? (G.add j)=some (.int k i[j])):=by
 obtain⟨F,N⟩:=h;have g:p.cells.toList= [p]:=(by obtain⟨f,y,z,rfl⟩:=okWide_slice C K;rfl)
 rcases open_ints C O Q N with⟨l,_⟩|⟨b,s,B,i,l,_,D,M,J,_,q,u⟩
 ·rw[g] at l;injection l with l;exact⟨none,[],0,l,fun _=>rfl,by simp,by unfold maxLen;omega,by simp,by simp⟩
 ·rw[g] at l;injection l with l;have o:s<=i.length:=by rw[J];simp;exact D
  refine⟨some b,i.take s,B,by rw[l,cJ,iR o],Oe,by rw[cJ,iR o];exact D,M,fun n L=>u n (oW L),fun j E=> ?_⟩;rw[cJ,iR o] at E;refine⟨b,rfl,?_⟩;rw[q j Om,D9];simp [fh,aX (show j<i.length by omega)]
end
end Go.Proofs.YtadbchhdjbghkaaGreatDoor
