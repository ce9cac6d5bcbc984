/- Texts of the proof, part 2. -/
import Derived.Test.YthfffpcmldipgaaGreatDoorA1
namespace Go.Proofs.YthfffpcmldipgaaGreatDoor
set_option maxHeartbeats 8000000
set_option linter.all false
set_option maxRecDepth 100000
variable{ai:Prop}
open Go.RowKit Go.Lib Go.Maps Go.ChangeShapes Go.WideShapes Go.ChangeAt Go.Proofs.Tryz
variable{a b c d e f g h:Nat}{i j k l:List Nat}{m n o:World}{p q r s:Value}{t u v:List Value}{w x:TypeId}{y z:Nat→Option Nat}{A:Nat→List Nat}{B C:Int}{E F:Option Addr}{H I:Rat}{J:Nat→Nat}{K:Nat→Bool}{L:List Int}{N:Array Bool}{O:Option Nat}{Q:Act}{R S:Bool}{T:List UInt8}
def pI{k:IntKind}{a:Int}(h:a=B):Ending.returned (.int k a)= .returned (.int k B):=by rw[h]
def aoM{a:Bool}(h:a=R):Ending.returned (.bool a)= .returned (.bool R):=by rw[h]
def WH(w:au)(a:Nat):∃n,w.drewN a=w.drewN n:=⟨a,rfl⟩
def Ll(w:au)(a b:Nat):∃n,(w.drewN a).drewN b=w.drewN n:=⟨a+b,Tj _ _ _⟩
def wj(w:au)(a b:Nat):(w.drewN a).drewN b=w.drewN (a+b):=Tj _ _ _
def WG(w:au)(a b c:Nat):∃n,((w.drewN a).drewN b).drewN c=w.drewN n:=⟨a+(b+c),by rw[Tj,Tj]⟩
def PY{P:Program}{f:FuncId}{c:Array Value}{w:au}
 (h:Calls P f c (w.drewN b) fun e w'=>e= .returned p/\w.drewN b=w'):Calls P f c (w.drewN b) fun e d=>e= .returned p/\∃m,d=w.drewN m:=
 h.mono fun _ _ ⟨j,i⟩=>⟨j,b,i.symm⟩
def Kept(t:TypeId)(w w':au):Prop:=∀(g:Nat) (b:Array Value) (c:Nat×Nat),w.heap[g]?=some (.cells b t c)->w'.heap[g]?=some (.cells b t c)
abbrev Ext(w w':au):Prop:=Below w.heap.size w w'
def ie{w:au}{g:Nat}{o:Obj}(h:w.heap[g]?=some o):g<w.heap.size:=by
 rcases cA g w.heap.size with b|c
 ·exact b
 ·rw[zS c] at h;cases h
def Kept.refl(t:TypeId)(w:au):Kept t w w:=fun _ _ _ h=>h
def jL:=@Kept.refl
def Kept.trans{t:TypeId}{a b:au}(h:Kept t a b)(k:Kept t b m):Kept t a m:=fun g d e f=>k g d e (h g d e f)
def Kept.jd{t:TypeId}{w w':au}(h:Below w.heap.size w w'):Kept t w w':=fun g _ _ b=>(h.block g (ie b)).trans b
def rL:=@Kept.jd
def Kept.drew{t:TypeId}{a w:au}(h:Kept t a w):Kept t a w.drew:=h
def Kept.grown{t:TypeId}{w w':au}{size:Nat}(f:w.ownsRow b x size p c u)(m:w.grownBy w' p.ownBlock)(h:x≠t):Kept t w w':=by
 intro g s z d;refine(m.block g (ie d) ?_).trans d;rcases f.2 with⟨rfl,_⟩|⟨r,y,i,rfl,_,k,_⟩
 ·simp [Value.ownBlock]
 ·intro q;have:r=g:=by simpa [Value.ownBlock] using q.symm
  subst this;rw[k] at d;injection d with d;injection d with _ j;exact h j
def jW:=@Kept.grown
def Ext.refl(w:au):Ext w w:=AH _ _
def aC:=@Ext.refl
def Ext.trans{a b:au}(h:Ext a b)(k:Ext b m):Ext a m:=sZ h (Below.mono k h.size)
def Ext.alloc{a w:au}(h:Ext a w)(o:Obj):Ext a (w.alloc o):=Below.alloc h h.size o
def Ext.drew{a w:au}(h:Ext a w):Ext a w.drew:=Below.drew h
def Ext.drewN{a w:au}(h:Ext a w)(n:Nat):Ext a (w.drewN n):=⟨h.os,h.tape,h.output,h.size,h.block⟩
def Sl(w:au)(t:TypeId)(A:aS)(c:List Value):Prop:=
 ∀j u,c[j]?=some u->∃g o b d,A=some ⟨g,o,none⟩/\w.heap[g]?=some (.cells b t d)/\b[o+j]?=some u
def Sl.nil{w:au}{t:TypeId}:Sl w t E []:=fun j u h=>by simp at h
def Sl.keep{w w':au}{t:TypeId}(h:Sl w t E u)(f:Kept t w w'):Sl w' t E u:=fun j b e=>by obtain⟨g,o,c,d,m,i,k⟩:=h j b e;exact⟨g,o,c,d,m,f g c d i,k⟩
def Sl.ext{w w':au}{t:TypeId}(h:Sl w t E u)(b:Ext w w'):Sl w' t E u:=h.keep (.jd b)
def Sl.at_{w:au}{t:TypeId}(h:Sl w t E v){k:Nat}{u:Value}(c:v[k]?=some u):∃g o,E=some ⟨g,o,none⟩/\g<w.heap.size/\w.cell? ⟨g,o+k,none⟩=some u:=by obtain⟨g,o,f,i,e,b,d⟩:=h k u c;exact⟨g,o,e,ie b,by simp [World.cell?,b,d]⟩
def Sl.take{w:au}{t:TypeId}{A:aS}(h:Sl w t A u)(k:Nat):Sl w t A (u.take k):=fun j b c=>h j b (by
 rw[aax] at c;split at c
 ·exact c
 ·cases c)
def Sl.arO{w:au}{t:TypeId}{size:Nat}(h:w.ownsRow b t size (.slice E d c) d u):Sl w t E u:=by
 intro j e f;rcases h.2 with⟨k,rfl⟩|⟨g,r,i,k,_,p,_,_,_,m⟩
 ·have:=h.1;simp at this;subst this;simp at f
 ·injection k with q;subst q;refine⟨g,0,i,(0,0),rfl,p,?_⟩;rw[<-m,aax] at f;split at f
  ·simpa using f
  ·cases f
def wm:=@Sl.arO
def Sl.auK(w:au)(t:TypeId)(b:Array Value)(c:Nat×Nat):Sl (w.alloc (.cells b t c)) t (some ⟨w.heap.size,0,none⟩) b.toList:=fun j u d=>
 ⟨w.heap.size,0,b,c,rfl,heap_alloc_new w _,by simpa using d⟩
def Sl.new(w:au)(t:TypeId)(b:Array Value):Sl (w.alloc (.cells b t)) t (some ⟨w.heap.size,0,none⟩) b.toList:=Sl.auK w t b (0,0)
def Ai(z:Value)(n:Nat):madeCells #[z] n=(List.replicate n z).toArray:=by
 apply Array.ext
 ·simp [madeCells]
 ·intro i c b;simp [madeCells,Nat.mod_one]
def ar(w:au)(g:Nat)(t:TypeId)(l:List Value):Prop:=w.heap[g]?=some (.cells l.toArray t (0,0))
section
variable{w w':au}{g:Nat}{t:TypeId}{l:List Value}
theorem ar.lt(h:ar w g t l):g<w.heap.size:=ie h
theorem ar.cell(h:ar w g t l){i:Nat}{u:Value}(b:l[i]?=some u):w.cell? ⟨g,i,none⟩=some u:=by unfold ar at h;simpa [World.cell?,h] using b
theorem ar.aD(h:ar w g t l)(i:Nat)(b:l[i]?=some p:=by(exact rfl)):w.cell? ⟨g,i,none⟩=some p:=h.cell b
theorem ah.aD(h:ah (ar w g t l))(i:Nat)(b:l[i]?=some p:=by(exact rfl)):w.cell? ⟨g,i,none⟩=some p:=ar.cell h b
theorem ar.frozen(h:ar w g t l)(i:Nat):w.frozen? ⟨g,i,none⟩=false:=by unfold ar at h;simp [World.frozen?,h]
theorem ar.new(w:au)(t:TypeId)(l:List Value):ar (w.alloc (.cells l.toArray t)) w.heap.size t l:=heap_alloc_new w _
def kq:=@ar.new
theorem ar.drew(h:ar w g t l):ar w.drew g t l:=h
theorem ar.drewN(h:ar w g t l)(n:Nat):ar (w.drewN n) g t l:=h
theorem ar.alloc(h:ar w g t l)(o:Obj):ar (w.alloc o) g t l:=(Below.heap_alloc w o g h.lt).trans h
theorem ar.bu(h:ar w g t l)(i:Nat)(u:Value):ar (w.setCell ⟨g,i,none⟩ u) g t (l.set i u):=by unfold ar at h⊢;simp [World.setCell,aan,h]
theorem ar.far(h:ar w g t l){p:Addr}(b:g≠p.block)(u:Value):ar (w.setCell p u) g t l:=(Oi w p u g b).trans h
theorem ar.ext(h:ar w g t l)(b:Ext w w'):ar w' g t l:=(b.block g h.lt).trans h
theorem ar.sl(h:ar w g t l)(o:Nat):Sl w t (some ⟨g,o,none⟩) (l.drop o):=fun j u b=>
 ⟨g,o,l.toArray,(0,0),rfl,h,by simpa [GH] using b⟩
theorem Ext.setCell{a:au}(h:Ext a w){p:Addr}(b:a.heap.size<=p.block)(u:Value):Ext a (w.setCell p u):=Below.setCell h b u
end
def ar.Ee{w:au}{g:Nat}{t:TypeId}{l:List Value}(h:ar w g x l)(c:x≠t)(i:Nat)(u:Value):Kept t w (w.setCell ⟨g,i,none⟩ u):=by intro f j k b;refine(Oi w ⟨g,i,none⟩ u f ?_).trans b;rintro rfl;unfold ar at h;rw[h] at b;injection b with b;injection b with _ d;exact c d
def ar.rZ{w:au}{g:Nat}{t:TypeId}{l:List Value}(h:ar w g x l)(b:x≠t)(i j:Nat)(u v:Value):Kept t w ((w.setCell ⟨g,i,none⟩ u).setCell ⟨g,j,none⟩ v):=
 (h.Ee b i u).trans ((h.bu i u).Ee b j v)
def ar.Ij{w:au}{g:Nat}{t:TypeId}{l:List Value}(h:ar w g x l)(c:x≠t)(i j m n:Nat)(u v b y:Value):
 Kept t w ((((w.setCell ⟨g,i,none⟩ u).setCell ⟨g,j,none⟩ v).setCell ⟨g,m,none⟩ b).setCell ⟨g,n,none⟩ y):=
 (h.rZ c i j u v).trans (((h.bu i u).bu j v).rZ c m n b y)
abbrev Only(g:Nat)(w w':au):Prop:=w.grownBy w' (some g)
section
variable{a w w':au}{g:Nat}
theorem Only.refl(g:Nat)(w:au):Only g w w:=aau w _
def ii:=@Only.refl
theorem Only.drewN(h:Only g a w)(n:Nat):Only g a (w.drewN n):=⟨h.os,h.tape,h.output,h.size,h.block⟩
theorem Only.drew(h:Only g a w):Only g a w.drew:=⟨h.os,h.tape,h.output,h.size,h.block⟩
theorem Only.bu(h:Only g a w)(i:Nat)(u:Value):Only g a (w.setCell ⟨g,i,none⟩ u):=
 ⟨h.os,h.tape,h.output,by simpa [World.setCell] using h.size,fun j c b=>(Oi w ⟨g,i,none⟩ u j (by rintro rfl;exact b rfl)).trans (h.block j c b)⟩
theorem Sl.only{t:TypeId}(h:Sl w t (some ⟨b,c,none⟩) v)(m:Only g w w')(d:b≠g):Sl w' t (some ⟨b,c,none⟩) v:=fun j u k=>by obtain⟨r,o,f,q,e,i,n⟩:=h j u k;injection e with e;injection e with p h2;subst p h2;exact⟨b,c,f,q,rfl,(m.block b (ie i) azH).trans i,n⟩
theorem ar.only{t:TypeId}{l:List Value}(h:ar w b t l)(d:Only g w w')(c:b≠g):ar w' b t l:=(d.block b h.lt ay7).trans h
theorem Ext.only(h:Ext a w)(d:Only g w w')(c:a.heap.size<=g):Ext a w':=vX h d h.size (fun k b=>by injection b with b;omega)
end
def Sl.ao'{w:au}(h:∀j b,u[j]?=some b->∃d,E=some d/\w.cell? (d.add j)=some b):∃t,Sl w t E u:=by
 rcases u with _|⟨x,r⟩
 ·exact⟨0,Sl.nil⟩
 ·obtain⟨d,rfl,c⟩:=h 0 x rfl;have s:d.add 0=d:=by simp [Addr.add]
  rw[s] at c;obtain⟨g,o,n⟩:=d;unfold World.cell? at c;dsimp only at c;split at c
  ·rename_i k t v m;split at c
   ·cases c
   ·rename_i q;have f:n=none:=by simpa using q
    subst f;refine⟨t,fun j b p=>⟨g,o,k,v,rfl,m,?_⟩⟩;obtain⟨d,i,e⟩:=h j b p;injection i with i;subst i;rw[OE] at e;simpa [World.cell?,m] using e
  ·cases c
def dZ{w:au}{base:Nat}{t:TypeId}{size:Nat}(h:w.ownsRow base t size p b u):
 ∃A c,p= .slice A b c/\b<=c/\c<=maxLen/\Sl w t A u:=by
 rcases h.2 with⟨rfl,rfl⟩|⟨g,d,i,rfl,q,m,f,e,k,j⟩
 ·exact⟨none,0,rfl,aK _,by unfold maxLen;omega,wm (c:=0) h⟩
 ·exact⟨some ⟨g,0,none⟩,d,rfl,f,e,wm (c:=d) h⟩
structure ko(P:Program)(t e:TypeId)(size bytes:Nat):Prop where
 ht:P.underlying t=some (.slice e)
 inf:∃i z,P.info? e=some i/\i.zero=some z/\i.size=size/\i.bytes=bytes/\z.cells.size=size
 pos:0<size
 XH:0<bytes
def ko.mk'{P:Program}{t:TypeId}{size bytes:Nat}{z:Value}(c:P.underlying t=some (.slice x))(f:(P.info? x).map (fun i=>(i.zero,i.size,i.bytes))=some (some z,size,bytes))
 (b:z.cells.size=size) (d:0<size) (h:0<bytes):ko P t x size bytes:=by
 obtain⟨i,n,m,k,j⟩:=info_parts f;exact⟨c,⟨i,z,n,m,k,j,b⟩,d,h⟩
def grownBy_alloc{w w':au}{o:Obj}(h:(w.alloc o).grownBy w' O):w.grownBy w' O:=
 ⟨h.os,h.tape,h.output,a8 Ou h.size,fun i c b=>(h.block i Oc b).trans (Below.heap_alloc w o i c)⟩
section
variable{P:Program}{ops:Array Oper}{rest:List Oper}{o:Oper}{a:Act}{Q:Exit->Act->World->Prop}{w:au}
def q1.ahF(h:ai:=by refine wpList_append_own_none y s b t J d x i size T.ht K v n B I f H ?_;have:=h v w azG (aau w _) (.inl rfl);exact this):=h
theorem AC(y:o.guard=none)(s b:Operand)(t:TypeId)
 (J:o.op= .call {callee:= .builtin .append,args:= #[s,b],argTypes:= #[t,t]})
 (d:Nat) {size bytes:Nat} (T:ko P t x size bytes)
 (v:Value) (n:Nat) (B:List Value) (I:a.eval s=v) (f:w.ownsRow d x size v n B)
 (A:aS) (m c:Nat) (news:List Value) (H:a.eval b= .slice A m c) (hc:A=none->c=0) (hl:news.length=m*size) {L:TypeId} (hnews:Sl w L A news) (W:∀u∈news,u.oneCell'=true)
 (k:(n+m)*bytes<=140737488355328) (p:d<=w.heap.size)
 (h:∀q w',w'.ownsRow d x size q (n+m) (B++news)->w.grownBy w' v.ownBlock->(q.ownBlock=v.ownBlock\/q.ownBlock=some w.heap.size)->wpList P ops Q rest (a.put o.dst q) w'):
 wpList P ops Q (o::rest) a w:=by
 obtain⟨i,z,K,M,E,D,C⟩:=T.inf;have F:n+m<=maxLen:=(by have O:=T.XH;have:=JU (n+m) O;unfold maxLen;omega)
 rcases A with _|Y
 ·open q1 in exact agU
 ·refine wpList_append_own_at _ y s b t J d x i z size bytes T.ht K M E D C T.pos v n B I f Y m c news H hl ?_ W F k p (fun q w' V U _ S=>h q w' V U S);intro j u N;obtain⟨g,o',X,Z,hA,R,G⟩:=hnews j u N;injection hA with hA;subst hA;rw[OE];simp [World.cell?,R,G]
theorem ajQ(y:o.guard=none)(d s:Operand)(dT C:TypeId)
 (K:o.op= .call {callee:= .builtin .copy,args:= #[d,s],argTypes:= #[dT,C]}) (b:TypeId) (B:P.underlying dT=some (.slice b)) (q:(P.info? b).map (·.size)=some 1)
 (g e H O:Nat) (A:aS) (m c:Nat) (M:a.eval d= .slice (some ⟨g,e,none⟩) H O) (J:a.eval s= .slice A m c)
 (t:TypeId) (f:List Value) (F:ar w g t f) (k:List Value) (L:k.length=Nat.min m H) (n:Sl w x A k) (z:e+k.length<=f.length) (T:∀v∈k,v.oneCell'=true)
 (h:∀w',ah (ar w' g t (f.take e++(k++f.drop (e+k.length))))->Only g w w'->wpList P ops Q rest (a.put o.dst (goInt k.length)) w'):wpList P ops Q (o::rest) a w:=by
 by_cases N:k.length=0
 ·obtain rfl:k= []:=lH N;refine wpList_copy_nothing y d s dT C K b B q _ _ _ _ _ _ M J (by simpa using L.symm) ?_;exact h w (show ar _ _ _ _ by simpa using F) (ii _ _)
 ·have p:∃I,A=some I:=by
   rcases k with _|⟨u,r⟩
   ·simp at N
   ·obtain⟨U,S,_,_,p,_⟩:=n 0 u rfl;exact⟨_,p⟩
  obtain⟨I,rfl⟩:=p;refine wpList_copy_own y d s dT C K b B q g e H O I m c M J f.toArray t F k L ?_ (by simpa using z) T ?_
  ·intro j u B;obtain⟨U,S,R,V,p,E,G⟩:=n j u B;injection p with p;subst p;rw[OE];simp [World.cell?,E,G]
  ·refine h _ ?_ ?_
   ·exact(show ar _ _ _ _ from by unfold ar;simpa using setRow_heap w g _ _ t _ F)
   ·exact⟨rfl,rfl,rfl,by simp [World.setRow],fun i _ D=>setRow_other w g i _ (by rintro rfl;exact D rfl)⟩
theorem gG(q:o.guard=none)(s b:Operand)(t:TypeId)
 (z:o.op= .call {callee:= .builtin .append,args:= #[s,b],argTypes:= #[t,t]})
 (d:Nat) {size bytes:Nat} (T:ko P t x size bytes)
 (v:Value) (n:Nat) (p:List Value) (y:a.eval s=v) (k:w.ownsRow d x size v n p)
 (j:Array Value) (m c:Nat) (u:a.eval b= .slice (some ⟨w.heap.size,0,none⟩) m c) (A:j.size=m*size) (E:j.toList.all (·.oneCell')=true)
 (f:(n+m)*bytes<=140737488355328) (r:d<=w.heap.size)
 (h:∀i w',w'.ownsRow d x size i (n+m) (p++j.toList)->w.grownBy w' v.ownBlock->(i.ownBlock=v.ownBlock\/i.ownBlock=some (w.heap.size+1))->wpList P ops Q rest (a.put o.dst i) w'):
 wpList P ops Q (o::rest) a (w.alloc (.cells j x)):=
 AC q s b t z d T v n p y (k.alloc _) _ m c j.toList u Oe (by simpa using A) (Sl.new w x j)
  (uD.1 E) f Oc (fun i w' D C B=>h i w' D (grownBy_alloc C) (by simpa using B))
end
section
variable{H:Type}{enc:TypeId×Value->H}{P:Program}
theorem ajG(u:laidOutB P=true)(w:Below m.heap.size m n):∀(b:List TypeId) (i:List Value) (j:List (DataW H)) (c:List MemPlace),
 (∀t∈b,P.readableRec t=true/\t<P.types.size)->DataW.TrodAll enc P m 0 (fun _=>true) true b i j c->(∀x∈c,x.block<m.heap.size)->(∀p∈c,K p.block=true)->DataW.TrodAll enc P n 0 K true b i j c:=by
 intro b;induction b with
 |nil=>intro i j c _ h _ _;obtain⟨rfl,rfl,rfl⟩:=trodAll_nil h;exact trodAll_mk0
 |cons t b s=>intro i j c o h g f;obtain⟨v,k,d,l,p,q,rfl,rfl,rfl,z,y⟩:=trodAll_cons h;have e:=o t Ou;refine trodAll_cons_mk (WideElems.Trod_stays u e.1 e.2 z (fun x a=>w.same (g x ay5)) (fun x a=>f x ay5)) ?_;exact s k l q (fun r A=>o r (by simp [A])) y (fun x a=>g x ay5) (fun x a=>f x ay5)
theorem am3(L:laidOutB P=true){f:Func}{s:ChangeSpec}(E:s.vars= [])(y:P.underlying w=some .bool)(F:f.resultTypes= #[w])
 (A:∀t∈f.params.toList,P.readableRec t=true/\t<P.types.size) {args:Array Value} {l J:List (DataW H)} {a:List MemPlace}
 (hW:DataW.Whole enc P f.params.toList s.vars false m args.toList l J a)
 (k:s.fn H (l++J)={results:= [.lit (.bool true)],args:=l}) (B:(f.resultTypes.size=1)->∀(j:Nat) (t:TypeId) (r:Value),f.resultTypes[j]?=some t->((Value.bool true).resultList f.resultTypes.size)[j]?=some r->Value.okWide P n .any 0 t r) (C:Below m.heap.size m n):s.post enc P f false true false false m args (.bool true) n:=by
 have i:∀p∈a,p.block<m.heap.size:=fun p A=>hW.lt p A;have D:=hW;obtain⟨p,q,N,I,rfl,K,O⟩:=hW;rw[E] at I;obtain⟨rfl,rfl⟩:=trodVars_none I;have e:∀g:Nat->Bool,(∀x∈p++ [],g x.block=true)->DataW.TrodAll enc P n 0 g true f.params.toList args.toList (s.fn H (l++ [])).args p:=(by intro g z;rw[k];exact ajG L C _ _ _ _ A N (fun x c=>i x azz) (fun x c=>z x azz))
 have h:∀(b:Nat) (g:Nat->Bool) (G:Bool),DataW.TrodAll enc P n b g G f.resultTypes.toList ((Value.bool true).resultList f.resultTypes.size) (s.fn H (l++ [])).results []:=(by intro b g G;rw[k,F];exact trodAll_cons_mk (shut_bool y true) trodAll_mk0);have d:∀g:Nat->Bool,DataW.TrodVars enc P n g s.vars (s.fn H (l++ [])).vars []:=(by intro g;rw[k,E];rfl);have u:∀x∈p++ [],(fun b=>decide (b<m.heap.size)) x.block=true:=fun x c=>by simpa using i x c
 refine⟨l,[],p++ [],[],p,[],D,h _ _ _,e _ u,d _,World.keptBut_mono (fun x c=>⟨c,Or.inr ?_⟩) (C.frame (·∈p++ [])),fun _=> ?_⟩
 ·simpa using c
 ·refine⟨B (by rw[F];rfl),_,_,([]++p)++ [],⟨[]++p,[],trodAll_append (e _ (fun _ _=>rfl)) (h _ _ _),d _,rfl,?_,?_⟩,?_⟩
  ·intro b o c;have v:MemPlace.cell b o∈p++ []:=ay7;rw[C.frozen (i _ v)];exact K b o v
  ·intro M;cases M
  ·intro x c _;simpa using c
theorem aou(n:Int)(a:(Lit.int .u8 n).wf=true):∃y:UInt8,n=(y.toNat:Int):=by have b:0<=n/\n<=255:=(by rw[Lit.wf,cZ] at a;exact⟨of_decide_eq_true a.1,of_decide_eq_true a.2⟩);refine⟨UInt8.ofNat n.toNat,?_⟩;simp only[Ti];have c:n.toNat%2^8=n.toNat:=uB Om;rw[c];omega
theorem akn{f:List (String×DataW Unit)}{k:IntKind}{d:String}(p:(f.all fun c=>c.2.handleName?.isNone)=true)(r:f.filter (fun c=>c.1==d)= [(d,Lib.tabData k L)])
 (q:P.globalNamed d=some a) (i:(P.globals[a]?).map (·.type)=some w) (o:P.underlying w=some (.array b x)) (s:P.underlying x=some (.int k)) (hce:P.cellsOf x=1) (j:P.cellsOf w=b)
 (h:laidMetH P f m):Lib.TabIs P m d k L:=by
 rw[MakeChecks.laidMetH_plain _ _ _ p] at h;have l:=h.filter (fun c=>c.1==d);rw[r] at l;exact Lib.tabIs_of_head q i o s hce j l
theorem anl{r:Reach}{k:IntKind}{d:DataW H}{I:List MemPlace}(C:P.underlying w=some (.slice x))(O:P.underlying x=some (.int k))(Q:P.cellsOf x=1)
 (K:Value.okWide P m r a w p) (h:DataW.Trod enc P m 0 (fun _=>true) true w p d I):
 ∃(A:aS) (i:List Int) (c:Nat),p= .slice A i.length c/\(A=none->c=0)/\i.length<=c/\c<=maxLen/\(∀n∈i,(Lit.int k n).wf=true)/\(∀j (E:j<i.length),∃G,A=some G/\m.cell? (G.add j)=some (.int k i[j])):=by
 obtain⟨F,N⟩:=h;have g:p.cells.toList= [p]:=(by obtain⟨f,y,z,rfl⟩:=okWide_slice C K;rfl)
 rcases open_ints C O Q N with⟨l,_⟩|⟨b,s,B,i,l,_,D,M,J,_,q,u⟩
 ·rw[g] at l;injection l with l;exact⟨none,[],0,l,fun _=>rfl,by simp,by unfold maxLen;omega,by simp,by simp⟩
 ·rw[g] at l;injection l with l;have o:s<=i.length:=by rw[J];simp;exact D
  refine⟨some b,i.take s,B,by rw[l,cP,jJ o],Oe,by rw[cP,jJ o];exact D,M,fun n L=>u n (sR L),fun j E=> ?_⟩;rw[cP,jJ o] at E;refine⟨b,rfl,?_⟩;rw[q j Om,GI];simp [fG,aV (show j<i.length by omega)]
end
def B9:Nat:=1000000000
def val:List Nat->Nat
 | []=>0
 |x::r=>x+B9*val r
def bM(l:List Nat):Prop:=∀x∈l,x<B9
def ic(l:List Nat):Prop:=l.getLast?≠some 0
def Canon(l:List Nat):Prop:=bM l/\ic l
@[simp] theorem H7:val []=0:=rfl
@[simp] theorem nJ (x:Nat) (r:List Nat):val (x::r)=x+B9*val r:=rfl
def Hh(a b:List Nat):val (a++b)=val a+B9^a.length*val b:=by
 induction a with
 |nil=>simp
 |cons x a c=>simp only[uC,nJ,c,cW,fJ,gO];rw[eI (B9^a.length) B9,gF];omega
def pH(a:List Nat)(x:Nat):val (a++ [x])=val a+B9^a.length*x:=by simp [Hh]
def bM.nil:bM []:=by simp [bM]
def kJ:=@bM.nil
def bM.cons(h:a<B9)(c:bM i):bM (a::i):=by
 intro y b;rcases aI.1 b with rfl|d
 ·exact h
 ·exact c y d
def tj:=@bM.cons
def bM.head(h:bM (a::i)):a<B9:=h a Ou
def bM.tail(h:bM (a::i)):bM i:=fun y b=>h y azo
def bM.take(h:bM l)(k:Nat):bM (l.take k):=fun x a=>h x (sR a)
def bM.drop(h:bM l)(k:Nat):bM (l.drop k):=fun x a=>h x (Dz a)
def bM.append(e:bM i)(d:bM j):bM (i++j):=fun x c=>by
 rcases bQ.1 c with h|h
 ·exact e x h
 ·exact d x h
def bM.snoc{x:Nat}(c:bM i)(b:x<B9):bM (i++ [x]):=c.append (tj b kJ)
def bM.getElem(h:bM i){k:Nat}(a:k<i.length):i[k]<B9:=h _ Ou
def ar6(n:Nat):0<B9^n:=Nat.pow_pos Od
def kL(h:bM i):val i<B9^i.length:=by
 induction i with
 |nil=>simp
 |cons x i a=>
  have b:=a h.tail;have c:=h.head;simp only[nJ,cW,fJ];have:B9*val i+B9<=B9*B9^i.length:=by rw[<-Kd];exact jt _ b
  rw[eI (B9^i.length)];omega
def D1(h:∀x∈l,x=0):val l=0:=by
 induction l with
 |nil=>rfl
 |cons x l a=>simp only[nJ,h x Ou,a (fun y b=>h y azo)];rfl
def D2(l:List Nat)(k:Nat):val l=val (l.take k)+B9^(l.take k).length*val (l.drop k):=by rw[<-Hh,sQ]
def Oj(l:List Nat)(k:Nat)(h:∀x∈l.drop k,x=0):val (l.take k)=val l:=by rw[D2 l k,D1 h];simp
def Oy(l:List Nat)(k:Nat)(h:k<l.length):val (l.take (k+1))=val (l.take k)+B9^k*l[k]:=by rw[g9 h,pH,cP,jJ Om]
def ic.nil:ic []:=by simp [ic]
def ic.VP(a:0<i.length)(h:i[i.length - 1]≠0):ic i:=by unfold ic;rw[List.getLast?_eq_getElem?,aV Om];simpa using h
def ic.last(h:ic i)(a:0<i.length):i[i.length - 1]≠0:=by unfold ic at h;rw[List.getLast?_eq_getElem?,aV Om] at h;simpa using h
def ic.tail(h:ic (a::b::i)):ic (b::i):=by unfold ic at*;simpa using h
def ic.asa(h:ic (a::i)):ic i:=by
 cases i with
 |nil=>exact ic.nil
 |cons y i=>exact h.tail
def Canon.nil:Canon []:=⟨kJ,ic.nil⟩
def Canon.tail(h:Canon (a::i)):Canon i:=⟨h.1.tail,h.2.asa⟩
def GR(h:ic i)(b:0<i.length):B9^(i.length - 1)<=val i:=by have c:=h.last b;have a:=Oy i (i.length - 1) Om;rw[dA Om] at a;rw[a];have:B9^(i.length - 1)*1<=B9^(i.length - 1)*i[i.length - 1]:=jt _ Om;omega
def DJ(d:Canon i)(c:Canon j)(h:i.length<j.length):val i<val j:=by have g:=kL d.1;have f:=GR c.2 Om;have e:B9^i.length<=B9^(j.length - 1):=gM Od Om;omega
def aaZ(e:bM i)(g:i.length=j.length)(k:Nat)(d:k<i.length)(h:i[k]<j[k])(c:i.drop (k+1)=j.drop (k+1)):val i<val j:=by
 rw[D2 i (k+1),D2 j (k+1),c,Oy i k d,Oy j k Om,cP,cP,jJ Om,jJ Om];have f:=kL (e.take k);rw[cP,jJ Om] at f;have l:B9^k*i[k]+B9^k<=B9^k*j[k]:=by rw[<-Kd];exact jt _ h
 omega
def aa9(d:Canon i)(c:Canon j)(h:val i=val j):i=j:=by
 induction i generalizing j with
 |nil=>
  cases j with
  |nil=>rfl
  |cons y j=>have:=DJ d c Ou;simp only[H7] at*;omega
 |cons x i e=>
  cases j with
  |nil=>have:=DJ c d Ou;simp only[H7] at*;omega
  |cons y j=>
   have g:=d.1.head;have f:=c.1.head;simp only[nJ] at h;have l:x=y:=(by have:=congrArg (·%B9) h;simp only[Nat.add_mul_mod_self_left] at this;rwa[uB g,uB f] at this)
   have k:val i=val j:=by unfold B9 at h;omega
   rw[l,e d.tail c.tail k]
def val_eq_zero(h:Canon i)(a:val i=0):i= []:=aa9 h Canon.nil a
def Ej(h:Canon i)(b:i≠ []):0<val i:=by
 rcases i7 (val i) with a|a
 ·exact absurd (val_eq_zero h a) b
 ·exact a
def aj7(h:Canon i)(hv:val i<10^b):i.length<=b/9+1:=by
 rcases i7 i.length with d|d
 ·omega
 ·have j:=GR h.2 d;have c:B9^(i.length - 1)<10^b:=Om;have f:B9^(i.length - 1)=10^(9*(i.length - 1)):=by rw[Nat.pow_mul];rfl
  rw[f] at c;have g:=(Nat.pow_lt_pow_iff_right (a:=10) Od).1 c;omega
def limb(l:List Nat)(k:Nat):Nat:=l.getD k 0
def gP(h:a<i.length):limb i a=i[a]:=by rw[limb,fG,aV h];rfl
def qJ{k:Nat}(h:l.length<=k):limb l k=0:=by rw[limb,fG,fH h];rfl
def jv(l:List Nat)(k:Nat):val (l.take (k+1))=val (l.take k)+B9^k*limb l k:=by
 rcases cA k l.length with h|h
 ·rw[Oy l k h,gP h]
 ·rw[dA Om,dA h,qJ h];simp
def bM.getD(h:bM i)(k:Nat):limb i k<B9:=by
 rcases cA k i.length with a|a
 ·rw[gP a];exact h.getElem a
 ·rw[qJ a];decide
def pad(r:List Nat)(N:Nat):List Nat:=r++List.replicate (N - r.length) 0
def uI{r:List Nat}{N:Nat}(h:r.length<=N):(pad r N).length=N:=by simp [pad];omega
def aqH(x:Nat)(h:i.length<a):(pad i a).set i.length x=pad (i++ [x]) a:=by obtain⟨m,b⟩:∃m,a - i.length=m+1:=⟨a - i.length - 1,by omega⟩;have c:a - (i.length+1)=m:=Om;simp [pad,b,c,List.replicate_succ]
def Vk(h:i.length=a):pad i a=i:=by simp [pad,h]
def KQ(N:Nat):pad [] N=List.replicate N 0:=by simp [pad]
def U4(e:i.length=a)(h:val i+B9^a*b=val (j.take a)+val (k.take a))(d:c=limb j a+limb k a+b):
 val (i++ [c%B9])+B9^(a+1)*(c/B9)=val (j.take (a+1))+val (k.take (a+1)):=by
 rw[pH,e,jv,jv,fJ,gF];have g:B9^a*(c%B9)+B9^a*(B9*(c/B9))=B9^a*c:=by rw[<-gO,J6]
 have f:B9^a*c=B9^a*limb j a+B9^a*limb k a+B9^a*b:=by rw[d,gO,gO]
 omega
def ary(g:bM j)(f:bM k)(m:i.length=a)(o:a=max j.length k.length+1)(h:val i+B9^a*b=val (j.take a)+val (k.take a)):val i=val j+val k:=by
 rw[dA Om,dA Om] at h;have w:=kL g;have t:=kL f;have s:B9^j.length<=B9^(a - 1):=gM Od Om;have q:B9^k.length<=B9^(a - 1):=gM Od Om;have l:B9^a=B9^(a - 1)*B9:=azK;have p:B9^(a - 1)*2<=B9^a:=by rw[l];exact jt _ Od
 have e:b=0:=by
  rcases i7 b with d|d
  ·exact d
  ·have:B9^a*1<=B9^a*b:=jt _ d;omega
 subst e;omega
def acs(d:i.length=a)(h:val i+val (k.take a)=val (j.take a)+B9^a*b)(f:c+limb k a+b=limb j a+B9)(g:c/B9<=1):
 val (i++ [c%B9])+val (k.take (a+1))=val (j.take (a+1))+B9^(a+1)*(1 - c/B9):=by
 rw[pH,d,jv,jv,fJ,gF];have o:c%B9+B9*(c/B9)=c:=J6 c B9;have e:c%B9+limb k a+b=limb j a+B9*(1 - c/B9):=by generalize c/B9=q at*;generalize c%B9=m at*;have:q=0\/q=1:=Om;unfold B9 at*;rcases this with rfl|rfl<;>omega
 have l:B9^a*(c%B9)+B9^a*limb k a+B9^a*b=B9^a*limb j a+B9^a*(B9*(1 - c/B9)):=by rw[<-gO,<-gO,<-gO,e]
 omega
def GK(e:Canon i)(d:Canon j)(h:val j<=val i):j.length<=i.length:=by
 rcases cA i.length j.length with c|c
 ·have:=DJ e d c;omega
 ·exact c
def aeF(o:Canon j)(m:Canon k)(f:i.length=j.length)(g:bM i)(d:val k<=val j)(h:val i+val (k.take j.length)=val (j.take j.length)+B9^j.length*a):val i=val j - val k:=by
 rw[dA (GK o m d),dA (aK _)] at h;have p:=kL g;rw[f] at p;have l:a=0:=by
  rcases i7 a with e|e
  ·exact e
  ·have:B9^j.length*1<=B9^j.length*a:=jt _ e;omega
 subst l;omega
def UR(m:i.length=a+b)(h:val i+B9^(a+b)*c=val (j.take (a+b))+B9^a*(d*val (k.take b)))(g:f=limb j (a+b))(l:e=f+d*limb k b+c):
 val (i++ [e%B9])+B9^(a+(b+1))*(e/B9)=val (j.take (a+(b+1)))+B9^a*(d*val (k.take (b+1))):=by
 rw[pH,m,jv k b,<-DR,jv j (a+b),fJ,gF,<-g];have s:B9^(a+b)*(e%B9)+B9^(a+b)*(B9*(e/B9))=B9^(a+b)*e:=by rw[<-gO,J6]
 have q:B9^(a+b)*e=B9^(a+b)*f+B9^(a+b)*(d*limb k b)+B9^(a+b)*c:=by rw[l,gO,gO]
 have o:B9^a*(d*(val (k.take b)+B9^b*limb k b))=B9^a*(d*val (k.take b))+B9^(a+b)*(d*limb k b):=(by rw[gO,gO,rO,gF,aaC d (B9^b)]);omega
def Hc{x y:Nat}(b:x<B9)(a:y<B9):x*y<=999999998000000001:=by have:x*y<=999999999*999999999:=xN (by unfold B9 at b;omega) (by unfold B9 at a;omega);omega
def anu(d:i.length=a+l.length)(e:j.length=a+l.length)(hv:val j=val (k.take a)*val l)
 (h:val i+B9^(a+l.length)*b=val (j.take (a+l.length))+B9^a*(limb k a*val (l.take l.length))):val (i++ [b])=val (k.take (a+1))*val l:=by
 rw[dA Om,dA (aK _),hv] at h;rw[pH,d,h,jv k a,k9,gF]
def ako{rest:Nat}(e:a<i.length)(h:val (i.drop (a+1))=val j*b+rest)(f:c=rest*B9+limb i a):
 val (i.drop a)=val (c/b::j)*b+c%b:=by
 rw[i6 e,nJ,h,<-gP e,nJ,k9];have k:c/b*b+c%b=c:=Nat.div_add_mod' c b;have g:B9*(val j*b+rest)=B9*val j*b+rest*B9:=by rw[gO,gF,eI rest]
 omega
def aoD{rest:Nat}(c:rest<a)(e:b<B9):(rest*B9+b)/a<B9:=by rw[Tc Om];have:(rest+1)*B9<=a*B9:=fc _ c;rw[k9] at this;rw[eI B9 a];omega
def Ip:Nat->Nat->List Nat
 |0,_=> []
 |f+1,n=>if n=0 then [] else n%B9::Ip f (n/B9)
def a_(n:Nat):List Nat:=Ip n n
def acp(f n:Nat)(h:n<=f):Canon (Ip f n)/\val (Ip f n)=n:=by
 induction f generalizing n with
 |zero=>have:n=0:=Om
        subst this;exact⟨Canon.nil,rfl⟩
 |succ f d=>
  unfold Ip;split
  ·rename_i c;subst c;exact⟨Canon.nil,rfl⟩
  ·rename_i c;have e:n/B9<=f:=by have:n/B9<n:=Nat.div_lt_self Om Od;omega
   obtain⟨b,a⟩:=d (n/B9) e;refine⟨⟨tj (fg _ Od) b.1,?_⟩,?_⟩
   ·generalize g:Ip f (n/B9)=r at*;cases r with
    |nil=>simp only[H7] at a;unfold ic;simp only[List.getLast?_singleton,ne_eq,dG];have:=vQ n B9;rw[<-a] at this;omega
    |cons y r=>have:=b.2;unfold ic at*;simpa using this
   ·simp only[nJ,a];exact J6 n B9
def df(n:Nat):Canon (a_ n):=(acp n n (aK _)).1
def dm(n:Nat):val (a_ n)=n:=(acp n n (aK _)).2
def aeB(h:Canon i):a_ (val i)=i:=aa9 (df _) h (dm _)
def aox:a_ 0= []:=rfl
def Ty{n:Nat}(h:n<10^e):(a_ n).length<=e/9+1:=aj7 (df n) (by rwa[dm])
def uH{n:Nat}:a_ n= []↔n=0:=⟨fun h=>by rw[<-dm n,h];rfl,fun h=>by rw[h];rfl⟩
def val_two{v:List Nat}{n:Nat}(hn:2<=n)(f:v.length=n):val v=val (v.take (n - 2))+B9^(n - 2)*(limb v (n - 1)*B9+limb v (n - 2)):=by have b:=jv v (n - 2);have a:=jv v (n - 1);have e:n - 2+1=n - 1:=Om;have d:n - 1+1=n:=Om;rw[e] at b;rw[d,dA Om,b] at a;have c:B9^(n - 1)=B9^(n - 2)*B9:=azK;rw[a,c,gO,eI (limb v (n - 1)),<-gF];omega
def aci{u:List Nat}{n:Nat}(hn:2<=n)(h:u.length=n+1):val u=val (u.take (n - 2))+B9^(n - 2)*((limb u n*B9+limb u (n - 1))*B9+limb u (n - 2)):=by
 have c:=jv u (n - 2);have b:=jv u (n - 1);have a:=jv u n;have g:n - 2+1=n - 1:=Om;have f:n - 1+1=n:=Om;rw[g] at c;rw[f] at b;rw[dA Om] at a;have e:B9^(n - 1)=B9^(n - 2)*B9:=azK;have d:B9^n=B9^(n - 2)*B9*B9:=by rw[<-fJ,<-fJ];congr 1;omega
 rw[a,b,c,e,d];generalize B9^(n - 2)=P;grind
section
variable{u v:List Nat}{n:Nat}(hn:2<=n)(hv:v.length=n)(hu:u.length=n+1)(dv:bM v)(du:bM u)
include hn hv
theorem asT:(limb v (n - 1)*B9+limb v (n - 2))*B9^(n - 2)<=val v:=by rw[val_two hn hv,eI];omega
include dv in
theorem asU:val v<(limb v (n - 1)*B9+limb v (n - 2)+1)*B9^(n - 2):=by have h:=kL (dv.take (n - 2));rw[cP,jJ Om] at h;rw[val_two hn hv,k9,qK,eI];omega
theorem afB:limb v (n - 1)*B9^(n - 1)<=val v:=by have h:=jv v (n - 1);have a:n - 1+1=n:=Om;rw[a,dA Om] at h;rw[h,eI];omega
include dv in
theorem aoo:val v<(limb v (n - 1)+1)*B9^(n - 1):=by have h:=jv v (n - 1);have a:=kL (dv.take (n - 1));rw[cP,jJ Om] at a;have b:n - 1+1=n:=Om;rw[b,dA Om] at h;rw[h,k9,qK,eI];omega
end
section
variable{u:List Nat}{n:Nat}(hn:2<=n)(hu:u.length=n+1)(du:bM u)
include hn hu
theorem asV:((limb u n*B9+limb u (n - 1))*B9+limb u (n - 2))*B9^(n - 2)<=val u:=by rw[aci hn hu,eI];omega
include du in
theorem af6:val u<((limb u n*B9+limb u (n - 1))*B9+limb u (n - 2)+1)*B9^(n - 2):=by have h:=kL (du.take (n - 2));rw[cP,jJ Om] at h;rw[aci hn hu,k9 _ 1,qK,eI];omega
omit hn in
theorem ar':limb u n*B9^n<=val u:=by have h:=jv u n;rw[dA Om] at h;rw[h,eI];omega
include du in
theorem amz:val u<(limb u n*B9+limb u (n - 1)+1)*B9^(n - 1):=by have h:=af6 hn hu du;have b:=du.getD (n - 2);have a:B9^(n - 1)=B9*B9^(n - 2):=az2;rw[a,<-gF];refine cE h (fc _ ?_);rw[k9 _ 1];omega
end
structure Lt(u v:List Nat)(n q r:Nat):Prop where
 top:q*limb v (n - 1)+r=limb u n*B9+limb u (n - 1)
 up:val u<(q+1)*val v
 rb:r<B9+limb v (n - 1)
def akO{u v:List Nat}{n:Nat}(hn:2<=n)(hv:v.length=n)(hu:u.length=n+1)(_dv:bM v)(du:bM u)(a:0<limb v (n - 1)):
 Lt u v n ((limb u n*B9+limb u (n - 1))/limb v (n - 1)) ((limb u n*B9+limb u (n - 1))%limb v (n - 1)):=by
 refine⟨Nat.div_add_mod' _ _,?_,?_⟩
 ·have e:=amz hn hu du;have b:=afB hn hv;have d:=Nat.lt_mul_div_succ (limb u n*B9+limb u (n - 1)) a;generalize limb u n*B9+limb u (n - 1)=T at*;have c:(T+1)*B9^(n - 1)<=(T/limb v (n - 1)+1)*val v:=(by refine a8 (fc (B9^(n - 1)) (show T+1<=(T/limb v (n - 1)+1)*limb v (n - 1) by rw[eI];omega)) ?_;rw[gF];exact jt _ b)
  omega
 ·have:=fg (limb u n*B9+limb u (n - 1)) a;omega
def alY{u v:List Nat}{n:Nat}(hn:2<=n)(hv:v.length=n)(hu:u.length=n+1)(_dv:bM v)(du:bM u)(f:val u<B9*val v)(g:Lt u v n a b)(l:b<B9)
 (h:B9<=a\/b*B9+limb u (n - 2)<a*limb v (n - 2)):1<=a/\Lt u v n (a - 1) (b+limb v (n - 1)):=by
 have d:1<=a:=by
  rcases h with h|h
  ·unfold B9 at h;omega
  ·rcases i7 a with c|c
   ·subst c;simp at h
   ·exact c
 refine⟨d,?_,?_,by omega⟩
 ·have k:=g.top;have:a*limb v (n - 1)=(a - 1)*limb v (n - 1)+limb v (n - 1):=(by rw[<-rM];congr 1;omega)
  omega
 ·have e:a - 1+1=a:=Om;rw[e];rcases h with h|h
  ·exact cE f (fc _ h)
  ·have k:=af6 hn hu du;have j:=asT hn hv;have i:(limb u n*B9+limb u (n - 1))*B9+limb u (n - 2)+1<=a*(limb v (n - 1)*B9+limb v (n - 2)):=(by rw[<-g.top,gO,<-gF,k9];omega)
   have m:((limb u n*B9+limb u (n - 1))*B9+limb u (n - 2)+1)*B9^(n - 2)<=a*val v:=(by refine a8 (fc _ i) ?_;rw[gF];exact jt _ j);omega
def ar_{u v:List Nat}{n:Nat}(hn:2<=n)(hv:v.length=n)(hu:u.length=n+1)(dv:bM v)(_du:bM u)(a:val u<B9*val v):limb u n<=limb v (n - 1):=by
 rcases cA (limb v (n - 1)) (limb u n) with h|h
 ·exfalso;have g:=ar' hu;have f:=aoo hn hv dv;have d:(limb v (n - 1)+1)*B9^n<=limb u n*B9^n:=fc _ h;have e:B9^n=B9^(n - 1)*B9:=azK;have c:B9*val v<=B9*((limb v (n - 1)+1)*B9^(n - 1)):=jt _ Om;have b:B9*((limb v (n - 1)+1)*B9^(n - 1))=(limb v (n - 1)+1)*B9^n:=by rw[e];grind
  omega
 ·exact h
def anX{u v:List Nat}{n:Nat}(hn:2<=n)(hv:v.length=n)(hu:u.length=n+1)(dv:bM v)(du:bM u)(i:val u<B9*val v)(g:Lt u v n a b)
 (h:B9<=b\/(a<B9/\a*limb v (n - 2)<=b*B9+limb u (n - 2))):a<B9/\a*(limb v (n - 1)*B9+limb v (n - 2))<=(limb u n*B9+limb u (n - 1))*B9+limb u (n - 2):=by
 have d:=g.top;rcases h with h|⟨j,p⟩
 ·have k:=ar_ hn hv hu dv du i;have f:=du.getD (n - 1);have e:=dv.getD (n - 2);have o:limb u n*B9<=limb v (n - 1)*B9:=fc _ k;have c:a<B9:=by
   rcases cA a B9 with c|c
   ·exact c
   ·exfalso;have:B9*limb v (n - 1)<=a*limb v (n - 1):=fc _ c;rw[eI] at this;omega
  refine⟨c,?_⟩;rw[<-d,gO,<-gF,k9];have m:a*limb v (n - 2)<=B9*B9:=xN Om Om;have l:B9*B9<=b*B9:=fc _ h;omega
 ·refine⟨j,?_⟩;rw[<-d,gO,<-gF,k9];omega
def alX{u v:List Nat}{n:Nat}(hn:2<=n)(hv:v.length=n)(hu:u.length=n+1)(dv:bM v)(_du:bM u)(b:0<limb v (n - 1))(c:a<B9)
 (h:a*(limb v (n - 1)*B9+limb v (n - 2))<=(limb u n*B9+limb u (n - 1))*B9+limb u (n - 2)):a*val v<=val u+val v:=by
 have m:=asV hn hu;have l:=asU hn hv dv;have k:=afB hn hv;have e:B9^(n - 1)=B9*B9^(n - 2):=az2;have j:a*val v<=a*((limb v (n - 1)*B9+limb v (n - 2)+1)*B9^(n - 2)):=jt _ Om;have i:a*((limb v (n - 1)*B9+limb v (n - 2)+1)*B9^(n - 2))=a*(limb v (n - 1)*B9+limb v (n - 2))*B9^(n - 2)+a*B9^(n - 2):=(by rw[k9,qK,gO,gF])
 have g:a*(limb v (n - 1)*B9+limb v (n - 2))*B9^(n - 2)<=((limb u n*B9+limb u (n - 1))*B9+limb u (n - 2))*B9^(n - 2):=fc _ h;have f:a*B9^(n - 2)<=B9*B9^(n - 2):=fc _ Om;have d:1*B9^(n - 1)<=limb v (n - 1)*B9^(n - 1):=fc _ b;omega
def ak4{u v:List Nat}{y c':Nat}(g:i.length=a)(h:val i+c*val (v.take a)=val (u.take a)+B9^a*b)(f:d=c*limb v a+b)(e:y+d=limb u a+B9*c'):
 val (i++ [y])+c*val (v.take (a+1))=val (u.take (a+1))+B9^(a+1)*c':=by
 rw[pH,g,jv v a,jv u a,fJ,gF,gO];have m:B9^a*y+B9^a*d=B9^a*limb u a+B9^a*(B9*c'):=by rw[<-gO,<-gO,e]
 have l:B9^a*d=B9^a*(c*limb v a)+B9^a*b:=by rw[f,gO]
 have j:c*(B9^a*limb v a)=B9^a*(c*limb v a):=aaC _ _ _;omega
def ak5{u v:List Nat}{n:Nat}(hv:v.length=n)(hu:u.length=n+1)(f:i.length=n)(up:val u<(b+1)*val v)
 (h:val i+b*val (v.take n)=val (u.take n)+B9^n*a) (j:a<=limb u n):val u/val v=b/\val (i++ [limb u n - a])=val u%val v:=by
 rw[dA Om] at h;have g:=jv u n;rw[dA Om] at g;have l:B9^n*limb u n=B9^n*a+B9^n*(limb u n - a):=by rw[<-gO];congr 1;omega
 have k:val (i++ [limb u n - a])+b*val v=val u:=by rw[pH,f];omega
 have e:val u/val v=b:=(by refine(Nat.div_eq_iff (by rcases i7 (val v) with d|d;(rw[d] at up;simp at up);exact d)).2 ⟨by omega,?_⟩;rw[k9] at up;omega);refine⟨e,?_⟩;have:=vQ (val u) (val v);rw[e,eI] at this;omega
def amE{u v:List Nat}{n:Nat}(hv:v.length=n)(hu:u.length=n+1)(x:i.length=n)(t:j.length=n)(C:bM j)(dv:bM v)(up:val u<(b+1)*val v)(l:b*val v<=val u+val v)
 (h:val i+b*val (v.take n)=val (u.take n)+B9^n*a) (D:limb u n<a) (g:bM i) (y:val j+B9^n*c=val (i.take n)+val (v.take n)):
 1<=b/\val u/val v=b - 1/\val j=val u%val v/\limb u n+c=a:=by
 rw[dA Om] at h;rw[dA Om,dA Om] at y;have B:=jv u n;rw[dA Om] at B;have s:=kL g;have o:=kL C;have m:=kL dv;rw[x] at s;rw[t] at o;rw[hv] at m;have G:B9^n*a=B9^n*limb u n+B9^n*(a - limb u n):=by rw[<-gO];congr 1;omega
 have F:B9^n*1<=B9^n*(a - limb u n):=jt _ Om;have f:val u<b*val v:=Om;have w:1<=b:=by
  rcases i7 b with k|k
  ·subst k;simp at f
  ·exact k
 have H:b*val v=(b - 1)*val v+val v:=by rw[<-rM];congr 1;omega
 have A:val j+B9^n*c+(b - 1)*val v=val u+B9^n*(a - limb u n):=Om;have z:c=a - limb u n:=by
  rcases Tk c (a - limb u n) with e|e|e
  ·exfalso;have:B9^n*(c+1)<=B9^n*(a - limb u n):=jt _ e;rw[Kd] at this;omega
  ·exact e
  ·exfalso;have:B9^n*(a - limb u n+1)<=B9^n*c:=jt _ e;rw[Kd] at this;omega
 have E:val j+(b - 1)*val v=val u:=by rw[z] at A;omega
 have e:val u/val v=b - 1:=(by refine(Nat.div_eq_iff Om).2 ⟨by omega,by omega⟩);refine⟨w,e,?_,by omega⟩;have:=vQ (val u) (val v);rw[e,eI] at this;omega
def ape(o:0<a)(m:a<B9):500000000<=a*(B9/ (a+1)):=by
 have g:=vQ B9 (a+1);have d:=fg B9 (show 0<a+1 by omega);generalize e:B9/ (a+1)=f at*;generalize c:B9%(a+1)=r at*;have i:B9=1000000000:=rfl;rcases cA f 2 with h|h
 ·have:f=0\/f=1:=Om;rcases this with rfl|rfl
  ·omega
  ·omega
 ·rcases cA a 2 with b|b
  ·have:a=1:=Om;subst this;omega
  ·have l:f*(a - 1)≥2*(a - 1):=fc _ h;have k:(a+1)*f=f*(a - 1)+2*f:=(by have:a+1=(a - 1)+2:=Om;rw[this,k9,eI (a - 1)])
   have j:a*f=(a+1)*f - f:=by rw[k9];omega
   omega
def adT{v:List Nat}{n:Nat}(r:Canon i)(hn:i.length=n)(D:1<=n)(t:a=B9/ (limb i (n - 1)+1))(hv:Canon v)(s:val v=val i*a):
 v.length=n/\500000000<=limb v (n - 1):=by
 have m:0<limb i (n - 1):=(by have:=r.2.last Om;rw[gP Om];have e:i.length - 1=n - 1:=Om;simp only[e] at this;omega);have l:=r.1.getD (n - 1);have c:=ape m l;rw[<-t] at c;have z:=jv i (n - 1);have w:n - 1+1=n:=Om;rw[w,dA Om] at z;have o:=kL (r.1.take (n - 1));rw[cP,jJ Om] at o;have p:(limb i (n - 1)+1)*a<=B9:=by rw[t];exact Nat.mul_div_le _ _
 generalize limb i (n - 1)=x at*;have y:val v<B9^n:=by
  have d:val i<(x+1)*B9^(n - 1):=by rw[k9,qK,eI];omega
  have q:0<a:=by
   rcases i7 a with h|h
   ·subst h;simp at c
   ·exact h
  have j:val i*a<(x+1)*B9^(n - 1)*a:=aaa d q;have k:(x+1)*B9^(n - 1)*a=(x+1)*a*B9^(n - 1):=by rw[gF,gF,eI a]
  have B:(x+1)*a*B9^(n - 1)<=B9*B9^(n - 1):=fc _ p;have C:B9^n=B9*B9^(n - 1):=az2;omega
 have A:500000000*B9^(n - 1)<=val v:=by
  have d:x*B9^(n - 1)<=val i:=by rw[eI];omega
  have j:x*B9^(n - 1)*a<=val i*a:=fc _ d;have k:x*B9^(n - 1)*a=x*a*B9^(n - 1):=by rw[gF,gF,eI a]
  have B:500000000*B9^(n - 1)<=x*a*B9^(n - 1):=fc _ c;omega
 have g:v.length=n:=by
  rcases Tk v.length n with h|h|h
  ·exfalso;have d:=kL hv.1;have j:B9^v.length<=B9^(n - 1):=gM Od Om;have k:1*B9^(n - 1)<=500000000*B9^(n - 1):=fc _ Od;omega
  ·exact h
  ·exfalso;have d:=GR hv.2 Om;have j:B9^n<=B9^(v.length - 1):=gM Od Om;omega
 refine⟨g,?_⟩;have d:=jv v (n - 1);rw[w,dA Om] at d;have j:=kL (hv.1.take (n - 1));rw[cP,jJ Om] at j;rcases cA (limb v (n - 1)) 500000000 with h|h
 ·exfalso;have k:(limb v (n - 1)+1)*B9^(n - 1)<=500000000*B9^(n - 1):=fc _ h;rw[k9,qK,eI (limb v (n - 1))] at k;omega
 ·exact h
structure Bx(A V:Nat)(n m:Nat)(uw q:List Nat):Prop where
 y6:bM uw
 af':bM q
 zero:∀x∈uw.drop (m+n),x=0
 rem:val ((uw.drop m).take n)<V
 sum:A=val q*(B9^m*V)+val uw
def abk{n:Nat}(h:Bx a b n (c+1) i j)(d:c<i.length):val ((i.drop c).take (n+1))<B9*b:=by rw[i6 d,Th,nJ];have g:=h.y6.getElem d;have f:=h.rem;have e:B9*(val ((i.drop (c+1)).take n)+1)<=B9*b:=jt _ f;rw[Kd] at e;omega
def aaV(h:i.length=a):(i++j).drop a=j:=by subst h;simp
def alI{n:Nat}(h:Bx a b n (c+1) i j)(B:c+n+1<=i.length)(hu:k.length=n+1)(du:bM k)(C:b<B9^n)(l:0<b)
 (p:val k=val ((i.drop c).take (n+1))%b):Bx a b n c (i.take c++(k++i.drop (c+(n+1)))) (val ((i.drop c).take (n+1))/b::j):=by
 have r:=abk h Om;have t:val ((i.drop c).take (n+1))/b<B9:=by rw[Tc l];exact r
 have m:∀x∈i.drop (c+(n+1)),x=0:=by have:=h.zero;rwa[Nat.add_right_comm,DR c n 1] at this
 have d:(i.take c).length=c:=ay8;have s:val k<b:=by rw[p];exact fg _ l
 have g:=jv k n;rw[dA Om] at g;have e:limb k n=0:=by
  rcases i7 (limb k n) with o|o
  ·exact o
  ·have:B9^n*1<=B9^n*limb k n:=jt _ o;omega
 refine⟨(h.y6.take c).append (du.append (h.y6.drop _)),tj t h.af',?_,?_,?_⟩
 ·intro x f;rw[<-z8,aaV d,Tp,bQ] at f;rcases f with f|f
  ·rw[i6 Om,qD Om,bG,<-gP Om,e] at f;exact f
  ·exact m x (Dz f)
 ·rw[aaV d,N1 Om];rw[e] at g;omega
 ·have z:val i=val (i.take c)+B9^c*val ((i.drop c).take (n+1)):=(by rw[D2 i c,d,D2 (i.drop c) (n+1),z8,D1 m];simp);have y:val (i.take c++(k++i.drop (c+(n+1))))=val (i.take c)+B9^c*val k:=(by rw[Hh,d,Hh,D1 m];simp);have w:=vQ (val ((i.drop c).take (n+1))) b;rw[h.sum,z,y,nJ,p,fJ];generalize val ((i.drop c).take (n+1))=W at*;generalize W/b=Q at*;generalize W%b=R at*;generalize B9^c=P at*;rw[<-w];grind
def alH{r:List Nat}{n:Nat}(A:Canon i)(z:Canon j)(g:i.length=a)(hn:j.length=n)(C:1<=n)(q:n<=a)(s:0<b)(o:Canon r)(e:r.length<=a+1)(hv:val r=val i*b):
 Bx (val i*b) (val j*b) n (a+1 - n) (pad r (a+1)) []:=by
 have d:val (pad r (a+1))=val i*b:=(by have m:val (List.replicate (a+1 - r.length) 0)=0:=D1 (by intro x c;exact(sU.1 c).2);rw[pad,Hh,m,hv];simp);have p:=uI (r:=r) (N:=a+1) e;refine⟨o.1.append (by intro x c;rw[sU] at c;rw[c.2];decide),kJ,?_,?_,?_⟩
 ·intro x c;rw[qD Om] at c;cases c
 ·rw[dA (by rw[oB];omega)];have y:=D2 (pad r (a+1)) (a+1 - n);rw[d,cP,jJ Om] at y;have l:=kL A.1;have k:=GR z.2 Om;rw[g] at l;rw[hn] at k;have w:val i*b<B9^a*b:=aaa l s;have t:B9^a=B9^(a+1 - n)*B9^(n - 1):=by rw[<-rO];congr 1;omega
  have B:B9^(a+1 - n)*(B9^(n - 1)*b)<=B9^(a+1 - n)*(val j*b):=jt _ (fc _ k);rw[t,gF] at w;rcases cA (val ((pad r (a+1)).drop (a+1 - n))) (val j*b) with h|h
  ·exact h
  ·exfalso;have:B9^(a+1 - n)*(val j*b)<=B9^(a+1 - n)*val ((pad r (a+1)).drop (a+1 - n)):=jt _ h;omega
 ·rw[d];simp
def apj{n:Nat}(o:0<b)(g:0<c)(h:Bx (a*c) (b*c) n 0 i j):val j=a/b/\val (i.take n)/c=a%b/\val (i.take n)%c=0:=by
 have e:=h.rem;have d:=h.sum;rw[mO] at e;have k:=h.zero;rw[jc] at k;rw[Am,qK,<-Oj i n k] at d;generalize val (i.take n)=R at*;generalize val j=Q at*;have m:a*c/ (b*c)=Q:=(by rw[d,eI Q,Nat.mul_add_div (Nat.mul_pos o g),Oq e,jK])
 have l:a*c%(b*c)=R:=(by rw[d,eI Q,Nat.mul_add_mod,uB e]);rw[Nat.mul_div_mul_right _ _ g] at m;rw[Nat.mul_mod_mul_right] at l;rw[<-l,Nat.mul_div_cancel _ g,Nat.mul_mod_left];exact⟨m.symm,rfl,rfl⟩
def cX(l:List Nat):List Value:=l.map fun x:Nat=>Value.int .u64 (x:Int)
def OI(l:List Nat):(cX l).length=l.length:=by simp [cX]
def mg(h:a<i.length):(cX i)[a]?=some (.int .u64 (i[a]:Int)):=by simp [cX,h]
def UB(l:List Nat)(k:Nat):(cX l).take k=cX (l.take k):=by simp [cX,G5]
abbrev Lm(w:au)(A:aS)(l:List Nat):Prop:=Sl w 249 A (cX l)
def Behind(l:List Nat)(n:Nat):Prop:=n<=l.length/\∀x∈l.drop n,x=0
def Behind.step{n:Nat}(h:Behind i (n+1))(b:∀c:n<i.length,i[n]=0):Behind i n:=by
 refine⟨by have:=h.1;omega,fun x a=> ?_⟩;have hn:n<i.length:=by have:=h.1;omega
 rw[i6 hn] at a;rcases aI.1 a with rfl|a
 ·exact b hn
 ·exact h.2 x a
def aov(A:aS)(c:Nat)(l:List Nat)(w:au)(s:l.length<=c)(t:l.length<=1000000000)(j:Lm w A l):
 Calls prog 190 #[.slice A l.length c] w fun e p=>∃n,n<=l.length/\Behind l n/\ic (l.take n)/\e= .returned (.slice A n c)/\w=p:=by
 have r:=af j;clear j;go_enter func190,ntmps190;go_wp2;go_loop [3] (fun i=>∃n:Nat,n<=l.length/\i= .int .i64 n/\Behind l n) (fun i=>(intOf i).toNat);exact⟨l.length,aK _,rfl,⟨aK _,by simp⟩⟩;obtain⟨n,hn,rfl,m⟩:=hrel;have h:=af m;clear m;by_cases x:0<n
 ·obtain⟨k,rfl⟩:∃k,n=k+1:=⟨n - 1,by omega⟩;obtain⟨g,o,rfl,_,d⟩:=r.at_ (mg (show k<l.length by omega));have q:decide ((0:Int)<(k:Int)+1)=true:=fF;by_cases a:l[k]=0
  ·have b:((l[k]:Int)==0)=true:=ay5;have f:=af a;clear a;go_wp2;go_round;exact⟨k,by omega,by go_num,h.step (fun _=>f.ae)⟩;simp [intOf]
  ·have b:((l[k]:Int)==0)=false:=aza;have f:=af a;clear a;go_wp2;go_ret;refine⟨k+1,hn,h,?_,rfl,rfl⟩;exact ic.VP Oc (by simpa [cP,jJ hn] using f.ae)
 ·obtain rfl:n=0:=Om;go_wp2;go_ret;exact⟨0,by omega,h,by simpa using ic.nil,rfl,rfl⟩
def uO(A:aS)(c n:Nat)(l:List Nat)(w:au)(hn:l.length=n)(g:n<=c)(h:n<=1000000000)(d:bM l)(b:Lm w A l):
 Calls prog 190 #[.slice A n c] w fun e a=>∃r,r.length<=n/\e= .returned (.slice A r.length c)/\Canon r/\val r=val l/\Lm a A r/\w=a:=by
 subst hn;refine(aov A c l w g h b).mono ?_;rintro e a ⟨m,k,i,f,rfl,rfl⟩;have j:(l.take m).length=m:=ay8;exact⟨l.take m,by omega,by rw[j],⟨d.take m,f⟩,Oj l m i.2,by unfold Lm;rw[<-UB];exact b.take m,rfl⟩
def aoC(n:Int)(w:au):
 Calls prog 239 #[.int .i64 n] w fun e c=>e= .returned (.int .i64 n.sign)/\w=c:=by
 rcases Tm n 0 with h|h|h
 ·have a:n.sign= -1:=N2 h;have b:=af a;clear a;go_enter func239,ntmps239;go_wp2;go_ret;exact⟨pI b.symm,rfl⟩
 ·subst h;go_enter func239,ntmps239;go_wp2;go_ret;exact⟨rfl,rfl⟩
 ·have a:n.sign=1:=Dx h;have b:=af a;clear a;have d:¬n<0:=Om;go_enter func239,ntmps239;go_wp2;go_ret;exact⟨pI b.symm,rfl⟩
def Ih(A:aS)(c:Nat)(l:List Nat)(i:Nat)(w:au)(_hc:l.length<=1000000000)(_hi:i<=2000000000)(d:Lm w A l):
 Calls prog 224 #[.slice A l.length c,.int .i64 i] w fun e f=>e= .returned (.int .u64 (limb l i:Nat))/\w=f:=by
 have j:=af d;clear d;by_cases h:i<l.length
 ·obtain⟨g,o,rfl,_,a⟩:=j.at_ (mg h);have b:ah (limb l i=l[i]):=gP h;go_enter func224,ntmps224;go_wp2;go_ret;exact⟨pI (by rw[b.ae]),rfl⟩
 ·have b:ah (limb l i=0):=qJ Om;go_enter func224,ntmps224;go_wp2;go_ret;exact⟨pI (by rw[b.ae];rfl),rfl⟩
def ew(a b:Nat):Int:=if a<b then -1 else if b<a then 1 else 0
def Er(h:a<b):ew a b= -1:=by simp [ew,h]
def PR(h:b<a):ew a b=1:=by simp [ew,h];omega
def ars(h:a=b):ew a b=0:=by simp [ew,h]
def OT(z y:aS)(F E:Nat)(a b:List Nat)(w:au)(h1:a.length<=1000000000)(h2:b.length<=1000000000)(x:Canon a)(t:Canon b)(r:Lm w z a)(p:Lm w y b):
 Calls prog 192 #[.slice z a.length F,.slice y b.length E] w fun e l=>e= .returned (.int .i64 (ew (val a) (val b)))/\∃n,l=w.drewN n:=by
 have H:=af r;have G:=af p;have CA:=af x;have CB:=af t;clear r p x t;by_cases c:a.length=b.length
 ·have f:((a.length:Int) !=(b.length:Int))=false:=azz;have HL:=af c;have D:a.length<=b.length:=Om;have C:b.length<=a.length:=Om;clear c;go_enter func192,ntmps192;go_wp2;go_loopw [5] (fun i wr=>∃m:Int,i= .int .i64 m/\ -1<=m/\m<a.length/\a.drop (m+1).toNat=b.drop (m+1).toNat/\∃q,wr=w.drewN q) (fun i _=>(intOf i+1).toNat)
  exact⟨(a.length:Int) - 1,rfl,by omega,by omega,by rw[qD Om,qD Om],0,rfl⟩;obtain⟨m,rfl,B,A,s,q,rfl⟩:=hrel;have HD:=af s;clear s;by_cases J:0<=m
  ·obtain⟨k,rfl⟩:∃k:Nat,m=k:=⟨m.toNat,by omega⟩;have hk:k<a.length:=Om;have Ci:k<b.length:=Om;obtain⟨g,o,rfl,_,j⟩:=H.at_ (mg hk);obtain⟨K,I,rfl,_,d⟩:=G.at_ (mg Ci);exact m38
  ·exact agY
 ·have f:((a.length:Int) !=(b.length:Int))=true:=Oc;have HV:ah (((a.length:Int) - (b.length:Int)).sign=ew (val a) (val b)):=by
   rcases Nat.lt_or_gt_of_ne c with h|h
   ·rw[ah,Er (DJ CA CB h)];exact N2 Om
   ·rw[ah,PR (DJ CB CA h)];exact Dx Om
  clear c;go_enter func192,ntmps192;go_wp2_with (go_at_call 239;refine(aoC _ _).mono ?_;rintro e l ⟨rfl,rfl⟩);go_ret;exact⟨pI HV,0,rfl⟩
def adv:(prog.info? 249).map (fun i=>(i.zero,i.size,i.bytes))=some (some (.int .u64 0),1,8):=Ok
def Hv(n:Nat)(h:n<=1000000000)(w:au):
 (Instr.makeSlice 124 (.int .i64 (n:Int)) (.int .i64 (n:Int))).run prog w= .ok (.slice (some ⟨w.heap.size,0,none⟩) n n) (w.alloc (.cells (cX (pad [] n)).toArray 249)):=by
 obtain⟨e,f,c,b,a⟩:=info_parts adv;have d:=run_make (P:=prog) w 124 249 e (.int .u64 0) underlying124 f c .i64 .i64 (n:Int) (n:Int) Om (AB _) azC Om;simp only[kF,b,l8,Value.cells,Ai] at d;rw[d,KQ,cX,zW];rfl
def abX(h:ar m a 249 (cX (pad i c)))(f:i.length=b)(j:b<c)(e:B=d):ar (m.setCell ⟨a,b,none⟩ (.int .u64 B)) a 249 (cX (pad (i++ [d]) c)):=by have:=h.bu b (.int .u64 B);subst f;rw[<-aqH d j,cX,G8,<-cX,<-e];exact this
def acZ(h:ar m a 249 (cX (pad i c)))(d:i.length=b)(e:b<c):m.cell? ⟨a,b,none⟩=some (.int .u64 (0:Nat)):=
 h.cell (by rw[mg (by rw[uI Om];omega)];simp [pad,d])
def UU(m n:Nat)(e:n=m+1)(h:n<=1000000000)(w:au):
 (Instr.makeSlice 124 (.int .i64 ((m:Int)+1)) (.int .i64 ((m:Int)+1))).run prog w= .ok (.slice (some ⟨w.heap.size,0,none⟩) n n) (w.alloc (.cells (cX (pad [] n)).toArray 249)):=by
 have a:((m:Int)+1)=(n:Int):=Om;rw[a];exact Hv n h w
def anB(m k n:Nat)(e:n=max m k+1)(h:n<=1000000000)(w:au):
 (Instr.makeSlice 124 (.int .i64 (max (m:Int) (k:Int)+1)) (.int .i64 (max (m:Int) (k:Int)+1))).run prog w= .ok (.slice (some ⟨w.heap.size,0,none⟩) n n) (w.alloc (.cells (cX (pad [] n)).toArray 249)):=by
 have a:(max (m:Int) (k:Int)+1)=(n:Int):=Om;rw[a];exact Hv n h w
def arz(J I:aS)(S R:Nat)(a b:List Nat)(w:au)(h1:a.length<=100000000)(h2:b.length<=100000000)(Q:bM a)(P:bM b)(L:Lm w J a)(K:Lm w I b):
 Calls prog 191 #[.slice J a.length S,.slice I b.length R] w fun e j=>∃r c,r.length<=c/\e= .returned (.slice (some ⟨w.heap.size,0,none⟩) r.length c)/\Canon r/\val r=val a+val b/\Lm j (some ⟨w.heap.size,0,none⟩) r/\Ext w j:=by
 have S1:=af L;have S2:=af K;have W:=af Q;have V:=af P;clear L K Q P;obtain⟨N,G⟩:∃N,N=max a.length b.length+1:=⟨_,rfl⟩;have Zv:N<=100000001:=Om;have HN:=af G;rcases cA a.length b.length with E|E;all_goals
  have f:=fun e=>UU a.length N e Om;have d:=fun e=>UU b.length N e Om;first|have m:=f Om|have m:=d Om
  have l:=fun w=>anB a.length b.length N G Om w;clear f d G;go_enter func191,ntmps191;go_wp2;clear m l;go_loopw [6,7,8,18] (fun cr _ _ i wr=>∃(k c:Nat) (r:List Nat),k<=N/\i= .int .i64 k/\cr= .int .u64 c/\c<=1/\r.length=k/\bM r/\val r+B9^k*c=val (a.take k)+val (b.take k)/\ar wr w.heap.size 249 (cX (pad r N))/\Ext w wr) (fun _ _ _ i _=>N - (intOf i).toNat);exact⟨0,0,[],aT _,rfl,rfl,by omega,rfl,kJ,by simp,kq _ _ _,(aC w).alloc _⟩;obtain⟨k,c,r,hk,rfl,rfl,hc,M,O,hv,g,q⟩:=hrel;have h:=af M;have U:=af O;have T:=af hv;have s:=af g;clear M O hv g;by_cases o:k<N
  ·go_wp2_with fail
   refine(Ih J S a k wr Om Om (S1.ext q)).mono ?_;rintro e j ⟨rfl,rfl⟩;go_wp2_with fail;refine(Ih I R b k wr Om Om (S2.ext q)).mono ?_;rintro e j ⟨rfl,rfl⟩;have ha:=W.getD k;have Z:=V.getD k;unfold B9 at ha Z;obtain⟨t,A⟩:∃t,t=limb a k+limb b k+c:=⟨_,rfl⟩;have HA:=af (U4 h T A);have H:=af A;clear A;generalize limb a k=x at*;generalize limb b k=y at*;have F:=acZ s h o;have Y:=s.frozen k;go_wp2;go_roundw
   ·refine⟨k+1,t/B9,r++ [t%B9],by omega,by go_num,congrArg _ (by rw[H.ae];unfold B9;omega),?_,?_,U.snoc (fg _ Od),HA,abX s h o (by rw[H.ae];unfold B9;omega),q.setCell (aK _) _⟩
    ·rw[H.ae];unfold B9;omega
    ·simp [h.ae]
   simp [intOf];omega
  ·obtain rfl:k=N:=Om;have HE:=af (ary W V h HN T);have B:Lm wr (some ⟨w.heap.size,0,none⟩) r:=(by have:=s.sl 0;rwa[Vk h.ae,mO] at this)
   go_wp2_with (go_at_call 190;refine(uO _ _ k r wr h (aK _) Om U B).mono ?_;rintro e j ⟨X,D,rfl,p,z,C,rfl⟩)
   go_ret;exact⟨X,k,D,rfl,p,z.trans HE,C,q⟩
def aqs(V U:aS)(c1 c2:Nat)(a b:List Nat)(w:au)(h1:a.length<=100000000)(h2:b.length<=100000000)(P:Canon a)(O:Canon b)(m:val b<=val a)(K:Lm w V a)(J:Lm w U b):
 Calls prog 193 #[.slice V a.length c1,.slice U b.length c2] w fun e y=>∃r c,r.length<=c/\e= .returned (.slice (some ⟨w.heap.size,0,none⟩) r.length c)/\Canon r/\val r=val a - val b/\Lm y (some ⟨w.heap.size,0,none⟩) r/\Ext w y:=by
 have S1:=af K;have S2:=af J;have T:=af P;have S:=af O;have HL:=af m;clear K J P O m;have H:=Hv a.length Om;go_enter func193,ntmps193;go_wp2;clear H;go_loopw [6,7,8,14] (fun cr _ _ i wr=>∃(k c:Nat) (r:List Nat),k<=a.length/\i= .int .i64 k/\cr= .int .u64 c/\c<=1/\r.length=k/\bM r/\val r+val (b.take k)=val (a.take k)+B9^k*c/\ar wr w.heap.size 249 (cX (pad r a.length))/\Ext w wr) (fun _ _ _ i _=>a.length - (intOf i).toNat)
 exact⟨0,0,[],aT _,rfl,rfl,by omega,rfl,kJ,by simp,kq _ _ _,(aC w).alloc _⟩;obtain⟨k,c,r,hk,rfl,rfl,hc,L,M,hv,f,q⟩:=hrel;have j:=af L;have I:=af M;have Q:=af hv;have x:=af f;clear L M hv f;by_cases d:k<a.length
 ·obtain⟨g,o,rfl,_,h⟩:=(S1.ext q).at_ (mg d);rw[<-gP d] at h;have ha:=T.1.getD k;have Z:=S.1.getD k;unfold B9 at ha Z;obtain⟨t,A⟩:∃t,t+limb b k+c=limb a k+B9:=⟨limb a k+B9 - limb b k - c,by unfold B9;omega⟩;have N:=acs j Q A;have R:=af A;clear A;have G:IntKind.u64.wrap ((limb a k:Int)+1000000000)=limb a k+1000000000:=ay_;have F:IntKind.u64.wrap ((limb a k:Int)+1000000000 - limb b k)=limb a k+1000000000 - limb b k:=ay_;have E:IntKind.u64.wrap ((limb a k:Int)+1000000000 - limb b k - c)=limb a k+1000000000 - limb b k - c:=ay_;go_wp2;go_quiet ((go_at_call 224;exact PY (Ih _ _ b k _ Om Om (S2.ext (q.drewN _)))));clear G F E;have l:(limb a k:Int)+1000000000 - limb b k - c=t:=by have:=R.ae;unfold B9 at this;omega
  rw[l];have X:t<=1999999999:=by have:=R.ae;unfold B9 at this;omega
  clear l;have HA:=af (N ay1);clear N;have s:=acZ x j d;have Y:=x.frozen k;go_wp2;go_roundw
  ·refine⟨k+1,1 - t/B9,r++ [t%B9],by omega,by go_num,congrArg _ ay1,Nat.sub_le _ _,?_,I.snoc (fg _ Od),HA,abX (x.drewN nq) j d ay1,(q.drewN nq).setCell (aK _) _⟩;simp [j.ae]
  simp [intOf];omega
 ·obtain rfl:k=a.length:=Om;have HE:=af (aeF T S j I HL Q);have B:Lm wr (some ⟨w.heap.size,0,none⟩) r:=(by have:=x.sl 0;rwa[Vk j.ae,mO] at this)
  go_wp2_with (go_at_call 190;refine(uO _ _ a.length r wr j (aK _) Om I B).mono ?_;rintro e y ⟨W,D,rfl,p,z,C,rfl⟩)
  go_ret;exact⟨W,a.length,D,rfl,p,z.trans HE,C,q⟩
def KS{i:Nat}(h:ar m a 249 (cX j))(b:i<j.length):m.cell? ⟨a,i,none⟩=some (.int .u64 (limb j i:Nat)):=
 h.cell (by rw[mg b,gP b])
def Hw{i x:Nat}{z:Int}(h:ar m a 249 (cX j))(b:z=x):ar (m.setCell ⟨a,i,none⟩ (.int .u64 z)) a 249 (cX (j.set i x)):=by have:=h.bu i (.int .u64 z);rw[cX,G8,<-cX,<-b];exact this
def AY(p:List Nat)(z:Nat)(q:List Nat)(x i:Nat)(h:p.length=i):(p++z::q).set i x=p++x::q:=by subst h;simp
def D_(p:List Nat)(z:Nat)(q:List Nat)(i:Nat)(h:p.length=i):limb (p++z::q) i=z:=by subst h;rw[gP Ou];simp
def Kz(l:List Nat)(i:Nat)(h:i<l.length):l.drop i=limb l i::l.drop (i+1):=by rw[gP h];exact i6 h
def Pq:limb (pad i a) b=limb i b:=by
 unfold limb pad;rw[fG,fG,List.getElem?_append];split
 ·rfl
 ·rename_i h;rw[Dv,fH (l:=i) Om];split<;>rfl
def anC(m1 m2 n:Nat)(e:n=m1+m2)(h:n<=1000000000)(w:au):
 (Instr.makeSlice 124 (.int .i64 ((m1:Int)+m2)) (.int .i64 ((m1:Int)+m2))).run prog w= .ok (.slice (some ⟨w.heap.size,0,none⟩) n n) (w.alloc (.cells (cX (pad [] n)).toArray 249)):=by
 have a:((m1:Int)+m2)=(n:Int):=Om;rw[a];exact Hv n h w
def acL(m N:Nat)(h:m<=N):pad (List.replicate m 0) N=pad [] N:=by simp [pad];omega
def VV(A1 A2:aS)(c1 c2:Nat)(a b:List Nat)(w:au)(h1:a.length<=100000000)(h2:b.length<=100000000)(da:bM a)(db:bM b)(s1:Lm w A1 a)(s2:Lm w A2 b):
 Calls prog 197 #[.slice A1 a.length c1,.slice A2 b.length c2] w fun e M=>∃r c,r.length<=c/\e= .returned (.slice (some ⟨w.heap.size,0,none⟩) r.length c)/\Canon r/\val r=val a*val b/\Lm M (some ⟨w.heap.size,0,none⟩) r/\Ext w M:=by
 have S1:=af s1;have S2:=af s2;have DA:=af da;have DB:=af db;clear s1 s2 da db;obtain⟨N,hN⟩:∃N,N=a.length+b.length:=⟨_,rfl⟩;have Zv:N<=a.length+b.length:=Om;have hN2:a.length+b.length<=N:=Om;have U:=anC a.length b.length N hN Om;clear hN;go_enter func197,ntmps197;go_wp2;clear U;go_loopw [6,7,8,9,10,11,20] (fun _ _ _ _ _ _ i wr=>∃(k:Nat) (r:List Nat),k<=a.length/\i= .int .i64 k/\r.length=k+b.length/\bM r/\val r=val (a.take k)*val b/\ar wr w.heap.size 249 (cX (pad r N))/\Ext w wr) (fun _ _ _ _ _ _ i _=>a.length - (intOf i).toNat)
 exact⟨0,List.replicate b.length 0,aT _,rfl,by simp,(by intro x f;rw[sU] at f;rw[f.2];decide),by rw[D1 (by intro x f;exact(sU.1 f).2)];simp,by rw[acL _ _ Om];exact kq _ _ _,(aC w).alloc _⟩;obtain⟨i,r,hi,rfl,hr,hd,hv,d,f⟩:=hrel;have s:=af hr;have HD:=af hd;have HV:=af hv;have HB:=af d;have Z:=af f;clear hr hd hv d f;by_cases F:i<a.length
 ·obtain⟨g,o,rfl,_,A⟩:=(S1.ext Z).at_ (mg F);rw[<-gP F] at A;have X:=DA.getD i;unfold B9 at X;go_wp2;obtain⟨wo,rfl⟩:∃wo:World,wo=wr:=⟨_,rfl⟩;go_loopw [8,9,10,11,27] (fun cr _ _ _ j ws=>∃(k c:Nat) (p:List Nat),k<=b.length/\j= .int .i64 k/\cr= .int .u64 c/\c<1000000000/\p.length=i+k/\bM p/\val p+B9^(i+k)*c=val (r.take (i+k))+B9^i*(limb a i*val (b.take k))/\ar ws w.heap.size 249 (cX (p++(pad r N).drop (i+k)))/\Ext w ws) (fun _ _ _ _ j _=>b.length - (intOf j).toNat)
  ·refine⟨0,0,(pad r N).take i,aT _,rfl,rfl,by omega,?_,?_,?_,?_,Z⟩
   ·rw[cP,uI azq];omega
   ·refine bM.take ?_ i;exact HD.append (by intro x f;rw[sU] at f;rw[f.2];decide)
   ·have:(pad r N).take i=r.take i:=(by rw[pad,N1 azq]);simp [this]
   ·simpa using HB.ae
  obtain⟨k,c,p,hk,rfl,rfl,hc,hp,G,D,d,f⟩:=hrel;have l:=af hp;have L:=af G;have I:=af D;have h:=af d;have B:=af f;clear hp G D d f;by_cases y:k<b.length
  ·obtain⟨g2,o2,rfl,_,q⟩:=(S2.ext B).at_ (mg y);rw[<-gP y] at q;have W:=DB.getD k;have V:=HD.getD (i+k);have O:=Hc (DA.getD i) (DB.getD k);unfold B9 at W V;have C:ah ((pad r N).drop (i+k)=limb r (i+k)::(pad r N).drop (i+k+1)):=by rw[ah,Kz _ _ (by rw[uI azq];omega),Pq]
   obtain⟨t,Q⟩:∃t,t=limb r (i+k)+limb a i*limb b k+c:=⟨_,rfl⟩;have HA:=af (UR l I rfl Q);have tS:t<=999999999999999999:=Om;have E:(limb r (i+k):Int)+(limb a i:Int)*(limb b k:Int)+c=t:=by rw[Q];simp
   have J:=af E;clear Q E;have hxi:(limb a i:Int)*(limb b k:Int)<=999999998000000001:=azj;have auR:0<=(limb a i:Int)*(limb b k:Int):=GV Om Om;have m:wr.cell? ⟨w.heap.size,i+k,none⟩=some (.int .u64 (limb r (i+k):Nat)):=(by have:=KS (i:=i+k) h (by rw[C.ae,bC,l.ae,cW];omega);rw[this,C.ae,D_ _ _ _ _ l.ae])
   have Y:=h.frozen (i+k);clear O;go_wp2;go_roundw
   ·refine⟨k+1,t/B9,p++ [t%B9],by omega,by go_num,congrArg _ (by rw[J.ae];unfold B9;omega),by unfold B9;omega,?_,L.snoc (fg _ Od),HA,?_,B.setCell (aK _) _⟩
    ·simp only[bC,l.ae,cW,vU];omega
    ·have:=Hw (i:=i+k) (x:=t%B9) h (show((limb r (i+k):Int)+limb a i*limb b k+c)%1000000000=((t%B9:Nat):Int) by rw[J.ae];unfold B9;omega);rw[C.ae,AY _ _ _ _ _ l.ae] at this;simpa [DR] using this
   simp [intOf];omega
  ·obtain rfl:k=b.length:=Om;have C:ah ((pad r N).drop (i+b.length)=0::(pad r N).drop (i+b.length+1)):=by rw[ah,Kz _ _ (by rw[uI azq];omega),Pq,qJ azq]
   have HM:=af (anu l s HV I);have m:wr.cell? ⟨w.heap.size,i+b.length,none⟩=some (.int .u64 (0:Nat)):=(by have:=KS (i:=i+b.length) h (by rw[C.ae,bC,l.ae,cW];omega);rw[this,C.ae,D_ _ _ _ _ l.ae])
   have Y:=h.frozen (i+b.length);go_wp2;go_roundw
   ·refine⟨i+1,p++ [c],by omega,by go_num,?_,L.snoc ay1,HM,?_,B.setCell (aK _) _⟩
    ·simp only[bC,l.ae,cW,vU];omega
    ·have:=Hw (i:=i+b.length) (x:=c) (z:=(c:Int)) h rfl;rw[C.ae,AY _ _ _ _ _ l.ae] at this;have e1:p++c::(pad r N).drop (i+b.length+1)=pad (p++ [c]) N:=by
      have hl:(p++ [c]).length=i+b.length+1:=by simp [l.ae]
      have h2:(pad r N).drop (i+b.length+1)=List.replicate (N - (i+b.length+1)) 0:=(by rw[pad,Tp,qD azq,aat,s.ae,vR];congr 1;omega);rw[h2,pad,hl,iB];rfl
     rw[e1] at this;simpa using this
   simp [intOf];omega
 ·obtain rfl:i=a.length:=Om;have HE:ah (val r=val a*val b):=by rw[ah,HV.ae,dA (aK _)]
  have K:ah (r.length=N):=by have:=s.ae;unfold ah;omega
  have R:Lm wr (some ⟨w.heap.size,0,none⟩) r:=(by have:=HB.sl 0;rwa[Vk K.ae,mO] at this);go_wp2_with (go_at_call 190;refine(uO _ _ N r wr K (aK _) Om HD R).mono ?_;rintro e M ⟨r',T,rfl,H,P,S,rfl⟩);go_ret;exact⟨r',N,T,rfl,H,P.trans HE,S,Z⟩
def acu(A1:aS)(c1:Nat)(a:List Nat)(d:Nat)(w:au)(h1:a.length<=100000000)(da:bM a)(p:0<d)(iY:d<1000000000)(Y:Lm w A1 a):
 Calls prog 277 #[.slice A1 a.length c1,.int .u64 d] w fun e J=>∃r c,r.length<=c/\e= .returned (.tuple #[.slice (some ⟨w.heap.size,0,none⟩) r.length c,.int .u64 ((val a%d:Nat):Int)])/\Canon r/\val r=val a/d/\Lm J (some ⟨w.heap.size,0,none⟩) r/\Ext w J:=by
 have S1:=af Y;have DA:=af da;clear Y da;have O:=Hv a.length Om;go_enter func277,ntmps277;go_wp2;clear O;go_loopw [7,8,9] (fun rs i _ wr=>∃(m:Int) (rest:Nat) (q:List Nat), -1<=m/\m<a.length/\i= .int .i64 m/\rs= .int .u64 rest/\rest<d/\bM q/\q.length=a.length - (m+1).toNat/\val (a.drop (m+1).toNat)=val q*d+rest/\ar wr w.heap.size 249 (cX (List.replicate (m+1).toNat 0++q))/\Ext w wr) (fun _ i _ _=>(intOf i+1).toNat)
 ·refine⟨(a.length:Int) - 1,0,[],by omega,by omega,rfl,rfl,p,kJ,?_,?_,?_,(aC w).alloc _⟩
  ·simp
  ·rw[qD Om];simp
  ·have z:((a.length:Int) - 1+1).toNat=a.length:=Om;rw[z,kG,<-KQ];exact kq _ _ _
 obtain⟨m,rest,q,kA,nt,rfl,rfl,l,D,b,hv,j,Z⟩:=hrel;have H:=af D;have G:=af b;have HV:=af hv;have HB:=af j;have S:=af Z;clear D b hv j Z;by_cases h0:0<=m
 ·obtain⟨k,rfl⟩:∃k:Nat,m=k:=⟨m.toNat,by omega⟩;have Q:k<a.length:=Om;have h:((k:Int)+1).toNat=k+1:=Om;have F:=af (h▸G.ae);have T:=af (h▸HV.ae);have A:=af (h▸HB.ae);clear h;obtain⟨g,o,rfl,_,s⟩:=(S1.ext S).at_ (mg Q);rw[<-gP Q] at s;have P:=DA.getD k;have V:=af (aoD l (DA.getD k));unfold B9 at P;obtain⟨t,C⟩:∃t,t=rest*B9+limb a k:=⟨_,rfl⟩;have HA:=af (ako Q T C);have HT:=af C;have B:(rest:Int)*1000000000+limb a k=t:=by rw[C];unfold B9;omega
  have ht9:t<=999999999999999999:=by unfold B9 at C;omega
  have U:=af B;clear C B;have I:wr.cell? ⟨w.heap.size,k,none⟩=some (.int .u64 (0:Nat)):=(by have z:List.replicate (k+1) 0++q=List.replicate k 0++(0::q):=az7;have:=KS (i:=k) A Oc;rw[this,z,D_ _ _ _ _ Ou])
  have Mp:=A.frozen k;go_wp2;rw[U.ae];go_region;all_goals go_wp2
  go_roundw
  ·have f:t/d<B9:=by rw[HT.ae];exact V
   refine⟨(k:Int) - 1,t%d,t/d::q,by omega,by omega,by go_num,congrArg _ (Tq t d).symm,fg _ p,H.cons f,?_,?_,?_,(S.setCell (aK _) _).drew⟩
   ·have:=F.ae;rw[cW];omega
   ·have z:((k:Int) - 1+1).toNat=k:=Om;rw[z];exact HA
   ·have z:((k:Int) - 1+1).toNat=k:=Om;have e2:IntKind.u64.wrap ((t:Int)/ (d:Int))=((t/d:Nat):Int):=(by rw[<-DM,k7];unfold B9 at f;generalize t/d=y at f⊢;omega)
    have e3:List.replicate (k+1) 0++q=List.replicate k 0++(0::q):=az7;have:=Hw (i:=k) (x:=t/d) A e2;rw[e3,AY _ _ _ _ _ Ou] at this;rw[z];exact this.drew
  simp [intOf]
 ·obtain rfl:m= -1:=Om;have hv:=HV.ae;have b:=G.ae;have R:=HB.ae;simp only[Int.reduceNeg,Int.reduceAdd,Int.toNat_zero,mO,aaq,vR,TM] at hv b R;have HE:ah (val q=val a/d/\rest=val a%d):=(by rw[ah,hv,oD,Nat.add_mul_div_right _ _ p,Oq l,Nat.add_mul_mod_self_right,uB l];exact⟨by omega,rfl⟩)
  have X:=af R;have W:=af b;clear hv b R;have L:Lm wr (some ⟨w.heap.size,0,none⟩) q:=(by have:=X.sl 0;rwa[mO] at this)
  go_wp2_with (go_at_call 190;refine(uO _ _ a.length q wr W (aK _) Om H L).mono ?_;rintro e J ⟨r',N,rfl,E,K,M,rfl⟩)
  go_ret2;exact⟨r',a.length,N,by rw[<-HE.2];rfl,E,K.trans HE.1,M,S⟩
def xV(h:b<a):limb (i.take a) b=limb i b:=by unfold limb;rw[fG,fG,aax,if_pos h]
def ad1{s:List Nat}{k:Nat}(h:i.length=a):limb (i++s) (a+k)=limb s k:=by subst h;unfold limb;rw[fG,fG,zR Om];congr 2;omega
def D4(h:ar m a 249 (cX (i++j)))(d:i.length=b)(e:c<j.length):m.cell? ⟨a,b+c,none⟩=some (.int .u64 (limb j c:Nat)):=by rw[KS h (by rw[bC];omega),ad1 d]
def KG{y:Nat}(h:ar m a 249 (cX (j++(k++l.drop c))))(r:j.length=b)(q:k.length=c)(f:c<l.length)(e:B=y):
 ar (m.setCell ⟨a,b+c,none⟩ (.int .u64 B)) a 249 (cX (j++((k++ [y])++l.drop (c+1)))):=by
 have d:=Hw (i:=b+c) (x:=y) h e;rw[i6 f,<-iB,AY _ _ _ _ _ (by rw[bC];omega)] at d;simpa using d
def am_{y:Nat}(h:ar m a 249 (cX (j++((k++ [d])++l))))(t:j.length=b)(s:k.length=c)(q:B=y):
 ar (m.setCell ⟨a,b+c,none⟩ (.int .u64 B)) a 249 (cX (j++((k++ [y])++l))):=by
 have f:=Hw (i:=b+c) (x:=y) h q;have e:j++((k++ [d])++l)=(j++k)++d::l:=Ou;rw[e,AY _ _ _ _ _ (by rw[bC];omega)] at f;simpa using f
def Kt{s:List Nat}{k:Nat}(a:i.length=k):limb (i++s.drop k) k=limb s k:=by have:=ad1 (s:=s.drop k) (k:=0) a;rw[jK] at this;rw[this];unfold limb;rw[fG,fG,GH,jK]
def aoB(g o n c1 c2 gv ov:Nat)(I s v:List Nat)(w:au)(hn:2<=n)(wV:n<=100000000)(ho:I.length=o)(hs:n+1<=s.length)(ds:bM s)(f:ar w g 249 (cX (I++s)))
 (hv:v.length=n) (dv:bM v) (sv:Lm w (some ⟨gv,ov,none⟩) v) (hne:gv≠g) (axz:500000000<=limb v (n - 1)) (hB:val (s.take (n+1))<B9*val v):
 Calls prog 278 #[.slice (some ⟨g,o,none⟩) (n+1) c1,.slice (some ⟨gv,ov,none⟩) n c2] w fun e w'=>
  e= .returned (.int .u64 ((val (s.take (n+1))/val v:Nat):Int))/\∃u',u'.length=n+1/\bM u'/\val u'=val (s.take (n+1))%val v/\ar w' g 249 (cX (I++(u'++s.drop (n+1))))/\Only g w w':=by
 have G:=af ho;have DS:=af ds;have NI:=af f;have V:=af hv;have DV:=af dv;have SV:=af sv;have Np:=af hne;have HB:=af hB;have D:ah ((s.take (n+1)).length=n+1):=by rw[ah,cP];omega
 have DU:=af (ds.take (n+1));have HS:=af hs;clear ho ds f hv dv sv hne hB;have cu0:=D4 NI G (show n<s.length by omega);have cu1:=D4 NI G (show n - 1<s.length by omega);have cu2:=D4 NI G (show n - 2<s.length by omega);have cv1:w.cell? ⟨gv,ov+(n - 1),none⟩=some (.int .u64 (limb v (n - 1):Nat)):=(by have hk:n - 1<v.length:=az4;exact agk)
 have cv2:w.cell? ⟨gv,ov+(n - 2),none⟩=some (.int .u64 (limb v (n - 2):Nat)):=(by have hk:n - 2<v.length:=az4;exact agk);have bu0:=DS.getD n;have bu1:=DS.getD (n - 1);have bu2:=DS.getD (n - 2);have bv1:=DV.getD (n - 1);have bv2:=DV.getD (n - 2);have Zy:=akO hn V D DV DU Om;rw[xV Om,xV Om] at Zy;have Nv:=af Zy;clear Zy;unfold B9 at bu0 bu1 bu2 bv1 bv2;generalize hu0:limb s n=u0 at*;generalize hu1:limb s (n - 1)=u1 at*;generalize hu2:limb s (n - 2)=u2 at*;generalize E9:limb v (n - 1)=v1 at*;generalize hv2:limb v (n - 2)=l at*;have E:=af hu0;have sL:=af hu1;have M3:=af hu2;have vD:=af E9;have pd:=af hv2;clear hu0 hu1 hu2 E9 hv2;have mE:IntKind.u64.wrap ((u0:Int)*1000000000)=u0*1000000000:=ay_;have tV:IntKind.u64.wrap ((u0:Int)*1000000000+u1)=u0*1000000000+u1:=ay_;have hq3:IntKind.i64.wrap ((n:Int) - 1)=n - 1:=GU _ Om;have hq4:((n:Int) - 1).toNat=n - 1:=Om;go_enter func278,ntmps278;go_wp2;go_quiet (fail);clear mE tV;obtain⟨T,hT⟩:∃T:Nat,T=u0*B9+u1:=⟨_,rfl⟩;have Fy:(u0:Int)*1000000000+u1=T:=by rw[hT];unfold B9;omega
 rw[Fy];have hT9:T<=999999999999999999:=by unfold B9 at hT;omega
 clear Fy;have HT:=af hT;clear hT;go_wp2;go_quiet (fail);have hdiv:IntKind.u64.wrap ((T:Int)/ (v1:Int))=((T/v1:Nat):Int):=by have hle:T/v1<=T:=DN _ _;rw[<-DM,k7];generalize T/v1=y at hle⊢;omega
 rw[hdiv,<-Tq];clear hdiv;rw[<-HT.ae] at Nv;have YP:T/v1<=T:=DN _ _;generalize T/v1=q0 at*;generalize T%v1=r0 at*;go_wp2;go_loopw [7,8] (fun a b wr=>∃q r:Nat,a= .int .u64 q/\b= .int .u64 r/\Lt (s.take (n+1)) v n q r/\q<=999999999999999999/\∃k,wr=w.drewN k) (fun a _ _=>(intOf a).toNat)
 exact⟨q0,r0,rfl,rfl,Nv,by omega,by first|exact WH _ _|exact Ll _ _ _|exact WG _ _ _ _⟩;obtain⟨q,r,rfl,rfl,hg,YP,k,rfl⟩:=hrel;have wT:=hg.rb;rw[vD.ae] at wT;unfold B9 at wT;have HG:=af hg;clear hg;by_cases X:r<1000000000/\(1000000000<=q\/r*B9+u2<q*l)
 ·obtain⟨hr,YR⟩:=X;have Q:decide ((r:Int)<1000000000)=true:=fF;obtain⟨h1q,w_⟩:=alY hn V D DV DU HB HG ay1 (by rw[pd.ae,xV Om,M3.ae];exact YR);rw[vD.ae] at w_;have HG':=af w_;clear w_;by_cases hq:1000000000<=q
  ·have kB:decide ((1000000000:Int)<=q)=true:=fF;clear YR;exact ag'
  ·have kB:decide ((1000000000:Int)<=q)=false:=aW;have hlt:r*B9+u2<q*l:=Om;have L:=Hc (x:=q) (y:=l) ay1 ay1;have K:0<=(q:Int)*(l:Int):=GV Om Om;have J:(q:Int)*(l:Int)<=999999998000000001:=azj;have O:(r:Int)*1000000000+u2<(q:Int)*(l:Int):=by rw[<-mM];unfold B9 at hlt;omega
   have Fs:decide ((r:Int)*1000000000+u2<(q:Int)*(l:Int))=true:=decide_eq_true O;have ve:IntKind.u64.wrap ((q:Int)*(l:Int))=q*l:=ay_;have hw2:IntKind.u64.wrap ((r:Int)*1000000000)=r*1000000000:=ay_;have hw3:IntKind.u64.wrap ((r:Int)*1000000000+u2)=r*1000000000+u2:=ay_;have hw4:IntKind.i64.wrap ((n:Int) - 2)=n - 2:=GU _ Om;have Cb:((n:Int) - 2).toNat=n - 2:=Om;clear YR hlt L;exact ag'
 ·have C:B9<=r\/(q<B9/\q*l<=r*B9+u2):=by
   rcases cA r 1000000000 with h|h
   ·right;refine⟨?_,?_⟩
    ·rcases cA q 1000000000 with h'|h'
     ·exact h'
     ·exact absurd ⟨h,.inl h'⟩ X
    ·rcases cA (r*B9+u2) (q*l) with h'|h'
     ·exact absurd ⟨h,.inr h'⟩ X
     ·exact h'
   ·left;exact h
  have Y:=anX hn V D DV DU HB HG (by rw[pd.ae,xV Om,M3.ae];exact C);have N:=alX hn V D DV DU (by rw[vD.ae];omega) Y.1 Y.2;have hq9:q<=999999999:=by have:=Y.1;unfold B9 at this;omega
  have asR:=af N;have zj:=af HG.up;clear Y N X;have P:r<1000000000->q*l<=r*B9+u2:=fun hr=>by
   rcases C with h|h
   ·unfold B9 at h;omega
   ·exact h.2
  clear C;by_cases hr:r<1000000000;all_goals first
   |(have Q:decide ((r:Int)<1000000000)=false:=aW
     clear P;go_wp2;go_quiet (fail);clear Q;go_wp2)
   |(have Q:decide ((r:Int)<1000000000)=true:=fF
     have C:=P hr;have kB:decide ((1000000000:Int)<=q)=false:=aW;have L:=Hc (x:=q) (y:=l) ay1 ay1;have K:0<=(q:Int)*(l:Int):=GV Om Om;have J:(q:Int)*(l:Int)<=999999998000000001:=azj;have O:(q:Int)*(l:Int)<=(r:Int)*1000000000+u2:=by rw[<-mM];unfold B9 at C;omega
     have Fs:decide ((r:Int)*1000000000+u2<(q:Int)*(l:Int))=false:=aW;have ve:IntKind.u64.wrap ((q:Int)*(l:Int))=q*l:=ay_;have hw2:IntKind.u64.wrap ((r:Int)*1000000000)=r*1000000000:=ay_;have hw3:IntKind.u64.wrap ((r:Int)*1000000000+u2)=r*1000000000+u2:=ay_;have hw4:IntKind.i64.wrap ((n:Int) - 2)=n - 2:=GU _ Om;have Cb:((n:Int) - 2).toNat=n - 2:=Om;clear C L P;go_wp2;go_quiet (fail);clear Q kB Fs ve hw2 hw3 hw4 Cb O J K;go_wp2)
  all_goals
   clear cu0 cu1 cu2 cv1 cv2 hq3 hq4;go_loopw [9,10,11,12,13,80] (fun cr _ _ _ _ i wr=>∃(k c:Nat) (p:List Nat),k<=n/\i= .int .i64 k/\cr= .int .u64 c/\c<=1000000000/\p.length=k/\bM p/\val p+q*val (v.take k)=val ((s.take (n+1)).take k)+B9^k*c/\ar wr g 249 (cX (I++(p++s.drop k)))/\Only g w wr) (fun _ _ _ _ _ i _=>n - (intOf i).toNat);exact⟨0,0,[],aT _,rfl,rfl,by omega,rfl,kJ,by simp,(show ar w g _ _ from by simpa using NI.ae),by first|exact(ii _ _).drewN _|exact((ii _ _).drewN _).drewN _⟩;obtain⟨k,c,p,hk,rfl,rfl,hc,hp,hdp,hvp,f,M⟩:=hrel;have m:=af hp;have U:=af hdp;have ZX:=af hvp;have z:=af f;have S:=af M;clear hp hdp hvp f M;by_cases hlt:k<n
   ·have cvk:wr.cell? ⟨gv,ov+k,none⟩=some (.int .u64 (limb v k:Nat)):=(by have hk:k<v.length:=az4;obtain⟨_,_,hA,_,hc⟩:=(SV.only S Np).at_ (mg hk);injection hA with hA;injection hA with h1 h2;subst h1 h2;rw[hc,gP hk]);have cuk:wr.cell? ⟨g,o+k,none⟩=some (.int .u64 (limb s k:Nat)):=(by rw[D4 z.ae G.ae (by rw[bC,m.ae,oB];omega),Kt m.ae]);have Mp:=z.frozen (o+k);have bvk:=DV.getD k;have buk:=DS.getD k;have L:=Hc (x:=q) (y:=limb v k) ay1 bvk;have K:0<=(q:Int)*(limb v k:Int):=GV Om Om;have J:(q:Int)*(limb v k:Int)<=999999998000000001:=azj;unfold B9 at bvk buk;obtain⟨t,ht⟩:∃t,t=q*limb v k+c:=⟨_,rfl⟩;have hti:(q:Int)*(limb v k:Int)+c=t:=by rw[ht];simp
    have ht9:t<=999999999999999999:=Om;have F:=af (fun y c' hy=>ak4 (y:=y) (c':=c') m ZX ht hy);rw[xV (show k<n+1 by omega)] at F;have A:=af hti;clear ht hti L;by_cases aik:limb s k<t%1000000000
    ·have hd:decide ((limb s k:Int)<((q:Int)*(limb v k:Int)+c)%1000000000)=true:=by rw[A.ae];exact decide_eq_true Om
     have HF:=af (F (limb s k+B9 - t%B9) (t/B9+1) ay1);have auY:0<=(limb s k:Int)+1000000000 - ((q:Int)*(limb v k:Int)+c)%1000000000:=Om;go_wp2;go_roundw
     ·refine⟨k+1,t/B9+1,p++ [limb s k+B9 - t%B9],by omega,by go_num,congrArg _ azE,by unfold B9;omega,by simp [m.ae],U.snoc ay1,HF,?_,(S.bu _ _).bu _ _⟩;exact am_ (KG (y:=limb s k+1000000000) z G m Om Om) G m azE
     simp [intOf];omega
    ·have hd:decide ((limb s k:Int)<((q:Int)*(limb v k:Int)+c)%1000000000)=false:=by rw[A.ae];exact decide_eq_false Om
     have HF:=af (F (limb s k - t%B9) (t/B9) ay1);have auY:0<=(limb s k:Int) - ((q:Int)*(limb v k:Int)+c)%1000000000:=by rw[A.ae];omega
     go_wp2;go_roundw
     ·refine⟨k+1,t/B9,p++ [limb s k - t%B9],by omega,by go_num,congrArg _ azE,by unfold B9;omega,by simp [m.ae],U.snoc ay1,HF,?_,S.bu _ _⟩;exact KG z G m Om azE
     simp [intOf];omega
   ·obtain rfl:k=n:=Om;have cun:wr.cell? ⟨g,o+k,none⟩=some (.int .u64 (u0:Nat)):=(by rw[D4 z.ae G.ae (by rw[bC,m.ae,oB];omega),Kt m.ae,E.ae])
    have Mp:=z.frozen (o+k);by_cases hle:c<=u0
    ·have hd:decide ((c:Int)<=(u0:Int))=true:=fF;have F:=af (ak5 V D m zj ZX (by rw[xV Om,E.ae];exact hle));go_wp2;go_ret;refine⟨pI (by rw[F.1]),p++ [u0 - c],by simp [m.ae],U.snoc ay1,?_,KG z G m Om Om,S.bu _ _⟩;have:=F.2;rw[xV Om,E.ae] at this;exact this
    ·have hd:decide ((c:Int)<=(u0:Int))=false:=aW;go_wp2;obtain⟨wo,rfl⟩:∃wo:World,wo=wr:=⟨_,rfl⟩;go_loopw [14,15,16,17,132] (fun cr _ _ _ i wr=>∃(j d:Nat) (r':List Nat),j<=k/\i= .int .i64 j/\cr= .int .u64 d/\d<=1/\r'.length=j/\bM r'/\val r'+B9^j*d=val (p.take j)+val (v.take j)/\ar wr g 249 (cX (I++(r'++(p++s.drop k).drop j)))/\Only g w wr) (fun _ _ _ _ i _=>k - (intOf i).toNat);exact⟨0,0,[],aT _,rfl,rfl,by omega,rfl,kJ,by simp,by simpa using z.ae,S⟩;obtain⟨j,d,r',hj,rfl,rfl,Q,Q7,hdr,L8,f,M⟩:=hrel;have W:=af Q7;have HDR:=af hdr;have HVR:=af L8;have H:=af f;have R:=af M;clear Q7 hdr L8 f M cun Mp;have Z:ah (k<(p++s.drop k).length):=by rw[ah,bC,m.ae,oB];omega
     by_cases avc:j<k
     ·have cvj:wr.cell? ⟨gv,ov+j,none⟩=some (.int .u64 (limb v j:Nat)):=(by have hk:j<v.length:=az4;obtain⟨_,_,hA,_,hc⟩:=(SV.only R Np).at_ (mg hk);injection hA with hA;injection hA with h1 h2;subst h1 h2;rw[hc,gP hk]);have epj:limb (p++s.drop k) j=limb p j:=(by unfold limb;rw[fG,fG,pC (by rw[m.ae];exact avc)]);have cuj:wr.cell? ⟨g,o+j,none⟩=some (.int .u64 (limb p j:Nat)):=(by rw[D4 H.ae G.ae (by rw[bC,W.ae,oB];have:=Z.ae;omega),Kt W.ae,epj]);have Xs:=H.frozen (o+j);have bvj:=DV.getD j;have bpj:=U.getD j;unfold B9 at bvj bpj;obtain⟨t,ht⟩:∃t,t=limb p j+limb v j+d:=⟨_,rfl⟩;have HA:=af (U4 W HVR ht);have Z4:=af ht;clear ht epj;go_wp2;go_roundw
      ·refine⟨j+1,t/B9,r'++ [t%B9],by omega,by go_num,congrArg _ (by rw[Z4.ae];unfold B9;omega),by rw[Z4.ae];unfold B9;omega,by simp [W.ae],HDR.snoc (fg _ Od),HA,?_,R.bu _ _⟩;exact KG H G W (by have:=Z.ae;omega) (by rw[Z4.ae];unfold B9;omega)
      simp [intOf];omega
     ·obtain rfl:j=k:=Om;have B:=af (amE V D m W HDR DV zj asR ZX (by rw[xV Om,E.ae];omega) U HVR);have Zg:u0+d=c:=by have:=B.2.2.2;rw[xV Om,E.ae] at this;exact this
      have cun:wr.cell? ⟨g,o+j,none⟩=some (.int .u64 (u0:Nat)):=(by rw[D4 H.ae G.ae (by rw[bC,W.ae,oB];have:=Z.ae;omega),Kt W.ae,Kt m.ae,E.ae]);have Xs:=H.frozen (o+j);have mE:=B.1;have HCD:=af Zg;clear Zg;go_wp2;go_ret;refine⟨pI (by rw[B.2.1];omega),r'++ [0],by simp [W.ae],HDR.snoc Od,?_,?_,R.bu _ _⟩
      ·rw[pH,B.2.2.1];simp
      ·have e0:(p++s.drop j).drop (j+1)=s.drop (j+1):=(by rw[Tp,qD (by have:=m.ae;omega),m.ae,vR,z8];congr 1;omega);rw[<-e0];refine KG H G W (by have:=Z.ae;omega) ?_;have:=HCD.ae;rw[k7,k7];omega
def PT(a b:List Nat)(w:au)(e:Ending)(f:au):Prop:=
 ∃j d h i c g,e= .returned (.tuple #[.slice j d.length h,.slice i c.length g])/\d.length<=h/\c.length<=g/\Canon d/\Canon c/\val d=val a/val b/\val c=val a%val b/\Lm f j d/\Lm f i c/\Ext w f
def akS(i q:aS)(h r:Nat)(a b:List Nat)(w:au)(z:a.length<=10000000)(y:b.length<=10000000)(p:Canon a)(o:Canon b)(m:a.length<=h)(l:Lm w i a)(j:Lm w q b)(c:val a<val b):
 Calls prog 241 #[.slice i a.length h,.slice q b.length r] w (PT a b w):=by
 have s:=af l;have A:=af j;have t:=af p;have B:=af o;have f:=af c;have d:=Er c;have g:=af (OT i q h r a b w Om Om p o l j);rw[d] at g;clear l j p o d c;go_enter func241,ntmps241;go_wp2_with fail
 refine g.mono ?_;rintro e x ⟨rfl,k,rfl⟩;go_wp2;go_ret2;refine⟨none,[],0,i,a,h,rfl,by simp,m,Canon.nil,t,?_,?_,Sl.nil,s,(aC w).drewN k⟩
 ·rw[Oq f.ae];rfl
 ·rw[uB f.ae]
def al9(s L:aS)(I N:Nat)(a b:List Nat)(w:au)(X:a.length<=10000000)(H:Canon a)(q:Canon b)(y:Lm w s a)(x:Lm w L b)(E:val b<=val a)(l:b.length=1):
 Calls prog 241 #[.slice s a.length I,.slice L b.length N] w (PT a b w):=by
 have K:=af (OT s L I N a b w Om Om H q y x);obtain⟨d,rfl⟩:∃d,b= [d]:=by
  match b,l with
  | [d],_=>exact⟨d,rfl⟩
 obtain⟨g,o,rfl,_,f⟩:=x.at_ (mg (show 0< [d].length by simp));simp only[N_,jK] at f;have F:d<1000000000:=q.1.head;have j:0<d:=(by have:=q.2;unfold ic at this;simp at this;omega)
 have i:val [d]=d:=Ou;have S:decide (ew (val a) (val [d])<0)=false:=(by unfold ew;rw[if_neg Om];split<;>rfl)
 have U:=af y;have W:=af H;have p:=af i;clear y x H q E l i;simp only[cW,vU,jc] at*;go_enter func241,ntmps241;go_wp2_with fail
 refine K.mono ?_;rintro e O ⟨rfl,k,rfl⟩;generalize ew (val a) (val [d])=Y at*;go_wp2_with fail;refine(acu s I a d (w.drewN k) Om W.1 j F U).mono ?_;rintro e t ⟨r,c,C,rfl,T,h,A,Q⟩;have R:val a%d<d:=fg _ j;generalize M:val a%d=m at*;have V:=af M;have J:=af h;clear M h;go_wp2_with fail
 refine(uO (some ⟨t.heap.size,0,none⟩) 1 1 [m] _ rfl Om Om (tj ay1 kJ) (Sl.new t 249 #[.int .u64 m])).mono ?_;rintro e O ⟨P,D,rfl,G,z,B,rfl⟩;go_wp2;go_ret2;refine⟨_,r,c,_,P,1,rfl,C,D,T,G,?_,?_,A.ext ((aC t).alloc _),B,?_⟩
 ·rw[p.ae,J.ae]
 ·rw[z,p.ae,V.ae];simp
 ·exact(Ext.trans (((aC w).drewN k)) Q).alloc _
def akR(A1 A2:aS)(c1 c2:Nat)(a b:List Nat)(w:au)(h1:a.length<=10000000)(ca:Canon a)(cb:Canon b)(s1:Lm w A1 a)(s2:Lm w A2 b)(hle:val b<=val a)(hb2:2<=b.length):
 Calls prog 241 #[.slice A1 a.length c1,.slice A2 b.length c2] w (PT a b w):=by
 have hbl:=GK ca cb hle;have HCM:=af (OT A1 A2 c1 c2 a b w Om Om ca cb s1 s2);have hcm:decide (ew (val a) (val b)<0)=false:=(by unfold ew;rw[if_neg Om];split<;>rfl)
 have ayJ:((b.length:Int)==1)=false:=beq_eq_false_iff_ne.2 Om;have hkb:b.length - 1<b.length:=Om;obtain⟨g,o,rfl,_,O⟩:=s2.at_ (mg hkb);rw[<-gP hkb] at O;have hx0:0<limb b (b.length - 1):=(by have:=cb.2.last Om;rw[gP hkb];omega)
 have pX:=cb.1.getD (b.length - 1);obtain⟨f,hf⟩:∃f,f=B9/ (limb b (b.length - 1)+1):=⟨_,rfl⟩;have X:0<f:=by rw[hf];exact Nat.div_pos Om Om
 have Ze:f<1000000000:=(by rw[hf,Tc Om];unfold B9;omega);have sB:(1000000000:Int)/ ((limb b (b.length - 1):Int)+1)=f:=(by rw[hf];unfold B9;simp);have vI:=af sB;have HF:=af hf;have S1:=af s1;have S2:=af s2;have CA:=af ca;have CB:=af cb;have zy:=af hle;clear s1 s2 ca cb hle hf sB;unfold B9 at pX;have lR:=UU a.length (a.length+1) rfl Om;go_enter func241,ntmps241;go_wp2_with fail
 refine HCM.mono ?_;rintro e w' ⟨rfl,k,rfl⟩;generalize ew (val a) (val b)=cm at*;go_upto_region 7 with fail
 rw[vI.ae];have hW1:Ext w ((w.drewN k).alloc (Obj.cells #[Value.int IntKind.u64 f] 249)):=(((aC w).drewN k)).alloc _;have hWf:Lm ((w.drewN k).alloc (Obj.cells #[Value.int IntKind.u64 f] 249)) (some ⟨w.heap.size,0,none⟩) [f]:=Sl.new (w.drewN k) 249 #[.int .u64 f];have hWs:((w.drewN k).alloc (Obj.cells #[Value.int IntKind.u64 f] 249)).heap.size=w.heap.size+1:=Ou;generalize(w.drewN k).alloc (Obj.cells #[Value.int IntKind.u64 f] 249)=W at*;have hW2:w.heap.size+1<=W.heap.size:=Om;clear hWs;have HW:=af hW1;have HWF:=af hWf;clear hW1 hWf O hcm;go_cut [9,10] (fun s9 s10 wx=>∃p gv v cv,p≠gv/\w.heap.size+1<=p/\s9= .slice (some ⟨p,0,none⟩) (a.length+1) (a.length+1)/\s10= .slice (some ⟨gv,0,none⟩) v.length cv/\Canon v/\val v=val b*f/\Lm wx (some ⟨gv,0,none⟩) v/\ar wx p 249 (cX (pad [] (a.length+1)))/\Ext W wx)
 case first=>
  have hwa:IntKind.i64.wrap ((a.length:Int)+1)=a.length+1:=GU _ Om;go_region_with (go_at_call 197;refine(VV _ _ _ _ b [f] _ Om Ou CB.1 (tj ay1 kJ) (by exact S2.ext (HW.trans (by first|exact(aC W).drew|exact((aC W).alloc _).drew|exact((aC W).drew).alloc _))) (by exact HWF.ext (by first|exact(aC W).drew|exact((aC W).alloc _).drew|exact((aC W).drew).alloc _))).mono ?_;rintro e w1 ⟨v,cv,hcv,rfl,hv,J,s,hx⟩);all_goals (go_wp2_with fail;go_meet)
  all_goals have I:val v=val b*f:=by rw[J];simp
  ·refine⟨W.heap.size,W.heap.size+1,v,cv,by omega,hW2,rfl,rfl,hv,I,?_,?_,?_⟩
   ·have e:(W.alloc (Obj.cells (cX (pad [] (a.length+1))).toArray 249)).drew.heap.size=W.heap.size+1:=by show(W.alloc _).heap.size=_;simp
    rw[e] at s;exact s
   ·exact(kq W 249 (cX (pad [] (a.length+1)))).drew.ext hx
   ·exact Ext.trans (((aC W).alloc _).drew) hx
  ·have hx0:Ext W w1:=Ext.trans ((aC W).drew) hx;have hlt:W.heap.size<w1.heap.size:=(by obtain⟨g',_,P,w_,_⟩:=s.at_ (k:=0) (mg (show 0<v.length by have:=(adT CB rfl Om HF hv I).1;omega));injection P with P;injection P with h1 h2;have:W.drew.heap.size=W.heap.size:=rfl;omega)
   refine⟨w1.heap.size,W.heap.size,v,cv,by omega,by omega,rfl,rfl,hv,I,s.ext ((aC w1).alloc _),?_,?_⟩
   ·exact kq w1 249 (cX (pad [] (a.length+1)))
   ·exact hx0.alloc _
 case rest=>
  obtain⟨p,gv,v,cv,hne,Ro,rfl,rfl,hcv,J,s,hbu,IM⟩:=hcut;clear lR;obtain⟨pY,M⟩:=adT CB rfl Om HF hcv J;have qo:=af (HW.trans IM);have HFW:=af (HWF.ext IM);have CK:=af s;have HBU:=af hbu;have HCV:=af hcv;have HVV:=af J;have Cy:=af pY;have axQ:v.length<=b.length:=Om;have axP:b.length<=v.length:=Om;clear s hbu hcv J pY IM;go_wp2_with fail
  refine(VV _ _ _ _ a [f] wc Om Ou CA.1 (tj ay1 kJ) (S1.ext qo) HFW).mono ?_;rintro e w2 ⟨r,cr,YN,rfl,hr,L8,QW,hx2⟩;have Z:val r=val a*f:=by rw[L8];simp
  have h_:r.length<=a.length+1:=by
   rcases cA (a.length+1) r.length with h|h
   ·exfalso;have h3:=GR hr.2 Om;have h4:=kL CA.1;have h5:B9^(a.length+1)<=B9^(r.length - 1):=gM Od Om;have h6:val a*f<=B9^a.length*B9:=xN Om ay1;have h7:val a*f<B9^a.length*B9:=by refine cE (aaa h4 X) (jt _ ay1)
    rw[fJ] at h5;omega
   ·exact h
  have Gb:=af (alH CA CB rfl rfl Om hbl X hr h_ Z);have M7:=af QW;have aY:=af hx2;have aiD:=HBU.ext hx2;have awT:=af aiD;clear QW hx2 L8 Z aiD;obtain⟨d,hQn⟩:∃d,d+v.length=a.length+1:=⟨a.length+1 - v.length,by omega⟩;have Xm:∀w:World,(Instr.makeSlice 124 (.int .i64 ((a.length:Int)+1 - v.length)) (.int .i64 ((a.length:Int)+1 - v.length))).run prog w= .ok (.slice (some ⟨w.heap.size,0,none⟩) d d) (w.alloc (.cells (cX (pad [] d)).toArray 249)):=(by have e':((a.length:Int)+1 - v.length)=(d:Int):=Om;rw[e'];exact Hv d Om)
  have awp:ah (Bx (val a*f) (val v) v.length d (pad r (a.length+1)) []):=by
   have:=Gb.ae;rw[ah,HVV.ae];have F:a.length+1 - b.length=d:=by have:=Cy.ae;omega
   rw[F,<-Cy.ae] at this;exact this
  have C:500000000<=limb v (v.length - 1):=by rw[Cy.ae];exact M
  have Jv:=af C;have mE:d<=a.length:=Om;have tV:a.length+1<=d+v.length:=Om;have hq3:d+v.length<=a.length+1:=Om;have rx:2<=v.length:=Om;have HQN:=af hQn;clear hQn M C;go_wp2_with ((with_reducible show wpList _ _ _ _ _ _);refine ajQ rfl (.tmp 49) (.tmp 52) 124 124 rfl 249 underlying124 Ok p 0 (a.length+1) (a.length+1) _ r.length cr rfl rfl 249 _ awT (cX r) (by rw[OI];exact(jJ h_).symm) M7 (by rw[OI,OI,uI Ou];omega) (by intro u hu;simp [cX] at hu;obtain⟨y,_,rfl⟩:=hu;rfl) ?_;intro t g7 B)
  have aiZ:ah (Ext w t):=(qo.trans aY).only B Om;have ai4:ah (Lm t (some ⟨gv,0,none⟩) v):=(CK.ext aY).only B (fun h=>hne h.symm);have awE:ah (Lm t (some ⟨w.heap.size,0,none⟩) [f]):=(HFW.ext aY).only B Om;have hb3:ar t p 249 (cX (pad r (a.length+1))):=by
   have:=g7.ae;have F:(cX (pad [] (a.length+1))).take 0++(cX r++(cX (pad [] (a.length+1))).drop (0+(cX r).length))=cX (pad r (a.length+1)):=(by rw[kH,vR,jc,OI,KQ,cX,cX,cX,zW,aat,pad,mL,zW])
   rwa[F] at this
  have ayl:p<t.heap.size:=hb3.lt;have ayh:gv<t.heap.size:=(by obtain⟨g',_,P,w_,_⟩:=ai4.at_ (k:=0) (mg (show 0<v.length by omega));injection P with P;injection P with h1 h2;omega)
  have awX:=af hb3;clear hb3 Xm B;go_loopw [12] (fun i wr=>∃(m:Int) (c q:List Nat), -1<=m/\m<d/\i= .int .i64 m/\c.length=a.length+1/\q.length=d - (m+1).toNat/\Bx (val a*f) (val v) v.length (m+1).toNat c q/\ar wr p 249 (cX c)/\ar wr t.heap.size 249 (cX (List.replicate (m+1).toNat 0++q))/\Lm wr (some ⟨gv,0,none⟩) v/\Lm wr (some ⟨w.heap.size,0,none⟩) [f]/\Ext w wr) (fun i _=>(intOf i+1).toNat)
  ·refine⟨(d:Int) - 1,pad r (a.length+1),[],by omega,by omega,rfl,uI h_,?_,?_,awX.alloc _,?_,ai4.ext ((aC t).alloc _),awE.ext ((aC t).alloc _),aiZ.alloc _⟩
   ·simp
   ·have F:((d:Int) - 1+1).toNat=d:=Om;rw[F];exact awp
   ·have F:((d:Int) - 1+1).toNat=d:=Om;rw[F,kG,<-KQ];exact kq _ _ _
  obtain⟨m,c,q,kA,nt,rfl,K,D,N,aiC,E,aia,ais,Y⟩:=hrel;have G:=af K;have Nb:=af D;have HLO:=af N;have S:=af aiC;have HBQ:=af E;have LG:=af aia;have aje:=af ais;have aiY:=af Y;clear K D N aiC E aia ais Y;have hV0:0<val v:=Ej HCV (by intro h;rw[h] at rx;simp at rx);by_cases h0:0<=m
  ·obtain⟨j,rfl⟩:∃j:Nat,m=j:=⟨m.toNat,by omega⟩;have V:((j:Int)+1).toNat=j+1:=Om;have awa:=af (V▸Nb.ae);have R:=af (V▸HLO.ae);have awV:=af (V▸HBQ.ae);clear V;have dX:j<c.length:=az5;have A:=abk R dX;have Gr:ah (ar wr p 249 (cX (c.take j++c.drop j))):=by rw[ah,sQ];exact S
   have QV:(c.take j).length=j:=ay8;have vt:v.length+1<=(c.drop j).length:=by rw[oB];have:=G.ae;omega
   have HST:=af (aoB p j v.length (a.length+1 - j) cv gv 0 (c.take j) (c.drop j) v wr rx Om QV vt (R.y6.drop j) Gr rfl HCV.1 LG (fun h=>hne h.symm) Jv A);have HQ9:ah (val ((c.drop j).take (v.length+1))/val v<B9):=by rw[ah,Tc hV0];exact A
   have avV:ah (j+v.length+1<=c.length):=by have:=G.ae;unfold ah;omega
   have HHW:=af A;have Jq:=af QV;clear A QV vt dX;go_wp2_with fail
   rw[show j+v.length+1 - j=v.length+1 from by omega];refine HST.mono ?_;rintro e w5 ⟨rfl,u',L,ah7,ah6,o8,l⟩;have HLR:=af (alI R avV L ah7 (kL HCV.1) hV0 ah6);rw[z8] at o8;have ut:=af o8;have T:=af (awV.only l Om);have avY:=af (LG.only l (fun h=>hne h.symm));have awD:=af (aje.only l Om);have XI:ah (Ext w w5):=aiY.only l Om;have avU:ah ((c.take j++(u'++c.drop (j+(v.length+1)))).length=a.length+1):=by rw[ah,bC,bC,Jq.ae,L,oB,G.ae];omega
   clear L ah7 ah6 o8 l;have hqi:=HQ9.ae;unfold B9 at hqi;generalize val ((c.drop j).take (v.length+1))/val v=qj at*;generalize c.take j++(u'++c.drop (j+(v.length+1)))=uw' at*;have axp:w5.cell? ⟨t.heap.size,j,none⟩=some (.int .u64 (0:Nat)):=by have F:List.replicate (j+1) 0++q=List.replicate j 0++(0::q):=az7;have:=KS (i:=j) T Oc;rw[this,F,D_ _ _ _ _ Ou]
   have ayt:=T.frozen j;have auS:w.heap.size<=t.heap.size:=aiZ.size;go_wp2;go_roundw
   ·refine⟨(j:Int) - 1,uw',qj::q,by omega,by omega,by go_num,avU,?_,?_,ut.far (by show p≠t.heap.size;omega) _,?_,avY.only ((ii _ _).bu _ _) Om,awD.only ((ii _ _).bu _ _) Om,XI.setCell auS _⟩
    ·have:=awa.ae;rw[cW];omega
    ·have F:((j:Int) - 1+1).toNat=j:=Om;rw[F];exact HLR
    ·have F:((j:Int) - 1+1).toNat=j:=Om;have e3:List.replicate (j+1) 0++q=List.replicate j 0++(0::q):=az7;have:=Hw (i:=j) (x:=qj) (z:=(qj:Int)) T rfl;rw[e3,AY _ _ _ _ _ Ou] at this;rw[F];exact this
   simp [intOf]
  ·obtain rfl:m= -1:=Om;have U:=HLO.ae;have D:=Nb.ae;have E:=HBQ.ae;simp only[Int.reduceNeg,Int.reduceAdd,Int.toNat_zero,aaq,vR,TM] at U D E;have ail:Bx (val a*f) (val b*f) v.length 0 c q:=by rw[<-HVV.ae];exact U
   have hb0:0<val b:=Ej CB (by intro h;rw[h] at hb2;simp at hb2);have aja:=af (apj hb0 X ail);have Q:=af U;have av_:=af D;have awU:=af E;clear U D E ail;have hsu:Lm wr (some ⟨p,0,none⟩) (c.take v.length):=(by have:=(S.sl 0).take v.length;rw[mO,UB] at this;exact this)
   have K:(c.take v.length).length=v.length:=by rw[cP,G.ae];omega
   have HTR:=af (uO (some ⟨p,0,none⟩) (a.length+1) v.length (c.take v.length) wr K Om Om (Q.y6.take _) hsu);have hcf:wr.cell? ⟨w.heap.size,0,none⟩=some (.int .u64 f):=(by obtain⟨_,_,P,_,hc⟩:=aje.at_ (k:=0) (mg (show 0< [f].length by simp));injection P with P;injection P with h1 h2;subst h1 h2;simpa using hc)
   have hsq:Lm wr (some ⟨t.heap.size,0,none⟩) q:=(by have:=awU.sl 0;rwa[mO] at this);have HSQ:=af hsq;clear hsu K hsq;go_wp2_with fail;go_region_with (first|(go_at_call 190;refine(uO (some ⟨p,0,none⟩) (a.length+1) v.length (c.take v.length) _ (by rw[cP,G.ae];omega) Om Om (Q.y6.take _) (by exact(show Lm wr (some ⟨p,0,none⟩) (c.take v.length) from by have:=(S.sl 0).take v.length;rw[mO,UB] at this;exact this))).mono ?_;rintro e w6 ⟨r6,Q5,rfl,Mu,su,Fb,rfl⟩)|(go_at_call 277;refine(acu _ _ r6 f _ Om Mu.1 X Ze Fb).mono ?_;rintro e w7 ⟨r7,c7,au2,rfl,hc7,L_,yO,H⟩))
   all_goals
    go_wp2_with fail
    have gI:Ext wr w7:=⟨H.os,H.tape,H.output,H.size,H.block⟩;refine(uO (some ⟨t.heap.size,0,none⟩) d d q w7 av_ (aK _) Om Q.af' (HSQ.ext gI)).mono ?_;rintro e w8 ⟨r8,hr8,rfl,xh,pZ,QY,rfl⟩;have zh:=af L_;have zi:=af su;have FQ:=af pZ;clear L_ su pZ;go_wp2;go_ret2;exact⟨_,r8,d,_,r7,c7,rfl,hr8,au2,xh,hc7,FQ.trans aja.1,by rw[zh.ae,zi.ae];exact aja.2.1,QY,yO,aiY.trans gI⟩
def Uv(e d:aS)(c f:Nat)(a b:List Nat)(w:au)(k:a.length<=10000000)(q:b.length<=10000000)(m:Canon a)(l:Canon b)(j:a.length<=c)(i:Lm w e a)(g:Lm w d b)(p:b≠ []):
 Calls prog 241 #[.slice e a.length c,.slice d b.length f] w (PT a b w):=by
 rcases cA (val a) (val b) with h|h
 ·exact akS e d c f a b w k q m l j i g h
 ·rcases cA b.length 2 with o|o
  ·have:b.length≠0:=fun h=>p (lH h);exact al9 e d c f a b w k m l i g h Om
  ·exact akR e d c f a b w k m l i g h o
def eU(w:au)(v:Value)(n:Nat):Prop:=∃A c,v= .slice A (a_ n).length c/\(a_ n).length<=c/\Lm w A (a_ n)
def eU.ext{w':au}{v:Value}{n:Nat}(h:eU m v n)(a:Ext m w'):eU w' v n:=by obtain⟨A,c,rfl,d,b⟩:=h;exact⟨A,c,rfl,d,b.ext a⟩
def eU.keep{v:Value}{n:Nat}(h:eU m v n)(a:Kept 249 m o):eU o v n:=by obtain⟨A,c,rfl,d,b⟩:=h;exact⟨A,c,rfl,d,b.keep a⟩
def eU.mk'{A:aS}{n:Nat}(b:Canon i)(hv:val i=n)(d:i.length<=c)(a:Lm m A i):eU m (.slice A i.length c) n:=by subst hv;have:=aeB b;exact⟨A,c,by rw[this],by rw[this];exact d,by rw[this];exact a⟩
def Fit(n:Nat):Prop:=(a_ n).length<=1000000
def Fit.of_lt{n:Nat}(h:n<10^e)(a:e<=8000000):Fit n:=by have:=Ty h;unfold Fit;omega
def KD:=@Fit.of_lt
def Fit.le{n:Nat}(h:Fit n)(b:a<=n):Fit a:=by have:=GK (df n) (df a) (by rw[dm,dm];exact b);unfold Fit at*;omega
def Kp(A:aS)(c:Nat)(l:List Nat)(w:au)(m:l.length<=2)(d:bM l)(b:Lm w A l):
 Calls prog 225 #[.slice A l.length c] w fun e a=>e= .returned (.int .u64 (val l:Nat))/\w=a:=by
 have g:=af b;have i:=d.getD 0;have h:=d.getD 1;have hv:val l=limb l 1*1000000000+limb l 0:=(by have j:=jv l 0;have f:=jv l 1;rw[dA (show l.length<=1+1 by omega),j] at f;rw[f];simp only[kH,H7,Am,sY,B9];omega)
 unfold B9 at i h;have k:=af hv;clear b hv;go_enter func225,ntmps225;go_wp2_with fail
 refine(Ih A c l 1 w Om Om g).mono ?_;rintro e a ⟨rfl,rfl⟩;go_wp2_with fail;refine(Ih A c l 0 w Om Om g).mono ?_;rintro e a ⟨rfl,rfl⟩;go_wp2;go_ret;exact⟨pI (by rw[k.ae];omega),rfl⟩
def akh(x:Nat)(a:x<1000000000000000000):bM [x%B9,x/B9]/\val [x%B9,x/B9]=x:=by refine⟨tj (fg _ Od) (tj ay1 kJ),?_⟩;simp only[nJ,H7,Ay,jK];exact J6 x B9
def ara(va vb:Value)(a b:Nat)(w:au)(fa:Fit a)(fb:Fit b)(ha:eU w va a)(hb:eU w vb b):
 Calls prog 240 #[va,vb] w fun e o=>∃v,e= .returned v/\eU o v (Nat.gcd a b)/\Ext w o:=by
 have HA:=af ha;have HB:=af hb;have FA:=af fa;have FB:=af fb;clear ha hb fa fb;go_enter func240,ntmps240;go_wp2;go_loopg [0,1,5,6] b (fun k sa sb _ _ wr=>∃x y:Nat,k=y/\Fit x/\Fit y/\eU wr sa x/\eU wr sb y/\Nat.gcd x y=Nat.gcd a b/\Ext w wr)
 case atStart=>exact⟨a,b,rfl,FA,FB,HA,HB,rfl,aC w⟩
 case round=>
  obtain⟨x,y,rfl,fx,fy,hx,hy,hg,l⟩:=hrel;obtain⟨Z,T,rfl,C,sx⟩:=hx;obtain⟨S,N,rfl,Rv,sy⟩:=hy;have FX:=af fx;have FY:=af fy;have U:=af sx;have O:=af sy;have W:=af hg;have V:=af l;unfold Fit at fx fy;clear sx sy hg l;by_cases i:2<(a_ gk).length
  ·go_wp2_with fail
   refine(Uv Z S T N (a_ x) (a_ gk) wr Om Om (df x) (df gk) C U O (by intro h;rw[h] at i;simp at i)).mono ?_;rintro e d ⟨Aq,lq,cq,Ar,lr,cr,rfl,xe,I,cq',j,A,c,sq,sr,f⟩;rw[dm,dm] at c;have H:0<gk:=by
    rcases i7 gk with h|h
    ·subst h;simp [aox] at i
    ·exact h
   have B:x%gk<gk:=fg _ H;have E:=af c;clear c A;go_wp2;go_roundg (x%gk)
   case measure=>exact B
   case rel=>exact⟨gk,x%gk,rfl,FY,FY.le Om,⟨S,N,rfl,Rv,O.ext f⟩,.mk' j E I sr,by rw[<-W.ae,DT x gk,Ue gk x,DT],V.trans f⟩
  ·by_cases t:gk=0
   ·subst t;have hz:((a_ 0).length:Int)=0:=rfl;have K:(((a_ 0).length:Int)==0)=true:=rfl;have hb2:decide ((2:Int)<((a_ 0).length:Int))=false:=rfl;have HE:ah (x=Nat.gcd a b):=by rw[ah,<-W.ae,aaw]
    clear hz;go_wp2;go_ret;refine⟨_,rfl,?_,V⟩;rw[<-HE.ae];exact⟨Z,T,rfl,C,U⟩
   ·have s:0<(a_ gk).length:=by
     rcases i7 (a_ gk).length with h|h
     ·exact absurd (uH.1 (lH h)) t
     ·exact h
    have K:(((a_ gk).length:Int)==0)=false:=beq_eq_false_iff_ne.2 Om;have hb3:decide ((2:Int)<((a_ gk).length:Int))=false:=aW;have g:gk<1000000000000000000:=(by have h3:=kL (df gk).1;rw[dm] at h3;have h4:B9^(a_ gk).length<=B9^2:=gM Od Om;have h5:B9^2=1000000000000000000:=Od;omega)
    by_cases hx2:2<(a_ x).length
    all_goals first
     |(have J:decide ((2:Int)<((a_ x).length:Int))=true:=fF
       go_wp2_with fail
       refine(Uv Z S T N (a_ x) (a_ gk) wr Om Om (df x) (df gk) C U O (by intro h;rw[h] at s;simp at s)).mono ?_;rintro e d ⟨Aq,lq,cq,Ar,lr,cr,rfl,xe,I,cq',j,A,c,sq,sr,f⟩;rw[dm,dm] at c;have B:x%gk<gk:=fg _ Om;have Mf:lr.length<=2:=by have:=GK (df gk) j (by rw[dm,c];omega);omega
       have E:=af c;clear c A;go_wp2_with fail;refine(Kp S N (a_ gk) d Om (df gk).1 (O.ext f)).mono ?_;rintro e o ⟨rfl,rfl⟩;rw[dm];go_wp2_with fail;refine(Kp Ar cr lr d Om j.1 sr).mono ?_;rintro e o ⟨rfl,rfl⟩;rw[E.ae];have Q:ah (Ext w d):=V.trans f;obtain⟨X,D⟩:∃X,X=gk:=⟨_,rfl⟩;obtain⟨Y,m⟩:∃Y,Y=x%gk:=⟨_,rfl⟩;have P:ah (Nat.gcd X Y=Nat.gcd a b):=by rw[ah,D,m,<-W.ae,DT x gk,Ue gk x,DT]
       have M:X<1000000000000000000:=Om;have L:Y<1000000000000000000:=by rw[m];exact TQ B g
       rw[<-m,<-D];clear D m)
     |(have J:decide ((2:Int)<((a_ x).length:Int))=false:=aW
       go_wp2_with fail
       refine(Kp Z T (a_ x) wr Om (df x).1 U).mono ?_;rintro e o ⟨rfl,rfl⟩;rw[dm];go_wp2_with fail;refine(Kp S N (a_ gk) wr Om (df gk).1 O).mono ?_;rintro e o ⟨rfl,rfl⟩;rw[dm];obtain⟨d,z⟩:∃d,d=wr:=⟨_,rfl⟩;have Q:ah (Ext w d):=by rw[z];exact V
       rw[<-z];obtain⟨X,D⟩:∃X,X=x:=⟨_,rfl⟩;obtain⟨Y,m⟩:∃Y,Y=gk:=⟨_,rfl⟩;have P:ah (Nat.gcd X Y=Nat.gcd a b):=by rw[ah,D,m];exact W
       have M:X<1000000000000000000:=(by have h3:=kL (df x).1;rw[dm] at h3;have h4:B9^(a_ x).length<=B9^2:=gM Od Om;have h5:B9^2=1000000000000000000:=Od;omega);have L:Y<1000000000000000000:=Om;rw[<-D,<-m];clear D m z)
    all_goals
     clear K hb3 J hx2 s t i g;go_wp2;go_loopw [9,10] (fun p9 r wq=>∃p q:Nat,p9= .int .u64 p/\r= .int .u64 q/\p<1000000000000000000/\q<1000000000000000000/\Nat.gcd p q=Nat.gcd a b/\∃n,wq=d.drewN n) (fun _ r _=>(intOf r).toNat);exact⟨X,Y,rfl,rfl,M,L,P,0,rfl⟩;obtain⟨p,q,rfl,rfl,hp,hq,G,n,rfl⟩:=hrel;have R:=af G;clear G;by_cases vn:q=0
     ·subst vn;have hl:=akh p hp;have HE:ah (p=Nat.gcd a b):=by rw[ah,<-R.ae,aaw]
      have HL:=af hl;clear hl;go_wp2_with fail;have e1:(p:Int)%1000000000=((p%B9:Nat):Int):=ay1;have e2:(p:Int)/1000000000=((p/B9:Nat):Int):=ay1;rw[e1,e2];refine(uO (some ⟨d.heap.size,0,none⟩) 2 2 [p%B9,p/B9] _ rfl Om Om HL.1 (Sl.new (d.drewN n) 249 #[.int .u64 ((p%B9:Nat):Int),.int .u64 ((p/B9:Nat):Int)])).mono ?_;rintro e o ⟨r',Q7,rfl,hc',F,hs',rfl⟩;have HV':=af (F.trans HL.2);clear F e1 e2;go_wp2;go_ret;exact⟨_,rfl,.mk' hc' (HV'.trans HE) Q7 hs',(Q.drewN n).alloc _⟩
     ·have hne:((q:Int) !=0)=true:=azR;go_wp2;go_quiet (fail);go_wp2;go_roundw;exact⟨q,p%q,rfl,congrArg _ (Tq p q).symm,hq,TQ (fg p Om) hq,by rw[<-R.ae,DT p q,Ue q p,DT],by first|exact WH _ _|exact Ll _ _ _⟩;simp only[intOf];rw[<-Tq];simp only[kF];exact fg p Om
end Go.Proofs.YthfffpcmldipgaaGreatDoor
