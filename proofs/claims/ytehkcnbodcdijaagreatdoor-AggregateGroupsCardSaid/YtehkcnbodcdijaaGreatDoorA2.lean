/- Texts of the proof, part 2. -/
import Derived.Test.YtehkcnbodcdijaaGreatDoorA1
namespace Go.Proofs.YtehkcnbodcdijaaGreatDoor
set_option maxHeartbeats 8000000
set_option linter.all false
set_option maxRecDepth 100000
variable{ar:Prop}
open Go.RowKit Go.Lib Go.Maps Go.ChangeShapes Go.WideShapes Go.ChangeAt Go.Proofs.Tryz
variable{a b c d e f g h:Nat}{i j k l:List Nat}{m n o:World}{p q r s:Value}{t u v:List Value}{w x:TypeId}{y z:Nat→Option Nat}{A:Nat→List Nat}{B C:Int}{E F:Option Addr}{H I:Rat}{J:Nat→Nat}{K:Nat→Bool}{L:List Int}{N:Array Bool}{O:Option Nat}{Q:Act}{R S:Bool}{T:List UInt8}
def qG{k:IntKind}{a:Int}(h:a=B):Ending.returned (.int k a)= .returned (.int k B):=by rw[h]
def UG(w:au)(a:Nat):∃n,w.drewN a=w.drewN n:=⟨a,rfl⟩
def JF(w:au)(a b:Nat):∃n,(w.drewN a).drewN b=w.drewN n:=⟨a+b,Q6 _ _ _⟩
def Fm(w:au)(a b:Nat):(w.drewN a).drewN b=w.drewN (a+b):=Q6 _ _ _
def UF(w:au)(a b c:Nat):∃n,((w.drewN a).drewN b).drewN c=w.drewN n:=⟨a+(b+c),by rw[Q6,Q6]⟩
def NX{P:Program}{f:FuncId}{c:Array Value}{w:au}
 (h:Calls P f c (w.drewN b) fun e w'=>e= .returned p/\w.drewN b=w'):Calls P f c (w.drewN b) fun e d=>e= .returned p/\∃m,d=w.drewN m:=
 h.mono fun _ _ ⟨j,i⟩=>⟨j,b,i.symm⟩
def Kept(t:TypeId)(w w':au):Prop:=∀(g:Nat) (b:Array Value) (c:Nat×Nat),w.heap[g]? =some (.cells b t c)->w'.heap[g]? =some (.cells b t c)
abbrev Ext(w w':au):Prop:=Below w.heap.size w w'
def ie{w:au}{g:Nat}{o:Obj}(h:w.heap[g]? =some o):g<w.heap.size:=by
 rcases cA g w.heap.size with b|c
 ·exact b
 ·rw[wQ c] at h;cases h
def Kept.refl(t:TypeId)(w:au):Kept t w w:=fun _ _ _ h=>h
def jp:=@Kept.refl
def Kept.trans{t:TypeId}{a b:au}(h:Kept t a b)(k:Kept t b m):Kept t a m:=fun g d e f=>k g d e (h g d e f)
def Kept.jN{t:TypeId}{w w':au}(h:Below w.heap.size w w'):Kept t w w':=fun g _ _ b=>(h.block g (ie b)).trans b
def Iz:=@Kept.jN
def Kept.drew{t:TypeId}{a w:au}(h:Kept t a w):Kept t a w.drew:=h
def Kept.grown{t:TypeId}{w w':au}{size:Nat}{n:Nat}(d:w.ownsRow b x size p n u)(k:w.grownBy w' p.ownBlock)(f:x≠t):Kept t w w':=by
 intro g r y c;refine(k.block g (ie c) ?_).trans c;rcases d.2 with⟨rfl,_⟩|⟨q,s,h,rfl,_,j,_⟩
 ·simp [Value.ownBlock]
 ·intro m;have:q=g:=by simpa [Value.ownBlock] using m.symm
  subst this;rw[j] at c;injection c with c;injection c with _ i;exact f i
def tP:=@Kept.grown
def Ext.refl(w:au):Ext w w:=xe _ _
def aB:=@Ext.refl
def Ext.trans{a b:au}(h:Ext a b)(k:Ext b m):Ext a m:=pQ h (Below.mono k h.size)
def Ext.alloc{a w:au}(h:Ext a w)(o:Obj):Ext a (w.alloc o):=Below.alloc h h.size o
def Ext.drew{a w:au}(h:Ext a w):Ext a w.drew:=Below.drew h
def Ext.drewN{a w:au}(h:Ext a w)(n:Nat):Ext a (w.drewN n):=⟨h.os,h.tape,h.output,h.size,h.block⟩
def Sl(w:au)(t:TypeId)(A:aQ)(c:List Value):Prop:=
 ∀j u,c[j]? =some u->∃g o b d,A=some ⟨g,o,none⟩/\w.heap[g]? =some (.cells b t d)/\b[o+j]? =some u
def Sl.nil{w:au}{t:TypeId}:Sl w t E []:=fun j u h=>by simp at h
def Sl.keep{w w':au}{t:TypeId}(h:Sl w t E u)(f:Kept t w w'):Sl w' t E u:=fun j b e=>by obtain⟨g,o,c,d,m,i,k⟩:=h j b e;exact⟨g,o,c,d,m,f g c d i,k⟩
def Sl.ext{w w':au}{t:TypeId}{A:aQ}(h:Sl w t A u)(b:Ext w w'):Sl w' t A u:=h.keep (.jN b)
def Sl.at_{w:au}{t:TypeId}(h:Sl w t E v){k:Nat}{u:Value}(c:v[k]? =some u):∃g o,E=some ⟨g,o,none⟩/\g<w.heap.size/\w.cell? ⟨g,o+k,none⟩=some u:=by obtain⟨g,o,f,i,e,b,d⟩:=h k u c;exact⟨g,o,e,ie b,by simp [World.cell?,b,d]⟩
def Sl.take{w:au}{t:TypeId}{A:aQ}(h:Sl w t A u)(k:Nat):Sl w t A (u.take k):=fun j b c=>h j b (by
 rw[ZE] at c;split at c
 ·exact c
 ·cases c)
def Sl.aqE{w:au}{t:TypeId}{size:Nat}(h:w.ownsRow b t size (.slice E d c) d u):Sl w t E u:=by
 intro j e f;rcases h.2 with⟨k,rfl⟩|⟨g,r,i,k,_,p,_,_,_,m⟩
 ·have:=h.1;simp at this;subst this;simp at f
 ·injection k with q;subst q;refine⟨g,0,i,(0,0),rfl,p,?_⟩;rw[<-m,ZE] at f;split at f
  ·simpa using f
  ·cases f
def I8:=@Sl.aqE
def Sl.as0(w:au)(t:TypeId)(b:Array Value)(c:Nat×Nat):Sl (w.alloc (.cells b t c)) t (some ⟨w.heap.size,0,none⟩) b.toList:=fun j u d=>
 ⟨w.heap.size,0,b,c,rfl,heap_alloc_new w _,by simpa using d⟩
def Sl.new(w:au)(t:TypeId)(b:Array Value):Sl (w.alloc (.cells b t)) t (some ⟨w.heap.size,0,none⟩) b.toList:=Sl.as0 w t b (0,0)
def Cf(z:Value)(n:Nat):madeCells #[z] n=(List.replicate n z).toArray:=by
 apply Array.ext
 ·simp [madeCells]
 ·intro i c b;simp [madeCells,Nat.mod_one]
def aq(w:au)(g:Nat)(t:TypeId)(l:List Value):Prop:=w.heap[g]? =some (.cells l.toArray t (0,0))
section
variable{w w':au}{g:Nat}{t:TypeId}{l:List Value}
theorem aq.lt(h:aq w g t l):g<w.heap.size:=ie h
theorem aq.cell(h:aq w g t l){i:Nat}{u:Value}(b:l[i]? =some u):w.cell? ⟨g,i,none⟩=some u:=by unfold aq at h;simpa [World.cell?,h] using b
theorem aq.aF(h:aq w g t l)(i:Nat)(b:l[i]? =some p:=by(exact rfl)):w.cell? ⟨g,i,none⟩=some p:=h.cell b
theorem ah.aF(h:ah (aq w g t l))(i:Nat)(b:l[i]? =some p:=by(exact rfl)):w.cell? ⟨g,i,none⟩=some p:=aq.cell h b
theorem aq.frozen(h:aq w g t l)(i:Nat):w.frozen? ⟨g,i,none⟩=false:=by unfold aq at h;simp [World.frozen?,h]
theorem aq.new(w:au)(t:TypeId)(l:List Value):aq (w.alloc (.cells l.toArray t)) w.heap.size t l:=heap_alloc_new w _
def jd:=@aq.new
theorem aq.drew(h:aq w g t l):aq w.drew g t l:=h
theorem aq.drewN(h:aq w g t l)(n:Nat):aq (w.drewN n) g t l:=h
theorem aq.alloc(h:aq w g t l)(o:Obj):aq (w.alloc o) g t l:=(Below.heap_alloc w o g h.lt).trans h
theorem aq.bh(h:aq w g t l)(i:Nat)(u:Value):aq (w.setCell ⟨g,i,none⟩ u) g t (l.set i u):=by unfold aq at h⊢;simp [World.setCell,Mk,h]
theorem aq.far(h:aq w g t l){p:Addr}(b:g≠p.block)(u:Value):aq (w.setCell p u) g t l:=(Mm w p u g b).trans h
theorem aq.ext(h:aq w g t l)(b:Ext w w'):aq w' g t l:=(b.block g h.lt).trans h
theorem aq.sl(h:aq w g t l)(o:Nat):Sl w t (some ⟨g,o,none⟩) (l.drop o):=fun j u b=>
 ⟨g,o,l.toArray,(0,0),rfl,h,by simpa [EO] using b⟩
theorem Ext.setCell{a:au}(h:Ext a w){p:Addr}(b:a.heap.size<=p.block)(u:Value):Ext a (w.setCell p u):=Below.setCell h b u
end
def aq.xx{w:au}{g:Nat}{t:TypeId}{l:List Value}(h:aq w g x l)(c:x≠t)(i:Nat)(u:Value):Kept t w (w.setCell ⟨g,i,none⟩ u):=by intro f j k b;refine(Mm w ⟨g,i,none⟩ u f ?_).trans b;rintro rfl;unfold aq at h;rw[h] at b;injection b with b;injection b with _ d;exact c d
def aq.pW{w:au}{g:Nat}{t:TypeId}{l:List Value}(h:aq w g x l)(b:x≠t)(i j:Nat)(u v:Value):Kept t w ((w.setCell ⟨g,i,none⟩ u).setCell ⟨g,j,none⟩ v):=
 (h.xx b i u).trans ((h.bh i u).xx b j v)
def aq.JD{w:au}{g:Nat}{t:TypeId}{l:List Value}(h:aq w g x l)(c:x≠t)(i j m n:Nat)(u v b y:Value):
 Kept t w ((((w.setCell ⟨g,i,none⟩ u).setCell ⟨g,j,none⟩ v).setCell ⟨g,m,none⟩ b).setCell ⟨g,n,none⟩ y):=
 (h.pW c i j u v).trans (((h.bh i u).bh j v).pW c m n b y)
abbrev Only(g:Nat)(w w':au):Prop:=w.grownBy w' (some g)
section
variable{a w w':au}{g:Nat}
theorem Only.refl(g:Nat)(w:au):Only g w w:=World.grownBy.refl w _
def gD:=@Only.refl
theorem Only.drewN(h:Only g a w)(n:Nat):Only g a (w.drewN n):=⟨h.os,h.tape,h.output,h.size,h.block⟩
theorem Only.drew(h:Only g a w):Only g a w.drew:=⟨h.os,h.tape,h.output,h.size,h.block⟩
theorem Only.bh(h:Only g a w)(i:Nat)(u:Value):Only g a (w.setCell ⟨g,i,none⟩ u):=
 ⟨h.os,h.tape,h.output,by simpa [World.setCell] using h.size,fun j c b=>(Mm w ⟨g,i,none⟩ u j (by rintro rfl;exact b rfl)).trans (h.block j c b)⟩
theorem Sl.only{t:TypeId}(h:Sl w t (some ⟨b,c,none⟩) v)(m:Only g w w')(d:b≠g):Sl w' t (some ⟨b,c,none⟩) v:=fun j u k=>by obtain⟨r,o,f,q,e,i,n⟩:=h j u k;injection e with e;injection e with p h2;subst p h2;exact⟨b,c,f,q,rfl,(m.block b (ie i) axP).trans i,n⟩
theorem aq.only{t:TypeId}{l:List Value}(h:aq w b t l)(d:Only g w w')(c:b≠g):aq w' b t l:=(d.block b h.lt axv).trans h
theorem Ext.only(h:Ext a w)(d:Only g w w')(c:a.heap.size<=g):Ext a w':=qB h d h.size (fun k b=>by injection b with b;omega)
end
def Sl.an5{w:au}(h:∀j b,u[j]? =some b->∃d,E=some d/\w.cell? (d.add j)=some b):∃t,Sl w t E u:=by
 rcases u with _|⟨x,r⟩
 ·exact⟨0,Sl.nil⟩
 ·obtain⟨d,rfl,c⟩:=h 0 x rfl;have s:d.add 0=d:=by simp [Addr.add]
  rw[s] at c;obtain⟨g,o,n⟩:=d;unfold World.cell? at c;dsimp only at c;split at c
  ·rename_i k t v m;split at c
   ·cases c
   ·rename_i q;have f:n=none:=by simpa using q
    subst f;refine⟨t,fun j b p=>⟨g,o,k,v,rfl,m,?_⟩⟩;obtain⟨d,i,e⟩:=h j b p;injection i with i;subst i;rw[MH] at e;simpa [World.cell?,m] using e
  ·cases c
def eL{w:au}{base:Nat}{t:TypeId}{size:Nat}(h:w.ownsRow base t size p b u):
 ∃A c,p= .slice A b c/\b<=c/\c<=maxLen/\Sl w t A u:=by
 rcases h.2 with⟨rfl,rfl⟩|⟨g,d,i,rfl,q,m,f,e,k,j⟩
 ·exact⟨none,0,rfl,aL _,by unfold maxLen;omega,I8 (c:=0) h⟩
 ·exact⟨some ⟨g,0,none⟩,d,rfl,f,e,I8 (c:=d) h⟩
structure j7(P:Program)(t e:TypeId)(size bytes:Nat):Prop where
 ht:P.underlying t=some (.slice e)
 inf:∃i z,P.info? e=some i/\i.zero=some z/\i.size=size/\i.bytes=bytes/\z.cells.size=size
 pos:0<size
 Vq:0<bytes
def j7.mk'{P:Program}{t:TypeId}{size bytes:Nat}{z:Value}(c:P.underlying t=some (.slice x))(f:(P.info? x).map (fun i=>(i.zero,i.size,i.bytes))=some (some z,size,bytes))
 (b:z.cells.size=size) (d:0<size) (h:0<bytes):j7 P t x size bytes:=by
 obtain⟨i,n,m,k,j⟩:=info_parts f;exact⟨c,⟨i,z,n,m,k,j,b⟩,d,h⟩
def grownBy_alloc{w w':au}{o:Obj}(h:(w.alloc o).grownBy w' O):w.grownBy w' O:=
 ⟨h.os,h.tape,h.output,aV Ou h.size,fun i c b=>(h.block i Oc b).trans (Below.heap_alloc w o i c)⟩
section
variable{P:Program}{ops:Array Oper}{rest:List Oper}{o:Oper}{a:Act}{Q:Exit->Act->World->Prop}{w:au}
theorem IJ(C:o.guard=none)(s b:Operand)(t:TypeId)
 (O:o.op= .call {callee:= .builtin .append,args:= #[s,b],argTypes:= #[t,t]})
 (f:Nat) {size bytes:Nat} (T:j7 P t x size bytes)
 (v:Value) (n:Nat) (E:List Value) (N:a.eval s=v) (k:w.ownsRow f x size v n E)
 (A:aQ) (m c:Nat) (d:List Value) (M:a.eval b= .slice A m c) (hc:A=none->c=0) (R:d.length=m*size) {U:TypeId} (p:Sl w U A d) (h1:∀u∈d,u.oneCell'=true)
 (q:(n+m)*bytes<=140737488355328) (y:f<=w.heap.size)
 (h:∀B w',w'.ownsRow f x size B (n+m) (E++d)->w.grownBy w' v.ownBlock->(B.ownBlock=v.ownBlock\/B.ownBlock=some w.heap.size)->wpList P ops Q rest (a.put o.dst B) w'):
 wpList P ops Q (o::rest) a w:=by
 obtain⟨i,z,S,W,H,G,F⟩:=T.inf;have I:n+m<=maxLen:=(by have Y:=T.Vq;have:=Mi (n+m) Y;unfold maxLen;omega)
 rcases A with _|ad
 ·have Z:d= []:=by
   rcases d with _|⟨u,r⟩
   ·rfl
   ·obtain⟨g,V,_,_,D,_⟩:=p 0 u rfl;cases D
  subst Z;have e:m=0:=by
   have:=T.pos;rcases j4 m with L|L
   ·exact L
   ·have:=Nat.mul_pos L this;simp only[uY] at R;omega
  subst e;have K:=hc rfl;subst K;refine wpList_append_own_none C s b t O f x i size T.ht S v n E N k M ?_;have:=h v w (by simpa using k) (World.grownBy.refl w _) (.inl rfl);exact this
 ·refine wpList_append_own_at _ C s b t O f x i z size bytes T.ht S W H G F T.pos v n E N k ad m c d M R ?_ h1 I q y (fun B w' h2 h3 _ h5=>h B w' h2 h3 h5);intro j u X;obtain⟨g,V,cur,fr,D,hg,J⟩:=p j u X;injection D with D;subst D;rw[MH];simp [World.cell?,hg,J]
theorem aiA(y:o.guard=none)(d s:Operand)(dT C:TypeId)
 (K:o.op= .call {callee:= .builtin .copy,args:= #[d,s],argTypes:= #[dT,C]}) (b:TypeId) (B:P.underlying dT=some (.slice b)) (q:(P.info? b).map (·.size)=some 1)
 (g e H O:Nat) (A:aQ) (m c:Nat) (M:a.eval d= .slice (some ⟨g,e,none⟩) H O) (J:a.eval s= .slice A m c)
 (t:TypeId) (f:List Value) (F:aq w g t f) (k:List Value) (L:k.length=Nat.min m H) (n:Sl w x A k) (z:e+k.length<=f.length) (T:∀v∈k,v.oneCell'=true)
 (h:∀w',ah (aq w' g t (f.take e++(k++f.drop (e+k.length))))->Only g w w'->wpList P ops Q rest (a.put o.dst (goInt k.length)) w'):wpList P ops Q (o::rest) a w:=by
 by_cases N:k.length=0
 ·obtain rfl:k= []:=lU N;refine wpList_copy_nothing y d s dT C K b B q _ _ _ _ _ _ M J (by simpa using L.symm) ?_;exact h w (show aq _ _ _ _ by simpa using F) (gD _ _)
 ·have p:∃I,A=some I:=by
   rcases k with _|⟨u,r⟩
   ·simp at N
   ·obtain⟨U,S,_,_,p,_⟩:=n 0 u rfl;exact⟨_,p⟩
  obtain⟨I,rfl⟩:=p;refine wpList_copy_own y d s dT C K b B q g e H O I m c M J f.toArray t F k L ?_ (by simpa using z) T ?_
  ·intro j u B;obtain⟨U,S,R,V,p,E,G⟩:=n j u B;injection p with p;subst p;rw[MH];simp [World.cell?,E,G]
  ·refine h _ ?_ ?_
   ·exact(show aq _ _ _ _ from by unfold aq;simpa using setRow_heap w g _ _ t _ F)
   ·exact⟨rfl,rfl,rfl,by simp [World.setRow],fun i _ D=>setRow_other w g i _ (by rintro rfl;exact D rfl)⟩
theorem gf(q:o.guard=none)(s b:Operand)(t:TypeId)
 (z:o.op= .call {callee:= .builtin .append,args:= #[s,b],argTypes:= #[t,t]})
 (d:Nat) {size bytes:Nat} (T:j7 P t x size bytes)
 (v:Value) (n:Nat) (p:List Value) (y:a.eval s=v) (k:w.ownsRow d x size v n p)
 (j:Array Value) (m c:Nat) (u:a.eval b= .slice (some ⟨w.heap.size,0,none⟩) m c) (A:j.size=m*size) (E:j.toList.all (·.oneCell')=true)
 (f:(n+m)*bytes<=140737488355328) (r:d<=w.heap.size)
 (h:∀i w',w'.ownsRow d x size i (n+m) (p++j.toList)->w.grownBy w' v.ownBlock->(i.ownBlock=v.ownBlock\/i.ownBlock=some (w.heap.size+1))->wpList P ops Q rest (a.put o.dst i) w'):
 wpList P ops Q (o::rest) a (w.alloc (.cells j x)):=
 IJ q s b t z d T v n p y (k.alloc _) _ m c j.toList u Oe (by simpa using A) (Sl.new w x j)
  (rH.1 E) f Oc (fun i w' D C B=>h i w' D (grownBy_alloc C) (by simpa using B))
end
section
variable{H:Type}{enc:TypeId×Value->H}{P:Program}
theorem aiq(u:laidOutB P=true)(w:Below m.heap.size m n):∀(b:List TypeId) (i:List Value) (j:List (DataW H)) (c:List MemPlace),
 (∀t∈b,P.readableRec t=true/\t<P.types.size)->DataW.TrodAll enc P m 0 (fun _=>true) true b i j c->(∀x∈c,x.block<m.heap.size)->(∀p∈c,K p.block=true)->DataW.TrodAll enc P n 0 K true b i j c:=by
 intro b;induction b with
 |nil=>intro i j c _ h _ _;obtain⟨rfl,rfl,rfl⟩:=trodAll_nil h;exact trodAll_mk0
 |cons t b s=>intro i j c o h g f;obtain⟨v,k,d,l,p,q,rfl,rfl,rfl,z,y⟩:=trodAll_cons h;have e:=o t Ou;refine trodAll_cons_mk (WideElems.Trod_stays u e.1 e.2 z (fun x a=>w.same (g x axx)) (fun x a=>f x axx)) ?_;exact s k l q (fun r A=>o r (by simp [A])) y (fun x a=>g x axx) (fun x a=>f x axx)
theorem alT(L:laidOutB P=true){f:Func}{s:ChangeSpec}(E:s.vars= [])(y:P.underlying w=some .bool)(F:f.resultTypes= #[w])
 (A:∀t∈f.params.toList,P.readableRec t=true/\t<P.types.size) {args:Array Value} {l J:List (DataW H)} {a:List MemPlace}
 (hW:DataW.Whole enc P f.params.toList s.vars false m args.toList l J a)
 (k:s.fn H (l++J)={results:= [.lit (.bool true)],args:=l}) (B:(f.resultTypes.size=1)->∀(j:Nat) (t:TypeId) (r:Value),f.resultTypes[j]? =some t->((Value.bool true).resultList f.resultTypes.size)[j]? =some r->Value.okWide P n .any 0 t r) (C:Below m.heap.size m n):s.post enc P f false true false false m args (.bool true) n:=by
 have i:∀p∈a,p.block<m.heap.size:=fun p A=>hW.lt p A;have D:=hW;obtain⟨p,q,N,I,rfl,K,O⟩:=hW;rw[E] at I;obtain⟨rfl,rfl⟩:=trodVars_none I;have e:∀g:Nat->Bool,(∀x∈p++ [],g x.block=true)->DataW.TrodAll enc P n 0 g true f.params.toList args.toList (s.fn H (l++ [])).args p:=(by intro g z;rw[k];exact aiq L C _ _ _ _ A N (fun x c=>i x ax3) (fun x c=>z x ax3))
 have h:∀(b:Nat) (g:Nat->Bool) (G:Bool),DataW.TrodAll enc P n b g G f.resultTypes.toList ((Value.bool true).resultList f.resultTypes.size) (s.fn H (l++ [])).results []:=(by intro b g G;rw[k,F];exact trodAll_cons_mk (shut_bool y true) trodAll_mk0);have d:∀g:Nat->Bool,DataW.TrodVars enc P n g s.vars (s.fn H (l++ [])).vars []:=(by intro g;rw[k,E];rfl);have u:∀x∈p++ [],(fun b=>decide (b<m.heap.size)) x.block=true:=fun x c=>by simpa using i x c
 refine⟨l,[],p++ [],[],p,[],D,h _ _ _,e _ u,d _,World.keptBut_mono (fun x c=>⟨c,Or.inr ?_⟩) (C.frame (·∈p++ [])),fun _=> ?_⟩
 ·simpa using c
 ·refine⟨B (by rw[F];rfl),_,_,([]++p)++ [],⟨[]++p,[],trodAll_append (e _ (fun _ _=>rfl)) (h _ _ _),d _,rfl,?_,?_⟩,?_⟩
  ·intro b o c;have v:MemPlace.cell b o∈p++ []:=axv;rw[C.frozen (i _ v)];exact K b o v
  ·intro M;cases M
  ·intro x c _;simpa using c
theorem ai9{f:List (String×DataW Unit)}{k:IntKind}{d:String}(p:(f.all fun c=>c.2.handleName?.isNone)=true)(r:f.filter (fun c=>c.1==d)= [(d,Lib.tabData k L)])
 (q:P.globalNamed d=some a) (i:(P.globals[a]?).map (·.type)=some w) (o:P.underlying w=some (.array b x)) (s:P.underlying x=some (.int k)) (hce:P.cellsOf x=1) (j:P.cellsOf w=b)
 (h:laidMetH P f m):Lib.TabIs P m d k L:=by
 rw[Zj _ _ _ p] at h;have l:=h.filter (fun c=>c.1==d);rw[r] at l;exact Lib.tabIs_of_head q i o s hce j l
theorem amb{r:Reach}{k:IntKind}{d:DataW H}{G:List MemPlace}(C:P.underlying w=some (.slice x))(N:P.underlying x=some (.int k))(O:P.cellsOf x=1)
 (I:Value.okWide P m r a w p) (h:DataW.Trod enc P m 0 (fun _=>true) true w p d G):
 ∃(A:aQ) (i:List Int) (c:Nat),p= .slice A i.length c/\(A=none->c=0)/\i.length<=c/\c<=maxLen/\(∀n∈i,(Lit.int k n).wf=true)/\(∀j (D:j<i.length),∃F,A=some F/\m.cell? (F.add j)=some (.int k i[j])):=by
 obtain⟨E,M⟩:=h;have g:p.cells.toList= [p]:=(by obtain⟨f,y,z,rfl⟩:=okWide_slice C I;rfl)
 rcases open_ints C N O M with⟨l,_⟩|⟨b,s,B,i,l,_,L,K,Q,_,q,u⟩
 ·rw[g] at l;injection l with l;exact⟨none,[],0,l,fun _=>rfl,by simp,by unfold maxLen;omega,by simp,by simp⟩
 ·rw[g] at l;injection l with l;have o:s<=i.length:=axM;refine⟨some b,i.take s,B,by rw[l,cO,i9 o],Oe,by rw[cO,i9 o];exact L,K,fun n J=>u n (nJ J),fun j D=> ?_⟩;rw[cO,i9 o] at D;refine⟨b,rfl,?_⟩;rw[q j Om,EP];simp [eG,aX (show j<i.length by omega)]
end
end Go.Proofs.YtehkcnbodcdijaaGreatDoor
