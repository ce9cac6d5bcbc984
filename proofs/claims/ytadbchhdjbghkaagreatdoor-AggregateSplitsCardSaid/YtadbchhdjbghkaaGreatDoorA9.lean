/- Texts of the proof, part 9. -/
import Derived.Test.YtadbchhdjbghkaaGreatDoorA8
namespace Go.Proofs.YtadbchhdjbghkaaGreatDoor
set_option maxHeartbeats 8000000
set_option linter.all false
set_option maxRecDepth 100000
variable{aq:Prop}
open Go.RowKit Go.Lib Go.Maps Go.ChangeShapes Go.WideShapes Go.ChangeAt Go.Proofs.Tryz
variable{a b c d e f g h:Nat}{i j k l:List Nat}{m n o:World}{p q r s:Value}{t u v:List Value}{w x:TypeId}{y z:Nat→Option Nat}{A:Nat→List Nat}{B C:Int}{E F:Option Addr}{H I:Rat}{J:Nat→Nat}{K:Nat→Bool}{L:List Int}{N:Array Bool}{O:Option Nat}{Q:Act}{R S:Bool}{T:List UInt8}
section
variable{P:Program}{ops:Array Oper}{Q:Exit->Act->World->Prop}{md:Region.Mode}{S:World->Prop}{T:Nat->Bool}
theorem bZ.two(i j:Nat){b:Act}(q:Region.ready md ops N= [i,j])
 (g:∀o,ops[i]? =some o->∀K:Act->World->Prop,ah (∀d c,(T i=false->S c)->bZ P md ops Q S T a (N.setIfInBounds i true) d c->K d c)->if Region.wanted o (yielded ops b.tmps)=true then o.wp P b m K Q else K (b.put o.dst undef) m)
 (s:∀o,ops[j]? =some o->∀K:Act->World->Prop,ah (∀d c,(T j=false->S c)->bZ P md ops Q S T a (N.setIfInBounds j true) d c->K d c)->if Region.wanted o (yielded ops b.tmps)=true then o.wp P b m K Q else K (b.put o.dst undef) m):bZ P md ops Q S T (a+1) N b m:=by
 have r:∀i,i∈Region.ready md ops N->(∀o,ops[i]? =some o->∀K:Act->World->Prop,ah (∀d c,(T i=false->S c)->bZ P md ops Q S T a (N.setIfInBounds i true) d c->K d c)->if Region.wanted o (yielded ops b.tmps)=true then o.wp P b m K Q else K (b.put o.dst undef) m)->
  wpOp P ops Q i (fun d c=>(T i=false->S c)/\bZ P md ops Q S T a (N.setIfInBounds i true) d c) b m:=by
  intro i p h;obtain⟨_,o,g,_⟩:=mem_ready.1 p;have e:=h o g (fun d c=>(T i=false->S c)/\bZ P md ops Q S T a (N.setIfInBounds i true) d c) (fun _ _ e t=>⟨e,t⟩);unfold wpOp;simp only[g];split
  ·rename_i l;rw[if_pos l] at e;exact .inl e
  ·rename_i l;rw[if_neg l] at e;exact e
 refine⟨fun u=>absurd u (by rw[q];simp),fun k n=> ?_⟩;have f:=n;rw[q] at f;rcases(by simpa using f:k=i\/k=j) with h|h
 ·subst h;exact r _ n g
 ·subst h;exact r _ n s
def Ip:=@bZ.two
end
def F4(e:au)(g:Nat)(a b c d:Value):Prop:=aA e g 0 a/\aA e g 1 b/\aA e g 2 c/\aA e g 3 d
def dK(w:au)(g:Nat)(q:Rat):Prop:=∃b A n c e f a d,ar w g dp [.bool b,.slice A n c,.bool e,.slice f a d]/\bX w (.agg #[.bool b,.slice A n c,.bool e,.slice f a d]) q
def dK.parts(h:dK m a H):∃b A n c f i d e,ah (ar m a dp [.bool b,.slice A n c,.bool f,.slice i d e])/\ah (bX m (.agg #[.bool b,.slice A n c,.bool f,.slice i d e]) H):=h
def dK.ext{w':au}(h:dK m g H)(a:Ext m w'):dK w' g H:=by obtain⟨b,A,n,c,j,k,d,i,f,e⟩:=h;exact⟨b,A,n,c,j,k,d,i,f.ext a,e.ext a⟩
def dK.lt(h:dK m a H):a<m.heap.size:=by obtain⟨b,A,n,c,j,k,e,i,d,f⟩:=h;exact d.lt
def dK.of{f:Bool}(i:ar m a dp [.bool R,.slice E b c,.bool f,.slice F d e])(h:bX m (.agg #[.bool R,.slice E b c,.bool f,.slice F d e]) H):dK m a H:=⟨R,E,b,c,f,F,d,e,i,h⟩
def dK.far(h:dK m a H)(j:Only b m n)(f:a≠b)(l:Kept qm m n):dK n a H:=by obtain⟨d,A,e,c,s,t,i,r,p,o⟩:=h;exact⟨d,A,e,c,s,t,i,r,p.only j f,o.keep l⟩
def dK.put{k:Value}{b:Bool}(j:ar n g dp [q,r,s,k])(l:bX n (.agg #[.bool b,.slice E a c,.bool R,.slice F d e]) H)(o:Ext m n)(h:m.heap.size<=g):
 ∃f,((((n.setCell (aC g 0) (.bool b)).setCell (aC g 1) (.slice E a c)).setCell (aC g 2) (.bool R)).setCell (aC g 3) (.slice F d e))=f/\ah (dK f g H)/\ah (Kept qm n f)/\ah (Ext m f)/\ah (Only g n f):=by
 have i:=j.E6 (t:=qm) Od 0 1 2 3 (.bool b) (.slice E a c) (.bool R) (.slice F d e);exact⟨_,rfl,dK.of ((((j.bu 0 (.bool b)).bu 1 (.slice E a c)).bu 2 (.bool R)).bu 3 (.slice F d e)) (l.keep i),i,
  (((o.setCell (p:=aC g 0) h _).setCell (p:=aC g 1) h _).setCell (p:=aC g 2) h _).setCell (p:=aC g 3) h _,
  (((ig g n).bu 0 _).bu 1 _).bu 2 _|>.bu 3 _⟩
def EX{P:World->Prop}{e:Bool}(f:bX m (.agg #[.bool R,.slice E a b,.bool e,.slice F c d]) H)(h:∀W,ah (Ext m W)->ah (dK W m.heap.size H)->W.heap.size=m.heap.size+1->P W):P (m.alloc (.cells #[.bool R,.slice E a b,.bool e,.slice F c d] dp)):=
 h _ ((aB m).alloc _) (dK.of (iT m dp [.bool R,.slice E a b,.bool e,.slice F c d]) (f.ext ((aB m).alloc _))) Ou
section
variable{P:Program}{ops:Array Oper}{Q:Exit->Act->World->Prop}{md:Region.Mode}{S:World->Prop}{T:Nat->Bool}
theorem bZ.of{fuel:Nat}{listed:Array Bool}{a:Act}(i:Nat)(b:i∈Region.ready md ops listed)
 (h:∀o,ops[i]? =some o->∀K:Act->World->Prop,ah (∀a' w',(T i=false->S w')->bZ P md ops Q S T fuel (listed.setIfInBounds i true) a' w'->K a' w')->if Region.wanted o (yielded ops a.tmps)=true then o.wp P a m K Q else K (a.put o.dst undef) m):
 wpOp P ops Q i (fun a' w'=>(T i=false->S w')/\bZ P md ops Q S T fuel (listed.setIfInBounds i true) a' w') a m:=by
 obtain⟨_,o,hi,_⟩:=mem_ready.1 b;exact m88
def IB(md:Region.Mode)(ops:Array Oper)(T:Nat->Bool)(i:Nat):Bool:=(List.range ops.size).all fun j=> !T j||j==i||leads md ops 9 j i
theorem LQ(h:IB md ops T a=true)(r:closed md ops N=true)(g:b≠a)(p:b∈Region.ready md ops N)(l:N.getD a true=false):T b=false:=by
 cases hT:T b with
 |false=>rfl
 |true=>
  exfalso;obtain⟨_,o,m,d⟩:=mem_ready.1 p;unfold IB at h;rw[sP] at h;have n:=h b (dB.2 (YB.1 m).1);simp only[hT,Em,Hm,kE,beq_iff_eq,g,false_or] at n;have f:=Q7 r 9 b n (fun t c e q s=>by rw[m] at c;injection c with c;subst c;exact d e q s);rcases cA a N.size with k|k
  ·simp [k] at l f;rw[l] at f;cases f
  ·simp [x6 k] at f
theorem bZ.auu(i d:Nat)(v:Value){b:Act}(_hTi:T i=false)
 (s:Region.noSelect ops=true) (x:Region.free md ops N i=true) (t:(Region.ready md ops N).contains i=true) (f:IB md ops T i=true) (y:closed md ops N=true)
 (A:∀c b m,Q (.panic c) (b.put (some d) v) m->Q (.panic c) b m) (z:S m)
 (q:∀o,ops[i]? =some o->o.dst=some d/\Region.wanted o (yielded ops b.tmps)=true/\∀m,S m->(execOp b.eval o).run P m= .ok (.value v) m)
 (h:bZ P md ops Q S T a (N.setIfInBounds i true) (b.put (some d) v) m):bZ P md ops Q S T (a+1) N b m:=by
 have e:i∈Region.ready md ops N:=by simpa using t
 obtain⟨_,o,g,_⟩:=mem_ready.1 e;obtain⟨p,C,B⟩:=q o g;exact Ew (G:=S) g (G8 s) (fun m f _=>f) (fun j l k n u r=> .inl ⟨fun _ h=>h,LQ f n k u r⟩) (by rw[p];exact A) a N b m y (Hd g x) e (.inl ⟨C,B⟩) z (by rw[p];exact h)
def I2(md:Region.Mode)(ops:Array Oper)(T:Nat->Bool)(a:Array Bool)(i:Nat):Bool:=Region.noSelect ops&&Region.free md ops a i&&(Region.ready md ops a).contains i&&IB md ops T i&&closed md ops a
theorem bZ.ld(i d:Nat)(v:Value)(o:Oper){b:Act}(q:wD ops.toList i=some o)(r:o.dst=some d)(k:I2 md ops T N i=true)
 (D:∀c b m,Q (.panic c) (b.put (some d) v) m->Q (.panic c) b m) (C:S m) (f:Region.wanted o (yielded ops b.tmps)=true) (z:∀m,S m->(execOp b.eval o).run P m= .ok (.value v) m)
 (h:bZ P md ops Q S T a (N.setIfInBounds i true) (b.put (some d) v) m):bZ P md ops Q S T (a+1) N b m:=by
 unfold I2 at k;simp only[cZ] at k;obtain⟨⟨⟨⟨y,x⟩,u⟩,t⟩,s⟩:=k;have g:i∈Region.ready md ops N:=by simpa using u
 have e:ops[i]? =some o:=by rw[Ii] at q;simpa using q
 exact Ew (G:=S) e (G8 y) (fun m f _=>f) (fun j l n p B A=> .inl ⟨fun _ h=>h,LQ t p n B A⟩) (by rw[r];exact D) a N b m s (Hd e x) g (.inl ⟨f,z⟩) C (by rw[r];exact h)
theorem bZ.auz(i d:Nat){v:Value}{o:Oper}{L:Array Bool}{b A:Act}(h:bZ P md ops Q S T a L A m)(p:S m:=by exact aH)(k:wD ops.toList i=some o:=by exact rfl)(n:o.dst=some d:=by exact rfl)(l:I2 md ops T N i=true:=by kernel_rfl)
 (q:∀c b m,Q (.panic c) (b.put (some d) v) m->Q (.panic c) b m:=by exact fun _ _ _ h=>h) (j:Region.wanted o (yielded ops b.tmps)=true:=by exact rfl)
 (g:∀m,S m->(execOp b.eval o).run P m= .ok (.value v) m:=by(intro f e;have t:=bO f e;go_split_ands;go_simp;try (first|exact rfl|omega|go_num|(intro hbd;exfalso;omega))))
 (r:N.setIfInBounds i true=L:=by((try simp only[d8,dP,d9])<;>exact rfl)) (s:b.put (some d) v=A:=by((try simp only[Act.put,d8,dP,d9])<;>exact rfl)):bZ P md ops Q S T (a+1) N b m:=by
 subst r s;exact bZ.ld i d v o k n l q p j g h
def ax:=@bZ.auz
theorem bZ.aus(i d:Nat){b:Act}(_hTi:T i=false)
 (s:Region.noSelect ops=true) (v:Region.free md ops N i=true) (t:(Region.ready md ops N).contains i=true) (f:IB md ops T i=true) (x:closed md ops N=true)
 (z:∀c b m,Q (.panic c) (b.put (some d) undef) m->Q (.panic c) b m) (y:S m)
 (q:∀o,ops[i]? =some o->o.dst=some d/\Region.wanted o (yielded ops b.tmps)=false)
 (h:bZ P md ops Q S T a (N.setIfInBounds i true) (b.put (some d) undef) m):bZ P md ops Q S T (a+1) N b m:=by
 have e:i∈Region.ready md ops N:=by simpa using t
 obtain⟨_,o,g,_⟩:=mem_ready.1 e;obtain⟨p,A⟩:=q o g;exact Ew (G:=S) g (G8 s) (fun m f _=>f) (fun j l k n u r=> .inl ⟨fun _ h=>h,LQ f n k u r⟩) (by rw[p];exact z) a N b m x (Hd g v) e (.inr ⟨A,rfl⟩) y (by rw[p];exact h)
theorem bZ.lu(i d:Nat){o:Oper}{L:Array Bool}{b A:Act}(h:bZ P md ops Q S T a L A m)(B:S m:=by exact aH)(q:wD ops.toList i=some o:=by exact rfl)(r:o.dst=some d:=by exact rfl)(k:I2 md ops T N i=true:=by kernel_rfl)
 (C:∀c b m,Q (.panic c) (b.put (some d) undef) m->Q (.panic c) b m:=by exact fun _ _ _ h=>h) (f:Region.wanted o (yielded ops b.tmps)=false:=by exact rfl)
 (D:N.setIfInBounds i true=L:=by((try simp only[d8,dP,d9])<;>exact rfl)) (E:b.put (some d) undef=A:=by((try simp only[Act.put,d8,dP,d9])<;>exact rfl)):bZ P md ops Q S T (a+1) N b m:=by
 subst D E;unfold I2 at k;simp only[cZ] at k;obtain⟨⟨⟨⟨x,v⟩,u⟩,t⟩,s⟩:=k;have g:i∈Region.ready md ops N:=by simpa using u
 have e:ops[i]? =some o:=by rw[Ii] at q;simpa using q
 exact Ew (G:=S) e (G8 x) (fun m f _=>f) (fun j l n p z y=> .inl ⟨fun _ h=>h,LQ t p n z y⟩) (by rw[r];exact C) a N b m s (Hd e v) g (.inr ⟨f,rfl⟩) B (by rw[r];exact h)
def lh:=@bZ.lu
end
def bD{α:Type}{R:World->List Value->α->Prop}{l:List α}(h:Ls w R m (.slice E a b) l):a=l.length/\a<=b/\b<=9223372036854775807:=by obtain⟨_,_,_,e,g,d,_⟩:=h;injection e with _ i f;subst f;unfold maxLen at d;omega
def gH(i:ar m a w t)(f:m.ownsRow b x c p d u)(j:m.grownBy n p.ownBlock)(o:a<b):ar n a w t:=
 (j.block a i.lt (fun h=>by have:=(f.lt a h.symm).1;omega)).trans i
def Only.fresh(h:Only a m n)(c:Only b n o)(f:m.heap.size<=b):Only a m o:=
 ⟨c.os.trans h.os,c.tape.trans h.tape,c.output.trans h.output,a7 h.size c.size,fun i e d=>(c.block i (cF e h.size) Oc).trans (h.block i e d)⟩
def df.past(h:df m a)(d:Only b m n)(e:a<b):df n a:=h.grown d (fun j c=>by injection c with c;omega)
def Cl{u0 u1 u2 u3:Value}(i:ar m a w [u0,u1,u2,u3])(e d c b:Value):
 ∃h,((((m.setCell (aC a 0) e).setCell (aC a 1) d).setCell (aC a 2) c).setCell (aC a 3) b)=h/\ah (ar h a w [e,d,c,b])/\ah (∀u,w≠u->Kept u m h)/\ah (Only a m h):=by
 have l:=i.bu 0 e;have k:=l.bu 1 d;have j:=k.bu 2 c;have n:=j.bu 3 b;exact⟨_,rfl,n,fun u f=>(((i.Bh f 0 e).trans (l.Bh f 1 d)).trans (k.Bh f 2 c)).trans (j.Bh f 3 b),((((ig a m).bu 0 _).bu 1 _).bu 2 _).bu 3 _⟩
def Ls.kept{α:Type}{R:World->List Value->α->Prop}{T:List TypeId}(d:js T R){l:List α}(h:Ls w R m p l)(c:∀u,x≠u->Kept u m n)(b:x≠w/\∀u∈T,x≠u):Ls w R n p l:=
 h.keep d fun u a=>c u (by
  rcases aJ.1 a with rfl|a
  ·exact b.1
  ·exact b.2 u a)
def Src.Nd(c:df m a)(d:Only a m n):∀u,Fb≠u->Kept u m n:=fun _ b=>Im c d b
def ap'(h:IL m (.slice E a b) L):Sl m aS E (eG L)/\(E=none->b=0):=by
 obtain⟨y,x,d,e,s,q,p,g,f⟩:=h;injection e with v u t;subst v t;have j:d=eG L:=by
  clear g s q u;induction L generalizing d with
  |nil=>exact f
  |cons z L i=>obtain⟨b,r,rfl,o,k⟩:=f;rw[i r k,show b= [av z] from o];rfl
 rw[<-j];exact⟨g,p⟩
def Only.auo(h:Only a m n)(e:n.ownsRow b w c p d t)(f:n.grownBy o p.ownBlock)(r:m.heap.size<=b):Only a m o:=
 ⟨f.os.trans h.os,f.tape.trans h.tape,f.output.trans h.output,a7 h.size f.size,fun i l j=>(f.block i (cF l h.size) (fun q=>by have:=(e.lt i q.symm).1;omega)).trans (h.block i l j)⟩
def Eu:=@Only.auo
def gG{i:Nat}(c:ar m a w t)(x:Value):
 ∃b,m.setCell (aC a i) x=b/\ah (ar b a w (t.set i x))/\ah (∀u,w≠u->Kept u m b)/\ah (Only a m b):=
 ⟨_,rfl,c.bu i x,fun _ d=>c.Bh d i x,(ig a m).bu i x⟩
def ro{P:Program}{o:Oper}{a:Act}{K:Act->World->Prop}{Q:Exit->Act->World->Prop}(s d:Operand)(t:TypeId)
 (ho:o.op= .call {callee:= .builtin .append,args:= #[s,d],argTypes:= #[t,t]})
 (f:Nat) {size bytes:Nat} (T:jG P t w size bytes)
 (v:Value) (n:Nat) (y:List Value) (hs:a.eval s=v) (r:m.ownsRow f w size v n y)
 (g:Nat) (q:List Value) (J:ar m g x q) (b c:Nat) (hx:a.eval d=aG g 0 b c) (H:q.length=b*size) (L:q.all (·.oneCell')=true)
 (k:(n+b)*bytes<=140737488355328) (p:f<=m.heap.size)
 (h:∀v' w',w'.ownsRow f w size v' (n+b) (y++q)->m.grownBy w' v.ownBlock->(v'.ownBlock=v.ownBlock\/v'.ownBlock=some m.heap.size)->K (a.put o.dst v') w'):o.wp P a m K Q:=by
 obtain⟨i,z,I,E,C,B,A⟩:=T.inf;have D:n+b<=maxLen:=(by have G:=T.Uq;have:=G7 (n+b) G;unfold maxLen;omega)
 have l:∀j u,q[j]? =some u->m.cell? ((⟨g,0,none⟩:Addr).add j)=some u:=(by intro j u F;rw[LO,ja];exact J.cell F);obtain⟨v',w',hr,h2,h3,_,h5⟩:=run_append_own_at (P:=P) m f t o.type w i z size bytes T.ht I E C B A T.pos v n y r ⟨g,0,none⟩ b c q H l (sP.1 L) D k p;exact ae5
def Kept.base{base k:Nat}(h:Kept w m n)(b:n.ownsRow base x k p a t)(f:n.grownBy o p.ownBlock)(l:m.heap.size<=base):Kept w m o:=fun g c j d=>by have e:=h g c j d;have q:=gS d;exact(f.block g (gS e) (fun i=>by have:=(b.lt g i.symm).1;omega)).trans e
def Hq(h:m.ownsRow a w c p e t)(A:m.ownsRow b x d q f u)(l:w≠x):∀g,p.ownBlock=some g->q.ownBlock≠some g:=by
 intro g o j;rcases h.2 with⟨rfl,_⟩|⟨C,G,F,rfl,_,z,_⟩
 ·simp [Value.ownBlock] at o
 ·rcases A.2 with⟨rfl,_⟩|⟨B,s,r,rfl,_,i,_⟩
  ·simp [Value.ownBlock] at j
  ·have E:C=g:=by simpa [Value.ownBlock] using o
   have D:B=g:=by simpa [Value.ownBlock] using j
   subst E D;rw[z] at i;injection i with i;injection i with _ y;exact l y
def Ls.cells{α:Type}{R:World->List Value->α->Prop}(z:∀m e x,R m e x->e.length=a){l:List α}(h:Ls w R m (aG b c d e) l){p:Nat}(F:p<l.length*a)(y:Kept w m n):n.cell? (aC b (c+p))=m.cell? (aC b (c+p)):=by obtain⟨A,O,r,f,K,J,I,C,B⟩:=h;injection f with q u N;subst q;have G:=Ch.length (z m) B;have v:r[p]? =some r[p]:=aX Om;obtain⟨L,E,D,M,j,s,H⟩:=C p _ v;injection j with j;injection j with q u;subst q u;have i:=y _ _ _ s;simp [World.cell?,s,i]
def hstep(h:Int)(x:UInt8):Int:=IntKind.u64.wrap (bits .xor .u64 h (IntKind.u64.wrap (x.toNat:Int))*1099511628211)

def Ru(g c:Nat)(a:List Int)(w:au)(h:df w g)(m:ar w c aS (eG a))(b:c≠g)(n:0<a.length)(t:a.length<=1000):
 Calls prog 49 #[aI g 0,aG c 0 a a] w fun e f=>∃u∈a,e= .returned (av u)/\df f g/\Only g w f:=by
 have H:=af (ru g a.length w h n Om);have p:=af m;have d:=af b;go_enter func49,ntmps49;go_wp2_with fail
 refine H.mono ?_;rintro e q ⟨r,j,rfl,l,k⟩;have s:=(p.only k d).cell (i:=r) (u:=av a[r]) (Ex j);have o:ah (a[r]∈a):=a_ j;generalize a[r]=u at*;go_wp2;go_ret;exact⟨u,o,rfl,l,k⟩
def anu{m:Nat}(b:0<m)(a:d<10):decDigits (m*10+d)=decDigits m++ [UInt8.ofNat (48+d)]:=by rw[Bx Om,show(m*10+d)/10=m by omega,show(m*10+d)%10=d by omega]
def al1(l:List UInt8)(c:UInt8):(⟨l.toArray⟩:ByteArray)++⟨#[c]⟩=⟨(l++ [c]).toArray⟩:=by
 apply ByteArray.ext
 rw[ByteArray.data_append];simp
def anF(w:au)(c:UInt8):(convert Cy bJ (aG w.heap.size 0 1 1)).run prog (w.alloc (.cells #[.int .u8 (c.toNat:Int)] t8))= .ok (.string ⟨#[c]⟩) (w.alloc (.cells #[.int .u8 (c.toNat:Int)] t8)):=by refine run_convert_bytes_back (P:=prog) _ Cy bJ t8 ⟨w.heap.size,0,none⟩ 1 [c] underlying156 underlying5 underlying9 (fun j a=> ?_);obtain rfl:j=0:=avY;exact(iT w t8 [.int .u8 (c.toNat:Int)]).aF 0
abbrev Cj:TypeId:=39
abbrev tk:TypeId:=63
abbrev Ff:TypeId:=117
abbrev kq:TypeId:=30
abbrev kf:=List UInt8×Int
abbrev Rl:=List UInt8×List Int
abbrev Fe:=Int×Int×Int
structure aP where
 ai:List kf
 ay:List Rl
 bf:List Fe
 label:Int
def wO(_:au)(c:List Value)(x:kf):Prop:=c= [aL x.1,av x.2]
def zF(w:au)(c:List Value)(x:Rl):Prop:=∃A n d,c= [aL x.1,.slice A n d]/\IL w (.slice A n d) x.2
def vq(_:au)(c:List Value)(x:Fe):Prop:=c= [av x.1,av x.2.1,av x.2.2]
def wO.iI:js [] wO:=fun _ _ _ _ _ h=>h
def mq:=@wO.iI
def vq.iI:js [] vq:=fun _ _ _ _ _ h=>h
def uk:=@vq.iI
def zF.iI:js [aS] zF:=fun _ _ _ _ a ⟨A,n,d,e,h⟩=>⟨A,n,d,e,gm cK h a⟩
def nS:=@zF.iI
def wO.two(w:au)(c:List Value)(x:kf)(h:wO w c x):c.length=2:=awn
def zF.two(w:au)(c:List Value)(x:Rl)(h:zF w c x):c.length=2:=by obtain⟨_,_,_,rfl,_⟩:=h;rfl
def vq.three(w:au)(c:List Value)(x:Fe)(h:vq w c x):c.length=3:=awn
abbrev AL:=Ls Cj wO
abbrev xh:=Ls tk zF
abbrev xT:=Ls Ff vq
def dN(w:au)(v:Value)(x:aP):Prop:=∃A c B d D e,v= .agg #[.slice A x.ai.length c,.slice B x.ay.length d,.slice D x.bf.length e,av x.label]/\AL w (.slice A x.ai.length c) x.ai/\xh w (.slice B x.ay.length d) x.ay/\xT w (.slice D x.bf.length e) x.bf
def dN.ext{w':au}{x:aP}(h:dN m p x)(a:Ext m w'):dN w' p x:=by obtain⟨A,c,B,d,D,e,i,g,f,b⟩:=h;exact⟨A,c,B,d,D,e,i,g.ext mq a,f.ext nS a,b.ext uk a⟩
def dN.kept{x:aP}(h:dN m p x)(b:∀u,w≠u->Kept u m n)(j:w≠Cj)(i:w≠tk)(g:w≠Ff)(f:w≠aS):dN n p x:=by obtain⟨A,c,B,d,D,e,q,o,l,k⟩:=h;exact⟨A,c,B,d,D,e,q,o.kept mq b ⟨j,fun u a=>by cases a⟩,l.kept nS b ⟨i,fun u a=>by rw[bG.1 a];exact f⟩,k.kept uk b ⟨g,fun u a=>by cases a⟩⟩
def AL.get{n:Nat}{l:List kf}(h:AL m (.slice E n a) l){i:Nat}(e:i<l.length):
 ∃g o,E=dC g o/\g<m.heap.size/\aA m g (o+i*2) (aL l[i].1)/\aA m g (o+i*2+1) (av l[i].2):=by
 obtain⟨g,o,d,k,j,f,b⟩:=qd wO.two Od h e;rw[show d=_ from f] at b;exact⟨g,o,k,j,b 0 _ rfl,b 1 _ rfl⟩
def pz:=@AL.get
def xh.get{n:Nat}{l:List Rl}(h:xh m (.slice E n a) l){i:Nat}(f:i<l.length):
 ∃g o B b d,E=dC g o/\g<m.heap.size/\aA m g (o+i*2) (aL l[i].1)/\aA m g (o+i*2+1) (.slice B b d)/\IL m (.slice B b d) l[i].2:=by
 obtain⟨g,o,d,p,k,⟨B,b,q,rfl,j⟩,e⟩:=qd zF.two Od h f;exact⟨g,o,B,b,q,p,k,e 0 _ rfl,e 1 _ rfl,j⟩
def rp:=@xh.get
def xT.get{n:Nat}{l:List Fe}(h:xT m (.slice E n a) l){i:Nat}(e:i<l.length):
 ∃g o,E=dC g o/\g<m.heap.size/\aA m g (o+i*3) (av l[i].1)/\aA m g (o+i*3+1) (av l[i].2.1)/\aA m g (o+i*3+2) (av l[i].2.2):=by
 obtain⟨g,o,d,k,j,f,b⟩:=qd vq.three Od h e;rw[show d=_ from f] at b;exact⟨g,o,k,j,b 0 _ rfl,b 1 _ rfl,b 2 _ rfl⟩
def EQ(c:UInt8):Prop:=97<=c/\c<=122
def adV(c:UInt8):Prop:=EQ c\/(48<=c/\c<=57)\/c=45
instance(c:UInt8):Decidable (EQ c):=inferInstanceAs (Decidable (_/\_))
instance(c:UInt8):Decidable (adV c):=inferInstanceAs (Decidable (_\/_\/_))
def pE(s:List UInt8):Prop:=1<=s.length/\s.length<=12/\(∀c,s[0]? =some c->EQ c)/\∀c∈s,adV c
def ag6(a:List kf)(f:Fe):Prop:=0<=f.1/\∃x,a[f.1.toNat]? =some x/\((f.2.1=1/\x.2=2/\(f.2.2=0\/f.2.2=1))\/(f.2.1=2/\x.2=3/\f.2.2=0))
structure bR(x:aP):Prop where
 a1:1<=x.ai.length
 a12:x.ai.length<=12
 r1:1<=x.ay.length
 r6:x.ay.length<=6
 f8:x.bf.length<=8
 aw:∀a∈x.ai,pE a.1
 ad:x.ai.Pairwise fun a b=>a.1≠b.1
 ak:∀a∈x.ai,1<=a.2/\a.2<=3
 rw':∀r∈x.ay,pE r.1
 rd:x.ay.Pairwise fun a b=>a.1≠b.1
 rn:∀r∈x.ay,r.2≠ []
 ri:∀r∈x.ay,∀a∈r.2,0<=a/\a<x.ai.length
 ra:∀r∈x.ay,r.2.Pairwise (·<·)
 used:∀a:Nat,a<x.ai.length->∃r∈x.ay,(a:Int)∈r.2
 fo:∀f∈x.bf,ag6 x.ai f
 fd:x.bf.Pairwise fun f h=>f.1≠h.1
 fl:∀f∈x.bf,f.1≠x.label
 lb: -1<=x.label/\x.label<x.ai.length
 lk:0<=x.label->∃a,x.ai[x.label.toNat]? =some a/\a.2=2
def ait(b:a<26)(w:au):(convert aS t8 (av (97+(a:Nat)))).run prog w= .ok (.int .u8 ((UInt8.ofNat (97+a)).toNat:Int)) w:=by rcases a with _|_|_|_|_|_|_|_|_|_|_|_|_|_|_|_|_|_|_|_|_|_|_|_|_|_|a;all_goals first|omega|kernel_rfl
def Q6(p:List UInt8)(i:Nat)(w:au)(h:i<26)(g:p.length<=1000):
 Calls prog 48 #[aL p,av i] w fun e a=>e= .returned (aL (p++ [UInt8.ofNat (97+i)]))/\Ext w a:=by
 have c:=af (fun a=>ait h a);have hcv:=c.ae;have f:=fun a=>anF a (UInt8.ofNat (97+i));have b:=af (al1 p (UInt8.ofNat (97+i)));generalize UInt8.ofNat (97+i)=j at*;have d:Int.tmod (i:Int) 26=(i:Int):=by rw[Int.tmod_eq_emod_of_nonneg Om];omega
 go_enter func48,ntmps48;go_wp2;go_ret;exact⟨by rw[b.ae];rfl,(aB w).alloc _⟩
def abL(s:List UInt8)(w:au)(h:pE s):
 Calls prog 97 #[aL s] w fun e q=>e= .returned (.bool true)/\Ext w q:=by
 obtain⟨z,k,u,v⟩:=h;have H:=af u;have I:=af v;obtain⟨W,E,hcv,F,m⟩:=aau s w;have l:=af F;have G:=af m;go_enter func97,ntmps97;go_wp2;go_loopw [3,4,5,9] (fun _ _ _ j wr=>∃i:Nat,i<=s/\j=av i/\ah (Ext W wr)) (fun _ _ _ j _=>s - (RowKit.intOf j).toNat)
 exact⟨0,aV _,rfl,aB _⟩;obtain⟨i,J,rfl,rW⟩:=hrel;by_cases b:i<s
 ·obtain⟨g,o,e,_,d⟩:=(G.ext rW).at_ (AG b);injection e with e;injection e with C B;subst C B;rw[ja] at d;have a:=I _ (a_ b);have A:i=0->EQ s[i]:=fun e=>by subst e;exact H _ (aX b)
  generalize s[i]=c at*;have r:(97<=c.toNat/\c.toNat<=122)\/(¬(97<=c.toNat/\c.toNat<=122)/\i≠0/\(c.toNat=45\/(48<=c.toNat/\c.toNat<=57))):=by
   by_cases f:97<=c.toNat/\c.toNat<=122
   ·exact .inl f
   ·refine .inr ⟨f,fun e=>f ?_,?_⟩
    ·have:=A e;exact⟨sI.1 this.1,sI.1 this.2⟩
    ·rcases a with a|a|a
     ·exact absurd ⟨sI.1 a.1,sI.1 a.2⟩ f
     ·exact .inr ⟨sI.1 a.1,sI.1 a.2⟩
     ·exact .inl (by rw[a];rfl)
  generalize c.toNat=n at*;rcases r with⟨y,x⟩|⟨y,x,p⟩
  ·have d1:=fU;have d2:=fU;go_wp2;exact Fs
  ·have t:((i:Int)==0)=false:=avM;by_cases D:97<=n
   ·have d1:=fU;have d2:=aY;exfalso;omega
   ·have d1:=aY;rcases p with rfl|⟨p,K⟩
    ·go_wp2;exact Fs
    ·have d3:((n:Int) !=45)=true:=awV;have d4:=aY;have d5:=aY;go_wp2;exact Fs
 ·obtain rfl:i=s.length:=Om;have d1:=decide_eq_true k;have d2:=decide_eq_true z;have d3:decide ((s.length:Int)<=12)=true:=fU;have d4:decide ((s.length:Int)≥1)=true:=fU;go_wp2;go_ret;exact⟨rfl,l.trans rW⟩
def jM(_:au)(c:List Value)(x:List UInt8):Prop:=c= [aL x]
def jM.iI:js [] jM:=fun _ _ _ _ _ h=>h
def jS:=@jM.iI
def jM.one(w:au)(c:List Value)(x:List UInt8)(h:jM w c x):c.length=1:=awn
abbrev Dp:=Ls bJ jM
def Dp.get{n:Nat}{l:List (List UInt8)}(h:Dp m (.slice E n a) l){i:Nat}(e:i<l):
 ∃g o,E=dC g o/\g<m.heap.size/\aA m g (o+i) (aL l[i]):=by
 obtain⟨g,o,d,k,j,f,b⟩:=qd jM.one Od h e;rw[show d=_ from f] at b;have:=b 0 _ rfl;rw[kG,iq] at this;exact⟨g,o,k,j,this⟩
def str_inj{b:List UInt8}(h:(⟨T.toArray⟩:ByteArray)=⟨b.toArray⟩):T=b:=by injection h with h;exact List.toArray_inj h
def str_slice:jG prog 44 bJ 1 16:= .mk' (z:= .string ⟨#[]⟩) Ok Ok rfl Od Od
def akT(A:aR)(c:Nat)(l:List (List UInt8))(i:Nat)(w:au)(h:Dp w (.slice A l c) l)(C:i<l)(x:pE l[i])(v:l[i]∉l.take i)(_hl:l.length<=1000):
 Calls prog 164 #[.slice A l c,av i] w fun e a=>e= .returned (av 0)/\Ext w a:=by
 obtain⟨-,z,E⟩:=bD h;obtain⟨g,o,rfl,D,k⟩:=Dp.get h C;have N:=af h;have M:=af x;have O:ah (∀a,Ext w a->Calls prog 208 #[aG g o i c,aL l[i]] a fun e b=>e= .returned (.bool false)/\Ext a b):=fun a r=>by
  refine(Tryz.slices_Contains_string g o i c (l.map fun t=>⟨t.toArray⟩) ⟨l[i].toArray⟩ a avZ Om (fun j s=> ?_)).mono fun e b h=> ?_
  ·rw[bW] at s;obtain⟨R,Q,e,_,m⟩:=Dp.get (bU jS N r) s;injection e with e;injection e with J I;subst J I;rw[m,fh,dL,aX s];rfl
  ·obtain⟨H,G⟩:=h;rw[G,H];refine⟨?_,aB _⟩;congr 2;rw[Bool.eq_false_iff];intro m;rw[Lib.containsS_iff,<-El,dU] at m;obtain⟨t,y,e⟩:=m;rw[<-str_inj e] at v;exact v y
 have L:ah (∀a,Calls prog 97 #[aL l[i]] a fun e b=>e= .returned (.bool true)/\Ext a b):=fun a=>abL _ a M;generalize l[i]=t at*;generalize l.length=n at*;have B:i<=c:=Om;have u:=af k;go_enter func164,ntmps164;go_wp2_with fail
 refine(L w).mono ?_;rintro e p ⟨rfl,f⟩;go_upto_region 3 with fail
 have bO:ah (∀a,Ext p a->aA a g (o+i) (aL t)):=fun a r=>((f.trans r).cell D).trans u.ae;have aH:=af ((aB p).drew);refine cD (S:=fun a=>Ext p a) (T:=fun _=>false) Ok ?_;refine ax 0 13 ?_;refine ax 1 14 ?_;refine ax 2 15 ?_;refine ax 3 16 ?_;refine ax 4 17 ?_;refine ax 5 18 ?_;refine ax 6 19 ?_;refine aO 7 ?_;intro K F;go_simp;refine(O _ (f.trans aH)).mono ?_;rintro e P ⟨rfl,q⟩;have d:=aH.trans q;refine F.ae _ _ (fun _=>d) ?_;have aH:=af d;refine ax 8 12 ?_;refine b_ Ok ?_;go_wp2;go_ret;exact⟨rfl,f.trans d⟩
def aop{d:List (List UInt8)}(h:d.Pairwise fun c b=>c≠b)(k:a<d):d[a]∉d.take a:=by intro f;obtain⟨j,g,e⟩:=iQ f;rw[cJ] at g;rw[D9] at e;exact pT.1 h j a Om k Om e
def aaa(A:aR)(c:Nat)(d:List (List UInt8))(i:Nat)(w:au)(h:Dp w (.slice A (i+1) c) (d.take (i+1)))(g:i<d.length)(l:∀t∈d,pE t)(m:d.Pairwise fun a b=>a≠b)(n:d.length<=1000):
 Calls prog 164 #[.slice A (i+1) c,av i] w fun e k=>e= .returned (av 0)/\Ext w k:=by
 have e:(d.take (i+1)).length=i+1:=avU;have j:(d.take (i+1))[i]'Om=d[i]:=D9;have f:=akT A c (d.take (i+1)) i w (by rw[e];exact h) Om (by rw[j];exact l _ (a_ g)) (by rw[j,LB,iR Om];exact aop m g) Om;rw[e] at f;exact f
def ED{α:Type}{l:List α}(h:a<l):l.take (a+1)=l.take a++ [l[a]]:=fg h
def agw(c:ar m a w t)(d:m.grownBy n p.ownBlock)(b:p.ownBlock≠some a):ar n a w t:=
 (d.block a c.lt (fun h=>b h.symm)).trans c
def ahh(v:Value)(x:aP)(w:au)(h:dN w v x)(J:bR x):
 Calls prog 91 #[v] w fun e K=>e= .returned (av 0)/\Ext w K:=by
 obtain⟨A,c,B,d,D,e,rfl,ha,_,_⟩:=h;have HA:=af ha;have aN:=af J;have F:=J.a12;obtain⟨-, -,hcm⟩:=bD ha;obtain⟨j,k⟩:∃j,x.ai.map (·.1)=j:=⟨_,rfl⟩;have f:ah (j.length=x.ai):=by rw[ah,<-k,bW]
 have Gy:ah (∀i (h:i<x.ai.length),j[i]? =some x.ai[i].1):=fun i h=>by rw[<-k,dL,aX h];rfl
 have Xp:ah (∀t∈j,pE t):=fun t ht=>by rw[<-k] at ht;obtain⟨y,hy,rfl⟩:=dU.1 ht;exact J.aw y hy
 have DK:ah (j.Pairwise fun a b=>a≠b):=(by rw[ah,<-k,Lq];exact J.ad);generalize x.ay.length=rl at*;generalize x.bf.length=fl at*;generalize x.label=Vc at*;obtain⟨N,hN⟩:∃N,x.ai.length=N:=⟨_,rfl⟩;have HN:=af hN;rw[hN] at HA F f⊢;go_enter func91,ntmps91;go_upto_region 2 with fail
 refine aT fun W H BX=> ?_;have hc0:=BX.aF 0;go_upto_region 3 with fail
 go_loopw [3,4,5,6,10] (fun v3 _ _ _ m wr=>∃i:Nat,i<=N/\m=av i/\ah (bI bJ 1 jM W.heap.size wr v3 (j.take i))/\ah (Ext W wr)) (fun _ _ _ _ m _=>N - (RowKit.intOf m).toNat)
 exact⟨0,aV _,rfl,jf,aB _⟩;obtain⟨i,hi,rfl,HO,s⟩:=hrel;by_cases G:i<N
 ·have q:i<x.ai.length:=by rw[HN.ae];exact G
  obtain⟨g,o,rfl,_,P,O⟩:=pz (bU mq HA (H.trans s)) q;have hk:=aN.ak _ (a_ q);have p:i<j.length:=by rw[f.ae];exact G
  have Q:j[i]=x.ai[i].1:=(by have h:=Gy i q;rw[aX p] at h;injection h);have z:=af (ED p);rw[Q] at z;have NM:=af (fun A c K h=>aaa A c j i K h p Xp DK (by rw[f.ae];omega));generalize x.ai[i]=V at*;obtain⟨nm,kd⟩:=V;simp only at P O hk z;have S:(j.take i)=i:=by rw[cJ,f.ae];omega
  obtain⟨A3,c3,xs,rfl,_,_,HR,HC⟩:=HO.parts;rw[S] at HR⊢;go_upto_region 5 with fail;refine aT fun W3 I BA=> ?_;have C:=af (yQ HR I);have R:(Value.slice A3 i c3).ownBlock≠some wr.heap.size:=fun hh=>by have:=(HR.lt _ hh).2;omega
  have l:=af (s.trans I);have L:=l.size;have U:(i+1)*16<=140737488355328:=Om;have tF:=BA.aF 0;go_wp2_with (at_builtin;refine gQ rfl _ _ 44 rfl W.heap.size str_slice _ _ _ rfl C.ae #[aL nm] 1 1 rfl rfl rfl U L ?_)
  intro v' w4 E r _;obtain⟨A4,c4,rfl,_,_,_⟩:=ej E;have z7:=af (agw BA r R);have O4:ah (bI bJ 1 jM W.heap.size w4 (.slice A4 (i+1) c4) (j.take (i+1))):=by rw[z.ae];exact jc jS Oe (by rw[cJ,f.ae,iR hi];exact C) (HC.mono fun c x hc=>jS _ _ _ _ Oe hc) rfl (by rw[cJ,f.ae,iR hi];exact E) r
  have Z:=af (l.M5 C r);have T:=O4.ls;have X:=af (NM A4 c4 w4 T);go_wp2_with fail
  refine X.mono ?_;rintro e w5 ⟨rfl,n⟩;have xY:=af (z7.ext n);have lA:=xY.aF 1;have O5:=af (O4.ext jS n);have Y:=af (Z.trans n);have kS:=aY;have hk3:=aY;go_wp2;go_roundw;exact⟨i+1,by omega,by go_num,O5,Y⟩;simp [RowKit.intOf];omega
 ·obtain rfl:i=N:=Om;go_wp2;go_ret;exact⟨rfl,H.trans s⟩
def Ls.upto{α:Type}{i:Nat}{R:World->List Value->α->Prop}(g:∀m c x,R m c x->c.length=a){l:List α}(h:Ls w R m (.slice E b c) l)(u:i<=l.length):Ls w R m (.slice E i c) (l.take i):=by obtain⟨B,z,f,e,v,q,p,o,j⟩:=h;injection e with s y r;subst s r;have d:(l.take i).length=i:=avU;exact⟨E,c,f.take (i*a),by rw[d],by rw[d];omega,q,p,o.take _,Ch.take (g m) j i⟩
abbrev fH:TypeId:=4
def ajo(g n c:Nat)(w:au)(h:ar w g fH (List.replicate n (.bool true)))(k:n<=1000):
 Calls prog 209 #[aG g 0 n c,.bool false] w fun e f=>e= .returned (av (-1))/\Ext w f:=by
 have j:=af h;go_enter func209,ntmps209;go_wp2;go_loopw [5,8] (fun _ a wr=>∃i:Nat,i<=n/\a=av i/\ah (Ext w wr)) (fun _ a _=>n - (RowKit.intOf a).toNat);exact⟨0,aV _,rfl,aB _⟩;obtain⟨i,l,rfl,d⟩:=hrel;by_cases b:i<n
 ·have m:=(j.ext d).cell (i:=i) (u:= .bool true) av9;go_wp2;go_roundw;exact⟨i+1,by omega,by go_num,d⟩;simp [RowKit.intOf];omega
 ·obtain rfl:i=n:=Om;go_wp2;go_ret;exact⟨rfl,d⟩
def aht(g n c:Nat)(w:au)(h:ar w g fH (List.replicate n (.bool true)))(d:n<=1000):
 Calls prog 165 #[aG g 0 n c,.bool false] w fun e a=>e= .returned (.bool false)/\Ext w a:=by
 have f:=af (ajo g n c w h d);go_enter func165,ntmps165;go_wp2_with fail;refine f.mono ?_;rintro e i ⟨rfl,b⟩;go_wp2;go_ret;exact⟨rfl,b⟩
def ahR(a k m b:Int)(c:Nat)(w:au)(g:c<w.heap.size)(h:aA w c 0 (av b)):
 Calls prog 167 #[.agg #[av a,av k,av m],aI c 0] w fun e f=>e= .returned (.bool (a==b))/\Ext w f:=by
 go_enter func167,ntmps167;go_upto_region 1 with fail
 refine aT fun W d i=> ?_;have l:=(d.cell (p:=aC c 0) g).trans h;have j:=i.aF 0;go_wp2;go_ret;exact⟨rfl,d⟩
def ajx(A:aR)(c:Nat)(l:List Fe)(a:Nat)(b:Int)(w:au)(h:xT w (.slice A l.length c) l)(z:a<w.heap.size)(H:aA w a 0 (av b))(I:∀f∈l,f.1≠b)(F:l.length<=1000):
 Calls prog 210 #[.slice A l.length c,.func (.func 167) #[] #[aI a 0]] w fun e d=>e= .returned (av (-1))/\Ext w d:=by
 have B:=af h;have L:=af I;have v:ah (∀d,Ext w d->aA d a 0 (av b)):=fun d r=>(r.cell (p:=aC a 0) z).trans H;obtain⟨-, -,G⟩:=bD h;obtain⟨n,y⟩:∃n,l.length=n:=⟨_,rfl⟩;have K:=af y;rw[y] at B F⊢;go_enter func210,ntmps210;go_wp2_with fail
 go_loopw [5,8] (fun _ q wr=>∃i:Nat,i<=n/\q=av i/\ah (Ext w wr)) (fun _ q _=>n - (RowKit.intOf q).toNat)
 exact⟨0,aV _,rfl,aB _⟩;obtain⟨i,N,rfl,m⟩:=hrel;by_cases t:i<n
 ·have k:i<l.length:=by rw[K.ae];exact t
  obtain⟨g,o,rfl,_,E,D,C⟩:=xT.get (bU uk B m) k;have j:=L _ (a_ k);have x:=af (ahR l[i].1 l[i].2.1 l[i].2.2 b a wr (cF z m.size) (v wr m));generalize l[i]=f at*;obtain⟨J,P,O⟩:=f;simp only at x E D C j;have s:(J==b)=false:=by rw[beq_eq_false_iff_ne];exact j
  rw[s] at x;go_wp2_with fail;refine x.mono ?_;rintro e M ⟨rfl,r⟩;have u:=af (m.trans r);go_wp2_with fail
  go_roundw;exact⟨i+1,by omega,by go_num,u⟩;simp [RowKit.intOf];omega
 ·obtain rfl:i=n:=Om;go_wp2;go_ret;exact⟨rfl,m⟩
def ahr(A:aR)(c:Nat)(l:List Fe)(a:Nat)(b:Int)(w:au)(h:xT w (.slice A l.length c) l)(j:a<w.heap.size)(k:aA w a 0 (av b))(m:∀f∈l,f.1≠b)(i:l.length<=1000):
 Calls prog 166 #[.slice A l.length c,.func (.func 167) #[] #[aI a 0]] w fun e d=>e= .returned (.bool false)/\Ext w d:=by
 have n:=af (ajx A c l a b w h j k m i);go_enter func166,ntmps166;go_wp2_with fail;refine n.mono ?_;rintro e o ⟨rfl,g⟩;go_wp2;go_ret;exact⟨rfl,g⟩
def ahP(v:Value)(x:aP)(w:au)(h:dN w v x)(P:bR x):
 Calls prog 93 #[v] w fun e m=>e= .returned (av 0)/\Ext w m:=by
 obtain⟨A,c,B,d,D,e,rfl,ha,_,hf⟩:=h;have HA:=af ha;have HF:=af hf;have y:=af P;have C:=P.a12;have X:=P.f8;obtain⟨-, -,hcm⟩:=bD ha;obtain⟨-,Y,hem⟩:=bD hf;generalize x.ay.length=rl at*;obtain⟨p,l⟩:∃p,x.label=p:=⟨_,rfl⟩;have I:=af l;rw[l];obtain⟨N,hN⟩:∃N,x.ai.length=N:=⟨_,rfl⟩;have HN:=af hN;rw[hN] at HA C⊢;obtain⟨M,hM⟩:∃M,x.bf.length=M:=⟨_,rfl⟩;have HM:=af hM;rw[hM] at HF X Y⊢;go_enter func93,ntmps93;go_upto_region 1 with fail
 refine aT fun W b BX=> ?_;have hc0:=BX.aF 2;go_upto_region 2 with fail
 go_loopw [3,4,5,6,7,11] (fun _ _ _ _ _ n wr=>∃i:Nat,i<=M/\n=av i/\ah (Ext W wr)) (fun _ _ _ _ _ n _=>M - (RowKit.intOf n).toNat)
 exact⟨0,aV _,rfl,aB _⟩;obtain⟨i,hi,rfl,u⟩:=hrel;by_cases U:i<M
 ·have s:i<x.bf.length:=by rw[HM.ae];exact U
  obtain⟨g,o,rfl,_,p0,p1,p2⟩:=xT.get (bU uk HF (b.trans u)) s;have k:=a_ s;have t:=y.fl _ k;rw[I.ae] at t;obtain⟨h0,a,T,F⟩:=y.fo _ k;have H:ah (∀f∈x.bf.take i,f.1≠x.bf[i].1):=fun f V=>by obtain⟨j,hj,rfl⟩:=iQ V;rw[cJ] at hj;rw[D9];exact pT.1 y.fd j i Om s Om
  generalize x.bf[i]=f at*;obtain⟨fa,fk,fm⟩:=f;simp only at p0 p1 p2 t h0 T F H;obtain⟨q,rfl⟩:∃q:Nat,fa=(q:Int):=⟨fa.toNat,by omega⟩;rw[kg] at T;obtain⟨r,R⟩:=t_.1 T;have KM:ah (∃G z,A=dC G z/\∀m,Ext w m->aA m G (z+q*2+1) (av a.2)):=by obtain⟨G,z,e,_,_,_⟩:=pz HA r;refine⟨G,z,e,fun m hx=> ?_⟩;obtain⟨g',o',K,_,_,h⟩:=pz (bU mq HA hx) r;rw[e] at K;injection K with K;injection K with e1 e2;subst e1 e2;rw[R] at h;exact h
  obtain⟨G,z,rfl,Z⟩:=KM.ae;have J:=af Z;have arU:q<N:=by rw[<-HN.ae];exact r
  have Q:((q:Int)==p)=false:=by rw[beq_eq_false_iff_ne];exact t
  have tF:decide ((q:Int)<0)=false:=aY;have S:decide (N<=q)=false:=aY;go_upto_region 4 with fail
  refine aT fun L cH O=> ?_;have Fk:=af (u.trans cH);have qL:=af (BX.ext Fk);obtain⟨s0,s1,s2,s3⟩:=qL.four;have b0:=O.aF 0;have b1:=O.aF 1;have b2:=O.aF 2;have hak:=J L (b.trans Fk);have nH:=af (Ls.upto vq.three (bU uk HF (b.trans Fk)) (i:=i) (by rw[HM.ae];omega));have E:(x.bf.take i).length=i:=by rw[cJ,HM.ae];omega
  have FC:ah (Calls prog 166 #[aG g o i e,.func (.func 167) #[] #[aI wr.heap.size 0]] L fun e m=>e= .returned (.bool false)/\Ext L m):=(by have h:=ahr (dC g o) e (x.bf.take i) wr.heap.size q L (by rw[E];exact nH) O.lt b0 H Om;rw[E] at h;exact h);have hie:i<=e:=Om;generalize a.2=kd at*;rcases F with⟨rfl,rfl,rfl|rfl⟩|⟨rfl,rfl,rfl⟩
  ·skip
   exact U9
  ·skip
   exact U9
  ·skip
   exact U9
 ·obtain rfl:i=M:=Om;go_wp2;go_ret;exact⟨rfl,b.trans u⟩
def alz:(prog.info? fH).map (fun i=>(i.zero,i.size,i.bytes))=some (some (.bool false),1,1):=Ok
def Hs(n:Nat)(h:n<=1000000)(w:au):
 (Instr.makeSlice 231 (.int .i64 (n:Int)) (.int .i64 (n:Int))).run prog w= .ok (aG w.heap.size 0 n n) (w.alloc (.cells (List.replicate n (.bool false)).toArray fH)):=by
 obtain⟨e,f,c,b,a⟩:=info_parts alz;have d:=run_make (P:=prog) w 231 fH e (.bool false) underlying231 f c .i64 .i64 (n:Int) (n:Int) Om (yz _) awk Om;simp only[kg,b,Value.cells,kG] at d;rw[d,<-ym]
def pD(a:List Bool):List Value:=a.map Value.bool
def acK(b:List Bool)(a:Nat):(pD b).set a (.bool true)=pD (b.set a true):=by simp [pD,Eo]
def anJ{c:List Bool}(f:c.length=a)(h:∀b,b<a->c[b]? =some true):pD c=List.replicate a (.bool true):=by
 have e:c=List.replicate a true:=by
  apply sL
  intro i;rcases cA i a with d|d
  ·rw[h i d];simp [d]
  ·rw[fF Om,fF Oc]
 rw[e,pD,x_]
def Us(b:List Bool)(n:Nat)(l:List Int):Prop:=b.length=n/\∀a∈l,b[a.toNat]? =some true
def Us.set{e:List Bool}(h:Us e a L)(f:b<a):Us (e.set b true) a (L++ [(b:Int)]):=by
 refine⟨by rw[sR];exact h.1,fun c d=> ?_⟩;have g:=h.1;rcases bV.1 d with d|d
 ·have:=h.2 c d;rw[o5];split
  ·rw[if_pos Om]
  ·exact this
 ·rw[bG.1 d,kg,o5,if_pos rfl,if_pos Om]
def q69.afv(h:aq:=by
 go_wp2_with fail
 refine(aht _ N N wr BU Om).mono ?_;rintro e w7 ⟨rfl,uH⟩;go_wp2;go_ret;exact⟨rfl,rW.trans uH⟩):=h
def ahm(v:Value)(x:aP)(w:au)(h:dN w v x)(ok:bR x):
 Calls prog 92 #[v] w fun e m=>e= .returned (.int .i64 0)/\Ext w m:=by
 obtain⟨A,c,B,d,D,e,rfl,_,hr,_⟩:=h;have HR:=af hr;have aN:=af ok;have af0:=ok.a12;have Og:=ok.r6;obtain⟨-,hec,hem⟩:=bD hr;obtain⟨H,L⟩:∃H,x.ay.map (·.1)=H:=⟨_,rfl⟩;have I:ah (H.length=x.ay.length):=by rw[ah,<-L,bW]
 have Gy:ah (∀i (h:i<x.ay.length),H[i]? =some x.ay[i].1):=fun i h=>by rw[<-L,dL,aX h];rfl
 have Xp:ah (∀t∈H,pE t):=fun t ht=>by rw[<-L] at ht;obtain⟨y,hy,rfl⟩:=dU.1 ht;exact ok.rw' y hy
 have DK:ah (H.Pairwise fun a b=>a≠b):=(by rw[ah,<-L,Lq];exact ok.rd);clear hr ok L;generalize x.bf.length=fl at*;generalize x.label=Vc at*;obtain⟨N,hN⟩:∃N,x.ai.length=N:=⟨_,rfl⟩;have HN:=af hN;rw[hN] at af0⊢;clear hN;obtain⟨R,Wi⟩:∃R,x.ay.length=R:=⟨_,rfl⟩;have jN:=af Wi;rw[Wi] at HR I Og hec⊢;clear Wi;go_enter func92,ntmps92;go_upto_region 1 with fail
 refine aT fun W oJ BX=> ?_;have hc0:=BX.aF 0;have kR:=Hs N Om W;go_upto_region 3 with fail
 refine aT fun X aZ BU=> ?_;clear kR hc0;have ke:=af (BX.ext aZ);have hc1:=ke.aF 1;have hgx:w.heap.size<W.heap.size:=BX.lt;have OG:W.heap.size<X.heap.size:=BU.lt;have Ds:=af (oJ.trans aZ);have rX:ah (Us (List.replicate N false) N []):=⟨by simp,fun a h=>by cases h⟩;have D4:ah (ar X W.heap.size fH (pD (List.replicate N false))):=by rw[pD,x_];exact BU
 clear BU BX oJ aZ;go_upto_region 4 with fail
 go_loopw [3,5,6,7,9,10,18] (fun v3 _ _ _ _ _ v18 wr=>∃(i:Nat) (bs:List Bool),i<=R/\v18= .int .i64 i/\ah (bI bJ 1 jM X.heap.size wr v3 (H.take i))/\ah (Us bs N ((x.ay.take i).flatMap (·.2)))/\ah (ar wr W.heap.size fH (pD bs))/\ah (ar wr w.heap.size kq [.slice A N c,.slice B R d,.slice D fl e,.int .i64 Vc])/\ah (Ext w wr)/\X.heap.size<=wr.heap.size) (fun _ _ _ _ _ _ v18 _=>R - (RowKit.intOf v18).toNat)
 exact⟨0,_,aV _,rfl,jf,rX,D4,ke,Ds,aK _⟩;clear hc1 rX D4 ke Ds;obtain⟨i,bs,hi,rfl,HO,HU,BU,BX,rW,hwr⟩:=hrel;by_cases zw:i<R
 ·have O:i<x.ay.length:=aw4;obtain⟨g,o,Bi,mi,di,rfl,_,et,gz,s⟩:=rp (bU nS HR rW) O;have F:=a_ O;have M:=aN.rn _ F;have ic:=af (aN.ri _ F);have nD:=af (aN.ra _ F);have FU:i<H.length:=by rw[I.ae];exact zw
  have hng:H[i]=x.ay[i].1:=(by have h:=Gy i O;rw[aX FU] at h;injection h);have gh:=af (ED FU);rw[hng] at gh;have DR:ah ((x.ay.take (i+1)).flatMap (·.2)=(x.ay.take i).flatMap (·.2)++x.ay[i].2):=(by rw[ah,ED O,D7,List.flatMap_singleton])
  have NM:=af (fun A c m h=>aaa A c H i m h FU Xp DK (by rw[I.ae];omega));rw[HN.ae] at ic;clear hng F;generalize x.ay[i]=rl_ at*;clear O FU;obtain⟨nm,f⟩:=rl_;simp only at et gz s M ic nD gh DR;obtain⟨rQ,VE,hdm⟩:=bD s;have jK:0<mi:=by
   rw[rQ];rcases f with _|⟨y,f⟩
   ·exact absurd rfl M
   ·simp
  have Ov:((mi:Int)==0)=false:=avM;have zR:=af rQ;clear rQ M;have hlt:(H.take i).length=i:=by rw[cJ,I.ae];omega
  obtain⟨A3,c3,xs,rfl,_,_,G,HC⟩:=HO.parts;rw[hlt] at G⊢;clear hlt;generalize wr=wo at*;go_upto_region 6 with fail;refine aT fun W3 C BA=> ?_;have E:=af (yQ G C);have M:(Value.slice A3 i c3).ownBlock≠some wo.heap.size:=fun hh=>by have:=(G.lt _ hh).2;omega
  have Fk:=af (rW.trans C);have hw3:X.heap.size<=W3.heap.size:=a7 hwr C.size;have cM:(i+1)*16<=140737488355328:=Om;have tF:=BA.aF 0;have BU3:=af (BU.ext C);have qL:=af (BX.ext C);have HI3:=af (kJ s C);clear et gz G C BU BX s;go_wp2_with (at_builtin;refine gQ rfl _ _ 44 rfl X.heap.size str_slice _ _ _ rfl E.ae #[.string ⟨nm.toArray⟩] 1 1 rfl rfl rfl cM hw3 ?_)
  intro v' w4 uL p _;obtain⟨A4,c4,rfl,_,_,_⟩:=ej uL;have z7:=af (agw BA p M);have KX:=af (gH BU3 E p OG);have oU:=af (gH qL E p Om);have zU:ah (IL w4 (.slice Bi mi di) f):=Ls.kept cK HI3 (fun u U=>pZ E p U) Od;have O4:ah (bI bJ 1 jM X.heap.size w4 (.slice A4 (i+1) c4) (H.take (i+1))):=by rw[gh.ae];exact jc (R:=jM) jS Oe (by rw[cJ,I.ae,iR hi];exact E) (HC.mono fun c x hc=>jS _ _ _ _ Oe hc) rfl (by rw[cJ,I.ae,iR hi];exact uL) p
  have dD:ah (Ext w w4):=mn Fk E p Om;have zr:Dp w4 (.slice A4 (i+1) c4) (H.take (i+1)):=O4.ls;have NM4:=af (NM A4 c4 w4 zr);have hw4:X.heap.size<=w4.heap.size:=a7 hw3 p.size;clear uL p zr tF E BA BU3 qL HI3;go_wp2_with fail
  refine NM4.mono ?_;rintro e w5 ⟨rfl,n⟩;have xY:=af (z7.ext n);have K:=xY.aF 1;have O5:=af (O4.ext jS n);have dX:=af (dD.trans n);have KW:=af (KX.ext n);have BX5:=af (oU.ext n);have XB:=af (kJ zU n);have zj:X.heap.size<=w5.heap.size:=a7 hw4 n.size;have OH:W.heap.size<wo.heap.size:=Om;clear n O4 dD KX oU zU z7 hw4;go_upto_region 13 with fail
  clear K;generalize hFL:(x.ay.take i).flatMap (·.2)=lf at*;clear hFL;have pO:ah (Us bs N (lf++f.take 0)):=by rw[kF,i7];exact HU
  have HST:=af (aK w5.heap.size);go_loopw [9,41] (fun _ v41 wr=>∃(j:Nat) (bs:List Bool),j<=mi/\v41= .int .i64 j/\ah (Us bs N (lf++f.take j))/\ah (ar wr W.heap.size fH (pD bs))/\ah (Only W.heap.size w5 wr)/\ah (∀u,fH≠u->Kept u w5 wr)) (fun _ v41 _=>mi - (RowKit.intOf v41).toNat);exact⟨0,bs,aV _,rfl,pO,KW,ig _ _,fun u _=>kj u _⟩;clear pO KW HU bs;obtain⟨j,bs,hj,rfl,HU,BU,P,J⟩:=hrel;by_cases VK:j<mi
  ·have Z:j<f.length:=by rw[<-zR.ae];exact VK
   have s:IL wr (.slice Bi mi di) f:=Ls.kept cK XB J Od;obtain⟨V,Q,rfl,_,zy⟩:=gX s Z;have oB:=ic _ (a_ Z);have WW:=af (ED Z);clear s;generalize f[j]=y at*;clear Z;obtain⟨q,rfl⟩:∃q:Nat,y=(q:Int):=⟨y.toNat,by omega⟩;have rO:q<N:=Om;have tF:decide ((q:Int)<0)=false:=aY;have hqd:decide (N<=q)=false:=aY;have hfz:=BU.frozen q;have wV:∃u,wr.cell? (aC W.heap.size q)=some u:=(by exact aeA)
   obtain⟨uq,wV⟩:=wV;obtain⟨W7,iC,B7,K7,N7⟩:=gG (i:=q) BU (.bool true);rw[acK] at B7;have kA:=af iC;have Kb:=af (HU.set rO);rw[ie,<-WW.ae] at Kb;have as5:=af (P.trans N7);have atk:ah (∀u,fH≠u->Kept u w5 W7):=fun u U=>(J u U).trans (K7 u U);clear iC oB;go_upto_region 18 with fail
   rw[kA.ae];clear wV hfz zy kA K7 N7;go_wp2_with fail;go_roundw;exact⟨j+1,_,by omega,by go_num,Kb,B7,as5,atk⟩;simp [RowKit.intOf];omega
  ·obtain rfl:j=mi:=Om;rw[dz (by rw[<-zR.ae];exact aK _)] at HU;rw[<-DR.ae] at HU;have PL:ah (ar wr wo.heap.size tk [.string ⟨nm.toArray⟩,.slice Bi j di]):=J tk Od _ _ _ xY;have qK:ah (ar wr w.heap.size kq [.slice A N c,aG g o R d,.slice D fl e,.int .i64 Vc]):=J kq Od _ _ _ BX5;have DO:ah (IL wr (.slice Bi j di) f):=Ls.kept cK XB J Od;have O6:=af (O5.only jS P OG Oe);have dG:=af (dX.only P Om);have Vm:X.heap.size<=wr.heap.size:=a7 zj P.size;clear xY BX5 XB O5 dX P J zj hj;generalize wr=w6 at*;have K:=PL.aF 1;go_upto_region 20 with fail
   clear K;go_loopw [10] (fun v10 wr=>∃k:Nat,1<=k/\k<=j/\v10= .int .i64 k/\ah (Ext w6 wr)) (fun v10 _=>j - (RowKit.intOf v10).toNat);exact⟨1,aK _,jK,rfl,aB _⟩;obtain⟨k,kS,hkj,rfl,l⟩:=hrel;have oV:=af (PL.ext l);have K:=oV.aF 1;by_cases FR:k<j
   ·obtain⟨z,rfl⟩:∃z,k=z+1:=⟨k - 1,by omega⟩;have Y:z+1<f.length:=by rw[<-zR.ae];exact FR
    have hz0:z<f.length:=Om;have jA:ah (∃V Q,Bi=dC V Q/\∀m,Ext w6 m->m.cell? (aC V (Q+(z+1)))=some (.int .i64 f[z+1])/\m.cell? (aC V (Q+z))=some (.int .i64 f[z])):=by
     obtain⟨V,Q,e,_,_⟩:=gX DO Y;refine⟨V,Q,e,fun m hx=>⟨?_,?_⟩⟩
     ·obtain⟨g',o',e',_,h⟩:=gX (kJ DO hx) Y;rw[e] at e';injection e' with e';injection e' with e1 e2;subst e1 e2;exact h
     ·obtain⟨g',o',e',_,h⟩:=gX (kJ DO hx) hz0;rw[e] at e';injection e' with e';injection e' with e1 e2;subst e1 e2;exact h
    obtain⟨V,Q,rfl,hcc⟩:=jA.ae;have qI:=af hcc;have hlt:f[z]<f[z+1]:=pT.1 nD z (z+1) hz0 Y Om;clear hcc jA;generalize f[z+1]=y1 at*;generalize f[z]=y0 at*;clear hz0 Y;have hwz:IntKind.i64.wrap (z:Int)=(z:Int):=awe;have hzz:((z+1:Nat):Int) - 1=(z:Int):=Om;have NT:z<j:=Om;go_upto_region 22 with fail
    clear K;have bO:ah (∀m,Ext wr m->aA m wo.heap.size 1 (aG V Q j di)/\aA m V (Q+(z+1)) (.int .i64 y1)/\aA m V (Q+z) (.int .i64 y0)):=fun m hx=>⟨(oV.ext hx).aF 1,(qI m (l.trans hx)).1,(qI m (l.trans hx)).2⟩;have aH:ah (Ext wr wr.drew):=(aB wr).drew;refine cD (S:=fun m=>Ext wr m) (T:=fun _=>false) Ok ?_;refine ax 0 64 ?_;refine ax 1 65 ?_;refine ax 2 66 ?_;refine ax 3 67 ?_;refine ax 4 68 ?_;refine ax 5 69 ?_;refine ax 6 70 ?_;refine ax 7 71 ?_;refine ax 8 72 (v:= .int .i64 z) ?_;refine ax 9 73 ?_;refine ax 10 74 ?_;refine ax 11 75 (v:= .bool false) ?_;refine b_ Ok ?_;have kV:=af (l.trans aH);clear bO aH qI;go_wp2_with fail
    go_roundw;exact⟨z+1+1,by omega,by omega,by go_num,kV⟩;simp [RowKit.intOf];omega
   ·have Jz:decide (k<j)=false:=decide_eq_false FR;have hwk:w6.heap.size<=wr.heap.size:=l.size;have O7:=af (O6.ext jS l);have Yp:=af (BU.ext l);have BX7:=af (qK.ext l);have gK:=af (dG.trans l);go_wp2_with fail
    go_roundw;exact⟨i+1,bs,by omega,by go_num,O7,HU,Yp,BX7,gK,by omega⟩;simp [RowKit.intOf];omega
 ·obtain rfl:i=R:=Om;open q69 in exact ae1
def Ia(v:Value)(x:aP)(w:au)(h:dN w v x)(l:bR x):
 Calls prog 41 #[v] w fun e p=>e= .returned (.int .i64 0)/\Ext w p:=by
 have Q:=af (fun p G=>ahh v x p (h.ext G) l);have P:=af (fun p G=>ahm v x p (h.ext G) l);have O:=af (fun p G=>ahP v x p (h.ext G) l);obtain⟨A,c,B,d,D,e,rfl,y,_,_⟩:=h;have Z:=af y;have a1:=l.a1;have a12:=l.a12;have r1:=l.r1;have r6:=l.r6;have f8:=l.f8;have lb:=l.lb;have t:=af l.lk;clear y l;obtain⟨f,n⟩:∃f,x.label=f:=⟨_,rfl⟩;rw[n] at lb t Q P O⊢;clear n;obtain⟨N,L⟩:∃N,x.ai.length=N:=⟨_,rfl⟩;have HN:=af L;rw[L] at Z a1 a12 lb Q P O⊢;clear L;generalize x.ay.length=R at*;generalize x.bf.length=M at*;have d1:decide (N>12)=false:=aY;have d2:decide (R>6)=false:=aY;have d3:decide (M>8)=false:=aY;have b1:((N:Int)==0)=false:=avM;have b2:((R:Int)==0)=false:=avM;have l1:decide (f< -1)=false:=aY;have l2:decide (f≥(N:Int))=false:=aY;have l2':decide ((N:Int)<=f)=false:=aY;go_enter func41,ntmps41;go_upto_region 1 with fail
 refine aT fun W Y U=> ?_;obtain⟨F,E,C,z⟩:=U.four;go_upto_region 4 with fail
 refine aT fun W2 s BF=> ?_;have T:=af (U.ext s);have k:=af (Y.trans s);clear F E C z U Y s;go_loopw [4,5,36] (fun _ _ r wr=>∃i:Nat,i<=3/\r= .int .i64 i/\ah (Ext W2 wr)) (fun _ _ r _=>3 - (RowKit.intOf r).toNat)
 exact⟨0,by omega,rfl,aB _⟩;obtain⟨i,hi,rfl,b⟩:=hrel;have S:=af (T.ext b);have u:=af (BF.ext b);obtain⟨F,E,C,z⟩:=S.four;rcases i with _|_|_|_|i
 ·have K:=u.aF 0;go_wp2_with fail;refine(Q _ (k.trans b)).mono ?_;rintro e V ⟨rfl,j⟩;have m:=af (b.trans j);clear F E C z K j;go_wp2_with fail
  go_roundw;exact⟨1,by omega,by go_num,m⟩;simp [RowKit.intOf]
 ·have K:=u.aF 1;go_wp2_with fail;refine(P _ (k.trans b)).mono ?_;rintro e V ⟨rfl,j⟩;have m:=af (b.trans j);clear F E C z K j;go_wp2_with fail
  go_roundw;exact⟨2,by omega,by go_num,m⟩;simp [RowKit.intOf]
 ·have K:=u.aF 2;go_wp2_with fail;refine(O _ (k.trans b)).mono ?_;rintro e V ⟨rfl,j⟩;have m:=af (b.trans j);clear F E C z K j;go_wp2_with fail
  go_roundw;exact⟨3,by omega,by go_num,m⟩;simp [RowKit.intOf]
 ·by_cases J:0<=f
  ·obtain⟨a,y,hk⟩:=t J;obtain⟨q,rfl⟩:∃q:Nat,f=(q:Int):=⟨f.toNat,by omega⟩;rw[kg] at y;obtain⟨I,H⟩:=t_.1 y;obtain⟨g,o,rfl, -, -,hp⟩:=pz (bU mq Z (k.trans b)) I;rw[H,hk] at hp;have X:q<N:=by rw[<-HN.ae];exact I
   have l3:decide ((q:Int)≥0)=true:=fU;have l4:decide (N<=q)=false:=aY;clear y H J t;go_wp2;go_ret;exact⟨rfl,k.trans b⟩
  ·have l3:decide (f≥0)=false:=aY;have l3':decide (0<=f)=false:=aY;go_wp2;go_ret;exact⟨rfl,k.trans b⟩
 ·omega

section
variable{P:Program}{ops:Array Oper}{Q:Exit->Act->World->Prop}{md:Region.Mode}{S:World->Prop}{T:Nat->Bool}
end

def abB:jG prog 26 Cj 2 24:= .mk' (z:= .agg #[.string ⟨#[]⟩,av 0]) Ok Ok rfl Od Od
def aaW:jG prog 27 tk 2 40:= .mk' (z:= .agg #[.string ⟨#[]⟩,.slice none 0 0]) Ok Ok rfl Od Od
def abv:jG prog 28 Ff 3 24:= .mk' (z:= .agg #[av 0,av 0,av 0]) Ok Ok rfl Od Od
abbrev xg(wz:au):World->List Value->Rl->Prop:=fun _=>zF wz
def xg.iI(wz:au):js [] (xg wz):=fun _ _ _ _ _ h=>h
structure SB(w0:au)(g b base:Nat)(z cs:List Value)(wz:au)(va vr vf:Value)(ai:List kf)(ay:List Rl)(bf:List Fe)(w:au):Prop where
 blk:ar w (b+1) kq cs
 res:ar w b kq z
 oa:bI Cj 2 wO base w va ai
 ol:bI tk 2 (xg wz) base w vr ay
 of:bI Ff 3 vq base w vf bf
 src:df w g
 on:Only g w0 w
 kz:Kept aS wz w
 sz:base<=w.heap.size
 zz:wz.heap.size<=w.heap.size
section
variable{w0 w w' wz:au}{g b base n k:Nat}{z cs xs:List Value}{va vr vf v va' UQ UR:Value}{ai:List kf}{ay:List Rl}{bf:List Fe}
structure Bs(w0:au)(g b base:Nat):Prop where
 g0:g<w0.heap.size
 b0:w0.heap.size<=b
 bb:b+1<base
theorem SB.ext(h:SB w0 g b base z cs wz va vr vf ai ay bf w)(a:Ext w w'):SB w0 g b base z cs wz va vr vf ai ay bf w':=
 ⟨h.blk.ext a,h.res.ext a,h.oa.ext mq a,h.ol.ext (xg.iI wz) a,h.of.ext uk a,h.src.ext a,h.on.trans (ep a),h.kz.trans (.je a),a7 h.sz a.size,a7 h.zz a.size⟩
theorem SB.call(q:Bs w0 g b base)(h:SB w0 g b base z cs wz va vr vf ai ay bf w)(a:Only g w w')(d:df w' g):SB w0 g b base z cs wz va vr vf ai ay bf w':=
 have q1:=q.g0;have q2:=q.b0;have q3:=q.bb;⟨h.blk.only a Om,h.res.only a Om,h.oa.only mq a Om Oe,h.ol.only (xg.iI wz) a Om Oe,h.of.only uk a Om Oe,d,h.on.trans a,h.kz.trans (Im h.src a Od),a7 h.sz a.size,a7 h.zz a.size⟩
theorem SB.MZ(h:SB w0 g b base z cs wz va vr vf ai ay bf w):SB w0 g b base z cs w va vr vf ai ay bf w:=
 ⟨h.blk,h.res,h.oa,(by obtain⟨xs,f,e⟩:=h.ol;exact⟨xs,f,e.mono fun c x d=>nS _ _ _ _ (fun u a=>by rw[bG.1 a];exact h.kz) d⟩),h.of,h.src,h.on,kj _ _,h.sz,aK _⟩
theorem SB.put(q:Bs w0 g b base)(h:SB w0 g b base z cs wz va vr vf ai ay bf w)(i:Nat)(x:Value):∃W,w.setCell (aC (b+1) i) x=W/\ah (SB w0 g b base z (cs.set i x) wz va vr vf ai ay bf W)/\ah (Only (b+1) w W):=by have q1:=q.g0;have q2:=q.b0;have q3:=q.bb;obtain⟨W,hW,e,d,a⟩:=gG (i:=i) h.blk x;refine⟨W,hW,⟨e,h.res.only a Om,h.oa.only mq a Om Oe,h.ol.only (xg.iI wz) a Om Oe,h.of.only uk a Om Oe,h.src.past a Om,h.on.fresh a Om,h.kz.trans (d _ Od),a7 h.sz a.size,a7 h.zz a.size⟩,a⟩
theorem SB.agA(q:Bs w0 g b base)(h:SB w0 g b base z cs wz va vr vf ai ay bf w){x:kf}(d:ai=n)(hown:w.ownsRow base Cj 2 va n xs)(f:Ch (wO w) xs ai)(c:w'.ownsRow base Cj 2 va' (n+1) (xs++ [aL x.1,av x.2]))(hg:w.grownBy w' va.ownBlock):
 SB w0 g b base z cs wz va' vr vf (ai++ [x]) ay bf w':=by
 have q1:=q.g0;have q2:=q.b0;have q3:=q.bb;subst d;refine⟨gH h.blk hown hg q3,gH h.res hown hg Om,jc (R:=wO) mq Oe hown f rfl c hg,?_,?_,h.src.grown hg (fun j e=>by have:=(hown.lt j e).1;omega),Eu h.on hown hg Om,h.kz.trans (pZ hown hg Od),a7 h.sz hg.size,a7 h.zz hg.size⟩
 ·exact TX
 ·exact U3
theorem SB.agx(q:Bs w0 g b base)(h:SB w0 g b base z cs wz va vr vf ai ay bf w){x:Rl}(l:ay=n)(hown:w.ownsRow base tk 2 vr n xs)(p:Ch (xg wz w) xs ay)(e:IL wz (.slice E a c) x.2)(i:w'.ownsRow base tk 2 UQ (n+1) (xs++ [aL x.1,.slice E a c]))(hg:w.grownBy w' vr.ownBlock):
 SB w0 g b base z cs wz va UQ vf ai (ay++ [x]) bf w':=by
 have q1:=q.g0;have q2:=q.b0;have q3:=q.bb;subst l;refine⟨gH h.blk hown hg q3,gH h.res hown hg Om,?_,jc (R:=xg wz) (xg.iI wz) Oe hown p ⟨E,a,c,rfl,e⟩ i hg,?_,h.src.grown hg (fun j o=>by have:=(hown.lt j o).1;omega),Eu h.on hown hg Om,h.kz.trans (pZ hown hg Od),a7 h.sz hg.size,a7 h.zz hg.size⟩
 ·exact TW
 ·exact U3
theorem SB.agz(q:Bs w0 g b base)(h:SB w0 g b base z cs wz va vr vf ai ay bf w){x:Fe}(d:bf=n)(hown:w.ownsRow base Ff 3 vf n xs)(f:Ch (vq w) xs bf)(c:w'.ownsRow base Ff 3 UR (n+1) (xs++ [av x.1,av x.2.1,av x.2.2]))(hg:w.grownBy w' vf.ownBlock):
 SB w0 g b base z cs wz va vr UR ai ay (bf++ [x]) w':=by
 have q1:=q.g0;have q2:=q.b0;have q3:=q.bb;subst d;refine⟨gH h.blk hown hg q3,gH h.res hown hg Om,?_,?_,jc (R:=vq) uk Oe hown f rfl c hg,h.src.grown hg (fun j e=>by have:=(hown.lt j e).1;omega),Eu h.on hown hg Om,h.kz.trans (pZ hown hg Od),a7 h.sz hg.size,a7 h.zz hg.size⟩
 ·exact TW
 ·exact TX
theorem SB.agy(q:Bs w0 g b base)(h:SB w0 g b base z cs wz va vr vf ai ay bf w)(h2:base<=a)(c:wz.heap.size<=a)(hown:w.ownsRow a aS 1 v n xs)(hg:w.grownBy w' v.ownBlock):SB w0 g b base z cs wz va vr vf ai ay bf w':=by
 have q1:=q.g0;have q2:=q.b0;have q3:=q.bb;refine⟨gH h.blk hown hg Om,gH h.res hown hg Om,?_,?_,?_,h.src.grown hg (fun j d=>by have:=(hown.lt j d).1;omega),Eu h.on hown hg Om,Kept.base h.kz hown hg c,a7 h.sz hg.size,a7 h.zz hg.size⟩
 ·exact TW
 ·exact TX
 ·exact U3
end
def Ho{n:Nat}(h:n<10):bS ((n:Int):Rat)= [UInt8.ofNat (48+n)]:=by rw[akp,p6,k8 h]
def Zn:bS (1/2:Rat)= [49,47,50]:=by have b:((1:Rat)/2).num=((1:Nat):Int):=Ok;have a:((1:Rat)/2).den=2:=Ok;rw[o_ (by rw[a];decide),b,a,p6,k8 Od,k8 Od];rfl
def Ls.aul{α:Type}{t:TypeId}{R:World->List Value->α->Prop}{l:List α}(c:ar m a t u)(b:Ch (R m) u l)(d:l.length<=1000):Ls t R m (aG a 0 l l) l:=
 ⟨dC a 0,l,u,rfl,aK _,by unfold maxLen;omega,Oe,c.sl 0,b⟩
def k9:=@Ls.aul
def aqq:bS (0:Rat)= [48]:=Ho (n:=0) Od
def TG:bS (1:Rat)= [49]:=Ho (n:=1) Od
def TF:bS (2:Rat)= [50]:=Ho (n:=2) Od
def aqp:bS (4:Rat)= [52]:=Ho (n:=4) Od
def R3(h:decide (H.num.natAbs<100/\H.den<100)=true):bF 400 H:=by have h:=of_decide_eq_true h;exact(show bF 2 H from h).mono Od
def asA{P:World->Prop}{t1 t2 t3 t4 t5 t6:TypeId}{c b a:List Value}(h:∀W,ah (Ext m W)->ah (ar W m.heap.size t1 t)->ah (ar W (m.heap.size+1) t2 u)->ah (ar W (m.heap.size+1+1) t3 v)->ah (ar W (m.heap.size+1+1+1) t4 c)->ah (ar W (m.heap.size+1+1+1+1) t5 b)->ah (ar W (m.heap.size+1+1+1+1+1) t6 a)->P W):
 P ((((((m.alloc (.cells t.toArray t1)).alloc (.cells u.toArray t2)).alloc (.cells v.toArray t3)).alloc (.cells c.toArray t4)).alloc (.cells b.toArray t5)).alloc (.cells a.toArray t6)):=
 h _ (((((((aB m).alloc _).alloc _).alloc _).alloc _).alloc _).alloc _) ((((((iT m t1 t).alloc _).alloc _).alloc _).alloc _).alloc _) (((((jg (m.alloc _) t2 u _ Ou).alloc _).alloc _).alloc _).alloc _) ((((jg ((m.alloc _).alloc _) t3 v _ Ou).alloc _).alloc _).alloc _) (((jg (((m.alloc _).alloc _).alloc _) t4 c _ Ou).alloc _).alloc _) ((jg ((((m.alloc _).alloc _).alloc _).alloc _) t5 b _ Ou).alloc _) (jg (((((m.alloc _).alloc _).alloc _).alloc _).alloc _) t6 a _ Ou)
end Go.Proofs.YtadbchhdjbghkaaGreatDoor
