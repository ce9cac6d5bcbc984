/- Texts of the proof, part 5. -/
import Derived.Test.YthfffpcmldipgaaGreatDoorA4
namespace Go.Proofs.YthfffpcmldipgaaGreatDoor
set_option maxHeartbeats 8000000
set_option linter.all false
set_option maxRecDepth 100000
variable{ai:Prop}
open Go.RowKit Go.Lib Go.Maps Go.ChangeShapes Go.WideShapes Go.ChangeAt Go.Proofs.Tryz
variable{a b c d e f g h:Nat}{i j k l:List Nat}{m n o:World}{p q r s:Value}{t u v:List Value}{w x:TypeId}{y z:Nat→Option Nat}{A:Nat→List Nat}{B C:Int}{E F:Option Addr}{H I:Rat}{J:Nat→Nat}{K:Nat→Bool}{L:List Int}{N:Array Bool}{O:Option Nat}{Q:Act}{R S:Bool}{T:List UInt8}
theorem Oy9{p:Prop}(h:p:=by (first|(intro h;cases h;done)|(intro _ h;cases h;done)|(intro _ _ h;cases h;done)|(intros;rename_i h;cases h))):p:=h
abbrev pQ:TypeId:=80
def fh(l:List Int):List Value:=l.map (Value.int .i64)
def Hg{l:List Int}{k:Nat}(h:k<l.length):(fh l)[k]?=some (av l[k]):=by simp [fh,h]
def cJ(w:au)(g:Nat):Prop:=∃(t:TypeId) (A:aS) (a:List Int) (c k:Nat),a.length<=600/\k<=a.length/\ar w g pQ [.slice A a.length c,av (k:Int)]/\Sl w t A (fh a)/\(0<a.length->∀b,A=some b->b.block<g)/\∀z∈a, -9223372036854775808<=z/\z<=9223372036854775807
def cJ.ext{w':au}(h:cJ m g)(a:Ext m w'):cJ w' g:=by obtain⟨t,A,b,c,k,j,i,f,e,d⟩:=h;exact⟨t,A,b,c,k,j,i,f.ext a,e.ext a,d⟩
def cJ.lt(h:cJ m a):a<m.heap.size:=by obtain⟨t,A,d,c,k,j,i,b,f,e⟩:=h;exact b.lt
def cJ.below(h:cJ m a)(r:∀i,i<=a->n.heap[i]?=m.heap[i]?):cJ n a:=by
 obtain⟨t,A,d,c,k,E,D,C,B,v,z⟩:=h;refine⟨t,A,d,c,k,E,D,(r a (aK _)).trans C,?_,v,z⟩;intro j u e;obtain⟨l,o,p,F,s,y,f⟩:=B j u e;have b:0<d.length:=by
  rcases cA j d.length with q|q
  ·omega
  ·rw[fH (by simpa [fh] using q)] at e;cases e
 have x:l<a:=v b _ s;exact⟨l,o,p,F,s,(r l Om).trans y,f⟩
def cJ.grown(h:cJ m a)(c:m.grownBy n O)(b:∀k,O=some k->a<k):cJ n a:=
 h.below fun i d=>c.block i (by have:=h.lt;omega) (fun e=>by have:=b i e.symm;omega)
def aph(t:TypeId)(A:aS)(a:List Int)(c:Nat)(w:au)(u:a.length<=c)(_hm:c<=9223372036854775807)(m:a.length<=600)(j:Sl w t A (fh a))(i:∀z∈a, -9223372036854775808<=z/\z<=9223372036854775807):
 Calls prog 6 #[.slice A a.length c] w fun e d=>e= .returned (aJ w.heap.size 0)/\cJ d w.heap.size/\Ext w d:=by
 have h:=af j;have s:=af i;have f:min (a.length:Int) 600=(a.length:Int):=Om;go_enter func6,ntmps6;go_wp2;go_ret;refine⟨rfl,⟨t,A,a,_,0,m,aT _,kq w pQ [_,_],h.ext ((aC w).alloc _),?_,s⟩,(aC w).alloc _⟩;intro q v p;rcases a with _|⟨z,r⟩
 ·simp at q
 ·obtain⟨g,o,b,n,_⟩:=h.at_ (Hg (l:=z::r) (k:=0) Ou);rw[p] at b;injection b with b;subst b;exact n
def aqS(x:Int)(n:Nat)(b:0<n):∃r:Nat,r<n/\(x.tmod n+n)%n=(r:Int):=by
 refine⟨((x.tmod n+n)%n).toNat,?_,?_⟩
 ·have c:=Int.emod_lt_of_pos (x.tmod n+n) (show(0:Int)<n by omega);have a:=Int.emod_nonneg (x.tmod n+n) (show(n:Int)≠0 by omega);omega
 ·have a:=Int.emod_nonneg (x.tmod n+n) (show(n:Int)≠0 by omega);omega
def Qq(x:Int)(n:Nat):Int:=(x.tmod n+n)%n
def aqT(x:Int)(n:Nat)(w:au)(j:0<n)(c:n<=1000000000):
 Calls prog 27 #[av x,av n] w fun e a=>e= .returned (av (Qq x n))/\w=a:=by
 have d:(n:Int)≠0:=Om;have g:=Int.lt_tmod_of_pos x (show(0:Int)<n by omega);have f:=Int.tmod_lt_of_pos x (show(0:Int)<n by omega);have h:ah (Qq x n=(x.tmod n+n)%n):=rfl;generalize Qq x n=r at*;generalize b:x.tmod n=i at*;go_enter func27,ntmps27;go_wp2;go_ret;exact⟨pI h.symm,rfl⟩
def oM(g m:Nat)(w:au)(h:cJ w g)(n:0<m)(K:m<=1000000):
 Calls prog 8 #[aJ g 0,av m] w fun e B=>∃r:Nat,r<m/\e= .returned (av (r:Int))/\cJ B g/\Only g w B:=by
 obtain⟨t,A,a,c,k,C,P,O,N,M,L⟩:=h;have u:=af N;have j:=af O;have y:=af M;have G:=af L;obtain⟨F,E⟩:=j.two;have f1:=j.frozen 1;by_cases p:k<a.length
 ·obtain⟨D,I,rfl,_,_⟩:=u.at_ (Hg p);have q:D≠g:=Nat.ne_of_lt (y Om _ rfl);have o:decide (a.length<=k)=false:=aW;obtain⟨r,J,l⟩:=aqS a[k] m n;have v:ah (Qq a[k] m=(r:Int)):=l;have f:=af (Hg p);generalize a[k]=z at*;go_enter func8,ntmps8;go_wp2;go_quiet (fail);have b:ah (ar (w.drewN nq) g pQ [aG D I a.length c,av (k:Int)]):=j.drewN nq;have x:ah (Only g w (w.drewN nq)):=(ii g w).drewN nq;generalize w.drewN nq=H at*;obtain⟨F,E⟩:=b.two;have f1:=b.frozen 1;go_wp2;have i:=af (b.bu 1 (av ((k:Int)+1)));have d:=af (x.bu 1 (av ((k:Int)+1)));generalize H.setCell (aB g 1) (av ((k:Int)+1))=S at*;have d9:=af (u.only d q);obtain⟨U,T,e,_,s⟩:=d9.at_ f;injection e with e;injection e with R Q;subst R Q;obtain⟨F,E⟩:=i.two;go_quiet ((go_at_call 27;exact PY (aqT z m _ n Om)));rw[v.ae];go_wp2;go_ret;exact⟨r,J,rfl,⟨t,_,a,c,k+1,C,p,i.drewN _,d9.ext ((aC _).drewN _),y,G⟩,d.drewN _⟩
 ·have o:decide (a.length<=k)=true:=fF;go_enter func8,ntmps8;go_wp2;go_quiet (fail);go_wp2;go_ret;exact⟨0,n,rfl,⟨t,A,a,c,k,C,P,j.drewN _,u.ext ((aC _).drewN _),y,G⟩,(ii _ _).drewN _⟩
def acC(g a b:Nat)(w:au)(h:cJ w g)(k:a<=b)(l:b<=100000):
 Calls prog 28 #[aJ g 0,av a,av b] w fun e c=>∃r:Nat,a<=r/\r<=b/\e= .returned (av (r:Int))/\cJ c g/\Only g w c:=by
 have H:=af (oM g (b - a+1) w h Om Om);have e:(((b - a+1:Nat)):Int)=(b:Int) - a+1:=Om;rw[e] at H;go_enter func28,ntmps28;go_wp2_with fail
 refine H.mono ?_;rintro e i ⟨r,j,rfl,d,f⟩;go_wp2;go_ret;exact⟨a+r,by omega,by omega,pI Om,d,f⟩
def ao2:ownKnob prog.godebug=none:=Ok
def apr:laidOutB prog=true:=Ok
def ase:List Int:= [0,1,28,2,29,14,24,3,30,22,20,15,25,17,4,8,31,27,13,23,21,19,16,7,26,12,18,6,11,5,10,9]
def asb:List Int:= [0,1,56,2,57,49,28,3,61,58,42,50,38,29,17,4,62,47,59,36,45,43,51,22,53,39,33,30,24,18,12,5,63,55,48,27,60,41,37,16,46,35,44,21,52,32,23,11,54,26,40,15,34,20,31,10,25,14,19,9,13,8,7,6]
def avD:prog.globalNamed "internal/strconv.uint64pow10" =some 1:=Ok
noncomputable def low:Nat:=(World.holding prog default ⟨#[],#[],[]⟩).heap.size
def apt:Array Obj:= #[.cells #[.string {data:= #[118,97,108,117,101,32,111,117,116,32,111,102,32,114,97,110,103,101]}] 370,.cells #[.string {data:= #[105,110,118,97,108,105,100,32,115,121,110,116,97,120]}] 370]
noncomputable def UX(a:Os):World:=
 let w:=World.holding prog a ⟨apt,#[],[]⟩
 {w with heap:=((((w.heap.modify 4 fun
  | .cells _ t frozen=> .cells (ase.map (Value.int .u8)).toArray t frozen
  |o=>o).modify 5 fun
  | .cells _ t frozen=> .cells (asb.map (Value.int .u8)).toArray t frozen
  |o=>o).modify 1 fun
  | .cells _ t frozen=> .cells (Lib.pow10Tab.map (Value.int .u64)).toArray t frozen
  |o=>o).modify 3 fun
  | .cells _ t frozen=> .cells #[.iface 368 (aJ low 0)] t frozen
  |o=>o).modify 2 fun
  | .cells _ t frozen=> .cells #[.iface 368 (aJ (low+1) 0)] t frozen
  |o=>o}
def aqN(d:∀(j:Nat) (c:j<L.length),∃a,E=some a/\m.cell? (a.add j)=some (av L[j])):∃t,Sl m t E (fh L):=Sl.ao' (by
 intro j u b;have c:j<L.length:=by
  rcases cA j L.length with h|h
  ·exact h
  ·rw[fH (by simpa [fh] using h)] at b;cases b
 obtain⟨a,f,e⟩:=d j c;refine⟨a,f,e.trans ?_⟩;rw[<-b];simp [fh,c])
def anV(h:(Lit.int .i64 B).wf=true): -9223372036854775808<=B/\B<=9223372036854775807:=by rw[Lit.wf,cZ] at h;exact⟨of_decide_eq_true h.1,of_decide_eq_true h.2⟩
section
variable{P:Program}{ops:Array Oper}{Q:Exit->Act->World->Prop}{md:Region.Mode}{S:World->Prop}{T:Nat->Bool}
def cG(P:Program)(md:Region.Mode)(ops:Array Oper)(Q:Exit->Act->World->Prop)(S:World->Prop)(T:Nat->Bool):Nat->Array Bool->Act->World->Prop
 |0,b,a,w=>Region.ready md ops b= []/\Q .normal a w
 |c+1,b,a,w=>(Region.ready md ops b= []->Q .normal a w)/\
   ∀i∈Region.ready md ops b,wpOp P ops Q i (fun e d=>(T i=false->S d)/\cG P md ops Q S T c (b.setIfInBounds i true) e d) a w
theorem cG.any:∀(c:Nat) (b:Array Bool) (a:Act) (w:au),cG P md ops Q S T c b a w->wpAny P md ops Q c b a w
 |0,_,_,_,h=>h
 |c+1,_,_,_,h=>⟨h.1,fun i e=>wpOp_mono (fun g d f=>cG.any c _ g d f.2) (h.2 i e)⟩
def leads(md:Region.Mode)(ops:Array Oper):Nat->Nat->Nat->Bool
 |0,_,_=>false
 |n+1,j,i=>match ops[j]? with
  |some o=>o.after.any fun e=>Region.binds md e&&(e.on==i||leads md ops n e.on i)
  |none=>false
def waits(md:Region.Mode)(ops:Array Oper)(T:Nat->Bool)(i:Nat):Bool:=(List.range ops.size).all fun j=> !T j||j==i||leads md ops 4 j i
def closed(md:Region.Mode)(ops:Array Oper)(a:Array Bool):Bool:=(List.range ops.size).all fun m=> !a.getD m false||match ops[m]? with
 |some o=>o.after.all fun e=> !Region.binds md e||a.getD e.on false
 |none=>true
theorem abp(h:closed md ops N=true){o:Oper}(c:ops[a]?=some o)(f:N.getD a false=true){e:Edge}(g:e∈o.after)(i:Region.binds md e=true):N.getD e.on false=true:=by unfold closed at h;rw[uD] at h;have b:=h a (dP.2 (aab.1 c).1);rw[f,c] at b;simp only[G6,Kb] at b;have d:=ajs.1 b e g;rw[i] at d;simpa using d
theorem amd(h:closed md ops N=true)(l:a∈Region.ready md ops N):closed md ops (N.setIfInBounds a true)=true:=by
 unfold closed;rw[uD];intro m p;cases g:(N.setIfInBounds a true).getD m false with
 |false=>simp
 |true=>
  simp only[G6,Kb];cases f:ops[m]? with
  |none=>rfl
  |some o=>
   refine ajs.2 fun e i=> ?_;cases k:Region.binds md e with
   |false=>rfl
   |true=>
    simp only[G6,Kb];refine getD_set_true ?_;by_cases c:a=m
    ·subst c;obtain⟨_,n,b,d⟩:=mem_ready.1 l;rw[f] at b;injection b with b;subst b;exact d e i k
    ·rw[getD_set_ne false c] at g;exact abp h f g i k
theorem Up{a:Array Bool}(h:closed md ops a=true){i:Nat}:∀(n j:Nat),leads md ops n j i=true->(∀o,ops[j]?=some o->∀e∈o.after,Region.binds md e=true->a.getD e.on false=true)->a.getD i false=true
 |0,_,b,_=>by cases b
 |n+1,j,b,q=>by
  unfold leads at b;cases f:ops[j]? with
  |none=>rw[f] at b;cases b
  |some o=>
   rw[f] at b;obtain⟨e,p,l⟩:=Array.any_eq_true'.1 b;rw[cZ,lK] at l;have m:=q o f e p l.1;rcases l.2 with c|c
   ·rw[beq_iff_eq] at c;rw[<-c];exact m
   ·exact Up h n e.on c (fun r d s g k=>abp h d m g k)
theorem cG.one{c:Act}(f:Region.ready md ops N= [a])
 (h:wpOp P ops Q a (fun k e=>(T a=false->S e)/\cG P md ops Q S T b (N.setIfInBounds a true) k e) c m):cG P md ops Q S T (b+1) N c m:=
 ⟨fun g=>absurd g (by rw[f];simp),fun j d=>by rw[f] at d;simp only[bG] at d;subst d;exact h⟩
theorem cG.step(i:Nat){fuel:Nat}{listed:Array Bool}{a:Act}(b:Region.ready md ops listed= [i])
 (h:∀o,ops[i]?=some o->∀K:Act->World->Prop,ah (∀a' w',(T i=false->S w')->cG P md ops Q S T fuel (listed.setIfInBounds i true) a' w'->K a' w')->if Region.wanted o (yielded ops a.tmps)=true then o.wp P a m K Q else K (a.put o.dst undef) m):cG P md ops Q S T (fuel+1) listed a m:=by
 refine cG.one b ?_;obtain⟨o,hi⟩:∃o,ops[i]?=some o:=by
  have h1:i∈Region.ready md ops listed:=by rw[b];simp
  obtain⟨_,o,c,_⟩:=mem_ready.1 h1;exact⟨o,c⟩
 exact aht
def iO:=@cG.step
def yt:List Oper->Nat->Option Oper
 | [],_=>none
 |o::_,0=>some o
 |_::r,n+1=>yt r n
theorem KH:∀(l:List Oper) (n:Nat),yt l n=l[n]?
 | [],n=>by simp [yt]
 |o::_,0=>rfl
 |_::r,n+1=>by rw[yt,KH r n];rfl
theorem cG.axC(i:Nat){o:Oper}{b:Act}(h:∀K:Act->World->Prop,ah (∀f d,(T i=false->S d)->cG P md ops Q S T a (N.setIfInBounds i true) f d->K f d)->if Region.wanted o (yielded ops b.tmps)=true then o.wp P b m K Q else K (b.put o.dst undef) m)
 (g:Region.ready md ops N= [i]:=by kernel_rfl) (e:yt ops.toList i=some o:=by exact rfl):cG P md ops Q S T (a+1) N b m:=by
 refine iO i g fun k c=> ?_;rw[KH] at e;have j:ops[i]?=some o:=azm;rw[j] at c;injection c with c;subst c;exact h
def aL:=@cG.axC
theorem BC{o:Oper}{R:Oper->Prop}(h:R o)(d:yt ops.toList a=some o:=by exact rfl):∀c,ops[a]?=some c->R c:=fun c b=>by rw[KH] at d;have e:ops[a]?=some o:=azH;rw[e] at b;injection b with b;subst b;exact h
theorem cG.done{c:Nat}{b:Array Bool}{a:Act}{w:au}(d:Region.ready md ops b= [])(h:Q .normal a w):cG P md ops Q S T c b a w:=
 match c with
 |0=>⟨d,h⟩
 |_+1=>⟨fun _=>h,by rw[d];simp⟩
def bY:=@cG.done
theorem cG.start{id:Nat}{a:Act}(b:P.follows .mixedOrders=true)
 (h:cG P .any ops Q S T ops.size (Array.replicate ops.size false) a m.drew):(Code.region id ops true).wp P Q a m:=
 wp_region_any b (cG.any _ _ _ _ h)
def b9:=@cG.start
end
abbrev r_:TypeId:=249
def Ch{α:Type}(R:List Value->α->Prop):List Value->List α->Prop
 |a,[]=>a= []
 |a,x::l=>∃c r,a=c++r/\R c x/\Ch R r l
def Ch.mono{α:Type}{R S:List Value->α->Prop}(h:∀c x,R c x->S c x):∀{a:List Value} {l:List α},Ch R a l->Ch S a l
 |_,[],b=>b
 |_,_::_,⟨c,r,e,f,d⟩=>⟨c,r,e,h _ _ f,Ch.mono h d⟩
def lg:=@Ch.mono
def Ch.length{α:Type}{R:List Value->α->Prop}{k:Nat}(b:∀c x,R c x->c.length=k):∀{a:List Value} {l:List α},Ch R a l->a.length=l.length*k
 |_,[],d=>by rw[show _= [] from d];simp
 |_,x::l,⟨c,r,e,g,f⟩=>by rw[e,bC,b _ _ g,Ch.length b f,cW,rM];omega
def Ch.get{α:Type}{R:List Value->α->Prop}{k:Nat}(f:∀c x,R c x->c.length=k):∀{m:List Value} {l:List α} (_:Ch R m l) {i:Nat} (a:i<l.length),∃c,R c l[i]/\∀j,j<k->m[i*k+j]?=c[j]?
 |_,[],_,i,a=>by simp at a
 |_,x::l,⟨c,r,e,b,n⟩,0,a=>⟨c,b,fun j h=>by rw[e,Kc,jc,pC (by rw[f _ _ b];exact h)]⟩
 |_,x::l,⟨c,r,e,b,n⟩,i+1,a=>by obtain⟨d,o,h⟩:=Ch.get f n (i:=i) aza;refine⟨d,o,fun j g=> ?_⟩;rw[e,zR (by rw[f _ _ b,rM];omega),f _ _ b,<-h j g];congr 1;rw[rM];omega
def Ch.snoc{α:Type}{R:List Value->α->Prop}{x:α}{c:List Value}(b:R c x):∀{a:List Value} {l:List α},Ch R a l->Ch R (a++c) (l++ [x])
 |_,[],h=>by rw[show _= [] from h];exact⟨c,[],by simp,b,rfl⟩
 |_,y::l,⟨d,r,e,g,f⟩=>⟨d,r++c,by rw[e,iB],g,Ch.snoc b f⟩
def Ch.append{α:Type}{R:List Value->α->Prop}{a:List Value}{m:List α}(c:Ch R a m):∀{b:List Value} {l:List α},Ch R b l->Ch R (b++a) (l++m)
 |_,[],h=>by rw[show _= [] from h];exact c
 |_,x::l,⟨d,r,e,g,f⟩=>⟨d,r++a,by rw[e,iB],g,Ch.append c f⟩
def KE:=@Ch.append
def Ch.take{α:Type}{R:List Value->α->Prop}{k:Nat}(d:∀c x,R c x->c.length=k):∀{a:List Value} {l:List α} (_:Ch R a l) (n:Nat),Ch R (a.take (n*k)) (l.take n)
 |_,[],h,n=>by rw[show _= [] from h];simp [Ch]
 |_,x::l,h,0=>by simp [Ch]
 |_,x::l,⟨c,r,e,f,g⟩,n+1=>by
  refine⟨c,r.take (n*k),?_,f,g.take d n⟩;have b:=d _ _ f;rw[e,List.take_append,dA (by rw[b,rM];omega),b];congr 2
  rw[rM];omega
def Ls{α:Type}(t:TypeId)(R:World->List Value->α->Prop)(w:au)(v:Value)(l:List α):Prop:=
 ∃A c a,v= .slice A l.length c/\l.length<=c/\c<=maxLen/\(A=none->c=0)/\Sl w t A a/\Ch (R w) a l
def j7{α:Type}(T:List TypeId)(R:World->List Value->α->Prop):Prop:=∀w a c x,(∀t∈T,Kept t w a)->R w c x->R a c x
def Ls.keep{α:Type}{T:List TypeId}{R:World->List Value->α->Prop}(f:j7 T R){l:List α}(h:Ls w R m p l)(a:∀u∈w::T,Kept u m n):Ls w R n p l:=by obtain⟨A,c,b,q,o,k,j,i,g⟩:=h;exact⟨A,c,b,q,o,k,j,i.keep (a w Ou),g.mono fun c x e=>f _ _ _ _ (fun u d=>a u azy) e⟩
def fN:=@Ls.keep
def Ls.ext{α:Type}{T:List TypeId}{R:World->List Value->α->Prop}(b:j7 T R){w':au}{l:List α}(h:Ls w R m p l)(a:Ext m w'):Ls w R w' p l:=
 h.keep b fun _ _=> .jd a
def bX:=@Ls.ext
def Ls.parts{α:Type}{R:World->List Value->α->Prop}{l:List α}(h:Ls w R m p l):∃A c,p= .slice A l.length c/\l.length<=c/\c<=maxLen/\ah (Ls w R m (.slice A l.length c) l):=by obtain⟨A,c,d,rfl,b,a,g,f,e⟩:=h;exact⟨A,c,rfl,b,a,A,c,d,rfl,b,a,g,f,e⟩
def Ls.nil{α:Type}{R:World->List Value->α->Prop}:Ls w R m (.slice none 0 0) ([]:List α):=⟨none,0,[],rfl,aK _,by unfold maxLen;omega,fun _=>rfl,.nil,rfl⟩
def Ls.get{α:Type}{k:Nat}{R:World->List Value->α->Prop}(r:∀m a x,R m a x->a.length=k)(H:0<k){n:Nat}{l:List α}(h:Ls w R m (.slice E n a) l){i:Nat}(C:i<l.length):
 ∃g o d,E=cT g o/\g<m.heap.size/\R m d l[i]/\∀j u,d[j]?=some u->ay m g (o+(i*k+j)) u:=by
 obtain⟨S,Q,I,e,N,M,L,z,G⟩:=h;injection e with q B P;subst q;obtain⟨d,v,s⟩:=G.get (r m) C;have K:=r _ _ _ v;obtain⟨g,o,y,D,_⟩:=z.at_ (k:=i*k+0) (u:=d[0]) (by rw[s 0 H];simp);refine⟨g,o,d,y,D,v,fun j u f=> ?_⟩;have p:j<k:=by
  rcases cA j k with h|h
  ·exact h
  ·rw[fH Om] at f;cases f
 obtain⟨O,J,b,_,F⟩:=z.at_ (k:=i*k+j) (u:=u) (by rw[s j p];exact f);rw[y] at b;injection b with b;injection b with q B;subst q B;exact F
def qR:=@Ls.get
def Ls.arO{α:Type}{R:World->List Value->α->Prop}{l:List α}(h:m.ownsRow b w a p l.length t)(e:Ch (R m) t l):Ls w R m p l:=by
 obtain⟨A,c,rfl,j,i,f⟩:=dZ h;refine⟨A,c,t,rfl,j,i,?_,f,e⟩;rintro rfl;rcases h.2 with⟨d,_⟩|⟨g,o,n,d,_⟩
 ·injection d
 ·injection d with d;cases d
def D5:=@Ls.arO
def jw{w w':au}{base k:Nat}{t:TypeId}{v:Value}{row:Option Nat}(h:w.ownsRow base t k v d u)(f:w.grownBy w' row)(e:∀k,row=some k->v.ownBlock≠some k):w'.ownsRow base t k v d u:=by
 refine World.ownsRow.kept h f ?_;cases row with
 |none=>cases v.ownBlock<;>simp
 |some k=>exact .inr (e k rfl)
def Ph{w w':au}(d:Ext w w'):w.grownBy w' none:=⟨d.os,d.tape,d.output,d.size,fun k e _=>d.block k e⟩
def AK{w w':au}(d:w.grownBy w' none):Ext w w':=⟨d.os,d.tape,d.output,d.size,fun k e=>d.block k e Ou⟩
def bH{α:Type}(t:TypeId)(k:Nat)(R:World->List Value->α->Prop)(base:Nat)(w:au)(v:Value)(l:List α):Prop:=∃d,w.ownsRow base t k v l.length d/\Ch (R w) d l
section
variable{α:Type}{t:TypeId}{k base:Nat}{R:World->List Value->α->Prop}{T:List TypeId}{w w':au}{v v':Value}{l:List α}
theorem bH.nil:bH t k R base w (.slice none 0 0) ([]:List α):=⟨[],lJ _ _ _ _,rfl⟩
def f_:=@bH.nil
theorem bH.grown(m:j7 T R)(h:bH t k R base w v l)(i:w.grownBy w' O)(e:∀k,O=some k->v.ownBlock≠some k)(f:∀u∈T,Kept u w w'):bH t k R base w' v l:=by obtain⟨d,o,n⟩:=h;exact⟨d,jw o i e,n.mono fun c x j=>m _ _ _ _ f j⟩
theorem bH.ext(f:j7 T R)(h:bH t k R base w v l)(d:Ext w w'):bH t k R base w' v l:=
 h.grown f (Ph d) Oe (fun _ _=> .jd d)
theorem bH.only(i:j7 T R)(h:bH t k R base w v l){g:Nat}(e:Only g w w')(n:g<base)(d:∀u∈T,Kept u w w'):bH t k R base w' v l:=
 h.grown i e (fun k d f=>by injection d with d;obtain⟨m,j,_⟩:=h;have:=(j.lt k f).1;omega) d
theorem bH.snoc(j:j7 T R)(hT:∀d∈T,t≠d){h:List Value}{x:α}(e:w.ownsRow base t k v l.length u)(f:Ch (R w) u l)(m:R w h x)
 (o:w'.ownsRow base t k v' (l.length+1) (u++h)) (p:w.grownBy w' v.ownBlock):bH t k R base w' v' (l++ [x]):=by
 have i:∀d∈T,Kept d w w':=fun d n=>jW e p (hT d n);refine⟨u++h,by rw[bC];exact o,?_⟩;exact Ch.snoc (j _ _ _ _ i m) (f.mono fun c x f=>j _ _ _ _ i f)
def iN:=@bH.snoc
theorem bH.ls(h:bH t k R base w v l):Ls t R w v l:=by obtain⟨f,e,d⟩:=h;exact D5 e d
theorem bH.parts(h:bH t k R base w v l):∃A c d,v= .slice A l.length c/\l.length<=c/\c<=maxLen/\ah (w.ownsRow base t k (.slice A l.length c) l.length d)/\ah (Ch (R w) d l):=by obtain⟨d,e,j⟩:=h;obtain⟨A,c,rfl,i,f,_⟩:=dZ e;exact⟨A,c,d,rfl,i,f,e,j⟩
theorem bH.of{c:Nat}(e:w.ownsRow base t k (.slice E l.length c) l.length u)(d:Ch (R w) u l):bH t k R base w (.slice E l.length c) l:=⟨u,e,d⟩
def AZ:=@bH.of
end
def Ext.Ws{a w w':au}{t:TypeId}{k:Nat}{v:Value}(h:Ext a w)(e:w.ownsRow a.heap.size t k v d u)(i:w.grownBy w' v.ownBlock):Ext a w':=
 vX h i h.size (fun k f=>(e.lt k f).1)
def jV{a w w':au}{base:Nat}{t:TypeId}{k:Nat}{v:Value}(h:Ext a w)(e:w.ownsRow base t k v d u)(i:w.grownBy w' v.ownBlock)(j:a.heap.size<=base):Ext a w':=
 vX h i h.size (fun k f=>by have:=(e.lt k f).1;omega)
def Src.kept{w w':au}{g:Nat}{t:TypeId}(j:cJ w g)(m:Only g w w')(i:pQ≠t):Kept t w w':=by intro n o q d;refine(m.block n (ie d) ?_).trans d;intro e;injection e with e;subst e;obtain⟨t,A,p,c,k,_,_,f,_⟩:=j;unfold ar at f;rw[f] at d;injection d with d;injection d with _ h;exact i h
def uM:=@Src.kept
def oV{α:Type}(t:TypeId)(R:World->List Value->α->Prop)(w:au)(c:List Value)(l:List α):Prop:=∃A d,c= [.slice A l.length d]/\Ls t R w (.slice A l.length d) l
def oV.jN{α:Type}{t:TypeId}{T:List TypeId}{R:World->List Value->α->Prop}(e:j7 T R):j7 (t::T) (oV t R):=fun _ _ _ _ d ⟨A,i,h,f⟩=>⟨A,i,h,f.keep e d⟩
def oV.one{α:Type}{t:TypeId}{R:World->List Value->α->Prop}(w:au)(c:List Value)(l:List α)(h:oV t R w c l):c.length=1:=azV
def oV.get{α:Type}{t:TypeId}{R:World->List Value->α->Prop}{w:au}{n c:Nat}{l:List (List α)}(h:Ls x (oV t R) w (.slice E n c) l){i:Nat}(m:i<l.length):
 ∃g o f e,E=cT g o/\g<w.heap.size/\ah (Ls t R w (.slice f l[i].length e) l[i])/\ay w g (o+i) (.slice f l[i].length e):=by
 obtain⟨g,o,d,s,r,⟨f,e,rfl,q⟩,p⟩:=qR oV.one Od h m;have j:=p 0 _ rfl;rw[l8,jK] at j;exact⟨g,o,f,e,s,r,q,j⟩
def Ei:=@oV.get
section
variable{a b c:au}{g:Nat}
theorem Only.trans(h:Only g a b)(k:Only g b c):Only g a c:=⟨k.os.trans h.os,k.tape.trans h.tape,k.output.trans h.output,a8 h.size k.size,fun i e d=>(k.block i (cE e h.size) d).trans (h.block i e d)⟩
theorem Only.ij(h:Ext a b):Only g a b:=⟨h.os,h.tape,h.output,h.size,fun i d _=>h.block i d⟩
def ei:=@Only.ij
theorem Only.grown{t:TypeId}{k:Nat}{v:Value}(h:Only g a b)(f:b.ownsRow a.heap.size t k v d u)(j:b.grownBy c v.ownBlock):Only g a c:=
 ⟨j.os.trans h.os,j.tape.trans h.tape,j.output.trans h.output,a8 h.size j.size,fun i o m=>(j.block i (cE o h.size) (fun e=>by have:=(f.lt i e.symm).1;omega)).trans (h.block i o m)⟩
end
def Ch.split{α:Type}{R:List Value->α->Prop}{k:Nat}(q:∀c x,R c x->c.length=k):∀{p:List Value} {l:List α} (_:Ch R p l) {i:Nat} (j:i<l.length),∃h c m,p=h++(c++m)/\h.length=i*k/\Ch R h (l.take i)/\R c l[i]/\Ch R m (l.drop (i+1))
 |_,[],_,i,j=>by simp at j
 |_,x::l,⟨c,r,e,n,o⟩,0,j=>⟨[],c,r,by simpa using e,by simp,rfl,n,o⟩
 |_,x::l,⟨c,r,e,n,o⟩,i+1,j=>by obtain⟨h,d,m,u,s,a,b,f⟩:=Ch.split q o (i:=i) (by simpa using j);refine⟨c++h,d,m,by rw[e,u,iB],by rw[bC,q _ _ n,s,rM];omega,⟨c,h,rfl,n,a⟩,b,f⟩
def jM{w w':au}{base k:Nat}{t:TypeId}{v:Value}(h:w.ownsRow base t k v d u)(e:Ext w w'):w'.ownsRow base t k v d u:=jw h (Ph e) Oe
def mr{c:Prop} [Decidable c]{a b:Prop}(h:c)(d:a):if c then a else b:=by rw[if_pos h];exact d
def Ch.all{α:Type}{R:List Value->α->Prop}{P:Value->Prop}(h:∀c x,R c x->∀u∈c,P u):∀{f:List Value} {l:List α},Ch R f l->∀u∈f,P u
 |_,[],i=>by rw[show _= [] from i];simp
 |_,_::_,⟨c,r,e,m,j⟩=>by
  subst e;intro u d;rcases bQ.1 d with d|d
  ·exact h _ _ m u d
  ·exact Ch.all h j u d
def acO(w:au)(e:TypeId)(size:Nat):(w.alloc (.cells #[] e)).ownsRow w.heap.size e size (aG w.heap.size 0 0 0) 0 []:=
 ⟨by simp,.inr ⟨w.heap.size,0,#[],rfl,aK _,heap_alloc_new w _,aK _,by unfold maxLen;omega,by simp,by simp⟩⟩
abbrev aU:TypeId:=3
def dr(_:au)(c:List Value)(z:Int):Prop:=c= [av z]
def dr.jN:j7 [] dr:=fun _ _ _ _ _ h=>h
def cI:=@dr.jN
def dr.one(w:au)(c:List Value)(z:Int)(h:dr w c z):c.length=1:=azQ
abbrev IL:=Ls aU dr
def IL.ext{w':au}{l:List Int}(h:IL m p l)(a:Ext m w'):IL w' p l:=bX cI h a
def iP:=@IL.ext
def IL.get{n:Nat}(h:IL m (.slice E n a) L){i:Nat}(e:i<L.length):∃g o,E=cT g o/\g<m.heap.size/\ay m g (o+i) (av L[i]):=by obtain⟨g,o,d,p,k,j,f⟩:=qR dr.one Od h e;have b:=f 0 _ (by rw[show d=_ from j];rfl);rw[l8,jK] at b;exact⟨g,o,p,k,b⟩
def io:=@IL.get
abbrev bI:TypeId:=9
section
variable{P:Program}{ops:Array Oper}{Q:Exit->Act->World->Prop}{md:Region.Mode}{S:World->Prop}{T:Nat->Bool}
def still(ops:Array Oper)(j:Nat):Bool:=match ops[j]? with
 |some o=>match o.op with
  | .move _=>true
  |_=>false
 |none=>false
theorem ak7(h:still ops a=true){K:Act->World->Prop}{b:Act}(c:wpOp P ops Q a K b m):wpOp P ops Q a (fun i e=>e=m/\K i e) b m:=by
 unfold still at h;unfold wpOp at c⊢;cases f:ops[a]? with
 |none=>rw[f] at h;cases h
 |some o=>
  rw[f] at h c;simp only at h c⊢;by_cases g:Region.wanted o (yielded ops b.tmps)=true
  ·rw[if_pos g] at c⊢;cases d:o.op with
   |move x=>
    rcases c with c|c
    ·refine .inl ?_;unfold Oper.wp execOp at c⊢;rw[d] at c⊢;first|exact⟨rfl,c⟩|exact⟨trivial,c⟩
    ·exact .inr c
   |_=>rw[d] at h;cases h
  ·rw[if_neg g] at c⊢;first|exact⟨rfl,c⟩|exact⟨trivial,c⟩
def V_(md:Region.Mode)(ops:Array Oper)(T:Nat->Bool)(i:Nat):Bool:=(List.range ops.size).all fun j=> !T j||j==i||leads md ops 4 j i||still ops j
theorem aki{i j:Nat}{listed:Array Bool}(h:V_ md ops T i=true)(hc:closed md ops listed=true)(a:j≠i)(c:j∈Region.ready md ops listed)(hu:listed.getD i true=false):T j=false\/still ops j=true:=by
 cases hT:T j with
 |false=>exact .inl rfl
 |true=>
  cases b:still ops j with
  |true=>exact .inr rfl
  |false=>exfalso;obtain⟨_,o,ho,hall⟩:=mem_ready.1 c;unfold V_ at h;rw[uD] at h;have h1:=h j (dP.2 (aab.1 ho).1);simp only[hT,b,G6,Kb,xQ,lK,beq_iff_eq,a,false_or] at h1;exact m62
theorem cG.axs{G:World->Prop}{i:Nat}{q:Oper}{v:Value}(R:ops[i]?=some q)(l:∀(j:Nat) (o:Oper) I b,ops[j]?=some o->o.op≠ .select I b)
 (F:∀w,G w->T i=false->S w) (hstep:∀(j:Nat) (d:Array Bool),j≠i->closed md ops d=true->j∈Region.ready md ops d->d.getD i true=false->(∀w,S w->G w)/\T j=false\/still ops j=true\/∀w,G w)
 (hQ:∀c a w,Q (.panic c) (a.put q.dst v) w->Q (.panic c) a w):∀(f:Nat) (d:Array Bool) (a:Act) (w:au),
  closed md ops d=true->(∀j t,ops[j]?=some t->j≠i->d.getD j true=false->(∀e∈t.after,Region.binds md e=true->e.on≠i)->q.apart ops t=true)->
  i∈Region.ready md ops d->YieldsIf P ops G q v a->G w->
  cG P md ops Q S T f (d.setIfInBounds i true) (a.put q.dst v) w->cG P md ops Q S T (f+1) d a w
 |f,d,a,w,D,m,L,Z,X,H=>by
  refine⟨fun h0=>absurd L (by rw[h0];simp),fun j C=> ?_⟩;by_cases h:j=i
  ·subst h;exact Z.wpOp R X ⟨F w X,H⟩
  ·obtain⟨r,t,u,E⟩:=mem_ready.1 C;have x:=(mem_ready.1 L).1;have K:=hstep j d h D C x;match f,H with
   |0,H=>have s:=ready_mono C h;rw[H.1] at s;cases s
   |f+1,H=>
    have A:∀e∈t.after,Region.binds md e=true->e.on≠i:=fun e he hb U=>by
     have s:=E e he hb;rw[U] at s;rcases cA i d.size with N|N
     ·simp [N] at x s;rw[x] at s;cases s
     ·simp [zS N] at s
    have y:∀p g,G g->(YieldsIf P ops G q v p/\(T j=false->S g)/\cG P md ops Q S T f ((d.setIfInBounds i true).setIfInBounds j true) (p.put q.dst v) g)->(T j=false->S g)/\cG P md ops Q S T (f+1) (d.setIfInBounds j true) p g:=fun p g W n=>by
     refine⟨n.2.1,?_⟩;refine cG.axs R l F hstep hQ f (d.setIfInBounds j true) p g (amd D C) ?_ (ready_mono L (fM h)) n.1 W ?_
     ·intro k ok hk O J M;refine m k ok hk O ?_ M;by_cases B:j=k
      ·subst B;exact r
      ·rwa[getD_set_ne true B] at J
     ·rw[Array.setIfInBounds_comm _ _ h];exact n.2.2
    have Y:=wpOp_putIf u (m j t u h r A) (fun I b=>l i q I b R) (fun I b=>l j t I b u) hQ Z (H.2 j (ready_mono C h));rcases K with⟨V,hT⟩|hs|z
    ·exact wpOp_mono (fun p g n=>y p g (V g (n.2.1 hT)) n) Y
    ·exact wpOp_mono (fun p g n=>y p g (by rw[n.1];exact X) n.2) (ak7 hs Y)
    ·exact wpOp_mono (fun p g n=>y p g (z g) n) Y
def Hf:=@cG.axs
theorem cG.axw(i d:Nat)(v:Value){b:Act}(_hTi:T i=false)
 (s:Region.noSelect ops=true) (x:Region.free md ops N i=true) (t:(Region.ready md ops N).contains i=true) (f:V_ md ops T i=true) (y:closed md ops N=true)
 (A:∀c b m,Q (.panic c) (b.put (some d) v) m->Q (.panic c) b m) (z:S m)
 (q:∀o,ops[i]?=some o->o.dst=some d/\Region.wanted o (yielded ops b.tmps)=true/\∀m,S m->(execOp b.eval o).run P m= .ok (.value v) m)
 (h:cG P md ops Q S T a (N.setIfInBounds i true) (b.put (some d) v) m):cG P md ops Q S T (a+1) N b m:=by
 have e:i∈Region.ready md ops N:=by simpa using t
 obtain⟨_,o,g,_⟩:=mem_ready.1 e;obtain⟨p,C,B⟩:=q o g;exact Hf (G:=S) g (JY s) (fun m f _=>f) (fun j l k n u r=>by
  rcases aki f n k u r with h|h
  ·exact .inl ⟨fun _ h=>h,h⟩
  ·exact .inr (.inl h)) (by rw[p];exact A) a N b m y (J5 g x) e (.inl ⟨C,B⟩) z (by rw[p];exact h)
def vZ:=@cG.axw
theorem cG.afJ(i d:Nat)(v:Value){b:Act}(g:T i=true)
 (p:Region.noSelect ops=true) (r:Region.free md ops N i=true) (q:(Region.ready md ops N).contains i=true) (s:closed md ops N=true)
 (t:∀c b m,Q (.panic c) (b.put (some d) v) m->Q (.panic c) b m)
 (n:∀o,ops[i]?=some o->o.dst=some d/\Region.wanted o (yielded ops b.tmps)=true/\∀m,(execOp b.eval o).run P m= .ok (.value v) m)
 (h:cG P md ops Q S T a (N.setIfInBounds i true) (b.put (some d) v) m):cG P md ops Q S T (a+1) N b m:=by
 have e:i∈Region.ready md ops N:=by simpa using q
 obtain⟨_,o,f,_⟩:=mem_ready.1 e;obtain⟨k,x,u⟩:=n o f;exact Hf (G:=fun _=>True) f (JY p) (fun m _ hT=>by rw[g] at hT;cases hT) (fun j l _ _ _ _=> .inr (.inr fun _=>trivial)) (by rw[k];exact t) a N b m s (J5 f r) e (.inl ⟨x,fun m _=>u m⟩) trivial (by rw[k];exact h)
end
def V8{w:au}:∀{a:List Value} {l:List Int},Ch (dr w) a l->a=fh l
 |_,[],h=>h
 |_,_::_,⟨c,r,e,d,b⟩=>by rw[e,show c=_ from d,V8 b];rfl
def PO(w:au):∀l:List Int,Ch (dr w) (fh l) l
 | []=>rfl
 |x::l=>⟨[.int .i64 x],fh l,rfl,rfl,PO w l⟩
def abu(l:List Int)(i:Nat)(z:Int):fh (l.set i z)=(fh l).set i (.int .i64 z):=by unfold fh;rw[G8]
def xX(h:m.ownsRow a w b (.slice E c d) c t)(o:0<c):∃g,E=some ⟨g,0,none⟩/\a<=g/\g<m.heap.size:=by
 rcases h.2 with⟨e,_⟩|⟨g,l,j,e,i,f,_⟩
 ·injection e with _ e _;omega
 ·injection e with e _ _;exact⟨g,e,i,ie f⟩
def aoZ{w:au}(h:w.ownsRow a aU 1 (.slice (some ⟨b,0,none⟩) c d) c (fh L))(v:L.length=c)(x:e<L.length)(s:f<L.length):
 ∃r,(w.setCell ⟨b,e,none⟩ (.int .i64 L[f])).setCell ⟨b,f,none⟩ (.int .i64 L[e])=r/\(∃u,ah ((w.setCell ⟨b,e,none⟩ (.int .i64 L[f])).cell? ⟨b,f,none⟩=some u))/\ah ((w.setCell ⟨b,e,none⟩ (.int .i64 L[f])).frozen? ⟨b,f,none⟩=false)/\ah (r.ownsRow a aU 1 (.slice (some ⟨b,0,none⟩) c d) c (fh ((L.set e L[f]).set f L[e])))/\ah (w.grownBy r (some b))/\ah (((L.set e L[f]).set f L[e]).length=c)/\ah (((L.set e L[f]).set f L[e]).Perm L):=by
 obtain⟨q,g⟩:=h.stored e (.int .i64 L[f]);obtain⟨y,o⟩:=q.stored f (.int .i64 L[e]);have p:f<((fh L).set e (.int .i64 L[f])).length:=by rw[lY];unfold fh;rw[cy];exact s
 refine⟨_,rfl,⟨((fh L).set e (.int .i64 L[f]))[f],?_⟩,q.frozenAt f,?_,?_,by simp [ah,v],List.set_set_perm x s⟩
 ·rw[ah,q.cellAt f Om,aV p]
 ·rw[ah,abu,abu];exact y
 ·exact⟨o.os.trans g.os,o.tape.trans g.tape,o.output.trans g.output,a8 g.size o.size,fun j t m=>(o.block j (cE t g.size) m).trans (g.block j t m)⟩
def upto(n:Nat):List Int:=(List.range n).map Int.ofNat
def acj(n:Nat):upto (n+1)=upto n++ [(n:Int)]:=by simp [upto,GQ]
def TX(n:Nat):(upto n).length=n:=by simp [upto]
def aba(g n:Nat)(w:au)(h:cJ w g)(hn:n<=100):
 Calls prog 51 #[.pointer (some ⟨g,0,none⟩),.int .i64 n] w fun e w'=>∃A c l,l.length=n/\l.Perm (upto n)/\e= .returned (.slice A n c)/\IL w' (.slice A n c) l/\cJ w' g/\Only g w w':=by
 have HS:=af h;have hg:=h.lt;go_enter func51,ntmps51;go_wp2_with fail
 go_loopw [5,6] (fun v5 O wr=>∃k:Nat,k<=n/\O= .int .i64 k/\ah (bH aU 1 dr w.heap.size wr v5 (upto k))/\ah (cJ wr g)/\ah (Only g w wr)) (fun _ O _=>n - (RowKit.intOf O).toNat)
 exact⟨0,aT _,rfl,f_,HS,ii _ _⟩;obtain⟨k,hk,rfl,HO,H,v⟩:=hrel;have m:=af (TX k);obtain⟨A,c,xs,rfl,Y,hcm,z,HC⟩:=HO.parts;rw[m.ae] at z Y⊢;by_cases Mj:k<n
 ·have W:w.heap.size<=wr.heap.size:=v.size;have Z:(k+1)*8<=140737488355328:=Om;go_wp2_with (at_builtin;refine gG rfl _ _ 22 rfl w.heap.size jy _ _ _ rfl z.ae #[.int .i64 k] 1 1 rfl rfl rfl Z W ?_)
  intro v' d f p _;have O3:ah (bH aU 1 dr w.heap.size d v' (upto (k+1))):=by rw[ah,acj];exact iN (R:=dr) (x:=(k:Int)) cI Oe (by rw[m.ae];exact z) HC rfl (by rw[m.ae];exact f) p
  have S3:=af (H.grown p (fun k hk=>by have:=(z.lt k hk).1;omega));have N3:=af (v.grown z p);go_wp2;go_roundw;exact⟨k+1,by omega,by go_num,O3,S3,N3⟩;simp [RowKit.intOf];omega
 ·obtain rfl:k=n:=Om;have hx:=V8 HC;subst hx;have Sg:ah ((upto k).Perm (upto k)):=List.Perm.refl _;generalize wr=w1 at*;go_wp2_with fail
  go_loopw [7,8] (fun N _ wr=>∃(i:Int) (l:List Int), -1<=i/\i<k/\N= .int .i64 i/\ah (l.length=k)/\ah (l.Perm (upto k))/\ah (wr.ownsRow w.heap.size aU 1 (.slice A k c) k (fh l))/\ah (cJ wr g)/\ah (Only g w wr)) (fun N _ _=>(RowKit.intOf N).toNat)
  exact⟨(k:Int) - 1,upto k,by omega,by omega,rfl,m,Sg,z,H,v⟩;obtain⟨i,l,hi0,E,rfl,B,HP,t,d9,I⟩:=hrel;by_cases hip:0<i
  ·obtain⟨i,rfl⟩:=Int.eq_ofNat_of_zero_le (show 0<=i by omega);have E:i<k:=Om;have H0:=af (oM g (i+1) wr d9 Om Om);rw[show((i+1:Nat):Int)=(i:Int)+1 by omega] at H0;go_wp2_with fail
   refine H0.mono ?_;rintro e d ⟨r,hr,rfl,X,f⟩;have s:ah (d.ownsRow w.heap.size aU 1 (.slice A k c) k (fh l)):=jw t f (fun q y he=>by injection y with y;subst y;have:=(t.lt _ he).1;omega)
   have S3:=af X;have N3:=af (I.trans f);obtain⟨a,rfl,I4,tZ⟩:=xX s Om;have D:i<l.length:=by rw[B.ae];exact E
   have C:r<l.length:=by rw[B.ae];omega
   have QZ:r<k:=Om;have hri:r<=i:=Om;obtain⟨W',jp,⟨u5,K5⟩,F5,O4,G4,L4,P4⟩:=aoZ (w:=d.drew) s B D C;have HW:=af jp;have S4:=af ((S3.ext (aC d).drew).grown G4 (fun q y=>by injection y with y;omega));have N4:ah (Only g w W'):=(N3.trans (ei (aC d).drew)).grown (b:=d.drew) s G4;have P4':=af (P4.trans HP);have U:d.cell? ⟨a,i,none⟩=some (.int .i64 l[i]):=by rw[s.cellAt i Om,Hg D]
   have k2:d.cell? ⟨a,r,none⟩=some (.int .i64 l[r]):=by rw[s.cellAt r Om,Hg C]
   have f1:=s.frozenAt i;have f2:=s.frozenAt r;generalize(l.set i l[r]).set r l[i]=l' at*;generalize l[i]=L at*;generalize l[r]=J at*;have K1:=af U;have K2:=af k2;have F1:=af f1;have F2:=af f2;go_upto_region 10 with fail
   obtain⟨S,F⟩:∃S:World->Prop,S=fun w'=>w'.cell? ⟨a,i,none⟩=some (.int .i64 L)/\w'.cell? ⟨a,r,none⟩=some (.int .i64 J):=⟨_,rfl⟩;have bL:ah (∀w',S w'->w'.cell? ⟨a,i,none⟩=some (.int .i64 L)/\w'.cell? ⟨a,r,none⟩=some (.int .i64 J)):=by rw[ah,F];exact fun _ h=>h
   have aH:ah (S d.drew):=by rw[ah,F];exact⟨K1,K2⟩
   refine b9 (S:=S) (T:=fun j=>decide (j=2\/j=3\/13<=j)) Ok ?_;refine vZ 0 28 (.slice (some ⟨a,0,none⟩) k c) rfl Ok Ok Ok Ok Ok (fun _ _ _ h=>h) aH ?_ ?_
   ·intro o ho;simp only[fU,dR,dG] at ho;subst ho;refine⟨rfl,rfl,fun w' hSw=> ?_⟩;have hs:=bL w' hSw;go_split_ands;go_simp
   simp only[Act.put,dN,dB,dO];refine vZ 1 29 (.int .i64 i) rfl Ok Ok Ok Ok Ok (fun _ _ _ h=>h) aH ?_ ?_
   ·intro o ho;exact m22
   simp only[Act.put,dN,dB,dO];refine cG.afJ 2 30 (.slice (some ⟨a,0,none⟩) k c) rfl Ok Ok Ok Ok (fun _ _ _ h=>h) ?_ ?_
   ·intro o ho;exact agG
   simp only[Act.put,dN,dB,dO];refine cG.afJ 3 31 (.int .i64 r) rfl Ok Ok Ok Ok (fun _ _ _ h=>h) ?_ ?_
   ·intro o ho;exact agG
   simp only[Act.put,dN,dB,dO];refine vZ 4 32 (.slice (some ⟨a,0,none⟩) k c) rfl Ok Ok Ok Ok Ok (fun _ _ _ h=>h) aH ?_ ?_
   ·intro o ho;exact m22
   simp only[Act.put,dN,dB,dO];refine vZ 5 33 (.int .i64 r) rfl Ok Ok Ok Ok Ok (fun _ _ _ h=>h) aH ?_ ?_
   ·intro o ho;exact m22
   simp only[Act.put,dN,dB,dO];refine vZ 6 34 (.pointer (some ⟨a,r,none⟩)) rfl Ok Ok Ok Ok Ok (fun _ _ _ h=>h) aH ?_ ?_
   ·intro o ho;exact m22
   simp only[Act.put,dN,dB,dO];refine vZ 7 35 (.int .i64 J) rfl Ok Ok Ok Ok Ok (fun _ _ _ h=>h) aH ?_ ?_
   ·intro o ho;exact m22
   simp only[Act.put,dN,dB,dO];refine vZ 8 36 (.slice (some ⟨a,0,none⟩) k c) rfl Ok Ok Ok Ok Ok (fun _ _ _ h=>h) aH ?_ ?_
   ·intro o ho;exact m22
   simp only[Act.put,dN,dB,dO];refine vZ 9 37 (.int .i64 i) rfl Ok Ok Ok Ok Ok (fun _ _ _ h=>h) aH ?_ ?_
   ·intro o ho;exact m22
   simp only[Act.put,dN,dB,dO];refine vZ 10 38 (.pointer (some ⟨a,i,none⟩)) rfl Ok Ok Ok Ok Ok (fun _ _ _ h=>h) aH ?_ ?_
   ·intro o ho;exact m22
   simp only[Act.put,dN,dB,dO];refine vZ 11 39 (.int .i64 L) rfl Ok Ok Ok Ok Ok (fun _ _ _ h=>h) aH ?_ ?_
   ·intro o ho;exact m22
   simp only[Act.put,dN,dB,dO];refine vZ 12 40 (.pointer (some ⟨a,i,none⟩)) rfl Ok Ok Ok Ok Ok (fun _ _ _ h=>h) aH ?_ ?_
   ·intro o ho;exact m22
   simp only[Act.put,dN,dB,dO];have U:d.drew.cell? ⟨a,i,none⟩=some (.int .i64 L):=K1.ae;have f1:d.drew.frozen? ⟨a,i,none⟩=false:=F1.ae;obtain⟨M,V⟩:∃M:World,d.drew=M:=⟨_,rfl⟩;rw[V] at U f1 K5 F5 HW⊢;refine iO 13 Ok ?_;intro o ho K G;simp only[fU,eB,dR,dG] at ho;subst ho;go_simp;refine G.ae _ _ Oe ?_;obtain⟨W5,hW5⟩:∃W5:World,M.setCell ⟨a,i,none⟩ (.int .i64 J)=W5:=⟨_,rfl⟩;rw[hW5] at K5 F5 HW⊢;refine iO 14 Ok ?_;intro o ho K G;simp only[fU,eB,dR,dG] at ho;subst ho;go_simp;refine G.ae _ _ Oe ?_;have k5:=K5.ae;have f5:=F5.ae;refine iO 15 Ok ?_;intro o ho K G;simp only[fU,eB,dR,dG] at ho;subst ho;go_simp;refine G.ae _ _ Oe ?_;refine bY Ok ?_;rw[HW.ae];go_wp2_with fail
   go_roundw;exact⟨(i:Int) - 1,l',by omega,by omega,rfl,L4,P4',O4,S4,N4⟩;simp [RowKit.intOf];omega
  ·go_wp2;go_ret;refine⟨A,c,l,B,HP,rfl,?_,d9,I⟩;have h1:bH aU 1 dr w.heap.size wr (.slice A l.length c) l:=⟨fh l,by rw[B.ae];exact t.ae,PO wr l⟩;rw[B.ae] at h1;exact h1.ls

section
variable{P:Program}{ops:Array Oper}{Q:Exit->Act->World->Prop}{md:Region.Mode}{S:World->Prop}{T:Nat->Bool}
theorem cG.two(i j:Nat){b:Act}(q:Region.ready md ops N= [i,j])
 (g:∀o,ops[i]?=some o->∀K:Act->World->Prop,ah (∀d c,(T i=false->S c)->cG P md ops Q S T a (N.setIfInBounds i true) d c->K d c)->if Region.wanted o (yielded ops b.tmps)=true then o.wp P b m K Q else K (b.put o.dst undef) m)
 (s:∀o,ops[j]?=some o->∀K:Act->World->Prop,ah (∀d c,(T j=false->S c)->cG P md ops Q S T a (N.setIfInBounds j true) d c->K d c)->if Region.wanted o (yielded ops b.tmps)=true then o.wp P b m K Q else K (b.put o.dst undef) m):cG P md ops Q S T (a+1) N b m:=by
 have r:∀i,i∈Region.ready md ops N->(∀o,ops[i]?=some o->∀K:Act->World->Prop,ah (∀d c,(T i=false->S c)->cG P md ops Q S T a (N.setIfInBounds i true) d c->K d c)->if Region.wanted o (yielded ops b.tmps)=true then o.wp P b m K Q else K (b.put o.dst undef) m)->
  wpOp P ops Q i (fun d c=>(T i=false->S c)/\cG P md ops Q S T a (N.setIfInBounds i true) d c) b m:=by
  intro i p h;obtain⟨_,o,g,_⟩:=mem_ready.1 p;have e:=h o g (fun d c=>(T i=false->S c)/\cG P md ops Q S T a (N.setIfInBounds i true) d c) (fun _ _ e t=>⟨e,t⟩);unfold wpOp;simp only[g];split
  ·rename_i l;rw[if_pos l] at e;exact .inl e
  ·rename_i l;rw[if_neg l] at e;exact e
 refine⟨fun u=>absurd u (by rw[q];simp),fun k n=> ?_⟩;have f:=n;rw[q] at f;rcases(by simpa using f:k=i\/k=j) with h|h
 ·subst h;exact r _ n g
 ·subst h;exact r _ n s
def KO:=@cG.two
end
def F4(e:au)(g:Nat)(a b c d:Value):Prop:=ay e g 0 a/\ay e g 1 b/\ay e g 2 c/\ay e g 3 d
def ep(w:au)(g:Nat)(q:Rat):Prop:=∃b A n c e f a d,ar w g dI [.bool b,.slice A n c,.bool e,.slice f a d]/\b_ w (.agg #[.bool b,.slice A n c,.bool e,.slice f a d]) q
def ep.parts(h:ep m a H):∃b A n c f i d e,ah (ar m a dI [.bool b,.slice A n c,.bool f,.slice i d e])/\ah (b_ m (.agg #[.bool b,.slice A n c,.bool f,.slice i d e]) H):=h
def ep.ext{w':au}(h:ep m g H)(a:Ext m w'):ep w' g H:=by obtain⟨b,A,n,c,j,k,d,i,f,e⟩:=h;exact⟨b,A,n,c,j,k,d,i,f.ext a,e.ext a⟩
def ep.lt(h:ep m a H):a<m.heap.size:=by obtain⟨b,A,n,c,j,k,e,i,d,f⟩:=h;exact d.lt
def ep.of{f:Bool}(i:ar m a dI [.bool R,.slice E b c,.bool f,.slice F d e])(h:b_ m (.agg #[.bool R,.slice E b c,.bool f,.slice F d e]) H):ep m a H:=⟨R,E,b,c,f,F,d,e,i,h⟩
def ep.far(h:ep m a H)(j:Only b m n)(f:a≠b)(l:Kept r_ m n):ep n a H:=by obtain⟨d,A,e,c,s,t,i,r,p,o⟩:=h;exact⟨d,A,e,c,s,t,i,r,p.only j f,o.keep l⟩
def ep.put{k:Value}{b:Bool}(j:ar n g dI [q,r,s,k])(l:b_ n (.agg #[.bool b,.slice E a c,.bool R,.slice F d e]) H)(o:Ext m n)(h:m.heap.size<=g):
 ∃f,((((n.setCell (aB g 0) (.bool b)).setCell (aB g 1) (.slice E a c)).setCell (aB g 2) (.bool R)).setCell (aB g 3) (.slice F d e))=f/\ah (ep f g H)/\ah (Kept r_ n f)/\ah (Ext m f)/\ah (Only g n f):=by
 have i:=j.Ij (t:=r_) Od 0 1 2 3 (.bool b) (.slice E a c) (.bool R) (.slice F d e);exact⟨_,rfl,ep.of ((((j.bu 0 (.bool b)).bu 1 (.slice E a c)).bu 2 (.bool R)).bu 3 (.slice F d e)) (l.keep i),i,
  (((o.setCell (p:=aB g 0) h _).setCell (p:=aB g 1) h _).setCell (p:=aB g 2) h _).setCell (p:=aB g 3) h _,
  (((ii g n).bu 0 _).bu 1 _).bu 2 _|>.bu 3 _⟩
def Lb{P:World->Prop}{e:Bool}(f:b_ m (.agg #[.bool R,.slice E a b,.bool e,.slice F c d]) H)(h:∀W,ah (Ext m W)->ah (ep W m.heap.size H)->W.heap.size=m.heap.size+1->P W):P (m.alloc (.cells #[.bool R,.slice E a b,.bool e,.slice F c d] dI)):=
 h _ ((aC m).alloc _) (ep.of (kq m dI [.bool R,.slice E a b,.bool e,.slice F c d]) (f.ext ((aC m).alloc _))) Ou
section
variable{P:Program}{ops:Array Oper}{Q:Exit->Act->World->Prop}{md:Region.Mode}{S:World->Prop}{T:Nat->Bool}
theorem cG.of{fuel:Nat}{listed:Array Bool}{a:Act}(i:Nat)(b:i∈Region.ready md ops listed)
 (h:∀o,ops[i]?=some o->∀K:Act->World->Prop,ah (∀a' w',(T i=false->S w')->cG P md ops Q S T fuel (listed.setIfInBounds i true) a' w'->K a' w')->if Region.wanted o (yielded ops a.tmps)=true then o.wp P a m K Q else K (a.put o.dst undef) m):
 wpOp P ops Q i (fun a' w'=>(T i=false->S w')/\cG P md ops Q S T fuel (listed.setIfInBounds i true) a' w') a m:=by
 obtain⟨_,o,hi,_⟩:=mem_ready.1 b;exact aht
def KX(md:Region.Mode)(ops:Array Oper)(T:Nat->Bool)(i:Nat):Bool:=(List.range ops.size).all fun j=> !T j||j==i||leads md ops 9 j i
theorem OH(h:KX md ops T a=true)(r:closed md ops N=true)(g:b≠a)(p:b∈Region.ready md ops N)(l:N.getD a true=false):T b=false:=by
 cases hT:T b with
 |false=>rfl
 |true=>
  exfalso;obtain⟨_,o,m,d⟩:=mem_ready.1 p;unfold KX at h;rw[uD] at h;have n:=h b (dP.2 (aab.1 m).1);simp only[hT,G6,Kb,lK,beq_iff_eq,g,false_or] at n;have f:=Up r 9 b n (fun t c e q s=>by rw[m] at c;injection c with c;subst c;exact d e q s);rcases cA a N.size with k|k
  ·simp [k] at l f;rw[l] at f;cases f
  ·simp [zS k] at f
theorem cG.axx(i d:Nat)(v:Value){b:Act}(_hTi:T i=false)
 (s:Region.noSelect ops=true) (x:Region.free md ops N i=true) (t:(Region.ready md ops N).contains i=true) (f:KX md ops T i=true) (y:closed md ops N=true)
 (A:∀c b m,Q (.panic c) (b.put (some d) v) m->Q (.panic c) b m) (z:S m)
 (q:∀o,ops[i]?=some o->o.dst=some d/\Region.wanted o (yielded ops b.tmps)=true/\∀m,S m->(execOp b.eval o).run P m= .ok (.value v) m)
 (h:cG P md ops Q S T a (N.setIfInBounds i true) (b.put (some d) v) m):cG P md ops Q S T (a+1) N b m:=by
 have e:i∈Region.ready md ops N:=by simpa using t
 obtain⟨_,o,g,_⟩:=mem_ready.1 e;obtain⟨p,C,B⟩:=q o g;exact Hf (G:=S) g (JY s) (fun m f _=>f) (fun j l k n u r=> .inl ⟨fun _ h=>h,OH f n k u r⟩) (by rw[p];exact A) a N b m y (J5 g x) e (.inl ⟨C,B⟩) z (by rw[p];exact h)
def LA(md:Region.Mode)(ops:Array Oper)(T:Nat->Bool)(a:Array Bool)(i:Nat):Bool:=Region.noSelect ops&&Region.free md ops a i&&(Region.ready md ops a).contains i&&KX md ops T i&&closed md ops a
theorem cG.ld(i d:Nat)(v:Value)(o:Oper){b:Act}(q:yt ops.toList i=some o)(r:o.dst=some d)(k:LA md ops T N i=true)
 (D:∀c b m,Q (.panic c) (b.put (some d) v) m->Q (.panic c) b m) (C:S m) (f:Region.wanted o (yielded ops b.tmps)=true) (z:∀m,S m->(execOp b.eval o).run P m= .ok (.value v) m)
 (h:cG P md ops Q S T a (N.setIfInBounds i true) (b.put (some d) v) m):cG P md ops Q S T (a+1) N b m:=by
 unfold LA at k;simp only[cZ] at k;obtain⟨⟨⟨⟨y,x⟩,u⟩,t⟩,s⟩:=k;have g:i∈Region.ready md ops N:=by simpa using u
 have e:ops[i]?=some o:=by rw[KH] at q;simpa using q
 exact Hf (G:=S) e (JY y) (fun m f _=>f) (fun j l n p B A=> .inl ⟨fun _ h=>h,OH t p n B A⟩) (by rw[r];exact D) a N b m s (J5 e x) g (.inl ⟨f,z⟩) C (by rw[r];exact h)
def Et:=@cG.ld
theorem cG.axB(i d:Nat){v:Value}{o:Oper}{L:Array Bool}{b A:Act}(h:cG P md ops Q S T a L A m)(p:S m:=by exact aH)(k:yt ops.toList i=some o:=by exact rfl)(n:o.dst=some d:=by exact rfl)(l:LA md ops T N i=true:=by kernel_rfl)
 (q:∀c b m,Q (.panic c) (b.put (some d) v) m->Q (.panic c) b m:=by exact fun _ _ _ h=>h) (j:Region.wanted o (yielded ops b.tmps)=true:=by exact rfl)
 (g:∀m,S m->(execOp b.eval o).run P m= .ok (.value v) m:=by(intro f e;have t:=bL f e;go_split_ands;go_simp;try (first|exact rfl|omega|go_num|(intro hbd;exfalso;omega))))
 (r:N.setIfInBounds i true=L:=by((try simp only[dN,dB,dO])<;>exact rfl)) (s:b.put (some d) v=A:=by((try simp only[Act.put,dN,dB,dO])<;>exact rfl)):cG P md ops Q S T (a+1) N b m:=by
 subst r s;exact Et i d v o k n l q p j g h
def ax:=@cG.axB
theorem cG.axv(i d:Nat){b:Act}(_hTi:T i=false)
 (s:Region.noSelect ops=true) (v:Region.free md ops N i=true) (t:(Region.ready md ops N).contains i=true) (f:KX md ops T i=true) (x:closed md ops N=true)
 (z:∀c b m,Q (.panic c) (b.put (some d) undef) m->Q (.panic c) b m) (y:S m)
 (q:∀o,ops[i]?=some o->o.dst=some d/\Region.wanted o (yielded ops b.tmps)=false)
 (h:cG P md ops Q S T a (N.setIfInBounds i true) (b.put (some d) undef) m):cG P md ops Q S T (a+1) N b m:=by
 have e:i∈Region.ready md ops N:=by simpa using t
 obtain⟨_,o,g,_⟩:=mem_ready.1 e;obtain⟨p,A⟩:=q o g;exact Hf (G:=S) g (JY s) (fun m f _=>f) (fun j l k n u r=> .inl ⟨fun _ h=>h,OH f n k u r⟩) (by rw[p];exact z) a N b m x (J5 g v) e (.inr ⟨A,rfl⟩) y (by rw[p];exact h)
theorem cG.lu(i d:Nat){o:Oper}{L:Array Bool}{b A:Act}(h:cG P md ops Q S T a L A m)(B:S m:=by exact aH)(q:yt ops.toList i=some o:=by exact rfl)(r:o.dst=some d:=by exact rfl)(k:LA md ops T N i=true:=by kernel_rfl)
 (C:∀c b m,Q (.panic c) (b.put (some d) undef) m->Q (.panic c) b m:=by exact fun _ _ _ h=>h) (f:Region.wanted o (yielded ops b.tmps)=false:=by exact rfl)
 (D:N.setIfInBounds i true=L:=by((try simp only[dN,dB,dO])<;>exact rfl)) (E:b.put (some d) undef=A:=by((try simp only[Act.put,dN,dB,dO])<;>exact rfl)):cG P md ops Q S T (a+1) N b m:=by
 subst D E;unfold LA at k;simp only[cZ] at k;obtain⟨⟨⟨⟨x,v⟩,u⟩,t⟩,s⟩:=k;have g:i∈Region.ready md ops N:=by simpa using u
 have e:ops[i]?=some o:=by rw[KH] at q;simpa using q
 exact Hf (G:=S) e (JY x) (fun m f _=>f) (fun j l n p z y=> .inl ⟨fun _ h=>h,OH t p n z y⟩) (by rw[r];exact C) a N b m s (J5 e v) g (.inr ⟨f,rfl⟩) B (by rw[r];exact h)
def mn:=@cG.lu
end
def bE{α:Type}{R:World->List Value->α->Prop}{l:List α}(h:Ls w R m (.slice E a b) l):a=l.length/\a<=b/\b<=9223372036854775807:=by obtain⟨_,_,_,e,g,d,_⟩:=h;injection e with _ i f;subst f;unfold maxLen at d;omega
def ip(i:ar m a w t)(f:m.ownsRow b x c p d u)(j:m.grownBy n p.ownBlock)(o:a<b):ar n a w t:=
 (j.block a i.lt (fun h=>by have:=(f.lt a h.symm).1;omega)).trans i
def Only.fresh(h:Only a m n)(c:Only b n o)(f:m.heap.size<=b):Only a m o:=
 ⟨c.os.trans h.os,c.tape.trans h.tape,c.output.trans h.output,a8 h.size c.size,fun i e d=>(c.block i (cE e h.size) Oc).trans (h.block i e d)⟩
def cJ.past(h:cJ m g)(c:Only a m n)(d:g<a):cJ n g:=h.grown c (fun j b=>by injection b with b;omega)
def EH{u0 u1 u2 u3:Value}(i:ar m a w [u0,u1,u2,u3])(e d c b:Value):
 ∃h,((((m.setCell (aB a 0) e).setCell (aB a 1) d).setCell (aB a 2) c).setCell (aB a 3) b)=h/\ah (ar h a w [e,d,c,b])/\ah (∀u,w≠u->Kept u m h)/\ah (Only a m h):=by
 have l:=i.bu 0 e;have k:=l.bu 1 d;have j:=k.bu 2 c;have n:=j.bu 3 b;exact⟨_,rfl,n,fun u f=>(((i.Ee f 0 e).trans (l.Ee f 1 d)).trans (k.Ee f 2 c)).trans (j.Ee f 3 b),((((ii a m).bu 0 _).bu 1 _).bu 2 _).bu 3 _⟩
def Ls.kept{α:Type}{R:World->List Value->α->Prop}{T:List TypeId}(d:j7 T R){l:List α}(h:Ls w R m p l)(c:∀u,x≠u->Kept u m n)(b:x≠w/\∀u∈T,x≠u):Ls w R n p l:=
 h.keep d fun u a=>c u (by
  rcases aI.1 a with rfl|a
  ·exact b.1
  ·exact b.2 u a)
def Src.Wy(c:cJ m a)(d:Only a m n):∀u,pQ≠u->Kept u m n:=fun _ b=>uM c d b
def asF(h:IL m (.slice E a b) L):Sl m aU E (fh L)/\(E=none->b=0):=by
 obtain⟨y,x,d,e,s,q,p,g,f⟩:=h;injection e with v u t;subst v t;have j:d=fh L:=by
  clear g s q u;induction L generalizing d with
  |nil=>exact f
  |cons z L i=>obtain⟨b,r,rfl,o,k⟩:=f;rw[i r k,show b= [av z] from o];rfl
 rw[<-j];exact⟨g,p⟩
def Only.axr(h:Only a m n)(e:n.ownsRow b w c p d t)(f:n.grownBy o p.ownBlock)(r:m.heap.size<=b):Only a m o:=
 ⟨f.os.trans h.os,f.tape.trans h.tape,f.output.trans h.output,a8 h.size f.size,fun i l j=>(f.block i (cE l h.size) (fun q=>by have:=(e.lt i q.symm).1;omega)).trans (h.block i l j)⟩
def DX:=@Only.axr
def gp{i:Nat}(c:ar m a w t)(x:Value):
 ∃b,m.setCell (aB a i) x=b/\ah (ar b a w (t.set i x))/\ah (∀u,w≠u->Kept u m b)/\ah (Only a m b):=
 ⟨_,rfl,c.bu i x,fun _ d=>c.Ee d i x,(ii a m).bu i x⟩
def qO{P:Program}{o:Oper}{a:Act}{K:Act->World->Prop}{Q:Exit->Act->World->Prop}(s d:Operand)(t:TypeId)
 (ho:o.op= .call {callee:= .builtin .append,args:= #[s,d],argTypes:= #[t,t]})
 (f:Nat) {size bytes:Nat} (T:ko P t w size bytes)
 (v:Value) (n:Nat) (y:List Value) (hs:a.eval s=v) (r:m.ownsRow f w size v n y)
 (g:Nat) (q:List Value) (J:ar m g x q) (b c:Nat) (hx:a.eval d=aG g 0 b c) (H:q.length=b*size) (L:q.all (·.oneCell')=true)
 (k:(n+b)*bytes<=140737488355328) (p:f<=m.heap.size)
 (h:∀v' w',w'.ownsRow f w size v' (n+b) (y++q)->m.grownBy w' v.ownBlock->(v'.ownBlock=v.ownBlock\/v'.ownBlock=some m.heap.size)->K (a.put o.dst v') w'):o.wp P a m K Q:=by
 obtain⟨i,z,I,E,C,B,A⟩:=T.inf;have D:n+b<=maxLen:=(by have G:=T.XH;have:=JU (n+b) G;unfold maxLen;omega)
 have l:∀j u,q[j]?=some u->m.cell? ((⟨g,0,none⟩:Addr).add j)=some u:=(by intro j u F;rw[OE,jc];exact J.cell F);obtain⟨v',w',hr,h2,h3,_,h5⟩:=run_append_own_at (P:=P) m f t o.type w i z size bytes T.ht I E C B A T.pos v n y r ⟨g,0,none⟩ b c q H l (uD.1 L) D k p;exact agX
def Kept.base{base k:Nat}(h:Kept w m n)(b:n.ownsRow base x k p a t)(f:n.grownBy o p.ownBlock)(l:m.heap.size<=base):Kept w m o:=fun g c j d=>by have e:=h g c j d;have q:=ie d;exact(f.block g (ie e) (fun i=>by have:=(b.lt g i.symm).1;omega)).trans e
def Kg(h:m.ownsRow a w c p e t)(A:m.ownsRow b x d q f u)(l:w≠x):∀g,p.ownBlock=some g->q.ownBlock≠some g:=by
 intro g o j;rcases h.2 with⟨rfl,_⟩|⟨C,G,F,rfl,_,z,_⟩
 ·simp [Value.ownBlock] at o
 ·rcases A.2 with⟨rfl,_⟩|⟨B,s,r,rfl,_,i,_⟩
  ·simp [Value.ownBlock] at j
  ·have E:C=g:=by simpa [Value.ownBlock] using o
   have D:B=g:=by simpa [Value.ownBlock] using j
   subst E D;rw[z] at i;injection i with i;injection i with _ y;exact l y
def Ls.cells{α:Type}{R:World->List Value->α->Prop}(z:∀m e x,R m e x->e.length=a){l:List α}(h:Ls w R m (aG b c d e) l){p:Nat}(F:p<l.length*a)(y:Kept w m n):n.cell? (aB b (c+p))=m.cell? (aB b (c+p)):=by obtain⟨A,O,r,f,K,J,I,C,B⟩:=h;injection f with q u N;subst q;have G:=Ch.length (z m) B;have v:r[p]?=some r[p]:=aV Om;obtain⟨L,E,D,M,j,s,H⟩:=C p _ v;injection j with j;injection j with q u;subst q u;have i:=y _ _ _ s;simp [World.cell?,s,i]
def hstep(h:Int)(x:UInt8):Int:=IntKind.u64.wrap (bits .xor .u64 h (IntKind.u64.wrap (x.toNat:Int))*1099511628211)

def UT(g c:Nat)(a:List Int)(w:au)(h:cJ w g)(m:ar w c aU (fh a))(b:c≠g)(n:0<a.length)(t:a.length<=1000):
 Calls prog 62 #[aJ g 0,aG c 0 a.length a.length] w fun e f=>∃u∈a,e= .returned (av u)/\cJ f g/\Only g w f:=by
 have H:=af (oM g a.length w h n Om);have p:=af m;have d:=af b;go_enter func62,ntmps62;go_wp2_with fail
 refine H.mono ?_;rintro e q ⟨r,j,rfl,l,k⟩;have s:=(p.only k d).cell (i:=r) (u:=av a[r]) (Hg j);have o:ah (a[r]∈a):=aZ j;generalize a[r]=u at*;go_wp2;go_ret;exact⟨u,o,rfl,l,k⟩
def apZ{m:Nat}(b:0<m)(a:d<10):decDigits (m*10+d)=decDigits m++ [UInt8.ofNat (48+d)]:=by rw[Ep Om,show(m*10+d)/10=m by omega,show(m*10+d)%10=d by omega]
def aoA(l:List UInt8)(c:UInt8):(⟨l.toArray⟩:ByteArray)++⟨#[c]⟩=⟨(l++ [c]).toArray⟩:=by
 apply ByteArray.ext
 rw[ByteArray.data_append];simp
def ap'(w:au)(c:UInt8):(convert E1 bI (aG w.heap.size 0 1 1)).run prog (w.alloc (.cells #[.int .u8 (c.toNat:Int)] t8))= .ok (.string ⟨#[c]⟩) (w.alloc (.cells #[.int .u8 (c.toNat:Int)] t8)):=by refine run_convert_bytes_back (P:=prog) _ E1 bI t8 ⟨w.heap.size,0,none⟩ 1 [c] underlying192 underlying5 underlying9 (fun j a=> ?_);obtain rfl:j=0:=aza;exact(kq w t8 [.int .u8 (c.toNat:Int)]).aD 0
abbrev Bp:TypeId:=75
abbrev tE:TypeId:=77
abbrev EF:TypeId:=135
abbrev kN:TypeId:=30
abbrev k6:=List UInt8×Int
abbrev Rl:=List UInt8×List Int
abbrev Fe:=Int×Int×Int
structure aQ where
 aq:List k6
 aA:List Rl
 bk:List Fe
 label:Int
def yF(_:au)(c:List Value)(x:k6):Prop:=c= [aO x.1,av x.2]
def Cs(w:au)(c:List Value)(x:Rl):Prop:=∃A n d,c= [aO x.1,.slice A n d]/\IL w (.slice A n d) x.2
def xI(_:au)(c:List Value)(x:Fe):Prop:=c= [av x.1,av x.2.1,av x.2.2]
def yF.jN:j7 [] yF:=fun _ _ _ _ _ h=>h
def mS:=@yF.jN
def xI.jN:j7 [] xI:=fun _ _ _ _ _ h=>h
def uN:=@xI.jN
def Cs.jN:j7 [aU] Cs:=fun _ _ _ _ a ⟨A,n,d,e,h⟩=>⟨A,n,d,e,fN cI h a⟩
def oF:=@Cs.jN
def yF.two(w:au)(c:List Value)(x:k6)(h:yF w c x):c.length=2:=azQ
def Cs.two(w:au)(c:List Value)(x:Rl)(h:Cs w c x):c.length=2:=by obtain⟨_,_,_,rfl,_⟩:=h;rfl
def xI.three(w:au)(c:List Value)(x:Fe)(h:xI w c x):c.length=3:=azQ
abbrev AL:=Ls Bp yF
abbrev y_:=Ls tE Cs
abbrev zL:=Ls EF xI
def dK(w:au)(v:Value)(x:aQ):Prop:=∃A c B d D e,v= .agg #[.slice A x.aq.length c,.slice B x.aA.length d,.slice D x.bk.length e,av x.label]/\AL w (.slice A x.aq.length c) x.aq/\y_ w (.slice B x.aA.length d) x.aA/\zL w (.slice D x.bk.length e) x.bk
def dK.ext{w':au}{x:aQ}(h:dK m p x)(a:Ext m w'):dK w' p x:=by obtain⟨A,c,B,d,D,e,i,g,f,b⟩:=h;exact⟨A,c,B,d,D,e,i,g.ext mS a,f.ext oF a,b.ext uN a⟩
def dK.kept{x:aQ}(h:dK m p x)(b:∀u,w≠u->Kept u m n)(j:w≠Bp)(i:w≠tE)(g:w≠EF)(f:w≠aU):dK n p x:=by obtain⟨A,c,B,d,D,e,q,o,l,k⟩:=h;exact⟨A,c,B,d,D,e,q,o.kept mS b ⟨j,fun u a=>by cases a⟩,l.kept oF b ⟨i,fun u a=>by rw[bG.1 a];exact f⟩,k.kept uN b ⟨g,fun u a=>by cases a⟩⟩
def AL.get{n:Nat}{l:List k6}(h:AL m (.slice E n a) l){i:Nat}(e:i<l.length):
 ∃g o,E=cT g o/\g<m.heap.size/\ay m g (o+i*2) (aO l[i].1)/\ay m g (o+i*2+1) (av l[i].2):=by
 obtain⟨g,o,d,k,j,f,b⟩:=qR yF.two Od h e;rw[show d=_ from f] at b;exact⟨g,o,k,j,b 0 _ rfl,b 1 _ rfl⟩
def oL:=@AL.get
def y_.get{n:Nat}{l:List Rl}(h:y_ m (.slice E n a) l){i:Nat}(f:i<l.length):
 ∃g o B b d,E=cT g o/\g<m.heap.size/\ay m g (o+i*2) (aO l[i].1)/\ay m g (o+i*2+1) (.slice B b d)/\IL m (.slice B b d) l[i].2:=by
 obtain⟨g,o,d,p,k,⟨B,b,q,rfl,j⟩,e⟩:=qR Cs.two Od h f;exact⟨g,o,B,b,q,p,k,e 0 _ rfl,e 1 _ rfl,j⟩
def qQ:=@y_.get
def zL.get{n:Nat}{l:List Fe}(h:zL m (.slice E n a) l){i:Nat}(e:i<l.length):
 ∃g o,E=cT g o/\g<m.heap.size/\ay m g (o+i*3) (av l[i].1)/\ay m g (o+i*3+1) (av l[i].2.1)/\ay m g (o+i*3+2) (av l[i].2.2):=by
 obtain⟨g,o,d,k,j,f,b⟩:=qR xI.three Od h e;rw[show d=_ from f] at b;exact⟨g,o,k,j,b 0 _ rfl,b 1 _ rfl,b 2 _ rfl⟩
def H8(c:UInt8):Prop:=97<=c/\c<=122
def afA(c:UInt8):Prop:=H8 c\/(48<=c/\c<=57)\/c=45
instance(c:UInt8):Decidable (H8 c):=inferInstanceAs (Decidable (_/\_))
instance(c:UInt8):Decidable (afA c):=inferInstanceAs (Decidable (_\/_\/_))
def qW(s:List UInt8):Prop:=1<=s.length/\s.length<=12/\(∀c,s[0]?=some c->H8 c)/\∀c∈s,afA c
def ajr(a:List k6)(f:Fe):Prop:=0<=f.1/\∃x,a[f.1.toNat]?=some x/\((f.2.1=1/\x.2=2/\(f.2.2=0\/f.2.2=1))\/(f.2.1=2/\x.2=3/\f.2.2=0))
structure cF(x:aQ):Prop where
 a1:1<=x.aq.length
 a12:x.aq.length<=12
 r1:1<=x.aA.length
 r6:x.aA.length<=6
 f8:x.bk.length<=8
 aw:∀a∈x.aq,qW a.1
 ad:x.aq.Pairwise fun a b=>a.1≠b.1
 ak:∀a∈x.aq,1<=a.2/\a.2<=3
 rw':∀r∈x.aA,qW r.1
 rd:x.aA.Pairwise fun a b=>a.1≠b.1
 rn:∀r∈x.aA,r.2≠ []
 ri:∀r∈x.aA,∀a∈r.2,0<=a/\a<x.aq.length
 ra:∀r∈x.aA,r.2.Pairwise (·<·)
 used:∀a:Nat,a<x.aq.length->∃r∈x.aA,(a:Int)∈r.2
 fo:∀f∈x.bk,ajr x.aq f
 fd:x.bk.Pairwise fun f h=>f.1≠h.1
 fl:∀f∈x.bk,f.1≠x.label
 lb: -1<=x.label/\x.label<x.aq.length
 lk:0<=x.label->∃a,x.aq[x.label.toNat]?=some a/\a.2=2
def akT(b:a<26)(w:au):(convert aU t8 (av (97+(a:Nat)))).run prog w= .ok (.int .u8 ((UInt8.ofNat (97+a)).toNat:Int)) w:=by rcases a with _|_|_|_|_|_|_|_|_|_|_|_|_|_|_|_|_|_|_|_|_|_|_|_|_|_|a;all_goals first|omega|kernel_rfl
def Uo(p:List UInt8)(i:Nat)(w:au)(h:i<26)(g:p.length<=1000):
 Calls prog 61 #[aO p,av i] w fun e a=>e= .returned (aO (p++ [UInt8.ofNat (97+i)]))/\Ext w a:=by
 have c:=af (fun a=>akT h a);have hcv:=c.ae;have f:=fun a=>ap' a (UInt8.ofNat (97+i));have b:=af (aoA p (UInt8.ofNat (97+i)));generalize UInt8.ofNat (97+i)=j at*;have d:Int.tmod (i:Int) 26=(i:Int):=by rw[Int.tmod_eq_emod_of_nonneg Om];omega
 go_enter func61,ntmps61;go_wp2;go_ret;exact⟨by rw[b.ae];rfl,(aC w).alloc _⟩
def adr(s:List UInt8)(w:au)(h:qW s):
 Calls prog 110 #[aO s] w fun e q=>e= .returned (.bool true)/\Ext w q:=by
 obtain⟨z,k,u,v⟩:=h;have H:=af u;have I:=af v;obtain⟨W,E,hcv,F,m⟩:=ab9 s w;have l:=af F;have G:=af m;go_enter func110,ntmps110;go_wp2;go_loopw [3,4,5,9] (fun _ _ _ j wr=>∃i:Nat,i<=s.length/\j=av i/\ah (Ext W wr)) (fun _ _ _ j _=>s.length - (RowKit.intOf j).toNat)
 exact⟨0,aT _,rfl,aC _⟩;obtain⟨i,J,rfl,iZ⟩:=hrel;by_cases b:i<s.length
 ·obtain⟨g,o,e,_,d⟩:=(G.ext iZ).at_ (DO b);injection e with e;injection e with C B;subst C B;rw[jc] at d;have a:=I _ (aZ b);have A:i=0->H8 s[i]:=fun e=>by subst e;exact H _ (aV b)
  generalize s[i]=c at*;have r:(97<=c.toNat/\c.toNat<=122)\/(¬(97<=c.toNat/\c.toNat<=122)/\i≠0/\(c.toNat=45\/(48<=c.toNat/\c.toNat<=57))):=by
   by_cases f:97<=c.toNat/\c.toNat<=122
   ·exact .inl f
   ·refine .inr ⟨f,fun e=>f ?_,?_⟩
    ·have:=A e;exact⟨ux.1 this.1,ux.1 this.2⟩
    ·rcases a with a|a|a
     ·exact absurd ⟨ux.1 a.1,ux.1 a.2⟩ f
     ·exact .inr ⟨ux.1 a.1,ux.1 a.2⟩
     ·exact .inl (by rw[a];rfl)
  generalize c.toNat=n at*;rcases r with⟨y,x⟩|⟨y,x,p⟩
  ·have d1:=fF;have d2:=fF;go_wp2;exact IC
  ·have t:((i:Int)==0)=false:=ayZ;by_cases D:97<=n
   ·have d1:=fF;have d2:=aW;exfalso;omega
   ·have d1:=aW;rcases p with rfl|⟨p,K⟩
    ·go_wp2;exact IC
    ·have d3:((n:Int) !=45)=true:=azR;have d4:=aW;have d5:=aW;go_wp2;exact IC
 ·obtain rfl:i=s.length:=Om;have d1:=decide_eq_true k;have d2:=decide_eq_true z;have d3:decide ((s.length:Int)<=12)=true:=fF;have d4:decide ((s.length:Int)≥1)=true:=fF;go_wp2;go_ret;exact⟨rfl,l.trans iZ⟩
def jq(_:au)(c:List Value)(x:List UInt8):Prop:=c= [aO x]
def jq.jN:j7 [] jq:=fun _ _ _ _ _ h=>h
def jY:=@jq.jN
def jq.one(w:au)(c:List Value)(x:List UInt8)(h:jq w c x):c.length=1:=azQ
abbrev FH:=Ls bI jq
def FH.get{n:Nat}{l:List (List UInt8)}(h:FH m (.slice E n a) l){i:Nat}(e:i<l.length):
 ∃g o,E=cT g o/\g<m.heap.size/\ay m g (o+i) (aO l[i]):=by
 obtain⟨g,o,d,k,j,f,b⟩:=qR jq.one Od h e;rw[show d=_ from f] at b;have:=b 0 _ rfl;rw[l8,jK] at this;exact⟨g,o,k,j,this⟩
def str_inj{b:List UInt8}(h:(⟨T.toArray⟩:ByteArray)=⟨b.toArray⟩):T=b:=by injection h with h;exact List.toArray_inj h
def str_slice:ko prog 39 bI 1 16:= .mk' (z:= .string ⟨#[]⟩) Ok Ok rfl Od Od
def ans(A:aS)(c:Nat)(l:List (List UInt8))(i:Nat)(w:au)(h:FH w (.slice A l.length c) l)(C:i<l.length)(x:qW l[i])(v:l[i]∉l.take i)(_hl:l.length<=1000):
 Calls prog 166 #[.slice A l.length c,av i] w fun e a=>e= .returned (av 0)/\Ext w a:=by
 obtain⟨-,z,E⟩:=bE h;obtain⟨g,o,rfl,D,k⟩:=FH.get h C;have N:=af h;have M:=af x;have O:ah (∀a,Ext w a->Calls prog 218 #[aG g o i c,aO l[i]] a fun e b=>e= .returned (.bool false)/\Ext a b):=fun a r=>by
  refine(Tryz.slices_Contains_string g o i c (l.map fun t=>⟨t.toArray⟩) ⟨l[i].toArray⟩ a azw Om (fun j s=> ?_)).mono fun e b h=> ?_
  ·rw[cy] at s;obtain⟨R,Q,e,_,m⟩:=FH.get (bX jY N r) s;injection e with e;injection e with J I;subst J I;rw[m,fG,dY,aV s];rfl
  ·obtain⟨H,G⟩:=h;rw[G,H];refine⟨?_,aC _⟩;congr 2;rw[Bool.eq_false_iff];intro m;rw[Lib.containsS_iff,<-G5,dH] at m;obtain⟨t,y,e⟩:=m;rw[<-str_inj e] at v;exact v y
 have L:ah (∀a,Calls prog 110 #[aO l[i]] a fun e b=>e= .returned (.bool true)/\Ext a b):=fun a=>adr _ a M;generalize l[i]=t at*;generalize l.length=n at*;have B:i<=c:=Om;have u:=af k;go_enter func166,ntmps166;go_wp2_with fail
 refine(L w).mono ?_;rintro e p ⟨rfl,f⟩;go_upto_region 3 with fail
 have bL:ah (∀a,Ext p a->ay a g (o+i) (aO t)):=fun a r=>((f.trans r).cell D).trans u.ae;have aH:=af ((aC p).drew);refine b9 (S:=fun a=>Ext p a) (T:=fun _=>false) Ok ?_;refine ax 0 13 ?_;refine ax 1 14 ?_;refine ax 2 15 ?_;refine ax 3 16 ?_;refine ax 4 17 ?_;refine ax 5 18 ?_;refine ax 6 19 ?_;refine aL 7 ?_;intro K F;go_simp;refine(O _ (f.trans aH)).mono ?_;rintro e P ⟨rfl,q⟩;have d:=aH.trans q;refine F.ae _ _ (fun _=>d) ?_;have aH:=af d;refine ax 8 12 ?_;refine bY Ok ?_;go_wp2;go_ret;exact⟨rfl,f.trans d⟩
def aqQ{d:List (List UInt8)}(h:d.Pairwise fun c b=>c≠b)(k:a<d.length):d[a]∉d.take a:=by intro f;obtain⟨j,g,e⟩:=ju f;rw[cP] at g;rw[GI] at e;exact rH.1 h j a Om k Om e
def abQ(A:aS)(c:Nat)(d:List (List UInt8))(i:Nat)(w:au)(h:FH w (.slice A (i+1) c) (d.take (i+1)))(g:i<d.length)(l:∀t∈d,qW t)(m:d.Pairwise fun a b=>a≠b)(n:d.length<=1000):
 Calls prog 166 #[.slice A (i+1) c,av i] w fun e k=>e= .returned (av 0)/\Ext w k:=by
 have e:(d.take (i+1)).length=i+1:=ay8;have j:(d.take (i+1))[i]'Om=d[i]:=GI;have f:=ans A c (d.take (i+1)) i w (by rw[e];exact h) Om (by rw[j];exact l _ (aZ g)) (by rw[j,Ow,jJ Om];exact aqQ m g) Om;rw[e] at f;exact f
def Hm{α:Type}{l:List α}(h:a<l.length):l.take (a+1)=l.take a++ [l[a]]:=g9 h
def aiN(c:ar m a w t)(d:m.grownBy n p.ownBlock)(b:p.ownBlock≠some a):ar n a w t:=
 (d.block a c.lt (fun h=>b h.symm)).trans c
def ajD(v:Value)(x:aQ)(w:au)(h:dK w v x)(J:cF x):
 Calls prog 104 #[v] w fun e K=>e= .returned (av 0)/\Ext w K:=by
 obtain⟨A,c,B,d,D,e,rfl,ha,_,_⟩:=h;have HA:=af ha;have aN:=af J;have F:=J.a12;obtain⟨-, -,hcm⟩:=bE ha;obtain⟨j,k⟩:∃j,x.aq.map (·.1)=j:=⟨_,rfl⟩;have f:ah (j.length=x.aq.length):=by rw[ah,<-k,cy]
 have Jw:ah (∀i (h:i<x.aq.length),j[i]?=some x.aq[i].1):=fun i h=>by rw[<-k,dY,aV h];rfl
 have HNW:ah (∀t∈j,qW t):=fun t ht=>by rw[<-k] at ht;obtain⟨y,hy,rfl⟩:=dH.1 ht;exact J.aw y hy
 have Ga:ah (j.Pairwise fun a b=>a≠b):=(by rw[ah,<-k,zX];exact J.ad);generalize x.aA.length=rl at*;generalize x.bk.length=fl at*;generalize x.label=Yw at*;obtain⟨N,hN⟩:∃N,x.aq.length=N:=⟨_,rfl⟩;have HN:=af hN;rw[hN] at HA F f⊢;go_enter func104,ntmps104;go_upto_region 2 with fail
 refine aP fun W H BX=> ?_;have hc0:=BX.aD 0;go_upto_region 3 with fail
 go_loopw [3,4,5,6,10] (fun v3 _ _ _ m wr=>∃i:Nat,i<=N/\m=av i/\ah (bH bI 1 jq W.heap.size wr v3 (j.take i))/\ah (Ext W wr)) (fun _ _ _ _ m _=>N - (RowKit.intOf m).toNat)
 exact⟨0,aT _,rfl,f_,aC _⟩;obtain⟨i,hi,rfl,HO,s⟩:=hrel;by_cases G:i<N
 ·have q:i<x.aq.length:=by rw[HN.ae];exact G
  obtain⟨g,o,rfl,_,P,O⟩:=oL (bX mS HA (H.trans s)) q;have hk:=aN.ak _ (aZ q);have p:i<j.length:=by rw[f.ae];exact G
  have Q:j[i]=x.aq[i].1:=(by have h:=Jw i q;rw[aV p] at h;injection h);have z:=af (Hm p);rw[Q] at z;have NM:=af (fun A c K h=>abQ A c j i K h p HNW Ga (by rw[f.ae];omega));generalize x.aq[i]=V at*;obtain⟨nm,kd⟩:=V;simp only at P O hk z;have S:(j.take i).length=i:=by rw[cP,f.ae];omega
  obtain⟨A3,c3,xs,rfl,_,_,HR,HC⟩:=HO.parts;rw[S] at HR⊢;go_upto_region 5 with fail;refine aP fun W3 I BA=> ?_;have C:=af (En HR I);have R:(Value.slice A3 i c3).ownBlock≠some wr.heap.size:=fun hh=>by have:=(HR.lt _ hh).2;omega
  have l:=af (s.trans I);have L:=l.size;have U:(i+1)*16<=140737488355328:=Om;have vn:=BA.aD 0;go_wp2_with (at_builtin;refine gG rfl _ _ 39 rfl W.heap.size str_slice _ _ _ rfl C.ae #[aO nm] 1 1 rfl rfl rfl U L ?_)
  intro v' w4 E r _;obtain⟨A4,c4,rfl,_,_,_⟩:=dZ E;have Ds:=af (aiN BA r R);have O4:ah (bH bI 1 jq W.heap.size w4 (.slice A4 (i+1) c4) (j.take (i+1))):=by rw[z.ae];exact iN jY Oe (by rw[cP,f.ae,jJ hi];exact C) (HC.mono fun c x hc=>jY _ _ _ _ Oe hc) rfl (by rw[cP,f.ae,jJ hi];exact E) r
  have Z:=af (l.Ws C r);have T:=O4.ls;have X:=af (NM A4 c4 w4 T);go_wp2_with fail
  refine X.mono ?_;rintro e w5 ⟨rfl,n⟩;have zP:=af (Ds.ext n);have mE:=zP.aD 1;have O5:=af (O4.ext jY n);have Y:=af (Z.trans n);have lS:=aW;have hk3:=aW;go_wp2;go_roundw;exact⟨i+1,by omega,by go_num,O5,Y⟩;simp [RowKit.intOf];omega
 ·obtain rfl:i=N:=Om;go_wp2;go_ret;exact⟨rfl,H.trans s⟩
def Ls.upto{α:Type}{i:Nat}{R:World->List Value->α->Prop}(g:∀m c x,R m c x->c.length=a){l:List α}(h:Ls w R m (.slice E b c) l)(u:i<=l.length):Ls w R m (.slice E i c) (l.take i):=by obtain⟨B,z,f,e,v,q,p,o,j⟩:=h;injection e with s y r;subst s r;have d:(l.take i).length=i:=ay8;exact⟨E,c,f.take (i*a),by rw[d],by rw[d];omega,q,p,o.take _,Ch.take (g m) j i⟩
abbrev gh:TypeId:=4
def alT(g n c:Nat)(w:au)(h:ar w g gh (List.replicate n (.bool true)))(k:n<=1000):
 Calls prog 219 #[aG g 0 n c,.bool false] w fun e f=>e= .returned (av (-1))/\Ext w f:=by
 have j:=af h;go_enter func219,ntmps219;go_wp2;go_loopw [5,8] (fun _ a wr=>∃i:Nat,i<=n/\a=av i/\ah (Ext w wr)) (fun _ a _=>n - (RowKit.intOf a).toNat);exact⟨0,aT _,rfl,aC _⟩;obtain⟨i,l,rfl,d⟩:=hrel;by_cases b:i<n
 ·have m:=(j.ext d).cell (i:=i) (u:= .bool true) azo;go_wp2;go_roundw;exact⟨i+1,by omega,by go_num,d⟩;simp [RowKit.intOf];omega
 ·obtain rfl:i=n:=Om;go_wp2;go_ret;exact⟨rfl,d⟩
def ajO(g n c:Nat)(w:au)(h:ar w g gh (List.replicate n (.bool true)))(d:n<=1000):
 Calls prog 167 #[aG g 0 n c,.bool false] w fun e a=>e= .returned (.bool false)/\Ext w a:=by
 have f:=af (alT g n c w h d);go_enter func167,ntmps167;go_wp2_with fail;refine f.mono ?_;rintro e i ⟨rfl,b⟩;go_wp2;go_ret;exact⟨rfl,b⟩
def ake(a k m b:Int)(c:Nat)(w:au)(g:c<w.heap.size)(h:ay w c 0 (av b)):
 Calls prog 169 #[.agg #[av a,av k,av m],aJ c 0] w fun e f=>e= .returned (.bool (a==b))/\Ext w f:=by
 go_enter func169,ntmps169;go_upto_region 1 with fail
 refine aP fun W d i=> ?_;have l:=(d.cell (p:=aB c 0) g).trans h;have j:=i.aD 0;go_wp2;go_ret;exact⟨rfl,d⟩
def al6(A:aS)(c:Nat)(l:List Fe)(a:Nat)(b:Int)(w:au)(h:zL w (.slice A l.length c) l)(z:a<w.heap.size)(H:ay w a 0 (av b))(I:∀f∈l,f.1≠b)(F:l.length<=1000):
 Calls prog 220 #[.slice A l.length c,.func (.func 169) #[] #[aJ a 0]] w fun e d=>e= .returned (av (-1))/\Ext w d:=by
 have B:=af h;have L:=af I;have v:ah (∀d,Ext w d->ay d a 0 (av b)):=fun d r=>(r.cell (p:=aB a 0) z).trans H;obtain⟨-, -,G⟩:=bE h;obtain⟨n,y⟩:∃n,l.length=n:=⟨_,rfl⟩;have K:=af y;rw[y] at B F⊢;go_enter func220,ntmps220;go_wp2_with fail
 go_loopw [5,8] (fun _ q wr=>∃i:Nat,i<=n/\q=av i/\ah (Ext w wr)) (fun _ q _=>n - (RowKit.intOf q).toNat)
 exact⟨0,aT _,rfl,aC _⟩;obtain⟨i,N,rfl,m⟩:=hrel;by_cases t:i<n
 ·have k:i<l.length:=by rw[K.ae];exact t
  obtain⟨g,o,rfl,_,E,D,C⟩:=zL.get (bX uN B m) k;have j:=L _ (aZ k);have x:=af (ake l[i].1 l[i].2.1 l[i].2.2 b a wr (cE z m.size) (v wr m));generalize l[i]=f at*;obtain⟨J,P,O⟩:=f;simp only at x E D C j;have s:(J==b)=false:=by rw[beq_eq_false_iff_ne];exact j
  rw[s] at x;go_wp2_with fail;refine x.mono ?_;rintro e M ⟨rfl,r⟩;have u:=af (m.trans r);go_wp2_with fail
  go_roundw;exact⟨i+1,by omega,by go_num,u⟩;simp [RowKit.intOf];omega
 ·obtain rfl:i=n:=Om;go_wp2;go_ret;exact⟨rfl,m⟩
def ajM(A:aS)(c:Nat)(l:List Fe)(a:Nat)(b:Int)(w:au)(h:zL w (.slice A l.length c) l)(j:a<w.heap.size)(k:ay w a 0 (av b))(m:∀f∈l,f.1≠b)(i:l.length<=1000):
 Calls prog 168 #[.slice A l.length c,.func (.func 169) #[] #[aJ a 0]] w fun e d=>e= .returned (.bool false)/\Ext w d:=by
 have n:=af (al6 A c l a b w h j k m i);go_enter func168,ntmps168;go_wp2_with fail;refine n.mono ?_;rintro e o ⟨rfl,g⟩;go_wp2;go_ret;exact⟨rfl,g⟩
def akc(v:Value)(x:aQ)(w:au)(h:dK w v x)(P:cF x):
 Calls prog 106 #[v] w fun e m=>e= .returned (av 0)/\Ext w m:=by
 obtain⟨A,c,B,d,D,e,rfl,ha,_,hf⟩:=h;have HA:=af ha;have HF:=af hf;have y:=af P;have C:=P.a12;have X:=P.f8;obtain⟨-, -,hcm⟩:=bE ha;obtain⟨-,Y,hem⟩:=bE hf;generalize x.aA.length=rl at*;obtain⟨p,l⟩:∃p,x.label=p:=⟨_,rfl⟩;have I:=af l;rw[l];obtain⟨N,hN⟩:∃N,x.aq.length=N:=⟨_,rfl⟩;have HN:=af hN;rw[hN] at HA C⊢;obtain⟨M,hM⟩:∃M,x.bk.length=M:=⟨_,rfl⟩;have HM:=af hM;rw[hM] at HF X Y⊢;go_enter func106,ntmps106;go_upto_region 1 with fail
 refine aP fun W b BX=> ?_;have hc0:=BX.aD 2;go_upto_region 2 with fail
 go_loopw [3,4,5,6,7,11] (fun _ _ _ _ _ n wr=>∃i:Nat,i<=M/\n=av i/\ah (Ext W wr)) (fun _ _ _ _ _ n _=>M - (RowKit.intOf n).toNat)
 exact⟨0,aT _,rfl,aC _⟩;obtain⟨i,hi,rfl,u⟩:=hrel;by_cases U:i<M
 ·have s:i<x.bk.length:=by rw[HM.ae];exact U
  obtain⟨g,o,rfl,_,p0,p1,p2⟩:=zL.get (bX uN HF (b.trans u)) s;have k:=aZ s;have t:=y.fl _ k;rw[I.ae] at t;obtain⟨h0,a,T,F⟩:=y.fo _ k;have H:ah (∀f∈x.bk.take i,f.1≠x.bk[i].1):=fun f V=>by obtain⟨j,hj,rfl⟩:=ju V;rw[cP] at hj;rw[GI];exact rH.1 y.fd j i Om s Om
  generalize x.bk[i]=f at*;obtain⟨fa,fk,fm⟩:=f;simp only at p0 p1 p2 t h0 T F H;obtain⟨q,rfl⟩:∃q:Nat,fa=(q:Int):=⟨fa.toNat,by omega⟩;rw[kF] at T;obtain⟨r,R⟩:=vO.1 T;have Gq:ah (∃G z,A=cT G z/\∀m,Ext w m->ay m G (z+q*2+1) (av a.2)):=by obtain⟨G,z,e,_,_,_⟩:=oL HA r;refine⟨G,z,e,fun m hx=> ?_⟩;obtain⟨g',o',K,_,_,h⟩:=oL (bX mS HA hx) r;rw[e] at K;injection K with K;injection K with e1 e2;subst e1 e2;rw[R] at h;exact h
  obtain⟨G,z,rfl,Z⟩:=Gq.ae;have J:=af Z;have au5:q<N:=by rw[<-HN.ae];exact r
  have Q:((q:Int)==p)=false:=by rw[beq_eq_false_iff_ne];exact t
  have vn:decide ((q:Int)<0)=false:=aW;have S:decide (N<=q)=false:=aW;go_upto_region 4 with fail
  refine aP fun L bZ O=> ?_;have Iy:=af (u.trans bZ);have lG:=af (BX.ext Iy);obtain⟨s0,s1,s2,s3⟩:=lG.four;have b0:=O.aD 0;have b1:=O.aD 1;have b2:=O.aD 2;have hak:=J L (b.trans Iy);have pu:=af (Ls.upto xI.three (bX uN HF (b.trans Iy)) (i:=i) (by rw[HM.ae];omega));have E:(x.bk.take i).length=i:=by rw[cP,HM.ae];omega
  have FC:ah (Calls prog 168 #[aG g o i e,.func (.func 169) #[] #[aJ wr.heap.size 0]] L fun e m=>e= .returned (.bool false)/\Ext L m):=(by have h:=ajM (cT g o) e (x.bk.take i) wr.heap.size q L (by rw[E];exact pu) O.lt b0 H Om;rw[E] at h;exact h);have hie:i<=e:=Om;generalize a.2=kd at*;rcases F with⟨rfl,rfl,rfl|rfl⟩|⟨rfl,rfl,rfl⟩
  ·skip
   exact Yr
  ·skip
   exact Yr
  ·skip
   exact Yr
 ·obtain rfl:i=M:=Om;go_wp2;go_ret;exact⟨rfl,b.trans u⟩
def aob:(prog.info? gh).map (fun i=>(i.zero,i.size,i.bytes))=some (some (.bool false),1,1):=Ok
def Kj(n:Nat)(h:n<=1000000)(w:au):
 (Instr.makeSlice 111 (.int .i64 (n:Int)) (.int .i64 (n:Int))).run prog w= .ok (aG w.heap.size 0 n n) (w.alloc (.cells (List.replicate n (.bool false)).toArray gh)):=by
 obtain⟨e,f,c,b,a⟩:=info_parts aob;have d:=run_make (P:=prog) w 111 gh e (.bool false) underlying111 f c .i64 .i64 (n:Int) (n:Int) Om (AB _) azC Om;simp only[kF,b,Value.cells,l8] at d;rw[d,<-Ai]
def qV(a:List Bool):List Value:=a.map Value.bool
def aeq(b:List Bool)(a:Nat):(qV b).set a (.bool true)=qV (b.set a true):=by simp [qV,G8]
def aqc{c:List Bool}(f:c.length=a)(h:∀b,b<a->c[b]?=some true):qV c=List.replicate a (.bool true):=by
 have e:c=List.replicate a true:=by
  apply uz
  intro i;rcases cA i a with d|d
  ·rw[h i d];simp [d]
  ·rw[fH Om,fH Oc]
 rw[e,qV,zW]
def Us(b:List Bool)(n:Nat)(l:List Int):Prop:=b.length=n/\∀a∈l,b[a.toNat]?=some true
def Us.set{e:List Bool}(h:Us e a L)(f:b<a):Us (e.set b true) a (L++ [(b:Int)]):=by
 refine⟨by rw[lY];exact h.1,fun c d=> ?_⟩;have g:=h.1;rcases bQ.1 d with d|d
 ·have:=h.2 c d;rw[qF];split
  ·rw[if_pos Om]
  ·exact this
 ·rw[bG.1 d,kF,qF,if_pos rfl,if_pos Om]
def q73.ahE(h:ai:=by
 go_wp2_with fail
 refine(ajO _ N N wr BU Om).mono ?_;rintro e w7 ⟨rfl,E7⟩;go_wp2;go_ret;exact⟨rfl,iZ.trans E7⟩):=h
def ajI(v:Value)(x:aQ)(w:au)(h:dK w v x)(ok:cF x):
 Calls prog 105 #[v] w fun e m=>e= .returned (.int .i64 0)/\Ext w m:=by
 obtain⟨A,c,B,d,D,e,rfl,_,hr,_⟩:=h;have HR:=af hr;have aN:=af ok;have Xl:=ok.a12;have Q5:=ok.r6;obtain⟨-,hec,hem⟩:=bE hr;obtain⟨H,L⟩:∃H,x.aA.map (·.1)=H:=⟨_,rfl⟩;have I:ah (H.length=x.aA.length):=by rw[ah,<-L,cy]
 have Jw:ah (∀i (h:i<x.aA.length),H[i]?=some x.aA[i].1):=fun i h=>by rw[<-L,dY,aV h];rfl
 have HNW:ah (∀t∈H,qW t):=fun t ht=>by rw[<-L] at ht;obtain⟨y,hy,rfl⟩:=dH.1 ht;exact ok.rw' y hy
 have Ga:ah (H.Pairwise fun a b=>a≠b):=(by rw[ah,<-L,zX];exact ok.rd);clear hr ok L;generalize x.bk.length=fl at*;generalize x.label=Yw at*;obtain⟨N,hN⟩:∃N,x.aq.length=N:=⟨_,rfl⟩;have HN:=af hN;rw[hN] at Xl⊢;clear hN;obtain⟨R,Zt⟩:∃R,x.aA.length=R:=⟨_,rfl⟩;have j9:=af Zt;rw[Zt] at HR I Q5 hec⊢;clear Zt;go_enter func105,ntmps105;go_upto_region 1 with fail
 refine aP fun W qo BX=> ?_;have hc0:=BX.aD 0;have lR:=Kj N Om W;go_upto_region 3 with fail
 refine aP fun X aY BU=> ?_;clear lR hc0;have js:=af (BX.ext aY);have hc1:=js.aD 1;have hgx:w.heap.size<W.heap.size:=BX.lt;have Ro:W.heap.size<X.heap.size:=BU.lt;have nY:=af (qo.trans aY);have uf:ah (Us (List.replicate N false) N []):=⟨by simp,fun a h=>by cases h⟩;have Gz:ah (ar X W.heap.size gh (qV (List.replicate N false))):=by rw[qV,zW];exact BU
 clear BU BX qo aY;go_upto_region 4 with fail
 go_loopw [3,5,6,7,9,10,18] (fun v3 _ _ _ _ _ v18 wr=>∃(i:Nat) (bs:List Bool),i<=R/\v18= .int .i64 i/\ah (bH bI 1 jq X.heap.size wr v3 (H.take i))/\ah (Us bs N ((x.aA.take i).flatMap (·.2)))/\ah (ar wr W.heap.size gh (qV bs))/\ah (ar wr w.heap.size kN [.slice A N c,.slice B R d,.slice D fl e,.int .i64 Yw])/\ah (Ext w wr)/\X.heap.size<=wr.heap.size) (fun _ _ _ _ _ _ v18 _=>R - (RowKit.intOf v18).toNat)
 exact⟨0,_,aT _,rfl,f_,uf,Gz,js,nY,aK _⟩;clear hc1 uf Gz js nY;obtain⟨i,bs,hi,rfl,HO,HU,BU,BX,iZ,hwr⟩:=hrel;by_cases Cj:i<R
 ·have O:i<x.aA.length:=aAk;obtain⟨g,o,Bi,mi,di,rfl,_,dD,eH,s⟩:=qQ (bX oF HR iZ) O;have F:=aZ O;have M:=aN.rn _ F;have fZ:=af (aN.ri _ F);have lV:=af (aN.ra _ F);have I1:i<H.length:=by rw[I.ae];exact Cj
  have hng:H[i]=x.aA[i].1:=(by have h:=Jw i O;rw[aV I1] at h;injection h);have fp:=af (Hm I1);rw[hng] at fp;have Gh:ah ((x.aA.take (i+1)).flatMap (·.2)=(x.aA.take i).flatMap (·.2)++x.aA[i].2):=(by rw[ah,Hm O,GF,List.flatMap_singleton])
  have NM:=af (fun A c m h=>abQ A c H i m h I1 HNW Ga (by rw[I.ae];omega));rw[HN.ae] at fZ;clear hng F;generalize x.aA[i]=rl_ at*;clear O I1;obtain⟨nm,f⟩:=rl_;simp only at dD eH s M fZ lV fp Gh;obtain⟨tW,YW,hdm⟩:=bE s;have kA:0<mi:=by
   rw[tW];rcases f with _|⟨y,f⟩
   ·exact absurd rfl M
   ·simp
  have Rc:((mi:Int)==0)=false:=ayZ;have De:=af tW;clear tW M;have hlt:(H.take i).length=i:=by rw[cP,I.ae];omega
  obtain⟨A3,c3,xs,rfl,_,_,G,HC⟩:=HO.parts;rw[hlt] at G⊢;clear hlt;generalize wr=wo at*;go_upto_region 6 with fail;refine aP fun W3 C BA=> ?_;have E:=af (En G C);have M:(Value.slice A3 i c3).ownBlock≠some wo.heap.size:=fun hh=>by have:=(G.lt _ hh).2;omega
  have Iy:=af (iZ.trans C);have hw3:X.heap.size<=W3.heap.size:=a8 hwr C.size;have cK:(i+1)*16<=140737488355328:=Om;have vn:=BA.aD 0;have BU3:=af (BU.ext C);have lG:=af (BX.ext C);have HI3:=af (iP s C);clear dD eH G C BU BX s;go_wp2_with (at_builtin;refine gG rfl _ _ 39 rfl X.heap.size str_slice _ _ _ rfl E.ae #[.string ⟨nm.toArray⟩] 1 1 rfl rfl rfl cK hw3 ?_)
  intro v' w4 YT p _;obtain⟨A4,c4,rfl,_,_,_⟩:=dZ YT;have Ds:=af (aiN BA p M);have NT:=af (ip BU3 E p Ro);have qz:=af (ip lG E p Om);have Di:ah (IL w4 (.slice Bi mi di) f):=Ls.kept cI HI3 (fun u U=>jW E p U) Od;have O4:ah (bH bI 1 jq X.heap.size w4 (.slice A4 (i+1) c4) (H.take (i+1))):=by rw[fp.ae];exact iN (R:=jq) jY Oe (by rw[cP,I.ae,jJ hi];exact E) (HC.mono fun c x hc=>jY _ _ _ _ Oe hc) rfl (by rw[cP,I.ae,jJ hi];exact YT) p
  have dU:ah (Ext w w4):=jV Iy E p Om;have Cf:FH w4 (.slice A4 (i+1) c4) (H.take (i+1)):=O4.ls;have NM4:=af (NM A4 c4 w4 Cf);have hw4:X.heap.size<=w4.heap.size:=a8 hw3 p.size;clear YT p Cf vn E BA BU3 lG HI3;go_wp2_with fail
  refine NM4.mono ?_;rintro e w5 ⟨rfl,n⟩;have zP:=af (Ds.ext n);have K:=zP.aD 1;have O5:=af (O4.ext jY n);have en:=af (dU.trans n);have NS:=af (NT.ext n);have BX5:=af (qz.ext n);have jH:=af (iP Di n);have Cb:X.heap.size<=w5.heap.size:=a8 hw4 n.size;have Rq:W.heap.size<wo.heap.size:=Om;clear n O4 dU NT qz Di Ds hw4;go_upto_region 13 with fail
  clear K;generalize hFL:(x.aA.take i).flatMap (·.2)=lf at*;clear hFL;have ue:ah (Us bs N (lf++f.take 0)):=by rw[kH,kG];exact HU
  have HST:=af (aK w5.heap.size);go_loopw [9,41] (fun _ v41 wr=>∃(j:Nat) (bs:List Bool),j<=mi/\v41= .int .i64 j/\ah (Us bs N (lf++f.take j))/\ah (ar wr W.heap.size gh (qV bs))/\ah (Only W.heap.size w5 wr)/\ah (∀u,gh≠u->Kept u w5 wr)) (fun _ v41 _=>mi - (RowKit.intOf v41).toNat);exact⟨0,bs,aT _,rfl,ue,NS,ii _ _,fun u _=>jL u _⟩;clear ue NS HU bs;obtain⟨j,bs,hj,rfl,HU,BU,P,J⟩:=hrel;by_cases Rj:j<mi
  ·have Z:j<f.length:=by rw[<-De.ae];exact Rj
   have s:IL wr (.slice Bi mi di) f:=Ls.kept cI jH J Od;obtain⟨V,Q,rfl,_,I5⟩:=io s Z;have p6:=fZ _ (aZ Z);have Z5:=af (Hm Z);clear s;generalize f[j]=y at*;clear Z;obtain⟨q,rfl⟩:∃q:Nat,y=(q:Int):=⟨y.toNat,by omega⟩;have tU:q<N:=Om;have vn:decide ((q:Int)<0)=false:=aW;have hqd:decide (N<=q)=false:=aW;have hfz:=BU.frozen q;have xe:∃u,wr.cell? (aB W.heap.size q)=some u:=(by exact age)
   obtain⟨uq,xe⟩:=xe;obtain⟨W7,jo,B7,K7,N7⟩:=gp (i:=q) BU (.bool true);rw[aeq] at B7;have lA:=af jo;have M0:=af (HU.set tU);rw[iB,<-Z5.ae] at M0;have awd:=af (P.trans N7);have aws:ah (∀u,gh≠u->Kept u w5 W7):=fun u U=>(J u U).trans (K7 u U);clear jo p6;go_upto_region 18 with fail
   rw[lA.ae];clear xe hfz I5 lA K7 N7;go_wp2_with fail;go_roundw;exact⟨j+1,_,by omega,by go_num,M0,B7,awd,aws⟩;simp [RowKit.intOf];omega
  ·obtain rfl:j=mi:=Om;rw[dA (by rw[<-De.ae];exact aK _)] at HU;rw[<-Gh.ae] at HU;have SX:ah (ar wr wo.heap.size tE [.string ⟨nm.toArray⟩,.slice Bi j di]):=J tE Od _ _ _ zP;have lF:ah (ar wr w.heap.size kN [.slice A N c,aG g o R d,.slice D fl e,.int .i64 Yw]):=J kN Od _ _ _ BX5;have nB:ah (IL wr (.slice Bi j di) f):=Ls.kept cI jH J Od;have O6:=af (O5.only jY P Ro Oe);have cY:=af (en.only P Om);have yL:X.heap.size<=wr.heap.size:=a8 Cb P.size;clear zP BX5 jH O5 en P J Cb hj;generalize wr=w6 at*;have K:=SX.aD 1;go_upto_region 20 with fail
   clear K;go_loopw [10] (fun v10 wr=>∃k:Nat,1<=k/\k<=j/\v10= .int .i64 k/\ah (Ext w6 wr)) (fun v10 _=>j - (RowKit.intOf v10).toNat);exact⟨1,aK _,kA,rfl,aC _⟩;obtain⟨k,lS,hkj,rfl,l⟩:=hrel;have qB:=af (SX.ext l);have K:=qB.aD 1;by_cases Fm:k<j
   ·obtain⟨z,rfl⟩:∃z,k=z+1:=⟨k - 1,by omega⟩;have Y:z+1<f.length:=by rw[<-De.ae];exact Fm
    have hz0:z<f.length:=Om;have kf:ah (∃V Q,Bi=cT V Q/\∀m,Ext w6 m->m.cell? (aB V (Q+(z+1)))=some (.int .i64 f[z+1])/\m.cell? (aB V (Q+z))=some (.int .i64 f[z])):=by
     obtain⟨V,Q,e,_,_⟩:=io nB Y;refine⟨V,Q,e,fun m hx=>⟨?_,?_⟩⟩
     ·obtain⟨g',o',e',_,h⟩:=io (iP nB hx) Y;rw[e] at e';injection e' with e';injection e' with e1 e2;subst e1 e2;exact h
     ·obtain⟨g',o',e',_,h⟩:=io (iP nB hx) hz0;rw[e] at e';injection e' with e';injection e' with e1 e2;subst e1 e2;exact h
    obtain⟨V,Q,rfl,hcc⟩:=kf.ae;have sO:=af hcc;have hlt:f[z]<f[z+1]:=rH.1 lV z (z+1) hz0 Y Om;clear hcc kf;generalize f[z+1]=y1 at*;generalize f[z]=y0 at*;clear hz0 Y;have rp:IntKind.i64.wrap (z:Int)=(z:Int):=azL;have hzz:((z+1:Nat):Int) - 1=(z:Int):=Om;have QP:z<j:=Om;go_upto_region 22 with fail
    clear K;have bL:ah (∀m,Ext wr m->ay m wo.heap.size 1 (aG V Q j di)/\ay m V (Q+(z+1)) (.int .i64 y1)/\ay m V (Q+z) (.int .i64 y0)):=fun m hx=>⟨(qB.ext hx).aD 1,(sO m (l.trans hx)).1,(sO m (l.trans hx)).2⟩;have aH:ah (Ext wr wr.drew):=(aC wr).drew;refine b9 (S:=fun m=>Ext wr m) (T:=fun _=>false) Ok ?_;refine ax 0 64 ?_;refine ax 1 65 ?_;refine ax 2 66 ?_;refine ax 3 67 ?_;refine ax 4 68 ?_;refine ax 5 69 ?_;refine ax 6 70 ?_;refine ax 7 71 ?_;refine ax 8 72 (v:= .int .i64 z) ?_;refine ax 9 73 ?_;refine ax 10 74 ?_;refine ax 11 75 (v:= .bool false) ?_;refine bY Ok ?_;have kV:=af (l.trans aH);clear bL aH sO;go_wp2_with fail
    go_roundw;exact⟨z+1+1,by omega,by omega,by go_num,kV⟩;simp [RowKit.intOf];omega
   ·have Ml:decide (k<j)=false:=decide_eq_false Fm;have hwk:w6.heap.size<=wr.heap.size:=l.size;have O7:=af (O6.ext jY l);have BU7:=af (BU.ext l);have JM:=af (lF.ext l);have iy:=af (cY.trans l);go_wp2_with fail
    go_roundw;exact⟨i+1,bs,by omega,by go_num,O7,HU,BU7,JM,iy,by omega⟩;simp [RowKit.intOf];omega
 ·obtain rfl:i=R:=Om;open q73 in exact agR
def KA(v:Value)(x:aQ)(w:au)(h:dK w v x)(l:cF x):
 Calls prog 55 #[v] w fun e p=>e= .returned (.int .i64 0)/\Ext w p:=by
 have Q:=af (fun p G=>ajD v x p (h.ext G) l);have P:=af (fun p G=>ajI v x p (h.ext G) l);have O:=af (fun p G=>akc v x p (h.ext G) l);obtain⟨A,c,B,d,D,e,rfl,y,_,_⟩:=h;have Z:=af y;have a1:=l.a1;have a12:=l.a12;have r1:=l.r1;have r6:=l.r6;have f8:=l.f8;have lb:=l.lb;have t:=af l.lk;clear y l;obtain⟨f,n⟩:∃f,x.label=f:=⟨_,rfl⟩;rw[n] at lb t Q P O⊢;clear n;obtain⟨N,L⟩:∃N,x.aq.length=N:=⟨_,rfl⟩;have HN:=af L;rw[L] at Z a1 a12 lb Q P O⊢;clear L;generalize x.aA.length=R at*;generalize x.bk.length=M at*;have d1:decide (N>12)=false:=aW;have d2:decide (R>6)=false:=aW;have d3:decide (M>8)=false:=aW;have b1:((N:Int)==0)=false:=ayZ;have b2:((R:Int)==0)=false:=ayZ;have l1:decide (f< -1)=false:=aW;have l2:decide (f≥(N:Int))=false:=aW;have l2':decide ((N:Int)<=f)=false:=aW;go_enter func55,ntmps55;go_upto_region 1 with fail
 refine aP fun W Y U=> ?_;obtain⟨F,E,C,z⟩:=U.four;go_upto_region 4 with fail
 refine aP fun W2 s BF=> ?_;have T:=af (U.ext s);have k:=af (Y.trans s);clear F E C z U Y s;go_loopw [4,5,36] (fun _ _ r wr=>∃i:Nat,i<=3/\r= .int .i64 i/\ah (Ext W2 wr)) (fun _ _ r _=>3 - (RowKit.intOf r).toNat)
 exact⟨0,by omega,rfl,aC _⟩;obtain⟨i,hi,rfl,b⟩:=hrel;have S:=af (T.ext b);have u:=af (BF.ext b);obtain⟨F,E,C,z⟩:=S.four;rcases i with _|_|_|_|i
 ·have K:=u.aD 0;go_wp2_with fail;refine(Q _ (k.trans b)).mono ?_;rintro e V ⟨rfl,j⟩;have m:=af (b.trans j);clear F E C z K j;go_wp2_with fail
  go_roundw;exact⟨1,by omega,by go_num,m⟩;simp [RowKit.intOf]
 ·have K:=u.aD 1;go_wp2_with fail;refine(P _ (k.trans b)).mono ?_;rintro e V ⟨rfl,j⟩;have m:=af (b.trans j);clear F E C z K j;go_wp2_with fail
  go_roundw;exact⟨2,by omega,by go_num,m⟩;simp [RowKit.intOf]
 ·have K:=u.aD 2;go_wp2_with fail;refine(O _ (k.trans b)).mono ?_;rintro e V ⟨rfl,j⟩;have m:=af (b.trans j);clear F E C z K j;go_wp2_with fail
  go_roundw;exact⟨3,by omega,by go_num,m⟩;simp [RowKit.intOf]
 ·by_cases J:0<=f
  ·obtain⟨a,y,hk⟩:=t J;obtain⟨q,rfl⟩:∃q:Nat,f=(q:Int):=⟨f.toNat,by omega⟩;rw[kF] at y;obtain⟨I,H⟩:=vO.1 y;obtain⟨g,o,rfl, -, -,hp⟩:=oL (bX mS Z (k.trans b)) I;rw[H,hk] at hp;have X:q<N:=by rw[<-HN.ae];exact I
   have l3:decide ((q:Int)≥0)=true:=fF;have l4:decide (N<=q)=false:=aW;clear y H J t;go_wp2;go_ret;exact⟨rfl,k.trans b⟩
  ·have l3:decide (f≥0)=false:=aW;have l3':decide (0<=f)=false:=aW;go_wp2;go_ret;exact⟨rfl,k.trans b⟩
 ·omega

section
variable{P:Program}{ops:Array Oper}{Q:Exit->Act->World->Prop}{md:Region.Mode}{S:World->Prop}{T:Nat->Bool}
end

def adg:ko prog 26 Bp 2 24:= .mk' (z:= .agg #[.string ⟨#[]⟩,av 0]) Ok Ok rfl Od Od
def acz:ko prog 27 tE 2 40:= .mk' (z:= .agg #[.string ⟨#[]⟩,.slice none 0 0]) Ok Ok rfl Od Od
def ac_:ko prog 28 EF 3 24:= .mk' (z:= .agg #[av 0,av 0,av 0]) Ok Ok rfl Od Od
abbrev y9(wz:au):World->List Value->Rl->Prop:=fun _=>Cs wz
def y9.jN(wz:au):j7 [] (y9 wz):=fun _ _ _ _ _ h=>h
structure SB(w0:au)(g b base:Nat)(z cs:List Value)(wz:au)(va vr vf:Value)(aq:List k6)(aA:List Rl)(bk:List Fe)(w:au):Prop where
 blk:ar w (b+1) kN cs
 res:ar w b kN z
 oa:bH Bp 2 yF base w va aq
 ol:bH tE 2 (y9 wz) base w vr aA
 of:bH EF 3 xI base w vf bk
 src:cJ w g
 on:Only g w0 w
 kz:Kept aU wz w
 sz:base<=w.heap.size
 zz:wz.heap.size<=w.heap.size
section
variable{w0 w w' wz:au}{g b base n k:Nat}{z cs xs:List Value}{va vr vf v va' Yc Yd:Value}{aq:List k6}{aA:List Rl}{bk:List Fe}
structure Bs(w0:au)(g b base:Nat):Prop where
 g0:g<w0.heap.size
 b0:w0.heap.size<=b
 bb:b+1<base
theorem SB.ext(h:SB w0 g b base z cs wz va vr vf aq aA bk w)(a:Ext w w'):SB w0 g b base z cs wz va vr vf aq aA bk w':=
 ⟨h.blk.ext a,h.res.ext a,h.oa.ext mS a,h.ol.ext (y9.jN wz) a,h.of.ext uN a,h.src.ext a,h.on.trans (ei a),h.kz.trans (.jd a),a8 h.sz a.size,a8 h.zz a.size⟩
theorem SB.call(q:Bs w0 g b base)(h:SB w0 g b base z cs wz va vr vf aq aA bk w)(a:Only g w w')(d:cJ w' g):SB w0 g b base z cs wz va vr vf aq aA bk w':=
 have q1:=q.g0;have q2:=q.b0;have q3:=q.bb;⟨h.blk.only a Om,h.res.only a Om,h.oa.only mS a Om Oe,h.ol.only (y9.jN wz) a Om Oe,h.of.only uN a Om Oe,d,h.on.trans a,h.kz.trans (uM h.src a Od),a8 h.sz a.size,a8 h.zz a.size⟩
theorem SB.PX(h:SB w0 g b base z cs wz va vr vf aq aA bk w):SB w0 g b base z cs w va vr vf aq aA bk w:=
 ⟨h.blk,h.res,h.oa,(by obtain⟨xs,f,e⟩:=h.ol;exact⟨xs,f,e.mono fun c x d=>oF _ _ _ _ (fun u a=>by rw[bG.1 a];exact h.kz) d⟩),h.of,h.src,h.on,jL _ _,h.sz,aK _⟩
theorem SB.put(q:Bs w0 g b base)(h:SB w0 g b base z cs wz va vr vf aq aA bk w)(i:Nat)(x:Value):∃W,w.setCell (aB (b+1) i) x=W/\ah (SB w0 g b base z (cs.set i x) wz va vr vf aq aA bk W)/\ah (Only (b+1) w W):=by have q1:=q.g0;have q2:=q.b0;have q3:=q.bb;obtain⟨W,hW,e,d,a⟩:=gp (i:=i) h.blk x;refine⟨W,hW,⟨e,h.res.only a Om,h.oa.only mS a Om Oe,h.ol.only (y9.jN wz) a Om Oe,h.of.only uN a Om Oe,h.src.past a Om,h.on.fresh a Om,h.kz.trans (d _ Od),a8 h.sz a.size,a8 h.zz a.size⟩,a⟩
theorem SB.aiR(q:Bs w0 g b base)(h:SB w0 g b base z cs wz va vr vf aq aA bk w){x:k6}(d:aq.length=n)(hown:w.ownsRow base Bp 2 va n xs)(f:Ch (yF w) xs aq)(c:w'.ownsRow base Bp 2 va' (n+1) (xs++ [aO x.1,av x.2]))(hg:w.grownBy w' va.ownBlock):
 SB w0 g b base z cs wz va' vr vf (aq++ [x]) aA bk w':=by
 have q1:=q.g0;have q2:=q.b0;have q3:=q.bb;subst d;refine⟨ip h.blk hown hg q3,ip h.res hown hg Om,iN (R:=yF) mS Oe hown f rfl c hg,?_,?_,h.src.grown hg (fun j e=>by have:=(hown.lt j e).1;omega),DX h.on hown hg Om,h.kz.trans (jW hown hg Od),a8 h.sz hg.size,a8 h.zz hg.size⟩
 ·exact Xa
 ·exact Xe
theorem SB.aiO(q:Bs w0 g b base)(h:SB w0 g b base z cs wz va vr vf aq aA bk w){x:Rl}(l:aA.length=n)(hown:w.ownsRow base tE 2 vr n xs)(p:Ch (y9 wz w) xs aA)(e:IL wz (.slice E a c) x.2)(i:w'.ownsRow base tE 2 Yc (n+1) (xs++ [aO x.1,.slice E a c]))(hg:w.grownBy w' vr.ownBlock):
 SB w0 g b base z cs wz va Yc vf aq (aA++ [x]) bk w':=by
 have q1:=q.g0;have q2:=q.b0;have q3:=q.bb;subst l;refine⟨ip h.blk hown hg q3,ip h.res hown hg Om,?_,iN (R:=y9 wz) (y9.jN wz) Oe hown p ⟨E,a,c,rfl,e⟩ i hg,?_,h.src.grown hg (fun j o=>by have:=(hown.lt j o).1;omega),DX h.on hown hg Om,h.kz.trans (jW hown hg Od),a8 h.sz hg.size,a8 h.zz hg.size⟩
 ·exact W_
 ·exact Xe
theorem SB.aiQ(q:Bs w0 g b base)(h:SB w0 g b base z cs wz va vr vf aq aA bk w){x:Fe}(d:bk.length=n)(hown:w.ownsRow base EF 3 vf n xs)(f:Ch (xI w) xs bk)(c:w'.ownsRow base EF 3 Yd (n+1) (xs++ [av x.1,av x.2.1,av x.2.2]))(hg:w.grownBy w' vf.ownBlock):
 SB w0 g b base z cs wz va vr Yd aq aA (bk++ [x]) w':=by
 have q1:=q.g0;have q2:=q.b0;have q3:=q.bb;subst d;refine⟨ip h.blk hown hg q3,ip h.res hown hg Om,?_,?_,iN (R:=xI) uN Oe hown f rfl c hg,h.src.grown hg (fun j e=>by have:=(hown.lt j e).1;omega),DX h.on hown hg Om,h.kz.trans (jW hown hg Od),a8 h.sz hg.size,a8 h.zz hg.size⟩
 ·exact W_
 ·exact Xa
theorem SB.aiP(q:Bs w0 g b base)(h:SB w0 g b base z cs wz va vr vf aq aA bk w)(h2:base<=a)(c:wz.heap.size<=a)(hown:w.ownsRow a aU 1 v n xs)(hg:w.grownBy w' v.ownBlock):SB w0 g b base z cs wz va vr vf aq aA bk w':=by
 have q1:=q.g0;have q2:=q.b0;have q3:=q.bb;refine⟨ip h.blk hown hg Om,ip h.res hown hg Om,?_,?_,?_,h.src.grown hg (fun j d=>by have:=(hown.lt j d).1;omega),DX h.on hown hg Om,Kept.base h.kz hown hg c,a8 h.sz hg.size,a8 h.zz hg.size⟩
 ·exact W_
 ·exact Xa
 ·exact Xe
end
def OM{n:Nat}(h:n<10):cL ((n:Int):Rat)= [UInt8.ofNat (48+n)]:=by rw[acA,rS,l_ h]
def aa2:cL (1/2:Rat)= [49,47,50]:=by have b:((1:Rat)/2).num=((1:Nat):Int):=Ok;have a:((1:Rat)/2).den=2:=Ok;rw[qH (by rw[a];decide),b,a,rS,l_ Od,l_ Od];rfl
def Ls.axo{α:Type}{R:World->List Value->α->Prop}{l:List α}(c:ar m a w t)(b:Ch (R m) t l)(d:l.length<=1000):Ls w R m (aG a 0 l.length l.length) l:=
 ⟨cT a 0,l.length,t,rfl,aK _,by unfold maxLen;omega,Oe,c.sl 0,b⟩
def mf:=@Ls.axo
def WO:cL (1:Rat)= [49]:=OM (n:=1) Od
def WN:cL (2:Rat)= [50]:=OM (n:=2) Od
def asW:cL (4:Rat)= [52]:=OM (n:=4) Od
def Vd(h:decide (H.num.natAbs<100/\H.den<100)=true):bS 400 H:=by have h:=of_decide_eq_true h;exact(show bS 2 H from h).mono Od
def Io(l:List k6):Prop:=∀i (h:i<l.length),l[i].1= [97,UInt8.ofNat (97+i)]/\1<=l[i].2/\l[i].2<=3
def Io.snoc{l:List k6}{k:Int}(h:Io l)(d:1<=k)(c:k<=3):Io (l++ [([97,UInt8.ofNat (97+l.length)],k)]):=by
 intro i b;rcases cA i l.length with a|a
 ·rw[aag a];exact h i a
 ·have:i=l.length:=by rw[bC,iM] at b;omega
  subst this;rw[aac (aK _)];simp only[OD,List.getElem_singleton];exact⟨trivial,d,c⟩
def tD(n:Nat)(l:List Rl):Prop:=∀i (h:i<l.length),l[i].1= [114,UInt8.ofNat (97+i)]/\l[i].2≠ []/\(∀a∈l[i].2,0<=a/\a<(n:Int))/\l[i].2.Pairwise (·<·)
def tD.mono{l:List Rl}(h:tD a l)(o:a<=b):tD b l:=fun i d=>by obtain⟨k,j,g,f⟩:=h i d;exact⟨k,j,fun c e=>by have:=g c e;omega,f⟩
def tD.snoc{l:List Rl}{x:List Int}(h:tD a l)(g:x≠ [])(f:∀b∈x,0<=b/\b<(a:Int))(e:x.Pairwise (·<·)):tD a (l++ [([114,UInt8.ofNat (97+l.length)],x)]):=by
 intro i d;rcases cA i l.length with c|c
 ·rw[aag c];exact h i c
 ·have:i=l.length:=by rw[bC,iM] at d;omega
  subst this;rw[aac (aK _)];simp only[OD,List.getElem_singleton];exact⟨trivial,g,f,e⟩
def Qi(n:Nat)(l:List Rl):Prop:=∀a:Nat,a<n->∃r∈l,(a:Int)∈r.2
structure LI(n0 n:Nat)(l:List Int):Prop where
 ua:l.Pairwise (·<·)
 wP:∀a∈l,0<=a/\a<(n:Int)
 all:∀a:Nat,n0<=a->a<n->(a:Int)∈l
 len:l.length<=n
def LI.snoc(h:LI a b L):LI a (b+1) (L++ [(b:Int)]):=by
 refine⟨Tf.2 ⟨h.ua,JW _ _,fun c e d g=> ?_⟩,fun c e=> ?_,fun c i j=> ?_,by rw[bC,iM];have:=h.len;omega⟩
 ·rw[bG.1 g];exact(h.wP c e).2
 ·rcases bQ.1 e with e|e
  ·have:=h.wP c e;omega
  ·rw[bG.1 e];omega
 ·rcases cA c b with f|f
  ·exact bQ.2 (.inl (h.all c i f))
  ·obtain rfl:c=b:=Om;exact bQ.2 (.inr (bG.2 rfl))
def LI.skip(h:LI a b L)(e:b<a):LI a (b+1) L:=
 ⟨h.ua,fun c d=>by have:=h.wP c d;omega,fun c g f=>by omega,by have:=h.len;omega⟩
def LI.start(b:Nat):LI b 0 []:=⟨List.Pairwise.nil,Oe,(fun a _ h=>by omega),aK _⟩
structure FI(aq:List k6)(j:Nat)(bk:List Fe)(label:Int):Prop where
 wP:∀f∈bk,f.1<(j:Int)
 ok:∀f∈bk,ajr aq f
 ua:bk.Pairwise fun f h=>f.1<h.1
 len:bk.length<=j
 ne:∀f∈bk,f.1≠label
 lb:label= -1\/∃q:Nat,label=(q:Int)/\q<j/\∃a,aq[q]?=some a/\a.2=2
def FI.start(a:List k6):FI a 0 [] (-1):=⟨Oe,Oe,List.Pairwise.nil,aK _,Oe,.inl rfl⟩
def FI.skip{c:List k6}{b:List Fe}(h:FI c a b B):FI c (a+1) b B:=
 ⟨fun f d=>by have:=h.wP f d;omega,h.ok,h.ua,by have:=h.len;omega,h.ne,h.lb.imp id fun⟨q,g,i,e⟩=>⟨q,g,by omega,e⟩⟩
def FI.label{d:List k6}{c:List Fe}{label:Int}(h:FI d a c label){b:k6}(g:d[a]?=some b)(i:b.2=2):FI d (a+1) c a:=
 ⟨fun f e=>by have:=h.wP f e;omega,h.ok,h.ua,by have:=h.len;omega,fun f e=>by have:=h.wP f e;omega,.inr ⟨a,rfl,by omega,b,g,i⟩⟩
def FI.snoc{e:List k6}{d:List Fe}(h:FI e a d B){k m:Int}{b:k6}(n:e[a]?=some b)(l:(k=1/\b.2=2/\(m=0\/m=1))\/(k=2/\b.2=3/\m=0)):FI e (a+1) (d++ [((a:Int),k,m)]) B:=by
 refine⟨fun f c=> ?_,fun f c=> ?_,?_,by rw[bC,iM];have:=h.len;omega,fun f c=> ?_,h.lb.imp id fun⟨q,g,p,o⟩=>⟨q,g,by omega,o⟩⟩
 ·rcases bQ.1 c with c|c
  ·have:=h.wP f c;omega
  ·rw[bG.1 c];show(a:Int)<_;omega
 ·rcases bQ.1 c with c|c
  ·exact h.ok f c
  ·rw[bG.1 c];exact⟨by show(0:Int)<=(a:Int);omega,b,n,l⟩
 ·refine Tf.2 ⟨h.ua,JW _ _,fun f c x i=> ?_⟩;rw[bG.1 i];exact h.wP f c
 ·rcases bQ.1 c with c|c
  ·exact h.ne f c
  ·rw[bG.1 c];rcases h.lb with r|⟨q,g,p,_⟩
   ·rw[r];show(a:Int)≠ -1;omega
   ·rw[g];show(a:Int)≠(q:Int);omega
def ofNat_inj(d:a<150)(c:b<150)(h:UInt8.ofNat (97+a)=UInt8.ofNat (97+b)):a=b:=by have h:=congrArg UInt8.toNat h;rw[Ti,Ti] at h;omega
def acV{c:UInt8}(d:H8 c)(h:a<7):qW [c,UInt8.ofNat (97+a)]:=by
 refine⟨by simp,by simp,fun x b=> ?_,fun x b=> ?_⟩
 ·simp only[dR,dG] at b;rw[<-b];exact d
 ·simp only[aI,bF,or_false] at b;rcases b with rfl|rfl
  ·exact .inl d
  ·rcases a with _|_|_|_|_|_|_|a;all_goals first|omega|decide
def aqV{b:List k6}{c:List Rl}{f:List Fe}(n:Io b)(k:tD b.length c)(t:Qi b.length c)(l:FI b b.length f B)(x:1<=b.length)(z:b.length<=6)(s:1<=c.length)(y:c.length<=3):cF ⟨b,c,f,B⟩:=by
 refine⟨x,by show b.length<=12;omega,s,by show c.length<=6;omega,by show f.length<=8;have:=l.len;omega,fun a h=> ?_,?_,fun a h=> ?_,fun r h=> ?_,?_,fun r h=> ?_,fun r h=> ?_,fun r h=> ?_,t,l.ok,?_,l.ne,?_,fun h=> ?_⟩
 ·obtain⟨i,d,rfl⟩:=ju h;have g:i<b.length:=d;rw[(n i d).1];exact acV Od Om
 ·refine rH.2 fun i j d m p e=> ?_;have g:i<b.length:=d;have o:j<b.length:=m;rw[(n i d).1,(n j m).1] at e;injection e with _ e;injection e with e _;have:=ofNat_inj Om Om e;omega
 ·obtain⟨i,d,rfl⟩:=ju h;exact(n i d).2
 ·obtain⟨i,d,rfl⟩:=ju h;have g:i<c.length:=d;rw[(k i d).1];exact acV Od Om
 ·refine rH.2 fun i j d m p e=> ?_;have g:i<c.length:=d;have o:j<c.length:=m;rw[(k i d).1,(k j m).1] at e;injection e with _ e;injection e with e _;have:=ofNat_inj Om Om e;omega
 ·obtain⟨i,d,rfl⟩:=ju h;exact(k i d).2.1
 ·obtain⟨i,d,rfl⟩:=ju h;exact(k i d).2.2.1
 ·obtain⟨i,d,rfl⟩:=ju h;exact(k i d).2.2.2
 ·exact l.ua.imp fun h e=>by omega
 ·rcases l.lb with h|⟨q,e,u,_⟩
  ·show -1<=B/\B<b.length
   omega
  ·show -1<=B/\B<b.length
   omega
 ·have C:0<=B:=h;rcases l.lb with A|⟨q,e,u,a,w,v⟩
  ·omega
  ·refine⟨a,?_,v⟩;show b[B.toNat]?=some a
   rw[e];exact w
def aqx{d:Func}{R:Ending->World->Prop}(c:d.results= #[.cell a kN])(e:Q.tmps.getD a undef=aJ b 0)(f:Q.defers= [])
 (i:ar m b kN [p,q,r,s]) (h:R (.returned (.agg #[p,q,r,s])) m):bodyPost prog d R .ret Q m:=
 bodyPost_ret (results_cell_row c Q.tmps _ b kN #[p,q,r,s] (0,0) _ e i underlying30 rfl Ok) f h
def Ww:Value->Nat
 | .slice _ n _=>n
 |_=>0
def Lu:List Value:= [.slice none 0 0,.slice none 0 0,.slice none 0 0,av 0]
def aj6(g b:Nat)(w:au)(h:cJ w g)(h1:1<=b)(h6:b<=6):
 Calls prog 24 #[aJ g 0,av b] w fun e w'=>∃x v,cF x/\x.aq.length<=b/\x.bk.length<=b/\x.aA.length<=3/\e= .returned v/\dK w' v x/\cJ w' g/\Only g w w':=by
 have HS:=af h;have hg:=h.lt;clear h;go_enter func24,ntmps24;go_upto_region 2 with fail
 refine fX fun W qo B1 B2=> ?_;have Rz:w.heap.size+1<W.heap.size:=B2.lt;have QB:Bs w g w.heap.size W.heap.size:=⟨hg,aK _,Rz⟩;have HQ:=af QB;have nA:ah (SB w g w.heap.size W.heap.size Lu [.slice none 0 0,.slice none 0 0,.slice none 0 0,av (-1)] W (.slice none 0 0) (.slice none 0 0) (.slice none 0 0) [] [] [] W):=
  ⟨B2,B1,f_,f_,f_,HS.ext qo,ei qo,jL _ _,aK _,aK _⟩
 clear B1 B2 QB;go_wp2_with fail;refine(acC g 1 3 W nA.src Od Od).mono ?_;rintro e w1 ⟨n,YV,hn3,rfl,U,Z⟩;have av3:=af (nA.call HQ Z U);clear U Z;go_wp2_with fail
 go_loopw [7] (fun v7 wr=>∃(i:Nat) (va vr:Value) (aq:List k6) (aA:List Rl) (wz:au),i<=n/\v7=av i/\aA.length=i/\aq.length<=b/\(0<i->1<=aq.length)/\ah (Io aq)/\ah (tD aq.length aA)/\ah (Qi aq.length aA)/\ah (SB w g w.heap.size W.heap.size Lu [va,vr,.slice none 0 0,av (-1)] wz va vr (.slice none 0 0) aq aA [] wr)) (fun v7 _=>n - (RowKit.intOf v7).toNat)
 exact⟨0,_,_,[],[],W,aT _,rfl,rfl,aT _,fun h=>by omega,Oy9,Oy9,Oy9,av3⟩;obtain⟨i,va,vr,aq,aA,wz,hi,rfl,I,B,ha1,O,fZ,Z2,av2⟩:=hrel;have c:=af av2.PX;obtain⟨E,D,uZ,rfl,_,_,_,_⟩:=c.oa.parts;obtain⟨A1,c1,xs1,rfl,_,_,_,_⟩:=c.ol.parts;have j_:=af I;rw[I] at c;clear I;have hb0:=c.blk.aD 0;have I8:W.heap.size<=wr.heap.size:=c.sz;generalize wr=wo at*;have hgo:g<wo.heap.size:=Om;by_cases I1:i<n
 ·go_upto_region 8 with fail
  go_loopw [8,24] (fun P H w2=>∃(j:Nat) (l:List Int),j<=aq.length/\H=av j/\ah (LI aq.length j l)/\ah (bH aU 1 dr wo.heap.size w2 P l)/\ah (SB w g w.heap.size W.heap.size Lu [.slice E aq.length D,.slice A1 i c1,.slice none 0 0,av (-1)] wo (.slice E aq.length D) (.slice A1 i c1) (.slice none 0 0) aq aA [] w2)) (fun _ H _=>aq.length - (RowKit.intOf H).toNat)
  exact⟨0,[],aT _,rfl,LI.start _,f_,c⟩;obtain⟨j,l,hj,rfl,t,HOl,d9⟩:=hrel;by_cases hja:j<aq.length
  ·go_wp2_with fail
   refine(oM g 3 wr d9.src Od Od).mono ?_;rintro e w3 ⟨r,hr,rfl,p,d⟩;have f:=af (d9.call HQ d p);have C:=af (HOl.only cI d hgo Oe);obtain⟨Al,cl,xl,rfl,_,_,HR,HC⟩:=C.parts;have nU:=t.len;clear p d;by_cases s:r=0
   ·have hb:((r:Int)==0)=true:=azt;have cK:(l.length+1)*8<=140737488355328:=Om;have hw:wo.heap.size<=w3.heap.size:=f.zz;clear s;go_wp2_with (at_builtin;refine gG rfl _ _ 22 rfl wo.heap.size jy _ _ _ rfl HR.ae #[av j] 1 1 rfl rfl rfl cK hw ?_)
    intro v' w4 Y M _;have O4:=af (iN (R:=dr) (x:=(j:Int)) cI Oe HR HC rfl Y M);have S4:=af (f.aiP HQ I8 (aK _) HR M);clear Y M;go_wp2;go_roundw;exact⟨j+1,l++ [(j:Int)],by omega,by go_num,t.snoc,O4,S4⟩;simp [RowKit.intOf];omega
   ·have hb:((r:Int)==0)=false:=ayZ;clear s;go_wp2;go_roundw;exact⟨j+1,l,by omega,by go_num,t.skip hja,C,f⟩;simp [RowKit.intOf];omega
  ·obtain rfl:j=aq.length:=Om;go_wp2_with fail;refine(oM g 3 wr d9.src Od Od).mono ?_;rintro e w3 ⟨k,hk,rfl,p,d⟩;have f:=af (d9.call HQ d p);have C:=af (HOl.only cI d hgo Oe);clear p d;go_upto_region 14 with fail
   obtain⟨n0,J⟩:∃n0,aq.length=n0:=⟨_,rfl⟩;have C_:=af J;rw[J] at f t⊢;clear J;go_loopw [8,10] (fun P v10 w4=>∃(l2:List Int) (mX:List k6) (F:Value) (k2:Int),n0<=mX.length/\mX.length<=b/\0<=k2+l2.length/\k2<=2/\v10=av k2/\ah (Io mX)/\ah (LI n0 mX.length l2)/\ah (bH aU 1 dr wo.heap.size w4 P l2)/\ah (SB w g w.heap.size W.heap.size Lu [F,.slice A1 i c1,.slice none 0 0,av (-1)] wo F (.slice A1 i c1) (.slice none 0 0) mX aA [] w4)) (fun P _ _=>b - Ww P)
   exact⟨l,aq,_,(k:Int),by rw[C_.ae];exact aK _,B,by omega,by omega,rfl,O,by rw[C_.ae];exact t,C,f⟩;obtain⟨l2,mX,F,k2,rx,nt,lS,L,rfl,Gs,mJ,et,mH⟩:=hrel;obtain⟨Al,cl,xl,rfl,_,_,HR,HC⟩:=et.parts;obtain⟨Aa,ca,xa,rfl,_,_,_,_⟩:=mH.oa.parts;have hb0:=mH.blk.aD 0;have nU:=mJ.len;by_cases hm:mX.length<b
   ·by_cases wY:0<k2
    ·skip
     exact m1
    ·by_cases hl0:l2.length=0
     ·have z:((l2.length:Int)==0)=true:=azt;clear hl0;exact m1
     ·have z:((l2.length:Int)==0)=false:=ayZ;exact m3
   ·by_cases hl0:l2.length=0
    ·obtain rfl:l2= []:=lH hl0;clear hl0;by_cases wY:0<k2
     ·exact m7
     ·exact m7
    ·have z:((l2.length:Int)==0)=false:=ayZ;by_cases wY:0<k2
     ·skip
      exact m3
     ·skip
      exact m3
 ·obtain rfl:i=n:=Om;go_upto_region 22 with fail;obtain⟨N,hN⟩:∃N,aq.length=N:=⟨_,rfl⟩;have HN:=af hN;rw[hN] at c hb0 B ha1⊢;clear hN hb0 hi;go_loopw [88] (fun G wr=>∃(j:Nat) (vf:Value) (bk:List Fe) (label:Int),j<=N/\G=av j/\ah (FI aq j bk label)/\ah (SB w g w.heap.size W.heap.size Lu [.slice E N D,.slice A1 i c1,vf,av label] wo (.slice E N D) (.slice A1 i c1) vf aq aA bk wr)) (fun G _=>N - (RowKit.intOf G).toNat)
  exact⟨0,_,[], -1,aT _,rfl,FI.start _,c⟩;obtain⟨j,vf,bk,label,hj,rfl,vI,d8⟩:=hrel;obtain⟨Af,cf,xf,rfl,_,_,_,_⟩:=d8.of.parts;by_cases Y7:j<N
  ·have A:j<aq.length:=by rw[HN.ae];exact Y7
   have hAL:AL wr (.slice E N D) aq:=d8.oa.ls;obtain⟨ga,oa,rfl,_,X,V⟩:=oL hAL A;have HAJ:ah (aq[j]?=some aq[j]):=aV A;have ave:=(O j A).2;clear hAL;generalize aq[j]=at_ at*;clear A;obtain⟨nm,kd⟩:=at_;simp only at X V ave;have z:label= -1\/0<=label:=by
    rcases vI.lb with h|⟨q,h,_,_⟩
    ·exact .inl h
    ·exact .inr Om
   have hgr:g<wr.heap.size:=by have:=d8.zz;omega
   go_upto_region 24 with fail
   refine aP fun W3 bZ BA=> ?_;have d8:=af (d8.ext bZ);have xM:=af BA.ae;have lS:=xM.aD 1;have hc3:=d8.blk.aD 3;clear X V BA;by_cases L:kd=2
   ·subst L;rcases z with rfl|hl0
    ·skip
     go_wp2_with fail
     refine(oM g 2 _ (d8.ae).src Od Od).mono ?_;rintro e wx ⟨r,hr,rfl,tT,rq⟩;have d8:=af ((d8.ae).call HQ rq tT);have xM:=af (xM.only rq Om);clear tT rq lS;have lS:=xM.aD 1;clear hc3;by_cases s:r=0
     ·have hb:((r:Int)==0)=true:=azt;have hc0:=d8.blk.aD 3;have ly:=d8.blk.frozen 3;obtain⟨W7,jo,S7,qi⟩:=d8.put HQ 3 (av j);have lA:=af jo;have nC:=af (vI.label HAJ rfl);clear jo s;go_upto_region 30 with fail
      rw[lA.ae];clear hc0 ly lS qi;go_wp2_with fail;go_roundw;exact⟨j+1,_,bk,(j:Int),by omega,by go_num,nC,S7⟩;simp [RowKit.intOf];omega
     ·have hb:((r:Int)==0)=false:=ayZ;clear s;exact m8
    ·have hlt:decide (label<0)=false:=aW;exact m8
   ·have hb:(kd==2)=false:=by rw[beq_eq_false_iff_ne];exact L
    clear hc3;by_cases hk3:kd=3
    ·subst hk3;clear hb;go_wp2_with fail;refine(oM g 4 _ (d8.ae).src Od Od).mono ?_;rintro e wx ⟨r3,hr3,rfl,tT,rq⟩;have d8:=af ((d8.ae).call HQ rq tT);have xM:=af (xM.only rq Om);clear tT rq lS;have lS:=xM.aD 1;by_cases hr3:0<r3
     ·have hb3:decide ((r3:Int)>0)=true:=fF;obtain⟨xf2,rf,cf2⟩:=d8.of;have RF:=af rf;have CF:=af cf2;clear rf cf2;have hc2:=d8.blk.aD 2;have cK:(bk.length+1)*24<=140737488355328:=by have:=vI.len;omega
      have Q:=d8.sz;go_wp2_with (at_builtin;refine gG rfl _ _ 28 rfl W.heap.size ac_ _ _ _ rfl RF.ae #[av j,av 2,av 0] 1 1 rfl rfl rfl cK Q ?_);intro v' wq iX kS _;obtain⟨Aq,cq,rfl,_,_,_⟩:=dZ iX;have S6:=af (d8.aiQ HQ (x:=((j:Int),2,0)) rfl RF.ae CF iX kS);clear iX kS hc2 cK Q;have hc0:=S6.blk.aD 2;have ly:=S6.blk.frozen 2;obtain⟨W7,jo,S7,qi⟩:=S6.put HQ 2 (.slice Aq (bk.length+1) cq);have lA:=af jo;have nC:=af (vI.snoc HAJ (k:=2) (m:=0) (.inr ⟨rfl,rfl,rfl⟩));clear jo;go_upto_region 30 with fail
      rw[lA.ae];clear hc0 ly lS qi;go_wp2_with fail;go_roundw;exact⟨j+1,_,bk++ [((j:Int),2,0)],label,by omega,by go_num,nC,S7⟩;simp [RowKit.intOf];omega
     ·have hb3:decide ((r3:Int)>0)=false:=aW;exact agw
    ·have hb3:(kd==3)=false:=by rw[beq_eq_false_iff_ne];exact hk3
     exact agw
  ·obtain rfl:j=N:=Om;have nC:ah (FI aq aq.length bk label):=by rw[HN.ae];exact vI
   rw[<-HN.ae] at d8 B ha1⊢;have hf8:¬(8<bk.length):=by have:=nC.len;omega
   have ayw:decide (bk.length>8)=false:=decide_eq_false hf8;have aN:=af (aqV O fZ Z2 nC Om Om (by rw[j_.ae];omega) (by rw[j_.ae];omega));have CK:ah (dK wr (.agg #[.slice E aq.length D,.slice A1 i c1,.slice Af bk.length cf,av label]) ⟨aq,aA,bk,label⟩):=by
    refine⟨E,D,A1,c1,Af,cf,?_,d8.oa.ls,?_,d8.of.ls⟩
    ·show _=Value.agg #[_,.slice A1 aA.length c1,_,_]
     rw[j_.ae]
    ·have h:=d8.PX.ol.ls;show y_ wr (.slice A1 aA.length c1) aA
     rw[j_.ae];exact h
   obtain⟨k0,k1,k2,k3⟩:=d8.blk.four;obtain⟨j0,j1,j2,j3⟩:=d8.res.four;obtain⟨f0,f1,f2,f3⟩:=d8.res.fO;obtain⟨W',jp,B7,K7,N7⟩:=EH d8.res (.slice E aq.length D) (.slice A1 i c1) (.slice Af bk.length cf) (av label);have HW:=af jp;have qq:=af (d8.src.past N7 Om);have F8:=af (d8.on.fresh N7 (aK _));have zh:=af (CK.kept K7 Od Od Od Od);have nx:bk.length<=b:=by have:=nC.len;omega
   clear jp;go_wp2;rw[HW.ae];exact aqx rfl rfl rfl B7.ae ⟨_,_,aN,B,nx,by show aA.length<=3;have h:=j_.ae;omega,rfl,zh,qq,F8⟩
def ame(A:aS)(n c:Nat)(xs:List Value)(w:au)(x:A=none->c=0)(o:Sl w aU A xs)(s:xs.length=n*1)(r:n<=c)(y:∀u∈xs,u.oneCell'=true)(E:n<=1000000):
 Calls prog 253 #[.slice A n c] w fun e w'=>∃d,e= .returned d/\w'.ownsRow w.heap.size aU 1 d n xs/\Ext w w':=by
 have C:=af o;have D:=af y;have l:=af s;rcases A with _|j
 ·have v:=x rfl;subst v;obtain rfl:n=0:=Om;have m:xs= []:=lH (by rw[l.ae]);subst m;have p:=fun w=>Td w 22 aU none 0 0 0 0 jy.ht;go_enter func253,ntmps253;go_wp2;go_ret;exact⟨_,rfl,lJ _ _ _ _,aC w⟩
 ·have k:=af (acO w aU 1);have g:=af (C.ext ((aC w).alloc (.cells #[] aU)));have f:(0+n)*8<=140737488355328:=Om;have p:=fun w=>Td w 22 aU (some j) n c 0 0 jy.ht;go_enter func253,ntmps253;go_wp2_with (at_builtin;refine AC rfl _ _ 22 rfl w.heap.size jy _ _ _ rfl k.ae (some j) n c xs rfl Oe l g D f Ou ?_)
  intro d w' q t _;have B:ah (Ext w w'):=jV ((aC w).alloc _) k t (aK _);have i:ah (w'.ownsRow w.heap.size aU 1 d n xs):=by rw[ah];simpa using q
  go_wp2;go_ret;exact⟨_,rfl,i,B⟩
def adX{α:Type}{R:World->List Value->α->Prop}{w:au}{n:Nat}{l:List α}(h:Ls x R w (.slice E n c) l):
 n=l.length/\n<=c/\(E=none->c=0)/\∃xs,Sl w x E xs/\Ch (R w) xs l:=by
 obtain⟨q,p,xs,e,i,o,g,f,d⟩:=h;injection e with m k j;subst m k j;exact⟨rfl,i,g,xs,f,d⟩
def arM{α:Type}{k:Nat}{R:World->List Value->α->Prop}{w:au}{base n:Nat}{xs:List Value}{l:List α}(h:w.ownsRow base x k p n xs)(d:n=l.length)(e:Ch (R w) xs l):∃A c,p= .slice A n c/\Ls x R w (.slice A n c) l:=by subst d;obtain⟨A,c,rfl,_,_,_⟩:=dZ h;exact⟨A,c,rfl,bH.ls (base:=base) (k:=k) ⟨xs,h,e⟩⟩
section
variable{a w w':au}{b bo base n:Nat}{ss z cs xs:List Value}{va vr vf Yc Yd:Value}{aq:List k6}{aA:List Rl}{bk:List Fe}
end
def Ib{n:Int}:∀{l:List Int} {k:Int},l.Pairwise (·<·)->(∀a∈l,k<=a/\a<n)->l= []\/(l.length:Int)+k<=n
 | [],_,_,_=> .inl rfl
 |x::l,k,f,h=>by
  have g:=h x Ou;have c:=jI.1 f;right;rcases Ib (k:=x+1) c.2 (fun a d=>⟨by have:=c.1 a d;omega,(h a azy).2⟩) with e|e
  ·subst e;simp only[cW,vU];omega
  ·simp only[cW];omega
def UG(s:List UInt8)(w:au)(h:qW s):
 Calls prog 65 #[aO s] w fun e z=>e= .returned (.bool true)/\Ext w z:=by
 obtain⟨d,C,u,v⟩:=h;have D:=af u;have F:=af v;clear u v;have b:∀(i:Nat) (h:i<s.length),(⟨s.toArray⟩:ByteArray)[i]'h=s[i]:=fun i h=>rfl;have E:=af b;have k:=b 0 Om;have a:=D _ (aV (show 0<s.length by omega));clear b;generalize s[0]=r at k a;have p:97<=r.toNat/\r.toNat<=122:=⟨ux.1 a.1,ux.1 a.2⟩;obtain⟨t,g⟩:∃n,r.toNat=n:=⟨_,rfl⟩;rw[g] at p;clear a;have A:((s.length:Int)==0)=false:=ayZ;have l:decide ((s.length:Int)>12)=false:=aW;have d97:decide ((t:Int)<97)=false:=aW;have d122:decide ((t:Int)>122)=false:=aW;go_enter func65,ntmps65;go_upto_region 3 with fail
 go_wp2_with fail
 clear k g A l d97 d122;go_loopw [3] (fun o wr=>∃i:Nat,i<=s.length/\o=av i/\ah (Ext w wr)) (fun o _=>s.length - (RowKit.intOf o).toNat);exact⟨0,aT _,rfl,aC _⟩;obtain⟨i,G,rfl,iZ⟩:=hrel;by_cases j:i<s.length
 ·have B:=E i j;have a:=F _ (aZ j);generalize s[i]=c at B a;obtain⟨m,q⟩:∃m,c.toNat=m:=⟨_,rfl⟩;have p:(97<=m/\m<=122)\/(m<97/\(m=45\/(48<=m/\m<=57))):=by
   rcases a with a|a|a
   ·have d:=ux.1 a.1;have f:=ux.1 a.2;rw[q] at d f;exact .inl ⟨d,f⟩
   ·have d:=ux.1 a.1;have f:=ux.1 a.2;rw[q] at d f;have y:m<=57:=f;have x:48<=m:=d;exact .inr ⟨by omega,.inr ⟨x,y⟩⟩
   ·have d:m=45:=by rw[<-q,a];rfl
    exact .inr ⟨by omega,.inl d⟩
  clear a;rcases p with⟨f,y⟩|⟨f,rfl|⟨x,H⟩⟩
  ·have d1:decide ((m:Int)≥97)=true:=fF;have d2:decide ((m:Int)<=122)=true:=fF;go_wp2;exact IC
  ·go_wp2;exact IC
  ·have d1:decide ((m:Int)≥97)=false:=aW;have d2:decide ((m:Int)≥48)=true:=fF;have d3:decide ((m:Int)<=57)=true:=fF;go_wp2;exact IC
 ·obtain rfl:i=s.length:=Om;go_wp2;go_ret;exact⟨rfl,iZ⟩
def ib(z:Int):Prop:= -1000000000<=z/\z<=1000000000
def ib.lt{z:Int}(h:ib z):z.natAbs<10^10:=by unfold ib at h;omega
def ib.y6(h:ib B):nDigits B.natAbs<=400:=a8 (AE (e:=9) h.lt) Od
def ib.aiL(h:ib B):cM B:=⟨10,by decide,h.lt⟩
def ib.two(h:ib B):(a_ B.natAbs).length<=2:=by have:=Ty h.lt;omega
def aly(v:Value)(z:Int)(w:au)(h:cH w v z)(b:ib z):
 Calls prog 174 #[v] w fun e a=>e= .returned (.tuple #[av z,.bool true])/\Ext w a:=by
 obtain⟨s,rfl,A,c,rfl,G,o⟩:=h;have q:=b.two;have x:=dm z.natAbs;have y:=(df z.natAbs).1;have f:=qJ q;have F:z.natAbs<=1000000000:=by unfold ib at b;omega
 have p:=af (fun a (l:Ext w a)=>Ih A c (a_ z.natAbs) 2 a Om Od (o.ext l));have g:=af (fun a (l:Ext w a)=>Kp A c (a_ z.natAbs) a q y (o.ext l));rw[f] at p;rw[x] at g;have H:=af o;generalize(a_ z.natAbs).length=n at*;have d:z=if decide (z<0) then -(z.natAbs:Int) else (z.natAbs:Int):=by
  by_cases h:z<0
  ·rw[decide_eq_true h];simp;omega
  ·rw[decide_eq_false h];simp;omega
 have i:=af d;clear d;generalize decide (z<0)=k at*;generalize z.natAbs=m at*;have d3:decide ((n:Int)>3)=false:=aW;have d62:decide ((m:Int)>4611686018427387904)=false:=aW;have u:IntKind.i64.wrap (m:Int)=(m:Int):=azL;have t:IntKind.i64.wrap (-(m:Int))= -(m:Int):=azL;have r:IntKind.u64.wrap (m:Int)=(m:Int):=ay_;go_enter func174,ntmps174;go_upto_region 1 with fail
 refine aP fun W j B=> ?_;obtain⟨E,D⟩:=B.two;go_wp2_with fail;refine(p _ j).mono ?_;rintro e C ⟨rfl,rfl⟩;go_upto_region 3 with fail
 go_quiet (first|(go_at_call 224;exact PY (p _ (j.drewN _)))|(go_at_call 225;exact PY (g _ (j.drewN _))));cases k with
 |true=>
  have b:z= -(m:Int):=by simpa using i.ae
  subst b;go_wp2;go_ret2;exact⟨rfl,j.drewN _⟩
 |false=>
  have b:z=(m:Int):=by simpa using i.ae
  subst b;go_wp2;go_ret2;exact⟨rfl,j.drewN _⟩
def ad5(z:Int)(w:au)(b:ib z):
 Calls prog 109 #[aO (aR z)] w fun e a=>e= .returned (.tuple #[av z,.bool true])/\Ext w a:=by
 have V:=af (fun a=>Kn z a b.y6);have R:=af (fun a=>UZ z a b.aiL.wide);have k:=af (fun v a (h:cH a v z)=>aly v z a h b);generalize aR z=t at*;go_enter func109,ntmps109;go_wp2_with fail
 refine(V w).mono ?_;rintro e i ⟨rfl,f⟩;go_wp2_with fail;refine(R i).mono ?_;rintro e g ⟨v,rfl,j,d⟩;go_wp2_with fail;refine(k v g j).mono ?_;rintro e l ⟨rfl,c⟩;go_wp2;go_ret2;exact⟨rfl,f.trans (d.trans c)⟩
def abZ(w:au):Calls prog 172 #[.string ⟨#[]⟩] w fun e a=>e= .returned (.bool false)/\Ext w a:=by have b:ah (trimPrefix [] [45]= []):=rfl;go_enter func172,ntmps172;go_wp2_with fail;refine(Tryz.strings_TrimPrefix _ _ w).mono ?_;rintro e c ⟨rfl,rfl⟩;simp only[b.ae];go_wp2;go_ret;exact⟨rfl,aC _⟩
def apz(w:au):Calls prog 109 #[.string ⟨#[]⟩] w fun e b=>e= .returned (.tuple #[av 0,.bool false])/\Ext w b:=by go_enter func109,ntmps109;go_wp2_with fail;refine(abZ w).mono ?_;rintro e c ⟨rfl,a⟩;go_wp2;go_ret2;exact⟨rfl,a⟩
def ae4(z:Int)(w:au)(b:ib z):
 Calls prog 107 #[aO (aR z)] w fun e a=>e= .returned (.bool true)/\Ext w a:=by
 have S:=af (fun a=>ad5 z a b);have d1:=decide_eq_true b.1;have d2:=decide_eq_true b.2;generalize aR z=t at*;go_enter func107,ntmps107;go_wp2_with fail
 refine(S w).mono ?_;rintro e d ⟨rfl,c⟩;go_wp2;go_ret;exact⟨rfl,c⟩
def ak_(w:au):Calls prog 170 #[.string ⟨#[]⟩] w fun e d=>e= .returned (.bool false)/\Ext w d:=by go_enter func170,ntmps170;go_wp2_with fail;refine(Py [] w Od Ou).mono ?_;rintro e c ⟨rfl,b⟩;go_wp2_with fail;refine(abZ c).mono ?_;rintro e f ⟨rfl,a⟩;go_wp2;go_ret;exact⟨rfl,b.trans a⟩
def am9(w:au):Calls prog 108 #[.string ⟨#[]⟩] w fun e b=>e= .returned (.tuple #[.string ⟨#[]⟩,.string ⟨#[]⟩,.bool false])/\Ext w b:=by go_enter func108,ntmps108;go_wp2_with fail;refine(ak_ w).mono ?_;rintro e c ⟨rfl,a⟩;go_wp2;go_ret3;exact⟨rfl,a⟩
def am'(q:Rat)(w:au)(i:bS 400 q):
 Calls prog 108 #[aO (cL q)] w fun e g=>e= .returned (.tuple #[aO (aR q.num),aO (aR q.den),.bool true])/\Ext w g:=by
 have V:=af (fun g=>ala q g i);have o:=vW q.num;have n:=i.dn;have p:=i.dd;by_cases l:q.den=1
 ·have m:=af (pG l);have k:aR q.den= [49]:=by rw[l];exact td
  rw[m.ae] at V⊢;rw[k];have c:=uJ q.num;generalize aR q.num=a at*;have HC:=af (fun w=>Py a w Om c);exact ahm
 ·have m:=af (qH l);have j:decDigits q.den=aR q.den:=(rS _).symm;have c:=uJ q.num;have d:=DZ q.den;have f:(aR q.num).length+(decDigits q.den).length<=10000000:=azZ;rw[m.ae] at V⊢;rw[j] at d f V⊢;generalize aR q.num=a at*;generalize aR q.den=b at*;have HC:=af (fun w=>VE a b w f d c);generalize a++47::b=r at*;exact ahm
def mG(q:Rat):Prop:=ib q.num/\q.den<=12
def mG.fit(h:mG H):bS 400 H:=bS.mono (e:=10) ⟨h.1.lt,by have:=h.2;omega⟩ Od
def mG.den(h:mG H):ib (H.den:Int):=by have:=h.2;unfold ib;omega
def eL(a:Int)(v:List UInt8):Prop:=v= []\/(a=3/\qW v)\/(a=1/\∃z:Int,v=aR z/\ib z)\/(a=2/\∃q:Rat,v=cL q/\mG q)
def ae0(z:Int):aR z≠ []:=by intro h;have a:=(UD z).1;rw[h] at a;exact DZ z.natAbs (a.symm.trans rfl)
def OX(q:Rat):cL q≠ []:=by
 by_cases h:q.den=1
 ·rw[pG h];exact ae0 _
 ·rw[qH h];simp
def Vb(n v:List UInt8)(a:Int)(w:au)(y:1<=a/\a<=3)(h:eL a v):
 Calls prog 58 #[.agg #[aO n,av a],aO v] w fun e b=>e= .returned (.bool true)/\Ext w b:=by
 have g:a=1\/a=2\/a=3:=Om;rcases h with rfl|⟨rfl,l⟩|⟨rfl,z,rfl,o⟩|⟨rfl,q,rfl,d⟩
 ·rcases g with rfl|rfl|rfl
  ·go_enter func58,ntmps58;exact Yn
  ·go_enter func58,ntmps58;go_upto_region 1 with fail
   refine aP fun W HX BX=> ?_;obtain⟨s0,s1⟩:=BX.two;go_wp2_with fail;refine(am9 W).mono ?_;rintro e w1 ⟨rfl,hx1⟩;go_wp2_with fail;refine(apz w1).mono ?_;rintro e k ⟨rfl,c⟩;go_wp2;go_ret;exact⟨rfl,HX.trans (hx1.trans c)⟩
  ·go_enter func58,ntmps58;exact Yn
 ·have WA:=af (fun b=>adr v b l);have f:(v== [])=false:=(by rw[beq_eq_false_iff_ne];intro h;have:=l.1;rw[h] at this;cases this)
  go_enter func58,ntmps58;exact ahd
 ·have j:=af (fun b=>ae4 z b o);have f:(aR z== [])=false:=by rw[beq_eq_false_iff_ne];exact ae0 z
  generalize aR z=v at*;go_enter func58,ntmps58;go_upto_region 1 with fail
  refine aP fun W HX BX=> ?_;obtain⟨s0,s1⟩:=BX.two;go_wp2_with fail;refine(j W).mono ?_;rintro e w1 ⟨rfl,hx1⟩;go_wp2;go_ret;exact⟨rfl,HX.trans hx1⟩
 ·have s:=af (fun b=>am' q b d.fit);have j:=af (fun b=>ae4 q.num b d.1);have r:=af (fun b=>ad5 q.den b d.den);have f:(cL q== [])=false:=by rw[beq_eq_false_iff_ne];exact OX q
  have p:=q.den_pos;have m:=d.2;have d1:=fF;have d2:decide ((q.den:Int)<=12)=true:=fF;generalize cL q=v at*;generalize aR q.num=u at*;generalize aR q.den=x at*;generalize q.den=A at*;clear d g;go_enter func58,ntmps58;go_upto_region 1 with fail
  refine aP fun W HX BX=> ?_;obtain⟨s0,s1⟩:=BX.two;go_wp2_with fail;refine(s W).mono ?_;rintro e w1 ⟨rfl,hx1⟩;go_wp2_with fail;refine(r w1).mono ?_;rintro e k ⟨rfl,c⟩;go_wp2_with fail;refine(j k).mono ?_;rintro e t ⟨rfl,i⟩;go_wp2;go_ret;exact⟨rfl,HX.trans (hx1.trans (c.trans i))⟩
def aa':∀(l:List Nat) (k:Nat),val (l.drop k)<=val l
 | [],k=>by simp
 |x::l,0=>aK _
 |x::l,k+1=>by have h:=aa' l k;have e:val (x::l)=x+B9*val l:=rfl;rw[aas,e];unfold B9;omega
def ajR(h:a<i.length):val (i.drop a)=val (i.drop (a+1))*1000000000+i[a]:=by rw[i6 h];have e:val (i[a]::i.drop (a+1))=i[a]+B9*val (i.drop (a+1)):=rfl;rw[e];unfold B9;omega
def abf(z:Int)(w:au)(d:ib z):
 Calls prog 102 #[aO (aR z)] w fun e p=>e= .returned (.tuple #[av z,.bool true])/\Ext w p:=by
 have V:=af (fun p=>OS z p d.y6);have RD:=af (fun p=>Hn z p d.aiL.wide);generalize aR z=t at*;go_enter func102,ntmps102;go_wp2_with fail
 refine(V w).mono ?_;rintro e w1 ⟨rfl,rfl⟩;go_wp2_with fail;refine(RD w).mono ?_;rintro e w2 ⟨v,rfl,hv,B⟩;obtain⟨A,c,rfl,hc,R⟩:=hv;go_upto_region 4 with fail
 refine aP fun W HX BX=> ?_;go_wp2_with fail;refine(PE 4611686018427387904 W Od Od).mono ?_;rintro e w3 ⟨v',rfl,Q,b⟩;obtain⟨A',c',rfl,T,E⟩:=Q;have Z:=af (B.trans (HX.trans b));have lG:=af (BX.ext b);have n9:=af (R.ext (HX.trans b));have s:=d.two;have r:(4611686018427387904:Int).natAbs=4611686018427387904:=rfl;have D:(a_ (4611686018427387904:Int).natAbs).length<=1000:=by have:=Ty (n:=(4611686018427387904:Int).natAbs) (e:=19) Od;omega
 have I:ew (val (a_ z.natAbs)) (val (a_ (4611686018427387904:Int).natAbs))= -1:=(by rw[dm,dm,r];exact Er (by unfold ib at d;omega));have RS:=af (fun p (hx:Ext w3 p)=>UJ A A' c c' (a_ z.natAbs) (a_ (4611686018427387904:Int).natAbs) p Om Om (df _) (df _) (R.ext (HX.trans (b.trans hx))) (E.ext hx));rw[I] at RS;have C:val (a_ z.natAbs)=z.natAbs:=dm _;have F:z.natAbs<=1000000000:=by unfold ib at d;omega
 have L:=af C;have x:z=if decide (z<0) then -(z.natAbs:Int) else (z.natAbs:Int):=by
  by_cases h:z<0
  ·rw[decide_eq_true h];simp;omega
  ·rw[decide_eq_false h];simp;omega
 have J:=af x;clear x C I r D E T R hc d B b BX;generalize a_ (4611686018427387904:Int).natAbs=l2 at*;generalize a_ z.natAbs=l at*;generalize decide (z<0)=P at*;generalize z.natAbs=m at*;go_upto_region 5 with fail
 refine aP fun W4 j BY=> ?_;have N:=af (lG.ext j);obtain⟨s0,s1⟩:=N.two;obtain⟨t0,t1⟩:=BY.two;have Y:=af (Z.trans j);have LS:=af (n9.ext j);have U:=af (RS W4 j);have mJ:=af s;have M:=af F;clear s F;go_wp2_with fail
 refine U.mono ?_;rintro e w5 ⟨rfl,O,rfl⟩;have K:=af (Y.drewN O);have X:=af (LS.ext ((aC _).drewN O));have lF:=af (N.drewN O);generalize W4.drewN O=W5 at*;clear s0 s1 t0 t1 BY;obtain⟨s0,s1⟩:=lF.two;generalize w2.heap.size=gx at*;have s:=mJ.ae;go_wp2;go_loopw [6,7] (fun a i wr=>∃k:Nat,k<=l.length/\i=av ((k:Int) - 1)/\a=av (val (l.drop k):Nat)/\∃q,wr=W5.drewN q) (fun _ i _=>(Lib.intOf i+1).toNat)
 exact⟨l.length,aK _,rfl,by rw[qD (aK _)];rfl,0,rfl⟩;obtain⟨k,hk,rfl,rfl,q,rfl⟩:=hrel;cases k with
 |succ k=>have H:k<l.length:=Om;obtain⟨g,o,rfl,_,S⟩:=X.at_ (mh H);have f:=ajR H;have G:=aa' l k;rw[L.ae] at G;have h9:=M.ae;have HVK:=af f;have hb1:val (l.drop (k+1))<=1:=Om;have hb2:l[k]<=1000000000:=Om;clear f G h9;generalize val (l.drop (k+1))=u at*;generalize l[k]=y at*;go_wp2;go_roundw;exact⟨k,by omega,by go_num,by rw[HVK.ae];go_num,_,rfl⟩;simp [Lib.intOf]
 |zero=>
  have f:val (l.drop 0)=m:=L.ae;rw[f];have h9:=M.ae;cases P with
  |true=>
   have d:z= -(m:Int):=by simpa using J.ae
   subst d;go_wp2;go_ret2;exact⟨rfl,K.drewN _⟩
  |false=>
   have d:z=(m:Int):=by simpa using J.ae
   subst d;go_wp2;go_ret2;exact⟨rfl,K.drewN _⟩
def adF(n v:List UInt8)(a:Int)(w:au)(y:1<=a/\a<=3)(h:eL a v):
 Calls prog 52 #[.agg #[aO n,av a],aO v] w fun e b=>e= .returned (.bool true)/\Ext w b:=by
 rcases h with rfl|⟨rfl,l⟩|h
 ·go_enter func52,ntmps52;exact Yn
 ·have WA:=af (fun b=>UG v b l);have i:(v== [])=false:=(by rw[beq_eq_false_iff_ne];intro h;have:=l.1;rw[h] at this;cases this)
  go_enter func52,ntmps52;exact ahd
 ·obtain⟨q,rfl,c,d⟩:∃q:Rat,v=cL q/\mG q/\(a=1/\q.den=1\/a=2):=by
   rcases h with⟨rfl,z,rfl,o⟩|⟨rfl,q,rfl,c⟩
   ·exact⟨(z:Rat),(pG (q:=(z:Rat)) rfl).symm,⟨o,by show 1<=12;decide⟩,.inl ⟨rfl,rfl⟩⟩
   ·exact⟨q,rfl,c,.inr rfl⟩
  have PA:=af (fun b=>abA q b c.fit);have BA:=af (fun b=>abf q.num b c.1);have SA:=af (fun b=>abf q.den b c.den);have i:(cL q== [])=false:=by rw[beq_eq_false_iff_ne];exact OX q
  rw[<-rS] at PA;have m:=c.2;have k:=c.1.1;have j:=c.1.2;have d2:decide ((q.den:Int)<=12)=true:=fF;have d3:decide (q.num≥ -1000000000)=true:=decide_eq_true k;have d4:decide (q.num<=1000000000)=true:=decide_eq_true j;have p:a=1->aR q.den= [49]:=by
   intro h;rcases d with⟨_,g⟩|g
   ·rw[g];exact td
   ·omega
  have f:a=1\/a=2:=by
   rcases d with⟨r,_⟩|g
   ·exact .inl r
   ·exact .inr g
  generalize cL q=v at*;generalize aR q.num=t at*;generalize aR q.den=u at*;generalize q.den=A at*;generalize q.num=x at*;rcases f with rfl|rfl
  ·obtain rfl:=p rfl;go_enter func52,ntmps52;go_upto_region 1 with fail;refine aP fun W HX BX=> ?_;obtain⟨s0,s1⟩:=BX.two;have s:=BX;exact m95
  ·skip
   go_enter func52,ntmps52;go_upto_region 1 with fail
   refine aP fun W HX BX=> ?_;obtain⟨s0,s1⟩:=BX.two;exact m95
end Go.Proofs.YthfffpcmldipgaaGreatDoor
