/- Texts of the proof, part 3. -/
import Derived.Test.YtehkcnbodcdijaaGreatDoorA2
namespace Go.Proofs.YtehkcnbodcdijaaGreatDoor
set_option maxHeartbeats 8000000
set_option linter.all false
set_option maxRecDepth 100000
variable{ar:Prop}
open Go.RowKit Go.Lib Go.Maps Go.ChangeShapes Go.WideShapes Go.ChangeAt Go.Proofs.Tryz
variable{a b c d e f g h:Nat}{i j k l:List Nat}{m n o:World}{p q r s:Value}{t u v:List Value}{w x:TypeId}{y z:Nat→Option Nat}{A:Nat→List Nat}{B C:Int}{E F:Option Addr}{H I:Rat}{J:Nat→Nat}{K:Nat→Bool}{L:List Int}{N:Array Bool}{O:Option Nat}{Q:Act}{R S:Bool}{T:List UInt8}
def B9:Nat:=1000000000
def val:List Nat->Nat
 | []=>0
 |x::r=>x+B9*val r
def bI(l:List Nat):Prop:=∀x∈l,x<B9
def gN(l:List Nat):Prop:=l.getLast?≠some 0
def Canon(l:List Nat):Prop:=bI l/\gN l
@[simp] theorem FK:val []=0:=rfl
@[simp] theorem mZ (x:Nat) (r:List Nat):val (x::r)=x+B9*val r:=rfl
def IK(a b:List Nat):val (a++b)=val a+B9^a.length*val b:=by
 induction a with
 |nil=>simp
 |cons x a c=>simp only[nK,mZ,c,cT,eA,gh];rw[er (B9^a.length) B9,fS];omega
def pT(a:List Nat)(x:Nat):val (a++ [x])=val a+B9^a.length*x:=by simp [IK]
def bI.nil:bI []:=by simp [bI]
def kK:=@bI.nil
def bI.cons(h:a<B9)(c:bI i):bI (a::i):=by
 intro y b;rcases aK.1 b with rfl|d
 ·exact h
 ·exact c y d
def rT:=@bI.cons
def bI.head(h:bI (a::i)):a<B9:=h a Ou
def bI.tail(h:bI (a::i)):bI i:=fun y b=>h y axK
def bI.take(h:bI l)(k:Nat):bI (l.take k):=fun x a=>h x (nJ a)
def bI.drop(h:bI l)(k:Nat):bI (l.drop k):=fun x a=>h x (Ij a)
def bI.append(e:bI i)(d:bI j):bI (i++j):=fun x c=>by
 rcases bO.1 c with h|h
 ·exact e x h
 ·exact d x h
def bI.snoc{x:Nat}(c:bI i)(b:x<B9):bI (i++ [x]):=c.append (rT b kK)
def bI.getElem(h:bI i){k:Nat}(a:k<i):i[k]<B9:=h _ Ou
def aq0(n:Nat):0<B9^n:=Nat.pow_pos Od
def j9(h:bI i):val i<B9^i.length:=by
 induction i with
 |nil=>simp
 |cons x i a=>
  have b:=a h.tail;have c:=h.head;simp only[mZ,cT,eA];have:B9*val i+B9<=B9*B9^i.length:=by rw[<-IE];exact h_ _ b
  rw[er (B9^i.length)];omega
def IX(h:∀x∈i,x=0):val i=0:=by
 induction i with
 |nil=>rfl
 |cons x i a=>simp only[mZ,h x Ou,a (fun y b=>h y axK)];rfl
def Cp(l:List Nat)(k:Nat):val l=val (l.take k)+B9^(l.take k).length*val (l.drop k):=by rw[<-IK,tH]
def Mn(l:List Nat)(k:Nat)(h:∀x∈l.drop k,x=0):val (l.take k)=val l:=by rw[Cp l k,IX h];simp
def MA(l:List Nat)(k:Nat)(h:k<l.length):val (l.take (k+1))=val (l.take k)+B9^k*l[k]:=by rw[fR h,pT,cO,i9 Om]
def gN.nil:gN []:=by simp [gN]
def gN.TT(a:0<i.length)(h:i[i.length - 1]≠0):gN i:=by unfold gN;rw[List.getLast?_eq_getElem?,aX Om];simpa using h
def gN.last(h:gN i)(a:0<i.length):i[i.length - 1]≠0:=by unfold gN at h;rw[List.getLast?_eq_getElem?,aX Om] at h;simpa using h
def gN.tail(h:gN (a::b::i)):gN (b::i):=by unfold gN at*;simpa using h
def gN.aq6(h:gN (a::i)):gN i:=by
 cases i with
 |nil=>exact gN.nil
 |cons y i=>exact h.tail
def Canon.nil:Canon []:=⟨kK,gN.nil⟩
def Canon.tail(h:Canon (a::i)):Canon i:=⟨h.1.tail,h.2.aq6⟩
def EX(h:gN i)(b:0<i.length):B9^(i.length - 1)<=val i:=by have c:=h.last b;have a:=MA i (i.length - 1) Om;rw[dD Om] at a;rw[a];have:B9^(i.length - 1)*1<=B9^(i.length - 1)*i[i.length - 1]:=h_ _ Om;omega
def B_(d:Canon i)(c:Canon j)(h:i.length<j.length):val i<val j:=by have g:=j9 d.1;have f:=EX c.2 Om;have e:B9^i.length<=B9^(j.length - 1):=fK Od Om;omega
def aab(e:bI i)(g:i.length=j.length)(k:Nat)(d:k<i.length)(h:i[k]<j[k])(c:i.drop (k+1)=j.drop (k+1)):val i<val j:=by
 rw[Cp i (k+1),Cp j (k+1),c,MA i k d,MA j k Om,cO,cO,i9 Om,i9 Om];have f:=j9 (e.take k);rw[cO,i9 Om] at f;have l:B9^k*i[k]+B9^k<=B9^k*j[k]:=by rw[<-IE];exact h_ _ h
 omega
def aam(d:Canon i)(c:Canon j)(h:val i=val j):i=j:=by
 induction i generalizing j with
 |nil=>
  cases j with
  |nil=>rfl
  |cons y j=>have:=B_ d c Ou;simp only[FK] at*;omega
 |cons x i e=>
  cases j with
  |nil=>have:=B_ c d Ou;simp only[FK] at*;omega
  |cons y j=>
   have g:=d.1.head;have f:=c.1.head;simp only[mZ] at h;have l:x=y:=(by have:=congrArg (·%B9) h;simp only[Nat.add_mul_mod_self_left] at this;rwa[uW g,uW f] at this)
   have k:val i=val j:=by unfold B9 at h;omega
   rw[l,e d.tail c.tail k]
def val_eq_zero(h:Canon i)(a:val i=0):i= []:=aam h Canon.nil a
def CK(h:Canon i)(b:i≠ []):0<val i:=by
 rcases j4 (val i) with a|a
 ·exact absurd (val_eq_zero h a) b
 ·exact a
def aiR(h:Canon i)(hv:val i<10^b):i.length<=b/9+1:=by
 rcases j4 i.length with d|d
 ·omega
 ·have j:=EX h.2 d;have c:B9^(i.length - 1)<10^b:=Om;have f:B9^(i.length - 1)=10^(9*(i.length - 1)):=by rw[Nat.pow_mul];rfl
  rw[f] at c;have g:=(Nat.pow_lt_pow_iff_right (a:=10) Od).1 c;omega
def limb(l:List Nat)(k:Nat):Nat:=l.getD k 0
def gT(h:a<i):limb i a=i[a]:=by rw[limb,eG,aX h];rfl
def rL{k:Nat}(h:l<=k):limb l k=0:=by rw[limb,eG,eT h];rfl
def ja(l:List Nat)(k:Nat):val (l.take (k+1))=val (l.take k)+B9^k*limb l k:=by
 rcases cA k l with h|h
 ·rw[MA l k h,gT h]
 ·rw[dD Om,dD h,rL h];simp
def bI.getD(h:bI i)(k:Nat):limb i k<B9:=by
 rcases cA k i with a|a
 ·rw[gT a];exact h.getElem a
 ·rw[rL a];decide
def pad(r:List Nat)(N:Nat):List Nat:=r++List.replicate (N - r.length) 0
def Cm{r:List Nat}{N:Nat}(h:r<=N):(pad r N)=N:=by simp [pad];omega
def apG(x:Nat)(h:i<a):(pad i a).set i x=pad (i++ [x]) a:=by obtain⟨m,b⟩:∃m,a - i=m+1:=⟨a - i.length - 1,by omega⟩;have c:a - (i.length+1)=m:=Om;simp [pad,b,c,List.replicate_succ]
def Tl(h:i=a):pad i a=i:=by simp [pad,h]
def NH(N:Nat):pad [] N=List.replicate N 0:=by simp [pad]
def SX(e:i.length=a)(h:val i+B9^a*b=val (j.take a)+val (k.take a))(d:c=limb j a+limb k a+b):
 val (i++ [c%B9])+B9^(a+1)*(c/B9)=val (j.take (a+1))+val (k.take (a+1)):=by
 rw[pT,e,ja,ja,eA,fS];have g:B9^a*(c%B9)+B9^a*(B9*(c/B9))=B9^a*c:=by rw[<-gh,Iq]
 have f:B9^a*c=B9^a*limb j a+B9^a*limb k a+B9^a*b:=by rw[d,gh,gh]
 omega
def aqr(g:bI j)(f:bI k)(m:i.length=a)(o:a=max j.length k.length+1)(h:val i+B9^a*b=val (j.take a)+val (k.take a)):val i=val j+val k:=by
 rw[dD Om,dD Om] at h;have w:=j9 g;have t:=j9 f;have s:B9^j.length<=B9^(a - 1):=fK Od Om;have q:B9^k.length<=B9^(a - 1):=fK Od Om;have l:B9^a=B9^(a - 1)*B9:=ax2;have p:B9^(a - 1)*2<=B9^a:=by rw[l];exact h_ _ Od
 have e:b=0:=by
  rcases j4 b with d|d
  ·exact d
  ·have:B9^a*1<=B9^a*b:=h_ _ d;omega
 subst e;omega
def abI(d:i.length=a)(h:val i+val (k.take a)=val (j.take a)+B9^a*b)(f:c+limb k a+b=limb j a+B9)(g:c/B9<=1):
 val (i++ [c%B9])+val (k.take (a+1))=val (j.take (a+1))+B9^(a+1)*(1 - c/B9):=by
 rw[pT,d,ja,ja,eA,fS];have o:c%B9+B9*(c/B9)=c:=Iq c B9;have e:c%B9+limb k a+b=limb j a+B9*(1 - c/B9):=by generalize c/B9=q at*;generalize c%B9=m at*;have:q=0\/q=1:=Om;unfold B9 at*;rcases this with rfl|rfl<;>omega
 have l:B9^a*(c%B9)+B9^a*limb k a+B9^a*b=B9^a*limb j a+B9^a*(B9*(1 - c/B9)):=by rw[<-gh,<-gh,<-gh,e]
 omega
def ER(e:Canon i)(d:Canon j)(h:val j<=val i):j<=i.length:=by
 rcases cA i j with c|c
 ·have:=B_ e d c;omega
 ·exact c
def ad2(o:Canon j)(m:Canon k)(f:i.length=j.length)(g:bI i)(d:val k<=val j)(h:val i+val (k.take j.length)=val (j.take j.length)+B9^j.length*a):val i=val j - val k:=by
 rw[dD (ER o m d),dD (aL _)] at h;have p:=j9 g;rw[f] at p;have l:a=0:=by
  rcases j4 a with e|e
  ·exact e
  ·have:B9^j.length*1<=B9^j.length*a:=h_ _ e;omega
 subst l;omega
def amm(m:i.length=a+b)(h:val i+B9^(a+b)*c=val (j.take (a+b))+B9^a*(d*val (k.take b)))(g:f=limb j (a+b))(l:e=f+d*limb k b+c):
 val (i++ [e%B9])+B9^(a+(b+1))*(e/B9)=val (j.take (a+(b+1)))+B9^a*(d*val (k.take (b+1))):=by
 rw[pT,m,ja k b,<-Ci,ja j (a+b),eA,fS,<-g];have s:B9^(a+b)*(e%B9)+B9^(a+b)*(B9*(e/B9))=B9^(a+b)*e:=by rw[<-gh,Iq]
 have q:B9^(a+b)*e=B9^(a+b)*f+B9^(a+b)*(d*limb k b)+B9^(a+b)*c:=by rw[l,gh,gh]
 have o:B9^a*(d*(val (k.take b)+B9^b*limb k b))=B9^a*(d*val (k.take b))+B9^(a+b)*(d*limb k b):=(by rw[gh,gh,mW,fS,ZI d (B9^b)]);omega
def II{x y:Nat}(b:x<B9)(a:y<B9):x*y<=999999998000000001:=by have:x*y<=999999999*999999999:=wV (by unfold B9 at b;omega) (by unfold B9 at a;omega);omega
def amn(d:i=a+l)(e:j=a+l)(hv:val j=val (k.take a)*val l)
 (h:val i+B9^(a+l.length)*b=val (j.take (a+l.length))+B9^a*(limb k a*val (l.take l.length))):val (i++ [b])=val (k.take (a+1))*val l:=by
 rw[dD Om,dD (aL _),hv] at h;rw[pT,d,h,ja k a,kZ,fS]
def ai_{rest:Nat}(e:a<i.length)(h:val (i.drop (a+1))=val j*b+rest)(f:c=rest*B9+limb i a):
 val (i.drop a)=val (c/b::j)*b+c%b:=by
 rw[jK e,mZ,h,<-gT e,mZ,kZ];have k:c/b*b+c%b=c:=Nat.div_add_mod' c b;have g:B9*(val j*b+rest)=B9*val j*b+rest*B9:=by rw[gh,fS,er rest]
 omega
def anx{rest:Nat}(c:rest<a)(e:b<B9):(rest*B9+b)/a<B9:=by rw[QS Om];have:(rest+1)*B9<=a*B9:=eK _ c;rw[kZ] at this;rw[er B9 a];omega
def F_:Nat->Nat->List Nat
 |0,_=> []
 |f+1,n=>if n=0 then [] else n%B9::F_ f (n/B9)
def a7(n:Nat):List Nat:=F_ n n
def abF(f n:Nat)(h:n<=f):Canon (F_ f n)/\val (F_ f n)=n:=by
 induction f generalizing n with
 |zero=>have:n=0:=Om
        subst this;exact⟨Canon.nil,rfl⟩
 |succ f d=>
  unfold F_;split
  ·rename_i c;subst c;exact⟨Canon.nil,rfl⟩
  ·rename_i c;have e:n/B9<=f:=by have:n/B9<n:=Nat.div_lt_self Om Od;omega
   obtain⟨b,a⟩:=d (n/B9) e;refine⟨⟨rT (fC _ Od) b.1,?_⟩,?_⟩
   ·generalize g:F_ f (n/B9)=r at*;cases r with
    |nil=>simp only[FK] at a;unfold gN;simp only[List.getLast?_singleton,ne_eq,dl];have:=uX n B9;rw[<-a] at this;omega
    |cons y r=>have:=b.2;unfold gN at*;simpa using this
   ·simp only[mZ,a];exact Iq n B9
def dE(n:Nat):Canon (a7 n):=(abF n n (aL _)).1
def dG(n:Nat):val (a7 n)=n:=(abF n n (aL _)).2
def ad0(h:Canon i):a7 (val i)=i:=aam (dE _) h (dG _)
def anq:a7 0= []:=rfl
def Rf{n:Nat}(h:n<10^e):(a7 n)<=e/9+1:=aiR (dE n) (by rwa[dG])
def ve{n:Nat}:a7 n= []↔n=0:=⟨fun h=>by rw[<-dG n,h];rfl,fun h=>by rw[h];rfl⟩
def val_two{v:List Nat}{n:Nat}(hn:2<=n)(f:v=n):val v=val (v.take (n - 2))+B9^(n - 2)*(limb v (n - 1)*B9+limb v (n - 2)):=by have b:=ja v (n - 2);have a:=ja v (n - 1);have e:n - 2+1=n - 1:=Om;have d:n - 1+1=n:=Om;rw[e] at b;rw[d,dD Om,b] at a;have c:B9^(n - 1)=B9^(n - 2)*B9:=ax2;rw[a,c,gh,er (limb v (n - 1)),<-fS];omega
def abx{u:List Nat}{n:Nat}(hn:2<=n)(h:u=n+1):val u=val (u.take (n - 2))+B9^(n - 2)*((limb u n*B9+limb u (n - 1))*B9+limb u (n - 2)):=by
 have c:=ja u (n - 2);have b:=ja u (n - 1);have a:=ja u n;have g:n - 2+1=n - 1:=Om;have f:n - 1+1=n:=Om;rw[g] at c;rw[f] at b;rw[dD Om] at a;have e:B9^(n - 1)=B9^(n - 2)*B9:=ax2;have d:B9^n=B9^(n - 2)*B9*B9:=by rw[<-eA,<-eA];congr 1;omega
 rw[a,b,c,e,d];generalize B9^(n - 2)=P;grind
section
variable{u v:List Nat}{n:Nat}(hn:2<=n)(hv:v.length=n)(hu:u.length=n+1)(dv:bI v)(du:bI u)
include hn hv
theorem arS:(limb v (n - 1)*B9+limb v (n - 2))*B9^(n - 2)<=val v:=by rw[val_two hn hv,er];omega
include dv in
theorem arT:val v<(limb v (n - 1)*B9+limb v (n - 2)+1)*B9^(n - 2):=by have h:=j9 (dv.take (n - 2));rw[cO,i9 Om] at h;rw[val_two hn hv,kZ,lX,er];omega
theorem ae7:limb v (n - 1)*B9^(n - 1)<=val v:=by have h:=ja v (n - 1);have a:n - 1+1=n:=Om;rw[a,dD Om] at h;rw[h,er];omega
include dv in
theorem anj:val v<(limb v (n - 1)+1)*B9^(n - 1):=by have h:=ja v (n - 1);have a:=j9 (dv.take (n - 1));rw[cO,i9 Om] at a;have b:n - 1+1=n:=Om;rw[b,dD Om] at h;rw[h,kZ,lX,er];omega
end
section
variable{u:List Nat}{n:Nat}(hn:2<=n)(hu:u.length=n+1)(du:bI u)
include hn hu
theorem arU:((limb u n*B9+limb u (n - 1))*B9+limb u (n - 2))*B9^(n - 2)<=val u:=by rw[abx hn hu,er];omega
include du in
theorem afB:val u<((limb u n*B9+limb u (n - 1))*B9+limb u (n - 2)+1)*B9^(n - 2):=by have h:=j9 (du.take (n - 2));rw[cO,i9 Om] at h;rw[abx hn hu,kZ _ 1,lX,er];omega
omit hn in
theorem aq4:limb u n*B9^n<=val u:=by have h:=ja u n;rw[dD Om] at h;rw[h,er];omega
include du in
theorem ali:val u<(limb u n*B9+limb u (n - 1)+1)*B9^(n - 1):=by have h:=afB hn hu du;have b:=du.getD (n - 2);have a:B9^(n - 1)=B9*B9^(n - 2):=ayq;rw[a,<-fS];refine cy h (eK _ ?_);rw[kZ _ 1];omega
end
structure JJ(u v:List Nat)(n q r:Nat):Prop where
 top:q*limb v (n - 1)+r=limb u n*B9+limb u (n - 1)
 up:val u<(q+1)*val v
 rb:r<B9+limb v (n - 1)
def ajD{u v:List Nat}{n:Nat}(hn:2<=n)(hv:v.length=n)(hu:u.length=n+1)(_dv:bI v)(du:bI u)(a:0<limb v (n - 1)):
 JJ u v n ((limb u n*B9+limb u (n - 1))/limb v (n - 1)) ((limb u n*B9+limb u (n - 1))%limb v (n - 1)):=by
 refine⟨Nat.div_add_mod' _ _,?_,?_⟩
 ·have e:=ali hn hu du;have b:=ae7 hn hv;have d:=Nat.lt_mul_div_succ (limb u n*B9+limb u (n - 1)) a;generalize limb u n*B9+limb u (n - 1)=T at*;have c:(T+1)*B9^(n - 1)<=(T/limb v (n - 1)+1)*val v:=(by refine aV (eK (B9^(n - 1)) (show T+1<=(T/limb v (n - 1)+1)*limb v (n - 1) by rw[er];omega)) ?_;rw[fS];exact h_ _ b)
  omega
 ·have:=fC (limb u n*B9+limb u (n - 1)) a;omega
def akL{u v:List Nat}{n:Nat}(hn:2<=n)(hv:v.length=n)(hu:u.length=n+1)(_dv:bI v)(du:bI u)(f:val u<B9*val v)(g:JJ u v n a b)(l:b<B9)
 (h:B9<=a\/b*B9+limb u (n - 2)<a*limb v (n - 2)):1<=a/\JJ u v n (a - 1) (b+limb v (n - 1)):=by
 have d:1<=a:=by
  rcases h with h|h
  ·unfold B9 at h;omega
  ·rcases j4 a with c|c
   ·subst c;simp at h
   ·exact c
 refine⟨d,?_,?_,by omega⟩
 ·have k:=g.top;have:a*limb v (n - 1)=(a - 1)*limb v (n - 1)+limb v (n - 1):=(by rw[<-oH];congr 1;omega)
  omega
 ·have e:a - 1+1=a:=Om;rw[e];rcases h with h|h
  ·exact cy f (eK _ h)
  ·have k:=afB hn hu du;have j:=arS hn hv;have i:(limb u n*B9+limb u (n - 1))*B9+limb u (n - 2)+1<=a*(limb v (n - 1)*B9+limb v (n - 2)):=(by rw[<-g.top,gh,<-fS,kZ];omega)
   have m:((limb u n*B9+limb u (n - 1))*B9+limb u (n - 2)+1)*B9^(n - 2)<=a*val v:=(by refine aV (eK _ i) ?_;rw[fS];exact h_ _ j);omega
def aq5{u v:List Nat}{n:Nat}(hn:2<=n)(hv:v.length=n)(hu:u.length=n+1)(dv:bI v)(_du:bI u)(a:val u<B9*val v):limb u n<=limb v (n - 1):=by
 rcases cA (limb v (n - 1)) (limb u n) with h|h
 ·exfalso;have g:=aq4 hu;have f:=anj hn hv dv;have d:(limb v (n - 1)+1)*B9^n<=limb u n*B9^n:=eK _ h;have e:B9^n=B9^(n - 1)*B9:=ax2;have c:B9*val v<=B9*((limb v (n - 1)+1)*B9^(n - 1)):=h_ _ Om;have b:B9*((limb v (n - 1)+1)*B9^(n - 1))=(limb v (n - 1)+1)*B9^n:=by rw[e];grind
  omega
 ·exact h
def amL{u v:List Nat}{n:Nat}(hn:2<=n)(hv:v.length=n)(hu:u.length=n+1)(dv:bI v)(du:bI u)(i:val u<B9*val v)(g:JJ u v n a b)
 (h:B9<=b\/(a<B9/\a*limb v (n - 2)<=b*B9+limb u (n - 2))):a<B9/\a*(limb v (n - 1)*B9+limb v (n - 2))<=(limb u n*B9+limb u (n - 1))*B9+limb u (n - 2):=by
 have d:=g.top;rcases h with h|⟨j,p⟩
 ·have k:=aq5 hn hv hu dv du i;have f:=du.getD (n - 1);have e:=dv.getD (n - 2);have o:limb u n*B9<=limb v (n - 1)*B9:=eK _ k;have c:a<B9:=by
   rcases cA a B9 with c|c
   ·exact c
   ·exfalso;have:B9*limb v (n - 1)<=a*limb v (n - 1):=eK _ c;rw[er] at this;omega
  refine⟨c,?_⟩;rw[<-d,gh,<-fS,kZ];have m:a*limb v (n - 2)<=B9*B9:=wV Om Om;have l:B9*B9<=b*B9:=eK _ h;omega
 ·refine⟨j,?_⟩;rw[<-d,gh,<-fS,kZ];omega
def akK{u v:List Nat}{n:Nat}(hn:2<=n)(hv:v.length=n)(hu:u.length=n+1)(dv:bI v)(_du:bI u)(b:0<limb v (n - 1))(c:a<B9)
 (h:a*(limb v (n - 1)*B9+limb v (n - 2))<=(limb u n*B9+limb u (n - 1))*B9+limb u (n - 2)):a*val v<=val u+val v:=by
 have m:=arU hn hu;have l:=arT hn hv dv;have k:=ae7 hn hv;have e:B9^(n - 1)=B9*B9^(n - 2):=ayq;have j:a*val v<=a*((limb v (n - 1)*B9+limb v (n - 2)+1)*B9^(n - 2)):=h_ _ Om;have i:a*((limb v (n - 1)*B9+limb v (n - 2)+1)*B9^(n - 2))=a*(limb v (n - 1)*B9+limb v (n - 2))*B9^(n - 2)+a*B9^(n - 2):=(by rw[kZ,lX,gh,fS])
 have g:a*(limb v (n - 1)*B9+limb v (n - 2))*B9^(n - 2)<=((limb u n*B9+limb u (n - 1))*B9+limb u (n - 2))*B9^(n - 2):=eK _ h;have f:a*B9^(n - 2)<=B9*B9^(n - 2):=eK _ Om;have d:1*B9^(n - 1)<=limb v (n - 1)*B9^(n - 1):=eK _ b;omega
def ajX{u v:List Nat}{y c':Nat}(g:i.length=a)(h:val i+c*val (v.take a)=val (u.take a)+B9^a*b)(f:d=c*limb v a+b)(e:y+d=limb u a+B9*c'):
 val (i++ [y])+c*val (v.take (a+1))=val (u.take (a+1))+B9^(a+1)*c':=by
 rw[pT,g,ja v a,ja u a,eA,fS,gh];have m:B9^a*y+B9^a*d=B9^a*limb u a+B9^a*(B9*c'):=by rw[<-gh,<-gh,e]
 have l:B9^a*d=B9^a*(c*limb v a)+B9^a*b:=by rw[f,gh]
 have j:c*(B9^a*limb v a)=B9^a*(c*limb v a):=ZI _ _ _;omega
def ajY{u v:List Nat}{n:Nat}(hv:v.length=n)(hu:u.length=n+1)(f:i.length=n)(up:val u<(b+1)*val v)
 (h:val i+b*val (v.take n)=val (u.take n)+B9^n*a) (j:a<=limb u n):val u/val v=b/\val (i++ [limb u n - a])=val u%val v:=by
 rw[dD Om] at h;have g:=ja u n;rw[dD Om] at g;have l:B9^n*limb u n=B9^n*a+B9^n*(limb u n - a):=by rw[<-gh];congr 1;omega
 have k:val (i++ [limb u n - a])+b*val v=val u:=by rw[pT,f];omega
 have e:val u/val v=b:=(by refine(Nat.div_eq_iff (by rcases j4 (val v) with d|d;(rw[d] at up;simp at up);exact d)).2 ⟨by omega,?_⟩;rw[kZ] at up;omega);refine⟨e,?_⟩;have:=uX (val u) (val v);rw[e,er] at this;omega
def alr{u v:List Nat}{n:Nat}(hv:v.length=n)(hu:u.length=n+1)(x:i.length=n)(t:j.length=n)(C:bI j)(dv:bI v)(up:val u<(b+1)*val v)(l:b*val v<=val u+val v)
 (h:val i+b*val (v.take n)=val (u.take n)+B9^n*a) (D:limb u n<a) (g:bI i) (y:val j+B9^n*c=val (i.take n)+val (v.take n)):
 1<=b/\val u/val v=b - 1/\val j=val u%val v/\limb u n+c=a:=by
 rw[dD Om] at h;rw[dD Om,dD Om] at y;have B:=ja u n;rw[dD Om] at B;have s:=j9 g;have o:=j9 C;have m:=j9 dv;rw[x] at s;rw[t] at o;rw[hv] at m;have G:B9^n*a=B9^n*limb u n+B9^n*(a - limb u n):=by rw[<-gh];congr 1;omega
 have F:B9^n*1<=B9^n*(a - limb u n):=h_ _ Om;have f:val u<b*val v:=Om;have w:1<=b:=by
  rcases j4 b with k|k
  ·subst k;simp at f
  ·exact k
 have H:b*val v=(b - 1)*val v+val v:=by rw[<-oH];congr 1;omega
 have A:val j+B9^n*c+(b - 1)*val v=val u+B9^n*(a - limb u n):=Om;have z:c=a - limb u n:=by
  rcases Mo c (a - limb u n) with e|e|e
  ·exfalso;have:B9^n*(c+1)<=B9^n*(a - limb u n):=h_ _ e;rw[IE] at this;omega
  ·exact e
  ·exfalso;have:B9^n*(a - limb u n+1)<=B9^n*c:=h_ _ e;rw[IE] at this;omega
 have E:val j+(b - 1)*val v=val u:=by rw[z] at A;omega
 have e:val u/val v=b - 1:=(by refine(Nat.div_eq_iff Om).2 ⟨by omega,by omega⟩);refine⟨w,e,?_,by omega⟩;have:=uX (val u) (val v);rw[e,er] at this;omega
def aoa(o:0<a)(m:a<B9):500000000<=a*(B9/ (a+1)):=by
 have g:=uX B9 (a+1);have d:=fC B9 (show 0<a+1 by omega);generalize e:B9/ (a+1)=f at*;generalize c:B9%(a+1)=r at*;have i:B9=1000000000:=rfl;rcases cA f 2 with h|h
 ·have:f=0\/f=1:=Om;rcases this with rfl|rfl
  ·omega
  ·omega
 ·rcases cA a 2 with b|b
  ·have:a=1:=Om;subst this;omega
  ·have l:f*(a - 1)≥2*(a - 1):=eK _ h;have k:(a+1)*f=f*(a - 1)+2*f:=(by have:a+1=(a - 1)+2:=Om;rw[this,kZ,er (a - 1)])
   have j:a*f=(a+1)*f - f:=by rw[kZ];omega
   omega
def ade{v:List Nat}{n:Nat}(r:Canon i)(hn:i=n)(D:1<=n)(t:a=B9/ (limb i (n - 1)+1))(hv:Canon v)(s:val v=val i*a):
 v.length=n/\500000000<=limb v (n - 1):=by
 have m:0<limb i (n - 1):=(by have:=r.2.last Om;rw[gT Om];have e:i.length - 1=n - 1:=Om;simp only[e] at this;omega);have l:=r.1.getD (n - 1);have c:=aoa m l;rw[<-t] at c;have z:=ja i (n - 1);have w:n - 1+1=n:=Om;rw[w,dD Om] at z;have o:=j9 (r.1.take (n - 1));rw[cO,i9 Om] at o;have p:(limb i (n - 1)+1)*a<=B9:=by rw[t];exact Nat.mul_div_le _ _
 generalize limb i (n - 1)=x at*;have y:val v<B9^n:=by
  have d:val i<(x+1)*B9^(n - 1):=by rw[kZ,lX,er];omega
  have q:0<a:=by
   rcases j4 a with h|h
   ·subst h;simp at c
   ·exact h
  have j:val i*a<(x+1)*B9^(n - 1)*a:=Zg d q;have k:(x+1)*B9^(n - 1)*a=(x+1)*a*B9^(n - 1):=by rw[fS,fS,er a]
  have B:(x+1)*a*B9^(n - 1)<=B9*B9^(n - 1):=eK _ p;have C:B9^n=B9*B9^(n - 1):=ayq;omega
 have A:500000000*B9^(n - 1)<=val v:=by
  have d:x*B9^(n - 1)<=val i:=by rw[er];omega
  have j:x*B9^(n - 1)*a<=val i*a:=eK _ d;have k:x*B9^(n - 1)*a=x*a*B9^(n - 1):=by rw[fS,fS,er a]
  have B:500000000*B9^(n - 1)<=x*a*B9^(n - 1):=eK _ c;omega
 have g:v=n:=by
  rcases Mo v.length n with h|h|h
  ·exfalso;have d:=j9 hv.1;have j:B9^v.length<=B9^(n - 1):=fK Od Om;have k:1*B9^(n - 1)<=500000000*B9^(n - 1):=eK _ Od;omega
  ·exact h
  ·exfalso;have d:=EX hv.2 Om;have j:B9^n<=B9^(v.length - 1):=fK Od Om;omega
 refine⟨g,?_⟩;have d:=ja v (n - 1);rw[w,dD Om] at d;have j:=j9 (hv.1.take (n - 1));rw[cO,i9 Om] at j;rcases cA (limb v (n - 1)) 500000000 with h|h
 ·exfalso;have k:(limb v (n - 1)+1)*B9^(n - 1)<=500000000*B9^(n - 1):=eK _ h;rw[kZ,lX,er (limb v (n - 1))] at k;omega
 ·exact h
structure zS(A V:Nat)(n m:Nat)(uw q:List Nat):Prop where
 ya:bI uw
 afF:bI q
 zero:∀x∈uw.drop (m+n),x=0
 rem:val ((uw.drop m).take n)<V
 sum:A=val q*(B9^m*V)+val uw
def aay{n:Nat}(h:zS a b n (c+1) i j)(d:c<i):val ((i.drop c).take (n+1))<B9*b:=by rw[jK d,QZ,mZ];have g:=h.ya.getElem d;have f:=h.rem;have e:B9*(val ((i.drop (c+1)).take n)+1)<=B9*b:=h_ _ f;rw[IE] at e;omega
def Z8(h:i=a):(i++j).drop a=j:=by subst h;simp
def akv{n:Nat}(h:zS a b n (c+1) i j)(B:c+n+1<=i)(hu:k=n+1)(du:bI k)(C:b<B9^n)(l:0<b)
 (p:val k=val ((i.drop c).take (n+1))%b):zS a b n c (i.take c++(k++i.drop (c+(n+1)))) (val ((i.drop c).take (n+1))/b::j):=by
 have r:=aay h Om;have t:val ((i.drop c).take (n+1))/b<B9:=by rw[QS l];exact r
 have m:∀x∈i.drop (c+(n+1)),x=0:=by have:=h.zero;rwa[Nat.add_right_comm,Ci c n 1] at this
 have d:(i.take c).length=c:=axw;have s:val k<b:=by rw[p];exact fC _ l
 have g:=ja k n;rw[dD Om] at g;have e:limb k n=0:=by
  rcases j4 (limb k n) with o|o
  ·exact o
  ·have:B9^n*1<=B9^n*limb k n:=h_ _ o;omega
 refine⟨(h.ya.take c).append (du.append (h.ya.drop _)),rT t h.afF,?_,?_,?_⟩
 ·intro x f;rw[<-y6,Z8 d,ZR,bO] at f;rcases f with f|f
  ·rw[jK Om,rz Om,bE,<-gT Om,e] at f;exact f
  ·exact m x (Ij f)
 ·rw[Z8 d,QM Om];rw[e] at g;omega
 ·have z:val i=val (i.take c)+B9^c*val ((i.drop c).take (n+1)):=(by rw[Cp i c,d,Cp (i.drop c) (n+1),y6,IX m];simp);have y:val (i.take c++(k++i.drop (c+(n+1))))=val (i.take c)+B9^c*val k:=(by rw[IK,d,IK,IX m];simp);have w:=uX (val ((i.drop c).take (n+1))) b;rw[h.sum,z,y,mZ,p,eA];generalize val ((i.drop c).take (n+1))=W at*;generalize W/b=Q at*;generalize W%b=R at*;generalize B9^c=P at*;rw[<-w];grind
def aku{r:List Nat}{n:Nat}(A:Canon i)(z:Canon j)(g:i=a)(hn:j=n)(C:1<=n)(q:n<=a)(s:0<b)(o:Canon r)(e:r<=a+1)(hv:val r=val i*b):
 zS (val i*b) (val j*b) n (a+1 - n) (pad r (a+1)) []:=by
 have d:val (pad r (a+1))=val i*b:=(by have m:val (List.replicate (a+1 - r.length) 0)=0:=IX (by intro x c;exact(Bw.1 c).2);rw[pad,IK,m,hv];simp);have p:=Cm (r:=r) (N:=a+1) e;refine⟨o.1.append (by intro x c;rw[Bw] at c;rw[c.2];decide),kK,?_,?_,?_⟩
 ·intro x c;rw[rz Om] at c;cases c
 ·rw[dD (by rw[qx];omega)];have y:=Cp (pad r (a+1)) (a+1 - n);rw[d,cO,i9 Om] at y;have l:=j9 A.1;have k:=EX z.2 Om;rw[g] at l;rw[hn] at k;have w:val i*b<B9^a*b:=Zg l s;have t:B9^a=B9^(a+1 - n)*B9^(n - 1):=ayy;have B:B9^(a+1 - n)*(B9^(n - 1)*b)<=B9^(a+1 - n)*(val j*b):=h_ _ (eK _ k);rw[t,fS] at w;rcases cA (val ((pad r (a+1)).drop (a+1 - n))) (val j*b) with h|h
  ·exact h
  ·exfalso;have:B9^(a+1 - n)*(val j*b)<=B9^(a+1 - n)*val ((pad r (a+1)).drop (a+1 - n)):=h_ _ h;omega
 ·rw[d];simp
def aoh{n:Nat}(o:0<b)(g:0<c)(h:zS (a*c) (b*c) n 0 i j):val j=a/b/\val (i.take n)/c=a%b/\val (i.take n)%c=0:=by
 have e:=h.rem;have d:=h.sum;rw[mV] at e;have k:=h.zero;rw[jL] at k;rw[E5,lX,<-Mn i n k] at d;generalize val (i.take n)=R at*;generalize val j=Q at*;have m:a*c/ (b*c)=Q:=(by rw[d,er Q,Nat.mul_add_div (Nat.mul_pos o g),Mr e,kH])
 have l:a*c%(b*c)=R:=(by rw[d,er Q,Nat.mul_add_mod,uW e]);rw[Nat.mul_div_mul_right _ _ g] at m;rw[Nat.mul_mod_mul_right] at l;rw[<-l,Nat.mul_div_cancel _ g,Nat.mul_mod_left];exact⟨m.symm,rfl,rfl⟩
def cZ(l:List Nat):List Value:=l.map fun x:Nat=>Value.int .u64 (x:Int)
def MK(l:List Nat):(cZ l).length=l.length:=by simp [cZ]
def kJ(h:a<i):(cZ i)[a]? =some (.int .u64 (i[a]:Int)):=by simp [cZ,h]
def Sm(l:List Nat)(k:Nat):(cZ l).take k=cZ (l.take k):=by simp [cZ,E1]
abbrev Lm(w:au)(A:aQ)(l:List Nat):Prop:=Sl w 265 A (cZ l)
def Behind(l:List Nat)(n:Nat):Prop:=n<=l.length/\∀x∈l.drop n,x=0
def Behind.step{n:Nat}(h:Behind i (n+1))(b:∀c:n<i,i[n]=0):Behind i n:=by
 refine⟨by have:=h.1;omega,fun x a=> ?_⟩;have hn:n<i.length:=by have:=h.1;omega
 rw[jK hn] at a;rcases aK.1 a with rfl|a
 ·exact b hn
 ·exact h.2 x a
def ano(A:aQ)(c:Nat)(l:List Nat)(w:au)(s:l<=c)(t:l.length<=1000000000)(j:Lm w A l):
 Calls prog 199 #[.slice A l c] w fun e p=>∃n,n<=l.length/\Behind l n/\gN (l.take n)/\e= .returned (.slice A n c)/\w=p:=by
 have r:=af j;clear j;go_enter func199,ntmps199;go_wp2;go_loop [3] (fun i=>∃n:Nat,n<=l.length/\i= .int .i64 n/\Behind l n) (fun i=>(intOf i).toNat);exact⟨l.length,aL _,rfl,⟨aL _,by simp⟩⟩;obtain⟨n,hn,rfl,m⟩:=hrel;have h:=af m;clear m;by_cases x:0<n
 ·obtain⟨k,rfl⟩:∃k,n=k+1:=⟨n - 1,by omega⟩;obtain⟨g,o,rfl,_,d⟩:=r.at_ (kJ (show k<l.length by omega));have q:decide ((0:Int)<(k:Int)+1)=true:=fN;by_cases a:l[k]=0
  ·have b:((l[k]:Int)==0)=true:=axx;have f:=af a;clear a;go_wp2;go_round;exact⟨k,by omega,by go_num,h.step (fun _=>f.ae)⟩;simp [intOf]
  ·have b:((l[k]:Int)==0)=false:=axB;have f:=af a;clear a;go_wp2;go_ret;refine⟨k+1,hn,h,?_,rfl,rfl⟩;exact gN.TT Oc (by simpa [cO,i9 hn] using f.ae)
 ·obtain rfl:n=0:=Om;go_wp2;go_ret;exact⟨0,by omega,h,by simpa using gN.nil,rfl,rfl⟩
def tS(A:aQ)(c n:Nat)(l:List Nat)(w:au)(hn:l.length=n)(g:n<=c)(h:n<=1000000000)(d:bI l)(b:Lm w A l):
 Calls prog 199 #[.slice A n c] w fun e a=>∃r,r.length<=n/\e= .returned (.slice A r.length c)/\Canon r/\val r=val l/\Lm a A r/\w=a:=by
 subst hn;refine(ano A c l w g h b).mono ?_;rintro e a ⟨m,k,i,f,rfl,rfl⟩;have j:(l.take m).length=m:=axw;exact⟨l.take m,by omega,by rw[j],⟨d.take m,f⟩,Mn l m i.2,by unfold Lm;rw[<-Sm];exact b.take m,rfl⟩
def anw(n:Int)(w:au):
 Calls prog 259 #[.int .i64 n] w fun e c=>e= .returned (.int .i64 n.sign)/\w=c:=by
 rcases Int.lt_trichotomy n 0 with h|h|h
 ·have a:n.sign= -1:=Zi h;have b:=af a;clear a;go_enter func259,ntmps259;go_wp2;go_ret;exact⟨qG b.symm,rfl⟩
 ·subst h;go_enter func259,ntmps259;go_wp2;go_ret;exact⟨rfl,rfl⟩
 ·have a:n.sign=1:=Ie h;have b:=af a;clear a;have d:¬n<0:=Om;go_enter func259,ntmps259;go_wp2;go_ret;exact⟨qG b.symm,rfl⟩
def FW(A:aQ)(c:Nat)(l:List Nat)(i:Nat)(w:au)(_hc:l.length<=1000000000)(_hi:i<=2000000000)(d:Lm w A l):
 Calls prog 258 #[.slice A l c,.int .i64 i] w fun e f=>e= .returned (.int .u64 (limb l i:Nat))/\w=f:=by
 have j:=af d;clear d;by_cases h:i<l
 ·obtain⟨g,o,rfl,_,a⟩:=j.at_ (kJ h);have b:ah (limb l i=l[i]):=gT h;go_enter func258,ntmps258;go_wp2;go_ret;exact⟨qG (by rw[b.ae]),rfl⟩
 ·have b:ah (limb l i=0):=rL Om;go_enter func258,ntmps258;go_wp2;go_ret;exact⟨qG (by rw[b.ae];rfl),rfl⟩
def eM(a b:Nat):Int:=if a<b then -1 else if b<a then 1 else 0
def Da(h:a<b):eM a b= -1:=by simp [eM,h]
def NS(h:b<a):eM a b=1:=by simp [eM,h];omega
def aqm(h:a=b):eM a b=0:=by simp [eM,h]
def MQ(z y:aQ)(F E:Nat)(a b:List Nat)(w:au)(h1:a.length<=1000000000)(h2:b.length<=1000000000)(x:Canon a)(t:Canon b)(r:Lm w z a)(p:Lm w y b):
 Calls prog 205 #[.slice z a F,.slice y b E] w fun e l=>e= .returned (.int .i64 (eM (val a) (val b)))/\∃n,l=w.drewN n:=by
 have H:=af r;have G:=af p;have CA:=af x;have CB:=af t;clear r p x t;by_cases c:a.length=b
 ·have f:((a.length:Int) !=(b.length:Int))=false:=ax3;have HL:=af c;have D:a<=b.length:=Om;have C:b<=a.length:=Om;clear c;go_enter func205,ntmps205;go_wp2;go_loopw [5] (fun i wr=>∃m:Int,i= .int .i64 m/\ -1<=m/\m<a/\a.drop (m+1).toNat=b.drop (m+1).toNat/\∃q,wr=w.drewN q) (fun i _=>(intOf i+1).toNat)
  exact⟨(a.length:Int) - 1,rfl,by omega,by omega,by rw[rz Om,rz Om],0,rfl⟩;obtain⟨m,rfl,B,A,s,q,rfl⟩:=hrel;have HD:=af s;clear s;by_cases J:0<=m
  ·obtain⟨k,rfl⟩:∃k:Nat,m=k:=⟨m.toNat,by omega⟩;have hk:k<a.length:=Om;have vR:k<b.length:=Om;obtain⟨g,o,rfl,_,j⟩:=H.at_ (kJ hk);obtain⟨K,I,rfl,_,d⟩:=G.at_ (kJ vR);exact m33
  ·exact age
 ·have f:((a.length:Int) !=(b.length:Int))=true:=Oc;have HV:ah (((a.length:Int) - (b.length:Int)).sign=eM (val a) (val b)):=by
   rcases Nat.lt_or_gt_of_ne c with h|h
   ·rw[ah,Da (B_ CA CB h)];exact Zi Om
   ·rw[ah,NS (B_ CB CA h)];exact Ie Om
  clear c;go_enter func205,ntmps205;go_wp2_with (go_at_call 259;refine(anw _ _).mono ?_;rintro e l ⟨rfl,rfl⟩);go_ret;exact⟨qG HV,0,rfl⟩
def acQ:(prog.info? 265).map (fun i=>(i.zero,i.size,i.bytes))=some (some (.int .u64 0),1,8):=Ok
def Fv(n:Nat)(h:n<=1000000000)(w:au):
 (Instr.makeSlice 126 (.int .i64 (n:Int)) (.int .i64 (n:Int))).run prog w= .ok (.slice (some ⟨w.heap.size,0,none⟩) n n) (w.alloc (.cells (cZ (pad [] n)).toArray 265)):=by
 obtain⟨e,f,c,b,a⟩:=info_parts acQ;have d:=run_make (P:=prog) w 126 265 e (.int .u64 0) underlying126 f c .i64 .i64 (n:Int) (n:Int) Om (xd _) aye Om;simp only[kX,b,lF,Value.cells,Cf] at d;rw[d,NH,cZ,Bx];rfl
def aa5(h:aq m a 265 (cZ (pad i c)))(f:i=b)(j:b<c)(e:B=d):aq (m.setCell ⟨a,b,none⟩ (.int .u64 B)) a 265 (cZ (pad (i++ [d]) c)):=by have:=h.bh b (.int .u64 B);subst f;rw[<-apG d j,cZ,E7,<-cZ,<-e];exact this
def ab_(h:aq m a 265 (cZ (pad i c)))(d:i=b)(e:b<c):m.cell? ⟨a,b,none⟩=some (.int .u64 (0:Nat)):=
 h.cell (by rw[kJ (by rw[Cm Om];omega)];simp [pad,d])
def SE(m n:Nat)(e:n=m+1)(h:n<=1000000000)(w:au):
 (Instr.makeSlice 126 (.int .i64 ((m:Int)+1)) (.int .i64 ((m:Int)+1))).run prog w= .ok (.slice (some ⟨w.heap.size,0,none⟩) n n) (w.alloc (.cells (cZ (pad [] n)).toArray 265)):=by
 have a:((m:Int)+1)=(n:Int):=Om;rw[a];exact Fv n h w
def ams(m k n:Nat)(e:n=max m k+1)(h:n<=1000000000)(w:au):
 (Instr.makeSlice 126 (.int .i64 (max (m:Int) (k:Int)+1)) (.int .i64 (max (m:Int) (k:Int)+1))).run prog w= .ok (.slice (some ⟨w.heap.size,0,none⟩) n n) (w.alloc (.cells (cZ (pad [] n)).toArray 265)):=by
 have a:(max (m:Int) (k:Int)+1)=(n:Int):=Om;rw[a];exact Fv n h w
def aqs(J I:aQ)(S R:Nat)(a b:List Nat)(w:au)(h1:a.length<=100000000)(h2:b.length<=100000000)(Q:bI a)(P:bI b)(L:Lm w J a)(K:Lm w I b):
 Calls prog 204 #[.slice J a.length S,.slice I b.length R] w fun e j=>∃r c,r.length<=c/\e= .returned (.slice (some ⟨w.heap.size,0,none⟩) r.length c)/\Canon r/\val r=val a+val b/\Lm j (some ⟨w.heap.size,0,none⟩) r/\Ext w j:=by
 have S1:=af L;have S2:=af K;have W:=af Q;have V:=af P;clear L K Q P;obtain⟨N,G⟩:∃N,N=max a.length b.length+1:=⟨_,rfl⟩;have hN1:N<=100000001:=Om;have HN:=af G;rcases cA a b with E|E;all_goals
  have f:=fun e=>SE a N e Om;have d:=fun e=>SE b N e Om;first|have m:=f Om|have m:=d Om
  have l:=fun w=>ams a b N G Om w;clear f d G;go_enter func204,ntmps204;go_wp2;clear m l;go_loopw [6,7,8,18] (fun cr _ _ i wr=>∃(k c:Nat) (r:List Nat),k<=N/\i= .int .i64 k/\cr= .int .u64 c/\c<=1/\r.length=k/\bI r/\val r+B9^k*c=val (a.take k)+val (b.take k)/\aq wr w.heap.size 265 (cZ (pad r N))/\Ext w wr) (fun _ _ _ i _=>N - (intOf i).toNat);exact⟨0,0,[],aU _,rfl,rfl,by omega,rfl,kK,by simp,jd _ _ _,(aB w).alloc _⟩;obtain⟨k,c,r,hk,rfl,rfl,hc,M,O,hv,g,q⟩:=hrel;have h:=af M;have U:=af O;have T:=af hv;have s:=af g;clear M O hv g;by_cases o:k<N
  ·go_wp2_with fail
   refine(FW J S a k wr Om Om (S1.ext q)).mono ?_;rintro e j ⟨rfl,rfl⟩;go_wp2_with fail;refine(FW I R b k wr Om Om (S2.ext q)).mono ?_;rintro e j ⟨rfl,rfl⟩;have ha:=W.getD k;have Z:=V.getD k;unfold B9 at ha Z;obtain⟨t,A⟩:∃t,t=limb a k+limb b k+c:=⟨_,rfl⟩;have HA:=af (SX h T A);have H:=af A;clear A;generalize limb a k=x at*;generalize limb b k=y at*;have F:=ab_ s h o;have Y:=s.frozen k;go_wp2;go_roundw
   ·refine⟨k+1,t/B9,r++ [t%B9],by omega,by go_num,congrArg _ (by rw[H.ae];unfold B9;omega),?_,?_,U.snoc (fC _ Od),HA,aa5 s h o (by rw[H.ae];unfold B9;omega),q.setCell (aL _) _⟩
    ·rw[H.ae];unfold B9;omega
    ·simp [h.ae]
   simp [intOf];omega
  ·obtain rfl:k=N:=Om;have HE:=af (aqr W V h HN T);have B:Lm wr (some ⟨w.heap.size,0,none⟩) r:=(by have:=s.sl 0;rwa[Tl h.ae,mV] at this)
   go_wp2_with (go_at_call 199;refine(tS _ _ k r wr h (aL _) Om U B).mono ?_;rintro e j ⟨X,D,rfl,p,z,C,rfl⟩)
   go_ret;exact⟨X,k,D,rfl,p,z.trans HE,C,q⟩
def apr(V U:aQ)(c1 c2:Nat)(a b:List Nat)(w:au)(h1:a.length<=100000000)(h2:b.length<=100000000)(P:Canon a)(O:Canon b)(m:val b<=val a)(K:Lm w V a)(J:Lm w U b):
 Calls prog 206 #[.slice V a.length c1,.slice U b.length c2] w fun e y=>∃r c,r.length<=c/\e= .returned (.slice (some ⟨w.heap.size,0,none⟩) r.length c)/\Canon r/\val r=val a - val b/\Lm y (some ⟨w.heap.size,0,none⟩) r/\Ext w y:=by
 have S1:=af K;have S2:=af J;have T:=af P;have S:=af O;have HL:=af m;clear K J P O m;have H:=Fv a Om;go_enter func206,ntmps206;go_wp2;clear H;go_loopw [6,7,8,14] (fun cr _ _ i wr=>∃(k c:Nat) (r:List Nat),k<=a/\i= .int .i64 k/\cr= .int .u64 c/\c<=1/\r=k/\bI r/\val r+val (b.take k)=val (a.take k)+B9^k*c/\aq wr w.heap.size 265 (cZ (pad r a))/\Ext w wr) (fun _ _ _ i _=>a - (intOf i).toNat)
 exact⟨0,0,[],aU _,rfl,rfl,by omega,rfl,kK,by simp,jd _ _ _,(aB w).alloc _⟩;obtain⟨k,c,r,hk,rfl,rfl,hc,L,M,hv,f,q⟩:=hrel;have j:=af L;have I:=af M;have Q:=af hv;have x:=af f;clear L M hv f;by_cases d:k<a
 ·obtain⟨g,o,rfl,_,h⟩:=(S1.ext q).at_ (kJ d);rw[<-gT d] at h;have ha:=T.1.getD k;have Z:=S.1.getD k;unfold B9 at ha Z;obtain⟨t,A⟩:∃t,t+limb b k+c=limb a k+B9:=⟨limb a k+B9 - limb b k - c,by unfold B9;omega⟩;have N:=abI j Q A;have R:=af A;clear A;have G:IntKind.u64.wrap ((limb a k:Int)+1000000000)=limb a k+1000000000:=axy;have F:IntKind.u64.wrap ((limb a k:Int)+1000000000 - limb b k)=limb a k+1000000000 - limb b k:=axy;have E:IntKind.u64.wrap ((limb a k:Int)+1000000000 - limb b k - c)=limb a k+1000000000 - limb b k - c:=axy;go_wp2;go_quiet ((go_at_call 258;exact NX (FW _ _ b k _ Om Om (S2.ext (q.drewN _)))));clear G F E;have l:(limb a k:Int)+1000000000 - limb b k - c=t:=by have:=R.ae;unfold B9 at this;omega
  rw[l];have X:t<=1999999999:=by have:=R.ae;unfold B9 at this;omega
  clear l;have HA:=af (N axp);clear N;have s:=ab_ x j d;have Y:=x.frozen k;go_wp2;go_roundw
  ·refine⟨k+1,1 - t/B9,r++ [t%B9],by omega,by go_num,congrArg _ axp,Nat.sub_le _ _,?_,I.snoc (fC _ Od),HA,aa5 (x.drewN nq) j d axp,(q.drewN nq).setCell (aL _) _⟩;simp [j.ae]
  simp [intOf];omega
 ·obtain rfl:k=a.length:=Om;have HE:=af (ad2 T S j I HL Q);have B:Lm wr (some ⟨w.heap.size,0,none⟩) r:=(by have:=x.sl 0;rwa[Tl j.ae,mV] at this)
  go_wp2_with (go_at_call 199;refine(tS _ _ a r wr j (aL _) Om I B).mono ?_;rintro e y ⟨W,D,rfl,p,z,C,rfl⟩)
  go_ret;exact⟨W,a,D,rfl,p,z.trans HE,C,q⟩
def Jl{i:Nat}(h:aq m a 265 (cZ j))(b:i<j):m.cell? ⟨a,i,none⟩=some (.int .u64 (limb j i:Nat)):=
 h.cell (by rw[kJ b,gT b])
def Fw{i x:Nat}{z:Int}(h:aq m a 265 (cZ j))(b:z=x):aq (m.setCell ⟨a,i,none⟩ (.int .u64 z)) a 265 (cZ (j.set i x)):=by have:=h.bh i (.int .u64 z);rw[cZ,E7,<-cZ,<-b];exact this
def CU(p:List Nat)(z:Nat)(q:List Nat)(x i:Nat)(h:p=i):(p++z::q).set i x=p++x::q:=by subst h;simp
def Jc(p:List Nat)(z:Nat)(q:List Nat)(i:Nat)(h:p=i):limb (p++z::q) i=z:=by subst h;rw[gT Ou];simp
def SQ(l:List Nat)(i:Nat)(h:i<l):l.drop i=limb l i::l.drop (i+1):=by rw[gT h];exact jK h
def adn:limb (pad i a) b=limb i b:=by
 unfold limb pad;rw[eG,eG,List.getElem?_append];split
 ·rfl
 ·rename_i h;rw[Bu,eT (l:=i) Om];split<;>rfl
def amt(m1 m2 n:Nat)(e:n=m1+m2)(h:n<=1000000000)(w:au):
 (Instr.makeSlice 126 (.int .i64 ((m1:Int)+m2)) (.int .i64 ((m1:Int)+m2))).run prog w= .ok (.slice (some ⟨w.heap.size,0,none⟩) n n) (w.alloc (.cells (cZ (pad [] n)).toArray 265)):=by
 have a:((m1:Int)+m2)=(n:Int):=Om;rw[a];exact Fv n h w
def al3(m N:Nat)(h:m<=N):pad (List.replicate m 0) N=pad [] N:=by simp [pad];omega
def TZ(A1 A2:aQ)(c1 c2:Nat)(a b:List Nat)(w:au)(h1:a.length<=100000000)(h2:b.length<=100000000)(da:bI a)(db:bI b)(s1:Lm w A1 a)(s2:Lm w A2 b):
 Calls prog 209 #[.slice A1 a.length c1,.slice A2 b.length c2] w fun e M=>∃r c,r.length<=c/\e= .returned (.slice (some ⟨w.heap.size,0,none⟩) r.length c)/\Canon r/\val r=val a*val b/\Lm M (some ⟨w.heap.size,0,none⟩) r/\Ext w M:=by
 have S1:=af s1;have S2:=af s2;have DA:=af da;have DB:=af db;clear s1 s2 da db;obtain⟨N,hN⟩:∃N,N=a+b.length:=⟨_,rfl⟩;have hN1:N<=a+b.length:=Om;have hN2:a+b<=N:=Om;have U:=amt a b N hN Om;clear hN;go_enter func209,ntmps209;go_wp2;clear U;go_loopw [6,7,8,9,10,11,20] (fun _ _ _ _ _ _ i wr=>∃(k:Nat) (r:List Nat),k<=a/\i= .int .i64 k/\r=k+b/\bI r/\val r=val (a.take k)*val b/\aq wr w.heap.size 265 (cZ (pad r N))/\Ext w wr) (fun _ _ _ _ _ _ i _=>a - (intOf i).toNat)
 exact⟨0,List.replicate b 0,aU _,rfl,by simp,(by intro x f;rw[Bw] at f;rw[f.2];decide),by rw[IX (by intro x f;exact(Bw.1 f).2)];simp,by rw[al3 _ _ Om];exact jd _ _ _,(aB w).alloc _⟩;obtain⟨i,r,hi,rfl,hr,hd,hv,d,f⟩:=hrel;have s:=af hr;have HD:=af hd;have HV:=af hv;have HB:=af d;have Z:=af f;clear hr hd hv d f;by_cases F:i<a
 ·obtain⟨g,o,rfl,_,A⟩:=(S1.ext Z).at_ (kJ F);rw[<-gT F] at A;have X:=DA.getD i;unfold B9 at X;go_wp2;obtain⟨wo,rfl⟩:∃wo:World,wo=wr:=⟨_,rfl⟩;go_loopw [8,9,10,11,27] (fun cr _ _ _ j ws=>∃(k c:Nat) (p:List Nat),k<=b/\j= .int .i64 k/\cr= .int .u64 c/\c<1000000000/\p=i+k/\bI p/\val p+B9^(i+k)*c=val (r.take (i+k))+B9^i*(limb a i*val (b.take k))/\aq ws w.heap.size 265 (cZ (p++(pad r N).drop (i+k)))/\Ext w ws) (fun _ _ _ _ j _=>b - (intOf j).toNat)
  ·refine⟨0,0,(pad r N).take i,aU _,rfl,rfl,by omega,?_,?_,?_,?_,Z⟩
   ·rw[cO,Cm axR];omega
   ·refine bI.take ?_ i;exact HD.append (by intro x f;rw[Bw] at f;rw[f.2];decide)
   ·have:(pad r N).take i=r.take i:=(by rw[pad,QM axR]);simp [this]
   ·simpa using HB.ae
  obtain⟨k,c,p,hk,rfl,rfl,hc,hp,G,D,d,f⟩:=hrel;have l:=af hp;have L:=af G;have I:=af D;have h:=af d;have B:=af f;clear hp G D d f;by_cases y:k<b
  ·obtain⟨g2,o2,rfl,_,q⟩:=(S2.ext B).at_ (kJ y);rw[<-gT y] at q;have W:=DB.getD k;have V:=HD.getD (i+k);have O:=II (DA.getD i) (DB.getD k);unfold B9 at W V;have C:ah ((pad r N).drop (i+k)=limb r (i+k)::(pad r N).drop (i+k+1)):=by rw[ah,SQ _ _ (by rw[Cm axR];omega),adn]
   obtain⟨t,Q⟩:∃t,t=limb r (i+k)+limb a i*limb b k+c:=⟨_,rfl⟩;have HA:=af (amm l I rfl Q);have vL:t<=999999999999999999:=Om;have E:(limb r (i+k):Int)+(limb a i:Int)*(limb b k:Int)+c=t:=by rw[Q];simp
   have J:=af E;clear Q E;have hxi:(limb a i:Int)*(limb b k:Int)<=999999998000000001:=axW;have awc:0<=(limb a i:Int)*(limb b k:Int):=Iy Om Om;have m:wr.cell? ⟨w.heap.size,i+k,none⟩=some (.int .u64 (limb r (i+k):Nat)):=(by have:=Jl (i:=i+k) h (by rw[C.ae,bD,l.ae,cT];omega);rw[this,C.ae,Jc _ _ _ _ l.ae])
   have Y:=h.frozen (i+k);clear O;go_wp2;go_roundw
   ·refine⟨k+1,t/B9,p++ [t%B9],by omega,by go_num,congrArg _ (by rw[J.ae];unfold B9;omega),by unfold B9;omega,?_,L.snoc (fC _ Od),HA,?_,B.setCell (aL _) _⟩
    ·simp only[bD,l.ae,cT,uY];omega
    ·have:=Fw (i:=i+k) (x:=t%B9) h (show((limb r (i+k):Int)+limb a i*limb b k+c)%1000000000=((t%B9:Nat):Int) by rw[J.ae];unfold B9;omega);rw[C.ae,CU _ _ _ _ _ l.ae] at this;simpa [Ci] using this
   simp [intOf];omega
  ·obtain rfl:k=b.length:=Om;have C:ah ((pad r N).drop (i+b)=0::(pad r N).drop (i+b.length+1)):=by rw[ah,SQ _ _ (by rw[Cm axR];omega),adn,rL axR]
   have HM:=af (amn l s HV I);have m:wr.cell? ⟨w.heap.size,i+b,none⟩=some (.int .u64 (0:Nat)):=(by have:=Jl (i:=i+b) h (by rw[C.ae,bD,l.ae,cT];omega);rw[this,C.ae,Jc _ _ _ _ l.ae])
   have Y:=h.frozen (i+b);go_wp2;go_roundw
   ·refine⟨i+1,p++ [c],by omega,by go_num,?_,L.snoc axp,HM,?_,B.setCell (aL _) _⟩
    ·simp only[bD,l.ae,cT,uY];omega
    ·have:=Fw (i:=i+b) (x:=c) (z:=(c:Int)) h rfl;rw[C.ae,CU _ _ _ _ _ l.ae] at this;have e1:p++c::(pad r N).drop (i+b.length+1)=pad (p++ [c]) N:=by
      have hl:(p++ [c]).length=i+b.length+1:=by simp [l.ae]
      have h2:(pad r N).drop (i+b.length+1)=List.replicate (N - (i+b.length+1)) 0:=(by rw[pad,ZR,rz axR,List.drop_replicate,s.ae,tL];congr 1;omega);rw[h2,pad,hl,jk];rfl
     rw[e1] at this;simpa using this
   simp [intOf];omega
 ·obtain rfl:i=a.length:=Om;have HE:ah (val r=val a*val b):=by rw[ah,HV.ae,dD (aL _)]
  have K:ah (r=N):=by have:=s.ae;unfold ah;omega
  have R:Lm wr (some ⟨w.heap.size,0,none⟩) r:=(by have:=HB.sl 0;rwa[Tl K.ae,mV] at this);go_wp2_with (go_at_call 199;refine(tS _ _ N r wr K (aL _) Om HD R).mono ?_;rintro e M ⟨r',T,rfl,H,P,S,rfl⟩);go_ret;exact⟨r',N,T,rfl,H,P.trans HE,S,Z⟩
def abJ(A1:aQ)(c1:Nat)(a:List Nat)(d:Nat)(w:au)(h1:a.length<=100000000)(da:bI a)(p:0<d)(jf:d<1000000000)(Y:Lm w A1 a):
 Calls prog 314 #[.slice A1 a.length c1,.int .u64 d] w fun e J=>∃r c,r.length<=c/\e= .returned (.tuple #[.slice (some ⟨w.heap.size,0,none⟩) r.length c,.int .u64 ((val a%d:Nat):Int)])/\Canon r/\val r=val a/d/\Lm J (some ⟨w.heap.size,0,none⟩) r/\Ext w J:=by
 have S1:=af Y;have DA:=af da;clear Y da;have O:=Fv a Om;go_enter func314,ntmps314;go_wp2;clear O;go_loopw [7,8,9] (fun rs i _ wr=>∃(m:Int) (rest:Nat) (q:List Nat), -1<=m/\m<a/\i= .int .i64 m/\rs= .int .u64 rest/\rest<d/\bI q/\q.length=a - (m+1).toNat/\val (a.drop (m+1).toNat)=val q*d+rest/\aq wr w.heap.size 265 (cZ (List.replicate (m+1).toNat 0++q))/\Ext w wr) (fun _ i _ _=>(intOf i+1).toNat)
 ·refine⟨(a.length:Int) - 1,0,[],by omega,by omega,rfl,rfl,p,kK,?_,?_,?_,(aB w).alloc _⟩
  ·simp
  ·rw[rz Om];simp
  ·have z:((a.length:Int) - 1+1).toNat=a.length:=Om;rw[z,j5,<-NH];exact jd _ _ _
 obtain⟨m,rest,q,jT,n_,rfl,rfl,l,D,b,hv,j,Z⟩:=hrel;have H:=af D;have G:=af b;have HV:=af hv;have HB:=af j;have S:=af Z;clear D b hv j Z;by_cases h0:0<=m
 ·obtain⟨k,rfl⟩:∃k:Nat,m=k:=⟨m.toNat,by omega⟩;have Q:k<a.length:=Om;have h:((k:Int)+1).toNat=k+1:=Om;have F:=af (h▸G.ae);have T:=af (h▸HV.ae);have A:=af (h▸HB.ae);clear h;obtain⟨g,o,rfl,_,s⟩:=(S1.ext S).at_ (kJ Q);rw[<-gT Q] at s;have P:=DA.getD k;have V:=af (anx l (DA.getD k));unfold B9 at P;obtain⟨t,C⟩:∃t,t=rest*B9+limb a k:=⟨_,rfl⟩;have HA:=af (ai_ Q T C);have HT:=af C;have B:(rest:Int)*1000000000+limb a k=t:=by rw[C];unfold B9;omega
  have ht9:t<=999999999999999999:=by unfold B9 at C;omega
  have U:=af B;clear C B;have I:wr.cell? ⟨w.heap.size,k,none⟩=some (.int .u64 (0:Nat)):=(by have z:List.replicate (k+1) 0++q=List.replicate k 0++(0::q):=ayu;have:=Jl (i:=k) A Oc;rw[this,z,Jc _ _ _ _ Ou])
  have KA:=A.frozen k;go_wp2;rw[U.ae];go_region;all_goals go_wp2
  go_roundw
  ·have f:t/d<B9:=by rw[HT.ae];exact V
   refine⟨(k:Int) - 1,t%d,t/d::q,by omega,by omega,by go_num,congrArg _ (Q9 t d).symm,fC _ p,H.cons f,?_,?_,?_,(S.setCell (aL _) _).drew⟩
   ·have:=F.ae;rw[cT];omega
   ·have z:((k:Int) - 1+1).toNat=k:=Om;rw[z];exact HA
   ·have z:((k:Int) - 1+1).toNat=k:=Om;have e2:IntKind.u64.wrap ((t:Int)/ (d:Int))=((t/d:Nat):Int):=(by rw[<-Cc,kD];unfold B9 at f;generalize t/d=y at f⊢;omega)
    have e3:List.replicate (k+1) 0++q=List.replicate k 0++(0::q):=ayu;have:=Fw (i:=k) (x:=t/d) A e2;rw[e3,CU _ _ _ _ _ Ou] at this;rw[z];exact this.drew
  simp [intOf]
 ·obtain rfl:m= -1:=Om;have hv:=HV.ae;have b:=G.ae;have R:=HB.ae;simp only[Int.reduceNeg,Int.reduceAdd,Int.toNat_zero,mV,Zx,tL,Rq] at hv b R;have HE:ah (val q=val a/d/\rest=val a%d):=(by rw[ah,hv,nL,Nat.add_mul_div_right _ _ p,Mr l,Nat.add_mul_mod_self_right,uW l];exact⟨by omega,rfl⟩)
  have X:=af R;have W:=af b;clear hv b R;have L:Lm wr (some ⟨w.heap.size,0,none⟩) q:=(by have:=X.sl 0;rwa[mV] at this)
  go_wp2_with (go_at_call 199;refine(tS _ _ a q wr W (aL _) Om H L).mono ?_;rintro e J ⟨r',N,rfl,E,K,M,rfl⟩)
  go_ret2;exact⟨r',a,N,by rw[<-HE.2];rfl,E,K.trans HE.1,M,S⟩
def xj(h:b<a):limb (i.take a) b=limb i b:=by unfold limb;rw[eG,eG,ZE,if_pos h]
def ado{s:List Nat}{k:Nat}(h:i=a):limb (i++s) (a+k)=limb s k:=by subst h;unfold limb;rw[eG,eG,yU Om];congr 2;omega
def Cr(h:aq m a 265 (cZ (i++j)))(d:i.length=b)(e:c<j.length):m.cell? ⟨a,b+c,none⟩=some (.int .u64 (limb j c:Nat)):=by rw[Jl h (by rw[bD];omega),ado d]
def I_{y:Nat}(h:aq m a 265 (cZ (j++(k++l.drop c))))(r:j=b)(q:k=c)(f:c<l)(e:B=y):
 aq (m.setCell ⟨a,b+c,none⟩ (.int .u64 B)) a 265 (cZ (j++((k++ [y])++l.drop (c+1)))):=by
 have d:=Fw (i:=b+c) (x:=y) h e;rw[jK f,<-jk,CU _ _ _ _ _ (by rw[bD];omega)] at d;simpa using d
def alY{y:Nat}(h:aq m a 265 (cZ (j++((k++ [d])++l))))(t:j=b)(s:k=c)(q:B=y):
 aq (m.setCell ⟨a,b+c,none⟩ (.int .u64 B)) a 265 (cZ (j++((k++ [y])++l))):=by
 have f:=Fw (i:=b+c) (x:=y) h q;have e:j++((k++ [d])++l)=(j++k)++d::l:=Ou;rw[e,CU _ _ _ _ _ (by rw[bD];omega)] at f;simpa using f
def I0{s:List Nat}{k:Nat}(a:i=k):limb (i++s.drop k) k=limb s k:=by have:=ado (s:=s.drop k) (k:=0) a;rw[kH] at this;rw[this];unfold limb;rw[eG,eG,EO,kH]
def anv(g o n c1 c2 gv ov:Nat)(I s v:List Nat)(w:au)(hn:2<=n)(vP:n<=100000000)(ho:I=o)(hs:n+1<=s)(ds:bI s)(f:aq w g 265 (cZ (I++s)))
 (hv:v=n) (dv:bI v) (sv:Lm w (some ⟨gv,ov,none⟩) v) (hne:gv≠g) (av7:500000000<=limb v (n - 1)) (hB:val (s.take (n+1))<B9*val v):
 Calls prog 315 #[.slice (some ⟨g,o,none⟩) (n+1) c1,.slice (some ⟨gv,ov,none⟩) n c2] w fun e w'=>
  e= .returned (.int .u64 ((val (s.take (n+1))/val v:Nat):Int))/\∃u',u'.length=n+1/\bI u'/\val u'=val (s.take (n+1))%val v/\aq w' g 265 (cZ (I++(u'++s.drop (n+1))))/\Only g w w':=by
 have G:=af ho;have DS:=af ds;have LW:=af f;have V:=af hv;have DV:=af dv;have SV:=af sv;have LD:=af hne;have HB:=af hB;have D:ah ((s.take (n+1))=n+1):=by rw[ah,cO];omega
 have DU:=af (ds.take (n+1));have HS:=af hs;clear ho ds f hv dv sv hne hB;have cu0:=Cr LW G (show n<s by omega);have cu1:=Cr LW G (show n - 1<s by omega);have cu2:=Cr LW G (show n - 2<s by omega);have cv1:w.cell? ⟨gv,ov+(n - 1),none⟩=some (.int .u64 (limb v (n - 1):Nat)):=(by have hk:n - 1<v.length:=ayr;exact afP)
 have cv2:w.cell? ⟨gv,ov+(n - 2),none⟩=some (.int .u64 (limb v (n - 2):Nat)):=(by have hk:n - 2<v.length:=ayr;exact afP);have bu0:=DS.getD n;have bu1:=DS.getD (n - 1);have bu2:=DS.getD (n - 2);have bv1:=DV.getD (n - 1);have bv2:=DV.getD (n - 2);have Xm:=ajD hn V D DV DU Om;rw[xj Om,xj Om] at Xm;have LK:=af Xm;clear Xm;unfold B9 at bu0 bu1 bu2 bv1 bv2;generalize hu0:limb s n=u0 at*;generalize hu1:limb s (n - 1)=u1 at*;generalize hu2:limb s (n - 2)=u2 at*;generalize Pd:limb v (n - 1)=v1 at*;generalize hv2:limb v (n - 2)=l at*;have E:=af hu0;have rp:=af hu1;have Lg:=af hu2;have AV:=af Pd;have uE:=af hv2;clear hu0 hu1 hu2 Pd hv2;have lQ:IntKind.u64.wrap ((u0:Int)*1000000000)=u0*1000000000:=axy;have sP:IntKind.u64.wrap ((u0:Int)*1000000000+u1)=u0*1000000000+u1:=axy;have hq3:IntKind.i64.wrap ((n:Int) - 1)=n - 1:=Mz _ Om;have hq4:((n:Int) - 1).toNat=n - 1:=Om;go_enter func315,ntmps315;go_wp2;go_quiet (fail);clear lQ sP;obtain⟨T,hT⟩:∃T:Nat,T=u0*B9+u1:=⟨_,rfl⟩;have Ec:(u0:Int)*1000000000+u1=T:=by rw[hT];unfold B9;omega
 rw[Ec];have hT9:T<=999999999999999999:=by unfold B9 at hT;omega
 clear Ec;have HT:=af hT;clear hT;go_wp2;go_quiet (fail);have hdiv:IntKind.u64.wrap ((T:Int)/ (v1:Int))=((T/v1:Nat):Int):=by have hle:T/v1<=T:=Ce _ _;rw[<-Cc,kD];generalize T/v1=y at hle⊢;omega
 rw[hdiv,<-Q9];clear hdiv;rw[<-HT.ae] at LK;have hqb:T/v1<=T:=Ce _ _;generalize T/v1=q0 at*;generalize T%v1=r0 at*;go_wp2;go_loopw [7,8] (fun a b wr=>∃q r:Nat,a= .int .u64 q/\b= .int .u64 r/\JJ (s.take (n+1)) v n q r/\q<=999999999999999999/\∃k,wr=w.drewN k) (fun a _ _=>(intOf a).toNat)
 exact⟨q0,r0,rfl,rfl,LK,by omega,by first|exact UG _ _|exact JF _ _ _|exact UF _ _ _ _⟩;obtain⟨q,r,rfl,rfl,hg,hqb,k,rfl⟩:=hrel;have vN:=hg.rb;rw[AV.ae] at vN;unfold B9 at vN;have HG:=af hg;clear hg;by_cases X:r<1000000000/\(1000000000<=q\/r*B9+u2<q*l)
 ·obtain⟨hr,Kn⟩:=X;have Q:decide ((r:Int)<1000000000)=true:=fN;obtain⟨h1q,vV⟩:=akL hn V D DV DU HB HG axp (by rw[uE.ae,xj Om,Lg.ae];exact Kn);rw[AV.ae] at vV;have HG':=af vV;clear vV;by_cases hq:1000000000<=q
  ·have lw:decide ((1000000000:Int)<=q)=true:=fN;clear Kn;exact ago
  ·have lw:decide ((1000000000:Int)<=q)=false:=aW;have hlt:r*B9+u2<q*l:=Om;have L:=II (x:=q) (y:=l) axp axp;have K:0<=(q:Int)*(l:Int):=Iy Om Om;have J:(q:Int)*(l:Int)<=999999998000000001:=axW;have O:(r:Int)*1000000000+u2<(q:Int)*(l:Int):=by rw[<-oG];unfold B9 at hlt;omega
   have D8:decide ((r:Int)*1000000000+u2<(q:Int)*(l:Int))=true:=decide_eq_true O;have zX:IntKind.u64.wrap ((q:Int)*(l:Int))=q*l:=axy;have hw2:IntKind.u64.wrap ((r:Int)*1000000000)=r*1000000000:=axy;have hw3:IntKind.u64.wrap ((r:Int)*1000000000+u2)=r*1000000000+u2:=axy;have hw4:IntKind.i64.wrap ((n:Int) - 2)=n - 2:=Mz _ Om;have zW:((n:Int) - 2).toNat=n - 2:=Om;clear Kn hlt L;exact ago
 ·have C:B9<=r\/(q<B9/\q*l<=r*B9+u2):=by
   rcases cA r 1000000000 with h|h
   ·right;refine⟨?_,?_⟩
    ·rcases cA q 1000000000 with h'|h'
     ·exact h'
     ·exact absurd ⟨h,.inl h'⟩ X
    ·rcases cA (r*B9+u2) (q*l) with h'|h'
     ·exact absurd ⟨h,.inr h'⟩ X
     ·exact h'
   ·left;exact h
  have Y:=amL hn V D DV DU HB HG (by rw[uE.ae,xj Om,Lg.ae];exact C);have N:=akK hn V D DV DU (by rw[AV.ae];omega) Y.1 Y.2;have hq9:q<=999999999:=by have:=Y.1;unfold B9 at this;omega
  have arR:=af N;have yl:=af HG.up;clear Y N X;have P:r<1000000000->q*l<=r*B9+u2:=fun hr=>by
   rcases C with h|h
   ·unfold B9 at h;omega
   ·exact h.2
  clear C;by_cases hr:r<1000000000;all_goals first
   |(have Q:decide ((r:Int)<1000000000)=false:=aW
     clear P;go_wp2;go_quiet (fail);clear Q;go_wp2)
   |(have Q:decide ((r:Int)<1000000000)=true:=fN
     have C:=P hr;have lw:decide ((1000000000:Int)<=q)=false:=aW;have L:=II (x:=q) (y:=l) axp axp;have K:0<=(q:Int)*(l:Int):=Iy Om Om;have J:(q:Int)*(l:Int)<=999999998000000001:=axW;have O:(q:Int)*(l:Int)<=(r:Int)*1000000000+u2:=by rw[<-oG];unfold B9 at C;omega
     have D8:decide ((r:Int)*1000000000+u2<(q:Int)*(l:Int))=false:=aW;have zX:IntKind.u64.wrap ((q:Int)*(l:Int))=q*l:=axy;have hw2:IntKind.u64.wrap ((r:Int)*1000000000)=r*1000000000:=axy;have hw3:IntKind.u64.wrap ((r:Int)*1000000000+u2)=r*1000000000+u2:=axy;have hw4:IntKind.i64.wrap ((n:Int) - 2)=n - 2:=Mz _ Om;have zW:((n:Int) - 2).toNat=n - 2:=Om;clear C L P;go_wp2;go_quiet (fail);clear Q lw D8 zX hw2 hw3 hw4 zW O J K;go_wp2)
  all_goals
   clear cu0 cu1 cu2 cv1 cv2 hq3 hq4;go_loopw [9,10,11,12,13,80] (fun cr _ _ _ _ i wr=>∃(k c:Nat) (p:List Nat),k<=n/\i= .int .i64 k/\cr= .int .u64 c/\c<=1000000000/\p.length=k/\bI p/\val p+q*val (v.take k)=val ((s.take (n+1)).take k)+B9^k*c/\aq wr g 265 (cZ (I++(p++s.drop k)))/\Only g w wr) (fun _ _ _ _ _ i _=>n - (intOf i).toNat);exact⟨0,0,[],aU _,rfl,rfl,by omega,rfl,kK,by simp,(show aq w g _ _ from by simpa using LW.ae),by first|exact(gD _ _).drewN _|exact((gD _ _).drewN _).drewN _⟩;obtain⟨k,c,p,hk,rfl,rfl,hc,hp,hdp,hvp,f,M⟩:=hrel;have m:=af hp;have U:=af hdp;have XJ:=af hvp;have z:=af f;have S:=af M;clear hp hdp hvp f M;by_cases hlt:k<n
   ·have cvk:wr.cell? ⟨gv,ov+k,none⟩=some (.int .u64 (limb v k:Nat)):=(by have hk:k<v.length:=ayr;obtain⟨_,_,hA,_,hc⟩:=(SV.only S LD).at_ (kJ hk);injection hA with hA;injection hA with h1 h2;subst h1 h2;rw[hc,gT hk]);have cuk:wr.cell? ⟨g,o+k,none⟩=some (.int .u64 (limb s k:Nat)):=(by rw[Cr z.ae G.ae (by rw[bD,m.ae,qx];omega),I0 m.ae]);have KA:=z.frozen (o+k);have bvk:=DV.getD k;have buk:=DS.getD k;have L:=II (x:=q) (y:=limb v k) axp bvk;have K:0<=(q:Int)*(limb v k:Int):=Iy Om Om;have J:(q:Int)*(limb v k:Int)<=999999998000000001:=axW;unfold B9 at bvk buk;obtain⟨t,ht⟩:∃t,t=q*limb v k+c:=⟨_,rfl⟩;have Ki:(q:Int)*(limb v k:Int)+c=t:=by rw[ht];simp
    have ht9:t<=999999999999999999:=Om;have F:=af (fun y c' hy=>ajX (y:=y) (c':=c') m XJ ht hy);rw[xj (show k<n+1 by omega)] at F;have A:=af Ki;clear ht Ki L;by_cases ahb:limb s k<t%1000000000
    ·have hd:decide ((limb s k:Int)<((q:Int)*(limb v k:Int)+c)%1000000000)=true:=by rw[A.ae];exact decide_eq_true Om
     have HF:=af (F (limb s k+B9 - t%B9) (t/B9+1) axp);have atr:0<=(limb s k:Int)+1000000000 - ((q:Int)*(limb v k:Int)+c)%1000000000:=Om;go_wp2;go_roundw
     ·refine⟨k+1,t/B9+1,p++ [limb s k+B9 - t%B9],by omega,by go_num,congrArg _ axZ,by unfold B9;omega,by simp [m.ae],U.snoc axp,HF,?_,(S.bh _ _).bh _ _⟩;exact alY (I_ (y:=limb s k+1000000000) z G m Om Om) G m axZ
     simp [intOf];omega
    ·have hd:decide ((limb s k:Int)<((q:Int)*(limb v k:Int)+c)%1000000000)=false:=by rw[A.ae];exact decide_eq_false Om
     have HF:=af (F (limb s k - t%B9) (t/B9) axp);have atr:0<=(limb s k:Int) - ((q:Int)*(limb v k:Int)+c)%1000000000:=by rw[A.ae];omega
     go_wp2;go_roundw
     ·refine⟨k+1,t/B9,p++ [limb s k - t%B9],by omega,by go_num,congrArg _ axZ,by unfold B9;omega,by simp [m.ae],U.snoc axp,HF,?_,S.bh _ _⟩;exact I_ z G m Om axZ
     simp [intOf];omega
   ·obtain rfl:k=n:=Om;have cun:wr.cell? ⟨g,o+k,none⟩=some (.int .u64 (u0:Nat)):=(by rw[Cr z.ae G.ae (by rw[bD,m.ae,qx];omega),I0 m.ae,E.ae])
    have KA:=z.frozen (o+k);by_cases hle:c<=u0
    ·have hd:decide ((c:Int)<=(u0:Int))=true:=fN;have F:=af (ajY V D m yl XJ (by rw[xj Om,E.ae];exact hle));go_wp2;go_ret;refine⟨qG (by rw[F.1]),p++ [u0 - c],by simp [m.ae],U.snoc axp,?_,I_ z G m Om Om,S.bh _ _⟩;have:=F.2;rw[xj Om,E.ae] at this;exact this
    ·have hd:decide ((c:Int)<=(u0:Int))=false:=aW;go_wp2;obtain⟨wo,rfl⟩:∃wo:World,wo=wr:=⟨_,rfl⟩;go_loopw [14,15,16,17,132] (fun cr _ _ _ i wr=>∃(j d:Nat) (r':List Nat),j<=k/\i= .int .i64 j/\cr= .int .u64 d/\d<=1/\r'=j/\bI r'/\val r'+B9^j*d=val (p.take j)+val (v.take j)/\aq wr g 265 (cZ (I++(r'++(p++s.drop k).drop j)))/\Only g w wr) (fun _ _ _ _ i _=>k - (intOf i).toNat);exact⟨0,0,[],aU _,rfl,rfl,by omega,rfl,kK,by simp,by simpa using z.ae,S⟩;obtain⟨j,d,r',hj,rfl,rfl,Q,Pj,hdr,Kf,f,M⟩:=hrel;have W:=af Pj;have YD:=af hdr;have HVR:=af Kf;have H:=af f;have R:=af M;clear Pj hdr Kf f M cun KA;have Z:ah (k<(p++s.drop k).length):=by rw[ah,bD,m.ae,qx];omega
     by_cases atI:j<k
     ·have cvj:wr.cell? ⟨gv,ov+j,none⟩=some (.int .u64 (limb v j:Nat)):=(by have hk:j<v.length:=ayr;obtain⟨_,_,hA,_,hc⟩:=(SV.only R LD).at_ (kJ hk);injection hA with hA;injection hA with h1 h2;subst h1 h2;rw[hc,gT hk]);have epj:limb (p++s.drop k) j=limb p j:=(by unfold limb;rw[eG,eG,oD (by rw[m.ae];exact atI)]);have cuj:wr.cell? ⟨g,o+j,none⟩=some (.int .u64 (limb p j:Nat)):=(by rw[Cr H.ae G.ae (by rw[bD,W.ae,qx];have:=Z.ae;omega),I0 W.ae,epj]);have Vb:=H.frozen (o+j);have bvj:=DV.getD j;have bpj:=U.getD j;unfold B9 at bvj bpj;obtain⟨t,ht⟩:∃t,t=limb p j+limb v j+d:=⟨_,rfl⟩;have HA:=af (SX W HVR ht);have En:=af ht;clear ht epj;go_wp2;go_roundw
      ·refine⟨j+1,t/B9,r'++ [t%B9],by omega,by go_num,congrArg _ (by rw[En.ae];unfold B9;omega),by rw[En.ae];unfold B9;omega,by simp [W.ae],YD.snoc (fC _ Od),HA,?_,R.bh _ _⟩;exact I_ H G W (by have:=Z.ae;omega) (by rw[En.ae];unfold B9;omega)
      simp [intOf];omega
     ·obtain rfl:j=k:=Om;have B:=af (alr V D m W YD DV yl arR XJ (by rw[xj Om,E.ae];omega) U HVR);have Xa:u0+d=c:=by have:=B.2.2.2;rw[xj Om,E.ae] at this;exact this
      have cun:wr.cell? ⟨g,o+j,none⟩=some (.int .u64 (u0:Nat)):=(by rw[Cr H.ae G.ae (by rw[bD,W.ae,qx];have:=Z.ae;omega),I0 W.ae,I0 m.ae,E.ae]);have Vb:=H.frozen (o+j);have lQ:=B.1;have HCD:=af Xa;clear Xa;go_wp2;go_ret;refine⟨qG (by rw[B.2.1];omega),r'++ [0],by simp [W.ae],YD.snoc Od,?_,?_,R.bh _ _⟩
      ·rw[pT,B.2.2.1];simp
      ·have e0:(p++s.drop j).drop (j+1)=s.drop (j+1):=(by rw[ZR,rz (by have:=m.ae;omega),m.ae,tL,y6];congr 1;omega);rw[<-e0];refine I_ H G W (by have:=Z.ae;omega) ?_;have:=HCD.ae;rw[kD,kD];omega
def NU(a b:List Nat)(w:au)(e:Ending)(f:au):Prop:=
 ∃j d h i c g,e= .returned (.tuple #[.slice j d.length h,.slice i c.length g])/\d.length<=h/\c.length<=g/\Canon d/\Canon c/\val d=val a/val b/\val c=val a%val b/\Lm f j d/\Lm f i c/\Ext w f
def ajI(i q:aQ)(h r:Nat)(a b:List Nat)(w:au)(z:a.length<=10000000)(y:b.length<=10000000)(p:Canon a)(o:Canon b)(m:a<=h)(l:Lm w i a)(j:Lm w q b)(c:val a<val b):
 Calls prog 260 #[.slice i a h,.slice q b.length r] w (NU a b w):=by
 have s:=af l;have A:=af j;have t:=af p;have B:=af o;have f:=af c;have d:=Da c;have g:=af (MQ i q h r a b w Om Om p o l j);rw[d] at g;clear l j p o d c;go_enter func260,ntmps260;go_wp2_with fail
 refine g.mono ?_;rintro e x ⟨rfl,k,rfl⟩;go_wp2;go_ret2;refine⟨none,[],0,i,a,h,rfl,by simp,m,Canon.nil,t,?_,?_,Sl.nil,s,(aB w).drewN k⟩
 ·rw[Mr f.ae];rfl
 ·rw[uW f.ae]
def akV(s L:aQ)(I N:Nat)(a b:List Nat)(w:au)(X:a.length<=10000000)(H:Canon a)(q:Canon b)(y:Lm w s a)(x:Lm w L b)(E:val b<=val a)(l:b.length=1):
 Calls prog 260 #[.slice s a I,.slice L b.length N] w (NU a b w):=by
 have K:=af (MQ s L I N a b w Om Om H q y x);obtain⟨d,rfl⟩:∃d,b= [d]:=by
  match b,l with
  | [d],_=>exact⟨d,rfl⟩
 obtain⟨g,o,rfl,_,f⟩:=x.at_ (kJ (show 0< [d].length by simp));simp only[QR,kH] at f;have F:d<1000000000:=q.1.head;have j:0<d:=(by have:=q.2;unfold gN at this;simp at this;omega)
 have i:val [d]=d:=Ou;have S:decide (eM (val a) (val [d])<0)=false:=(by unfold eM;rw[if_neg Om];split<;>rfl)
 have U:=af y;have W:=af H;have p:=af i;clear y x H q E l i;simp only[cT,uY,jL] at*;go_enter func260,ntmps260;go_wp2_with fail
 refine K.mono ?_;rintro e O ⟨rfl,k,rfl⟩;generalize eM (val a) (val [d])=Y at*;go_wp2_with fail;refine(abJ s I a d (w.drewN k) Om W.1 j F U).mono ?_;rintro e t ⟨r,c,C,rfl,T,h,A,Q⟩;have R:val a%d<d:=fC _ j;generalize M:val a%d=m at*;have V:=af M;have J:=af h;clear M h;go_wp2_with fail
 refine(tS (some ⟨t.heap.size,0,none⟩) 1 1 [m] _ rfl Om Om (rT axp kK) (Sl.new t 265 #[.int .u64 m])).mono ?_;rintro e O ⟨P,D,rfl,G,z,B,rfl⟩;go_wp2;go_ret2;refine⟨_,r,c,_,P,1,rfl,C,D,T,G,?_,?_,A.ext ((aB t).alloc _),B,?_⟩
 ·rw[p.ae,J.ae]
 ·rw[z,p.ae,V.ae];simp
 ·exact(Ext.trans (((aB w).drewN k)) Q).alloc _
def ajH(A1 A2:aQ)(c1 c2:Nat)(a b:List Nat)(w:au)(h1:a.length<=10000000)(ca:Canon a)(cb:Canon b)(s1:Lm w A1 a)(s2:Lm w A2 b)(hle:val b<=val a)(hb2:2<=b.length):
 Calls prog 260 #[.slice A1 a c1,.slice A2 b.length c2] w (NU a b w):=by
 have hbl:=ER ca cb hle;have HCM:=af (MQ A1 A2 c1 c2 a b w Om Om ca cb s1 s2);have hcm:decide (eM (val a) (val b)<0)=false:=(by unfold eM;rw[if_neg Om];split<;>rfl)
 have aw':((b.length:Int)==1)=false:=beq_eq_false_iff_ne.2 Om;have hkb:b.length - 1<b.length:=Om;obtain⟨g,o,rfl,_,O⟩:=s2.at_ (kJ hkb);rw[<-gT hkb] at O;have hx0:0<limb b (b.length - 1):=(by have:=cb.2.last Om;rw[gT hkb];omega)
 have lj:=cb.1.getD (b.length - 1);obtain⟨f,hf⟩:∃f,f=B9/ (limb b (b.length - 1)+1):=⟨_,rfl⟩;have X:0<f:=by rw[hf];exact Nat.div_pos Om Om
 have WY:f<1000000000:=(by rw[hf,QS Om];unfold B9;omega);have qY:(1000000000:Int)/ ((limb b (b.length - 1):Int)+1)=f:=(by rw[hf];unfold B9;simp);have uN:=af qY;have HF:=af hf;have S1:=af s1;have S2:=af s2;have CA:=af ca;have CB:=af cb;have Hj:=af hle;clear s1 s2 ca cb hle hf qY;unfold B9 at lj;have mC:=SE a (a.length+1) rfl Om;go_enter func260,ntmps260;go_wp2_with fail
 refine HCM.mono ?_;rintro e w' ⟨rfl,k,rfl⟩;generalize eM (val a) (val b)=cm at*;go_upto_region 7 with fail
 rw[uN.ae];have hW1:Ext w ((w.drewN k).alloc (Obj.cells #[Value.int IntKind.u64 f] 265)):=(((aB w).drewN k)).alloc _;have hWf:Lm ((w.drewN k).alloc (Obj.cells #[Value.int IntKind.u64 f] 265)) (some ⟨w.heap.size,0,none⟩) [f]:=Sl.new (w.drewN k) 265 #[.int .u64 f];have hWs:((w.drewN k).alloc (Obj.cells #[Value.int IntKind.u64 f] 265)).heap.size=w.heap.size+1:=Ou;generalize(w.drewN k).alloc (Obj.cells #[Value.int IntKind.u64 f] 265)=W at*;have hW2:w.heap.size+1<=W.heap.size:=Om;clear hWs;have HW:=af hW1;have HWF:=af hWf;clear hW1 hWf O hcm;go_cut [9,10] (fun s9 s10 wx=>∃p gv v cv,p≠gv/\w.heap.size+1<=p/\s9= .slice (some ⟨p,0,none⟩) (a.length+1) (a.length+1)/\s10= .slice (some ⟨gv,0,none⟩) v.length cv/\Canon v/\val v=val b*f/\Lm wx (some ⟨gv,0,none⟩) v/\aq wx p 265 (cZ (pad [] (a.length+1)))/\Ext W wx)
 case first=>
  have hwa:IntKind.i64.wrap ((a.length:Int)+1)=a.length+1:=Mz _ Om;go_region_with (go_at_call 209;refine(TZ _ _ _ _ b [f] _ Om Ou CB.1 (rT axp kK) (by exact S2.ext (HW.trans (by first|exact(aB W).drew|exact((aB W).alloc _).drew|exact((aB W).drew).alloc _))) (by exact HWF.ext (by first|exact(aB W).drew|exact((aB W).alloc _).drew|exact((aB W).drew).alloc _))).mono ?_;rintro e w1 ⟨v,cv,hcv,rfl,hv,J,s,hx⟩);all_goals (go_wp2_with fail;go_meet)
  all_goals have I:val v=val b*f:=by rw[J];simp
  ·refine⟨W.heap.size,W.heap.size+1,v,cv,by omega,hW2,rfl,rfl,hv,I,?_,?_,?_⟩
   ·have e:(W.alloc (Obj.cells (cZ (pad [] (a.length+1))).toArray 265)).drew.heap.size=W.heap.size+1:=by show(W.alloc _).heap.size=_;simp
    rw[e] at s;exact s
   ·exact(jd W 265 (cZ (pad [] (a.length+1)))).drew.ext hx
   ·exact Ext.trans (((aB W).alloc _).drew) hx
  ·have hx0:Ext W w1:=Ext.trans ((aB W).drew) hx;have hlt:W.heap.size<w1.heap.size:=(by obtain⟨g',_,P,vV,_⟩:=s.at_ (k:=0) (kJ (show 0<v.length by have:=(ade CB rfl Om HF hv I).1;omega));injection P with P;injection P with h1 h2;have:W.drew.heap.size=W.heap.size:=rfl;omega)
   refine⟨w1.heap.size,W.heap.size,v,cv,by omega,by omega,rfl,rfl,hv,I,s.ext ((aB w1).alloc _),?_,?_⟩
   ·exact jd w1 265 (cZ (pad [] (a.length+1)))
   ·exact hx0.alloc _
 case rest=>
  obtain⟨p,gv,v,cv,hne,Pz,rfl,rfl,hcv,J,s,hbu,Gu⟩:=hcut;clear mC;obtain⟨zY,M⟩:=ade CB rfl Om HF hcv J;have nC:=af (HW.trans Gu);have HFW:=af (HWF.ext Gu);have AX:=af s;have HBU:=af hbu;have YM:=af hcv;have HVV:=af J;have G3:=af zY;have awi:v<=b.length:=Om;have awh:b.length<=v.length:=Om;clear s hbu hcv J zY Gu;go_wp2_with fail
  refine(TZ _ _ _ _ a [f] wc Om Ou CA.1 (rT axp kK) (S1.ext nC) HFW).mono ?_;rintro e w2 ⟨r,cr,hrc,rfl,hr,Kf,Pf,hx2⟩;have Z:val r=val a*f:=by rw[Kf];simp
  have gL:r<=a.length+1:=by
   rcases cA (a.length+1) r with h|h
   ·exfalso;have h3:=EX hr.2 Om;have h4:=j9 CA.1;have h5:B9^(a.length+1)<=B9^(r.length - 1):=fK Od Om;have h6:val a*f<=B9^a.length*B9:=wV Om axp;have h7:val a*f<B9^a.length*B9:=by refine cy (Zg h4 X) (h_ _ axp)
    rw[eA] at h5;omega
   ·exact h
  have LF:=af (aku CA CB rfl rfl Om hbl X hr gL Z);have Ll:=af Pf;have bk:=af hx2;have ahu:=HBU.ext hx2;have avm:=af ahu;clear Pf hx2 Kf Z ahu;obtain⟨d,hQn⟩:∃d,d+v.length=a.length+1:=⟨a.length+1 - v.length,by omega⟩;have U8:∀w:World,(Instr.makeSlice 126 (.int .i64 ((a.length:Int)+1 - v)) (.int .i64 ((a.length:Int)+1 - v))).run prog w= .ok (.slice (some ⟨w.heap.size,0,none⟩) d d) (w.alloc (.cells (cZ (pad [] d)).toArray 265)):=(by have e':((a.length:Int)+1 - v)=(d:Int):=Om;rw[e'];exact Fv d Om)
  have auR:ah (zS (val a*f) (val v) v.length d (pad r (a.length+1)) []):=by
   have:=LF.ae;rw[ah,HVV.ae];have F:a.length+1 - b.length=d:=by have:=G3.ae;omega
   rw[F,<-G3.ae] at this;exact this
  have C:500000000<=limb v (v.length - 1):=by rw[G3.ae];exact M
  have Qb:=af C;have lQ:d<=a.length:=Om;have sP:a.length+1<=d+v.length:=Om;have hq3:d+v.length<=a.length+1:=Om;have sQ:2<=v.length:=Om;have HQN:=af hQn;clear hQn M C;go_wp2_with ((with_reducible show wpList _ _ _ _ _ _);refine aiA rfl (.tmp 49) (.tmp 52) 126 126 rfl 265 underlying126 Ok p 0 (a.length+1) (a.length+1) _ r.length cr rfl rfl 265 _ avm (cZ r) (by rw[MK];exact(i9 gL).symm) Ll (by rw[MK,MK,Cm Ou];omega) (by intro u hu;simp [cZ] at hu;obtain⟨y,_,rfl⟩:=hu;rfl) ?_;intro t gP B)
  have ahM:ah (Ext w t):=(nC.trans bk).only B Om;have ahP:ah (Lm t (some ⟨gv,0,none⟩) v):=(AX.ext bk).only B (fun h=>hne h.symm);have au6:ah (Lm t (some ⟨w.heap.size,0,none⟩) [f]):=(HFW.ext bk).only B Om;have hb3:aq t p 265 (cZ (pad r (a.length+1))):=by
   have:=gP.ae;have F:(cZ (pad [] (a.length+1))).take 0++(cZ r++(cZ (pad [] (a.length+1))).drop (0+(cZ r)))=cZ (pad r (a.length+1)):=(by rw[kG,tL,jL,MK,NH,cZ,cZ,cZ,Bx,List.drop_replicate,pad,kE,Bx])
   rwa[F] at this
  have awN:p<t.heap.size:=hb3.lt;have awL:gv<t.heap.size:=(by obtain⟨g',_,P,vV,_⟩:=ahP.at_ (k:=0) (kJ (show 0<v.length by omega));injection P with P;injection P with h1 h2;omega)
  have avr:=af hb3;clear hb3 U8 B;go_loopw [12] (fun i wr=>∃(m:Int) (c q:List Nat), -1<=m/\m<d/\i= .int .i64 m/\c.length=a.length+1/\q.length=d - (m+1).toNat/\zS (val a*f) (val v) v.length (m+1).toNat c q/\aq wr p 265 (cZ c)/\aq wr t.heap.size 265 (cZ (List.replicate (m+1).toNat 0++q))/\Lm wr (some ⟨gv,0,none⟩) v/\Lm wr (some ⟨w.heap.size,0,none⟩) [f]/\Ext w wr) (fun i _=>(intOf i+1).toNat)
  ·refine⟨(d:Int) - 1,pad r (a.length+1),[],by omega,by omega,rfl,Cm gL,?_,?_,avr.alloc _,?_,ahP.ext ((aB t).alloc _),au6.ext ((aB t).alloc _),ahM.alloc _⟩
   ·simp
   ·have F:((d:Int) - 1+1).toNat=d:=Om;rw[F];exact auR
   ·have F:((d:Int) - 1+1).toNat=d:=Om;rw[F,j5,<-NH];exact jd _ _ _
  obtain⟨m,c,q,jT,n_,rfl,K,D,N,aht,E,ag0,ahj,Y⟩:=hrel;have G:=af K;have Er:=af D;have HLO:=af N;have S:=af aht;have HBQ:=af E;have JY:=af ag0;have ah6:=af ahj;have ahL:=af Y;clear K D N aht E ag0 ahj Y;have hV0:0<val v:=CK YM (by intro h;rw[h] at sQ;simp at sQ);by_cases h0:0<=m
  ·obtain⟨j,rfl⟩:∃j:Nat,m=j:=⟨m.toNat,by omega⟩;have V:((j:Int)+1).toNat=j+1:=Om;have auC:=af (V▸Er.ae);have R:=af (V▸HLO.ae);have avp:=af (V▸HBQ.ae);clear V;have d6:j<c.length:=ays;have A:=aay R d6;have HBS:ah (aq wr p 265 (cZ (c.take j++c.drop j))):=by rw[ah,tH];exact S
   have Pe:(c.take j).length=j:=axw;have uv:v.length+1<=(c.drop j).length:=by rw[qx];have:=G.ae;omega
   have HST:=af (anv p j v.length (a.length+1 - j) cv gv 0 (c.take j) (c.drop j) v wr sQ Om Pe uv (R.ya.drop j) HBS rfl YM.1 JY (fun h=>hne h.symm) Qb A);have HQ9:ah (val ((c.drop j).take (v.length+1))/val v<B9):=by rw[ah,QS hV0];exact A
   have aum:ah (j+v.length+1<=c):=by have:=G.ae;unfold ah;omega
   have HHW:=af A;have AW:=af Pe;clear A Pe uv d6;go_wp2_with fail
   rw[show j+v.length+1 - j=v.length+1 from by omega];refine HST.mono ?_;rintro e w5 ⟨rfl,u',L,agW,agV,qZ,l⟩;have Yg:=af (akv R aum L agW (j9 YM.1) hV0 agV);rw[y6] at qZ;have yK:=af qZ;have T:=af (avp.only l Om);have aup:=af (JY.only l (fun h=>hne h.symm));have au5:=af (ah6.only l Om);have Vs:ah (Ext w w5):=ahL.only l Om;have aul:ah ((c.take j++(u'++c.drop (j+(v.length+1)))).length=a.length+1):=by rw[ah,bD,bD,AW.ae,L,qx,G.ae];omega
   clear L agW agV qZ l;have hqi:=HQ9.ae;unfold B9 at hqi;generalize val ((c.drop j).take (v.length+1))/val v=qj at*;generalize c.take j++(u'++c.drop (j+(v.length+1)))=uw' at*;have avW:w5.cell? ⟨t.heap.size,j,none⟩=some (.int .u64 (0:Nat)):=by have F:List.replicate (j+1) 0++q=List.replicate j 0++(0::q):=ayu;have:=Jl (i:=j) T Oc;rw[this,F,Jc _ _ _ _ Ou]
   have awV:=T.frozen j;have atk:w.heap.size<=t.heap.size:=ahM.size;go_wp2;go_roundw
   ·refine⟨(j:Int) - 1,uw',qj::q,by omega,by omega,by go_num,aul,?_,?_,yK.far (by show p≠t.heap.size;omega) _,?_,aup.only ((gD _ _).bh _ _) Om,au5.only ((gD _ _).bh _ _) Om,Vs.setCell atk _⟩
    ·have:=auC.ae;rw[cT];omega
    ·have F:((j:Int) - 1+1).toNat=j:=Om;rw[F];exact Yg
    ·have F:((j:Int) - 1+1).toNat=j:=Om;have e3:List.replicate (j+1) 0++q=List.replicate j 0++(0::q):=ayu;have:=Fw (i:=j) (x:=qj) (z:=(qj:Int)) T rfl;rw[e3,CU _ _ _ _ _ Ou] at this;rw[F];exact this
   simp [intOf]
  ·obtain rfl:m= -1:=Om;have U:=HLO.ae;have D:=Er.ae;have E:=HBQ.ae;simp only[Int.reduceNeg,Int.reduceAdd,Int.toNat_zero,Zx,tL,Rq] at U D E;have ahc:zS (val a*f) (val b*f) v 0 c q:=by rw[<-HVV.ae];exact U
   have hb0:0<val b:=CK CB (by intro h;rw[h] at hb2;simp at hb2);have ahZ:=af (aoh hb0 X ahc);have Q:=af U;have auB:=af D;have avo:=af E;clear U D E ahc;have hsu:Lm wr (some ⟨p,0,none⟩) (c.take v):=(by have:=(S.sl 0).take v;rw[mV,Sm] at this;exact this)
   have K:(c.take v.length).length=v.length:=by rw[cO,G.ae];omega
   have HTR:=af (tS (some ⟨p,0,none⟩) (a.length+1) v (c.take v) wr K Om Om (Q.ya.take _) hsu);have hcf:wr.cell? ⟨w.heap.size,0,none⟩=some (.int .u64 f):=(by obtain⟨_,_,P,_,hc⟩:=ah6.at_ (k:=0) (kJ (show 0< [f].length by simp));injection P with P;injection P with h1 h2;subst h1 h2;simpa using hc)
   have hsq:Lm wr (some ⟨t.heap.size,0,none⟩) q:=(by have:=avo.sl 0;rwa[mV] at this);have HSQ:=af hsq;clear hsu K hsq;go_wp2_with fail;go_region_with (first|(go_at_call 199;refine(tS (some ⟨p,0,none⟩) (a.length+1) v (c.take v) _ (by rw[cO,G.ae];omega) Om Om (Q.ya.take _) (by exact(show Lm wr (some ⟨p,0,none⟩) (c.take v) from by have:=(S.sl 0).take v;rw[mV,Sm] at this;exact this))).mono ?_;rintro e w6 ⟨r6,Pi,rfl,KE,qT,xX,rfl⟩)|(go_at_call 314;refine(abJ _ _ r6 f _ Om KE.1 X WY xX).mono ?_;rintro e w7 ⟨r7,c7,atx,rfl,hc7,Kh,qb,H⟩))
   all_goals
    go_wp2_with fail
    have fp:Ext wr w7:=⟨H.os,H.tape,H.output,H.size,H.block⟩;refine(tS (some ⟨t.heap.size,0,none⟩) d d q w7 auB (aL _) Om Q.afF (HSQ.ext fp)).mono ?_;rintro e w8 ⟨r8,hr8,rfl,vY,o5,hs8,rfl⟩;have Ek:=af Kh;have El:=af qT;have Lb:=af o5;clear Kh qT o5;go_wp2;go_ret2;exact⟨_,r8,d,_,r7,c7,rfl,hr8,atx,vY,hc7,Lb.trans ahZ.1,by rw[Ek.ae,El.ae];exact ahZ.2.1,hs8,qb,ahL.trans fp⟩
def Sd(e d:aQ)(c f:Nat)(a b:List Nat)(w:au)(k:a.length<=10000000)(q:b.length<=10000000)(m:Canon a)(l:Canon b)(j:a.length<=c)(i:Lm w e a)(g:Lm w d b)(p:b≠ []):
 Calls prog 260 #[.slice e a.length c,.slice d b.length f] w (NU a b w):=by
 rcases cA (val a) (val b) with h|h
 ·exact ajI e d c f a b w k q m l j i g h
 ·rcases cA b.length 2 with o|o
  ·have:b.length≠0:=fun h=>p (lU h);exact akV e d c f a b w k m l i g h Om
  ·exact ajH e d c f a b w k m l i g h o
def eO(w:au)(v:Value)(n:Nat):Prop:=∃A c,v= .slice A (a7 n).length c/\(a7 n).length<=c/\Lm w A (a7 n)
def eO.ext{w':au}{v:Value}{n:Nat}(h:eO m v n)(a:Ext m w'):eO w' v n:=by obtain⟨A,c,rfl,d,b⟩:=h;exact⟨A,c,rfl,d,b.ext a⟩
def eO.keep{v:Value}{n:Nat}(h:eO m v n)(a:Kept 265 m o):eO o v n:=by obtain⟨A,c,rfl,d,b⟩:=h;exact⟨A,c,rfl,d,b.keep a⟩
def eO.mk'{A:aQ}{n:Nat}(b:Canon i)(hv:val i=n)(d:i<=c)(a:Lm m A i):eO m (.slice A i c) n:=by subst hv;have:=ad0 b;exact⟨A,c,by rw[this],by rw[this];exact d,by rw[this];exact a⟩
def Fit(n:Nat):Prop:=(a7 n).length<=1000000
def Fit.of_lt{n:Nat}(h:n<10^e)(a:e<=8000000):Fit n:=by have:=Rf h;unfold Fit;omega
def I9:=@Fit.of_lt
def Fit.le{n:Nat}(h:Fit n)(b:a<=n):Fit a:=by have:=ER (dE n) (dE a) (by rw[dG,dG];exact b);unfold Fit at*;omega
def IZ(A:aQ)(c:Nat)(l:List Nat)(w:au)(m:l.length<=2)(d:bI l)(b:Lm w A l):
 Calls prog 265 #[.slice A l c] w fun e a=>e= .returned (.int .u64 (val l:Nat))/\w=a:=by
 have g:=af b;have i:=d.getD 0;have h:=d.getD 1;have hv:val l=limb l 1*1000000000+limb l 0:=(by have j:=ja l 0;have f:=ja l 1;rw[dD (show l.length<=1+1 by omega),j] at f;rw[f];simp only[kG,FK,E5,rN,B9];omega)
 unfold B9 at i h;have k:=af hv;clear b hv;go_enter func265,ntmps265;go_wp2_with fail
 refine(FW A c l 1 w Om Om g).mono ?_;rintro e a ⟨rfl,rfl⟩;go_wp2_with fail;refine(FW A c l 0 w Om Om g).mono ?_;rintro e a ⟨rfl,rfl⟩;go_wp2;go_ret;exact⟨qG (by rw[k.ae];omega),rfl⟩
def ai3(x:Nat)(a:x<1000000000000000000):bI [x%B9,x/B9]/\val [x%B9,x/B9]=x:=by refine⟨rT (fC _ Od) (rT axp kK),?_⟩;simp only[mZ,FK,ID,kH];exact Iq x B9
def ap_(va vb:Value)(a b:Nat)(w:au)(fa:Fit a)(fb:Fit b)(ha:eO w va a)(hb:eO w vb b):
 Calls prog 245 #[va,vb] w fun e o=>∃v,e= .returned v/\eO o v (Nat.gcd a b)/\Ext w o:=by
 have HA:=af ha;have HB:=af hb;have FA:=af fa;have FB:=af fb;clear ha hb fa fb;go_enter func245,ntmps245;go_wp2;go_loopg [0,1,5,6] b (fun k sa sb _ _ wr=>∃x y:Nat,k=y/\Fit x/\Fit y/\eO wr sa x/\eO wr sb y/\Nat.gcd x y=Nat.gcd a b/\Ext w wr)
 case atStart=>exact⟨a,b,rfl,FA,FB,HA,HB,rfl,aB w⟩
 case round=>
  obtain⟨x,y,rfl,fx,fy,hx,hy,hg,l⟩:=hrel;obtain⟨Z,T,rfl,C,sx⟩:=hx;obtain⟨S,N,rfl,PF,sy⟩:=hy;have FX:=af fx;have FY:=af fy;have U:=af sx;have O:=af sy;have W:=af hg;have V:=af l;unfold Fit at fx fy;clear sx sy hg l;by_cases i:2<(a7 gk).length
  ·go_wp2_with fail
   refine(Sd Z S T N (a7 x) (a7 gk) wr Om Om (dE x) (dE gk) C U O (by intro h;rw[h] at i;simp at i)).mono ?_;rintro e d ⟨Aq,lq,cq,Ar,lr,cr,rfl,x6,I,cq',j,A,c,sq,sr,f⟩;rw[dG,dG] at c;have H:0<gk:=by
    rcases j4 gk with h|h
    ·subst h;simp [anq] at i
    ·exact h
   have B:x%gk<gk:=fC _ H;have E:=af c;clear c A;go_wp2;go_roundg (x%gk)
   case measure=>exact B
   case rel=>exact⟨gk,x%gk,rfl,FY,FY.le Om,⟨S,N,rfl,PF,O.ext f⟩,.mk' j E I sr,by rw[<-W.ae,Cj x gk,RP gk x,Cj],V.trans f⟩
  ·by_cases t:gk=0
   ·subst t;have hz:((a7 0).length:Int)=0:=rfl;have K:(((a7 0).length:Int)==0)=true:=rfl;have hb2:decide ((2:Int)<((a7 0).length:Int))=false:=rfl;have HE:ah (x=Nat.gcd a b):=by rw[ah,<-W.ae,ZC]
    clear hz;go_wp2;go_ret;refine⟨_,rfl,?_,V⟩;rw[<-HE.ae];exact⟨Z,T,rfl,C,U⟩
   ·have s:0<(a7 gk).length:=by
     rcases j4 (a7 gk).length with h|h
     ·exact absurd (ve.1 (lU h)) t
     ·exact h
    have K:(((a7 gk).length:Int)==0)=false:=beq_eq_false_iff_ne.2 Om;have hb3:decide ((2:Int)<((a7 gk).length:Int))=false:=aW;have g:gk<1000000000000000000:=(by have h3:=j9 (dE gk).1;rw[dG] at h3;have h4:B9^(a7 gk).length<=B9^2:=fK Od Om;have h5:B9^2=1000000000000000000:=Od;omega)
    by_cases hx2:2<(a7 x).length
    all_goals first
     |(have J:decide ((2:Int)<((a7 x).length:Int))=true:=fN
       go_wp2_with fail
       refine(Sd Z S T N (a7 x) (a7 gk) wr Om Om (dE x) (dE gk) C U O (by intro h;rw[h] at s;simp at s)).mono ?_;rintro e d ⟨Aq,lq,cq,Ar,lr,cr,rfl,x6,I,cq',j,A,c,sq,sr,f⟩;rw[dG,dG] at c;have B:x%gk<gk:=fC _ Om;have Kq:lr.length<=2:=by have:=ER (dE gk) j (by rw[dG,c];omega);omega
       have E:=af c;clear c A;go_wp2_with fail;refine(IZ S N (a7 gk) d Om (dE gk).1 (O.ext f)).mono ?_;rintro e o ⟨rfl,rfl⟩;rw[dG];go_wp2_with fail;refine(IZ Ar cr lr d Om j.1 sr).mono ?_;rintro e o ⟨rfl,rfl⟩;rw[E.ae];have Q:ah (Ext w d):=V.trans f;obtain⟨X,D⟩:∃X,X=gk:=⟨_,rfl⟩;obtain⟨Y,m⟩:∃Y,Y=x%gk:=⟨_,rfl⟩;have P:ah (Nat.gcd X Y=Nat.gcd a b):=by rw[ah,D,m,<-W.ae,Cj x gk,RP gk x,Cj]
       have M:X<1000000000000000000:=Om;have L:Y<1000000000000000000:=by rw[m];exact Ru B g
       rw[<-m,<-D];clear D m)
     |(have J:decide ((2:Int)<((a7 x).length:Int))=false:=aW
       go_wp2_with fail
       refine(IZ Z T (a7 x) wr Om (dE x).1 U).mono ?_;rintro e o ⟨rfl,rfl⟩;rw[dG];go_wp2_with fail;refine(IZ S N (a7 gk) wr Om (dE gk).1 O).mono ?_;rintro e o ⟨rfl,rfl⟩;rw[dG];obtain⟨d,z⟩:∃d,d=wr:=⟨_,rfl⟩;have Q:ah (Ext w d):=by rw[z];exact V
       rw[<-z];obtain⟨X,D⟩:∃X,X=x:=⟨_,rfl⟩;obtain⟨Y,m⟩:∃Y,Y=gk:=⟨_,rfl⟩;have P:ah (Nat.gcd X Y=Nat.gcd a b):=by rw[ah,D,m];exact W
       have M:X<1000000000000000000:=(by have h3:=j9 (dE x).1;rw[dG] at h3;have h4:B9^(a7 x).length<=B9^2:=fK Od Om;have h5:B9^2=1000000000000000000:=Od;omega);have L:Y<1000000000000000000:=Om;rw[<-D,<-m];clear D m z)
    all_goals
     clear K hb3 J hx2 s t i g;go_wp2;go_loopw [9,10] (fun p9 r wq=>∃p q:Nat,p9= .int .u64 p/\r= .int .u64 q/\p<1000000000000000000/\q<1000000000000000000/\Nat.gcd p q=Nat.gcd a b/\∃n,wq=d.drewN n) (fun _ r _=>(intOf r).toNat);exact⟨X,Y,rfl,rfl,M,L,P,0,rfl⟩;obtain⟨p,q,rfl,rfl,hp,hq,G,n,rfl⟩:=hrel;have R:=af G;clear G;by_cases ur:q=0
     ·subst ur;have hl:=ai3 p hp;have HE:ah (p=Nat.gcd a b):=by rw[ah,<-R.ae,ZC]
      have HL:=af hl;clear hl;go_wp2_with fail;have e1:(p:Int)%1000000000=((p%B9:Nat):Int):=axp;have e2:(p:Int)/1000000000=((p/B9:Nat):Int):=axp;rw[e1,e2];refine(tS (some ⟨d.heap.size,0,none⟩) 2 2 [p%B9,p/B9] _ rfl Om Om HL.1 (Sl.new (d.drewN n) 265 #[.int .u64 ((p%B9:Nat):Int),.int .u64 ((p/B9:Nat):Int)])).mono ?_;rintro e o ⟨r',Pj,rfl,hc',F,hs',rfl⟩;have HV':=af (F.trans HL.2);clear F e1 e2;go_wp2;go_ret;exact⟨_,rfl,.mk' hc' (HV'.trans HE) Pj hs',(Q.drewN n).alloc _⟩
     ·have hne:((q:Int) !=0)=true:=ayb;go_wp2;go_quiet (fail);go_wp2;go_roundw;exact⟨q,p%q,rfl,congrArg _ (Q9 p q).symm,hq,Ru (fC p Om) hq,by rw[<-R.ae,Cj p q,RP q p,Cj],by first|exact UG _ _|exact JF _ _ _⟩;simp only[intOf];rw[<-Q9];simp only[kX];exact fC p Om
end Go.Proofs.YtehkcnbodcdijaaGreatDoor
