/- Texts of the proof, part 3. -/
import Derived.Test.YtadbchhdjbghkaaGreatDoorA2
namespace Go.Proofs.YtadbchhdjbghkaaGreatDoor
set_option maxHeartbeats 8000000
set_option linter.all false
set_option maxRecDepth 100000
variable{aq:Prop}
open Go.RowKit Go.Lib Go.Maps Go.ChangeShapes Go.WideShapes Go.ChangeAt Go.Proofs.Tryz
variable{a b c d e f g h:Nat}{i j k l:List Nat}{m n o:World}{p q r s:Value}{t u v:List Value}{w x:TypeId}{y z:Nat→Option Nat}{A:Nat→List Nat}{B C:Int}{E F:Option Addr}{H I:Rat}{J:Nat→Nat}{K:Nat→Bool}{L:List Int}{N:Array Bool}{O:Option Nat}{Q:Act}{R S:Bool}{T:List UInt8}
def B9:Nat:=1000000000
def val:List Nat->Nat
 | []=>0
 |x::r=>x+B9*val r
def bH(l:List Nat):Prop:=∀x∈l,x<B9
def gC(l:List Nat):Prop:=l.getLast?≠some 0
def Canon(l:List Nat):Prop:=bH l/\gC l
@[simp] theorem EP:val []=0:=rfl
@[simp] theorem mr (x:Nat) (r:List Nat):val (x::r)=x+B9*val r:=rfl
def Ey(a b:List Nat):val (a++b)=val a+B9^a.length*val b:=by
 induction a with
 |nil=>simp
 |cons x a c=>simp only[sO,mr,c,cP,eU,fZ];rw[ed (B9^a.length) B9,fO];omega
def nR(a:List Nat)(x:Nat):val (a++ [x])=val a+B9^a.length*x:=by simp [Ey]
def bH.nil:bH []:=by simp [bH]
def jT:=@bH.nil
def bH.cons(h:a<B9)(c:bH i):bH (a::i):=by
 intro y b;rcases aJ.1 b with rfl|d
 ·exact h
 ·exact c y d
def rj:=@bH.cons
def bH.head(h:bH (a::i)):a<B9:=h a Ou
def bH.tail(h:bH (a::i)):bH i:=fun y b=>h y av9
def bH.take(h:bH l)(k:Nat):bH (l.take k):=fun x a=>h x (oW a)
def bH.drop(h:bH l)(k:Nat):bH (l.drop k):=fun x a=>h x (Ha a)
def bH.append(e:bH i)(d:bH j):bH (i++j):=fun x c=>by
 rcases bV.1 c with h|h
 ·exact e x h
 ·exact d x h
def bH.snoc{x:Nat}(c:bH i)(b:x<B9):bH (i++ [x]):=c.append (rj b jT)
def bH.getElem(h:bH i){k:Nat}(a:k<i):i[k]<B9:=h _ Ou
def apD(n:Nat):0<B9^n:=Nat.pow_pos Od
def jV(h:bH i):val i<B9^i.length:=by
 induction i with
 |nil=>simp
 |cons x i a=>
  have b:=a h.tail;have c:=h.head;simp only[mr,cP,eU];have:B9*val i+B9<=B9*B9^i.length:=by rw[<-LN];exact iF _ b
  rw[ed (B9^i.length)];omega
def AW(h:∀x∈l,x=0):val l=0:=by
 induction l with
 |nil=>rfl
 |cons x l a=>simp only[mr,h x Ou,a (fun y b=>h y av9)];rfl
def AX(l:List Nat)(k:Nat):val l=val (l.take k)+B9^(l.take k).length*val (l.drop k):=by rw[<-Ey,sJ]
def Lp(l:List Nat)(k:Nat)(h:∀x∈l.drop k,x=0):val (l.take k)=val l:=by rw[AX l k,AW h];simp
def LF(l:List Nat)(k:Nat)(h:k<l.length):val (l.take (k+1))=val (l.take k)+B9^k*l[k]:=by rw[fg h,nR,cJ,iR Om]
def gC.nil:gC []:=by simp [gC]
def gC.SH(a:0<i.length)(h:i[i.length - 1]≠0):gC i:=by unfold gC;rw[List.getLast?_eq_getElem?,aX Om];simpa using h
def gC.last(h:gC i)(a:0<i.length):i[i.length - 1]≠0:=by unfold gC at h;rw[List.getLast?_eq_getElem?,aX Om] at h;simpa using h
def gC.tail(h:gC (a::b::i)):gC (b::i):=by unfold gC at*;simpa using h
def gC.apJ(h:gC (a::i)):gC i:=by
 cases i with
 |nil=>exact gC.nil
 |cons y i=>exact h.tail
def Canon.nil:Canon []:=⟨jT,gC.nil⟩
def Canon.tail(h:Canon (a::i)):Canon i:=⟨h.1.tail,h.2.apJ⟩
def Ee(h:gC i)(b:0<i.length):B9^(i.length - 1)<=val i:=by have c:=h.last b;have a:=LF i (i.length - 1) Om;rw[dz Om] at a;rw[a];have:B9^(i.length - 1)*1<=B9^(i.length - 1)*i[i.length - 1]:=iF _ Om;omega
def AB(d:Canon i)(c:Canon j)(h:i.length<j.length):val i<val j:=by have g:=jV d.1;have f:=Ee c.2 Om;have e:B9^i.length<=B9^(j.length - 1):=fN Od Om;omega
def Zk(e:bH i)(g:i.length=j.length)(k:Nat)(d:k<i.length)(h:i[k]<j[k])(c:i.drop (k+1)=j.drop (k+1)):val i<val j:=by
 rw[AX i (k+1),AX j (k+1),c,LF i k d,LF j k Om,cJ,cJ,iR Om,iR Om];have f:=jV (e.take k);rw[cJ,iR Om] at f;have l:B9^k*i[k]+B9^k<=B9^k*j[k]:=by rw[<-LN];exact iF _ h
 omega
def Zt(d:Canon i)(c:Canon j)(h:val i=val j):i=j:=by
 induction i generalizing j with
 |nil=>
  cases j with
  |nil=>rfl
  |cons y j=>have:=AB d c Ou;simp only[EP] at*;omega
 |cons x i e=>
  cases j with
  |nil=>have:=AB c d Ou;simp only[EP] at*;omega
  |cons y j=>
   have g:=d.1.head;have f:=c.1.head;simp only[mr] at h;have l:x=y:=(by have:=congrArg (·%B9) h;simp only[Nat.add_mul_mod_self_left] at this;rwa[sN g,sN f] at this)
   have k:val i=val j:=by unfold B9 at h;omega
   rw[l,e d.tail c.tail k]
def val_eq_zero(h:Canon i)(a:val i=0):i= []:=Zt h Canon.nil a
def Bq(h:Canon i)(b:i≠ []):0<val i:=by
 rcases ip (val i) with a|a
 ·exact absurd (val_eq_zero h a) b
 ·exact a
def ahJ(h:Canon i)(hv:val i<10^b):i.length<=b/9+1:=by
 rcases ip i.length with d|d
 ·omega
 ·have j:=Ee h.2 d;have c:B9^(i.length - 1)<10^b:=Om;have f:B9^(i.length - 1)=10^(9*(i.length - 1)):=by rw[Nat.pow_mul];rfl
  rw[f] at c;have g:=(Nat.pow_lt_pow_iff_right (a:=10) Od).1 c;omega
def limb(l:List Nat)(k:Nat):Nat:=l.getD k 0
def f4(h:a<i):limb i a=i[a]:=by rw[limb,fh,aX h];rfl
def pg{k:Nat}(h:l<=k):limb l k=0:=by rw[limb,fh,fF h];rfl
def iH(l:List Nat)(k:Nat):val (l.take (k+1))=val (l.take k)+B9^k*limb l k:=by
 rcases cA k l with h|h
 ·rw[LF l k h,f4 h]
 ·rw[dz Om,dz h,pg h];simp
def bH.getD(h:bH i)(k:Nat):limb i k<B9:=by
 rcases cA k i with a|a
 ·rw[f4 a];exact h.getElem a
 ·rw[pg a];decide
def pad(r:List Nat)(N:Nat):List Nat:=r++List.replicate (N - r.length) 0
def sU{r:List Nat}{N:Nat}(h:r<=N):(pad r N)=N:=by simp [pad];omega
def aoe(x:Nat)(h:i<a):(pad i a).set i x=pad (i++ [x]) a:=by obtain⟨m,b⟩:∃m,a - i=m+1:=⟨a - i.length - 1,by omega⟩;have c:a - (i.length+1)=m:=Om;simp [pad,b,c,List.replicate_succ]
def R_(h:i=a):pad i a=i:=by simp [pad,h]
def Ir(N:Nat):pad [] N=List.replicate N 0:=by simp [pad]
def RM(e:i.length=a)(h:val i+B9^a*b=val (j.take a)+val (k.take a))(d:c=limb j a+limb k a+b):
 val (i++ [c%B9])+B9^(a+1)*(c/B9)=val (j.take (a+1))+val (k.take (a+1)):=by
 rw[nR,e,iH,iH,eU,fO];have g:B9^a*(c%B9)+B9^a*(B9*(c/B9))=B9^a*c:=by rw[<-fZ,Hf]
 have f:B9^a*c=B9^a*limb j a+B9^a*limb k a+B9^a*b:=by rw[d,fZ,fZ]
 omega
def ao3(g:bH j)(f:bH k)(m:i.length=a)(o:a=max j.length k.length+1)(h:val i+B9^a*b=val (j.take a)+val (k.take a)):val i=val j+val k:=by
 rw[dz Om,dz Om] at h;have w:=jV g;have t:=jV f;have s:B9^j.length<=B9^(a - 1):=fN Od Om;have q:B9^k.length<=B9^(a - 1):=fN Od Om;have l:B9^a=B9^(a - 1)*B9:=awu;have p:B9^(a - 1)*2<=B9^a:=by rw[l];exact iF _ Od
 have e:b=0:=by
  rcases ip b with d|d
  ·exact d
  ·have:B9^a*1<=B9^a*b:=iF _ d;omega
 subst e;omega
def aaO(d:i.length=a)(h:val i+val (k.take a)=val (j.take a)+B9^a*b)(f:c+limb k a+b=limb j a+B9)(g:c/B9<=1):
 val (i++ [c%B9])+val (k.take (a+1))=val (j.take (a+1))+B9^(a+1)*(1 - c/B9):=by
 rw[nR,d,iH,iH,eU,fO];have o:c%B9+B9*(c/B9)=c:=Hf c B9;have e:c%B9+limb k a+b=limb j a+B9*(1 - c/B9):=by generalize c/B9=q at*;generalize c%B9=m at*;have:q=0\/q=1:=Om;unfold B9 at*;rcases this with rfl|rfl<;>omega
 have l:B9^a*(c%B9)+B9^a*limb k a+B9^a*b=B9^a*limb j a+B9^a*(B9*(1 - c/B9)):=by rw[<-fZ,<-fZ,<-fZ,e]
 omega
def Eb(e:Canon i)(d:Canon j)(h:val j<=val i):j<=i.length:=by
 rcases cA i j with c|c
 ·have:=AB e d c;omega
 ·exact c
def acY(o:Canon j)(m:Canon k)(f:i.length=j.length)(g:bH i)(d:val k<=val j)(h:val i+val (k.take j.length)=val (j.take j.length)+B9^j.length*a):val i=val j - val k:=by
 rw[dz (Eb o m d),dz (aK _)] at h;have p:=jV g;rw[f] at p;have l:a=0:=by
  rcases ip a with e|e
  ·exact e
  ·have:B9^j.length*1<=B9^j.length*a:=iF _ e;omega
 subst l;omega
def Rt(m:i.length=a+b)(h:val i+B9^(a+b)*c=val (j.take (a+b))+B9^a*(d*val (k.take b)))(g:f=limb j (a+b))(l:e=f+d*limb k b+c):
 val (i++ [e%B9])+B9^(a+(b+1))*(e/B9)=val (j.take (a+(b+1)))+B9^a*(d*val (k.take (b+1))):=by
 rw[nR,m,iH k b,<-yq,iH j (a+b),eU,fO,<-g];have s:B9^(a+b)*(e%B9)+B9^(a+b)*(B9*(e/B9))=B9^(a+b)*e:=by rw[<-fZ,Hf]
 have q:B9^(a+b)*e=B9^(a+b)*f+B9^(a+b)*(d*limb k b)+B9^(a+b)*c:=by rw[l,fZ,fZ]
 have o:B9^a*(d*(val (k.take b)+B9^b*limb k b))=B9^a*(d*val (k.take b))+B9^(a+b)*(d*limb k b):=(by rw[fZ,fZ,pW,fO,Y1 d (B9^b)]);omega
def Es{x y:Nat}(b:x<B9)(a:y<B9):x*y<=999999998000000001:=by have:x*y<=999999999*999999999:=vF (by unfold B9 at b;omega) (by unfold B9 at a;omega);omega
def akV(d:i=a+l)(e:j=a+l)(hv:val j=val (k.take a)*val l)
 (h:val i+B9^(a+l.length)*b=val (j.take (a+l.length))+B9^a*(limb k a*val (l.take l.length))):val (i++ [b])=val (k.take (a+1))*val l:=by
 rw[dz Om,dz (aK _),hv] at h;rw[nR,d,h,iH k a,ki,fO]
def ah2{rest:Nat}(e:a<i.length)(h:val (i.drop (a+1))=val j*b+rest)(f:c=rest*B9+limb i a):
 val (i.drop a)=val (c/b::j)*b+c%b:=by
 rw[jR e,mr,h,<-f4 e,mr,ki];have k:c/b*b+c%b=c:=Nat.div_add_mod' c b;have g:B9*(val j*b+rest)=B9*val j*b+rest*B9:=by rw[fZ,fO,ed rest]
 omega
def al8{rest:Nat}(c:rest<a)(e:b<B9):(rest*B9+b)/a<B9:=by rw[PT Om];have:(rest+1)*B9<=a*B9:=eT _ c;rw[ki] at this;rw[ed B9 a];omega
def Fa:Nat->Nat->List Nat
 |0,_=> []
 |f+1,n=>if n=0 then [] else n%B9::Fa f (n/B9)
def aW(n:Nat):List Nat:=Fa n n
def aaL(f n:Nat)(h:n<=f):Canon (Fa f n)/\val (Fa f n)=n:=by
 induction f generalizing n with
 |zero=>have:n=0:=Om
        subst this;exact⟨Canon.nil,rfl⟩
 |succ f d=>
  unfold Fa;split
  ·rename_i c;subst c;exact⟨Canon.nil,rfl⟩
  ·rename_i c;have e:n/B9<=f:=by have:n/B9<n:=Nat.div_lt_self Om Od;omega
   obtain⟨b,a⟩:=d (n/B9) e;refine⟨⟨rj (eF _ Od) b.1,?_⟩,?_⟩
   ·generalize g:Fa f (n/B9)=r at*;cases r with
    |nil=>simp only[EP] at a;unfold gC;simp only[List.getLast?_singleton,ne_eq,cY];have:=ua n B9;rw[<-a] at this;omega
    |cons y r=>have:=b.2;unfold gC at*;simpa using this
   ·simp only[mr,a];exact Hf n B9
def cW(n:Nat):Canon (aW n):=(aaL n n (aK _)).1
def dm(n:Nat):val (aW n)=n:=(aaL n n (aK _)).2
def acU(h:Canon i):aW (val i)=i:=Zt (cW _) h (dm _)
def alY:aW 0= []:=rfl
def Zc{n:Nat}(h:n<10^a):(aW n)<=a/9+1:=ahJ (cW n) (by rwa[dm])
def qW{n:Nat}:aW n= []↔n=0:=⟨fun h=>by rw[<-dm n,h];rfl,fun h=>by rw[h];rfl⟩
def val_two{v:List Nat}{n:Nat}(hn:2<=n)(f:v=n):val v=val (v.take (n - 2))+B9^(n - 2)*(limb v (n - 1)*B9+limb v (n - 2)):=by have b:=iH v (n - 2);have a:=iH v (n - 1);have e:n - 2+1=n - 1:=Om;have d:n - 1+1=n:=Om;rw[e] at b;rw[d,dz Om,b] at a;have c:B9^(n - 1)=B9^(n - 2)*B9:=awu;rw[a,c,fZ,ed (limb v (n - 1)),<-fO];omega
def aaF{u:List Nat}{n:Nat}(hn:2<=n)(h:u=n+1):val u=val (u.take (n - 2))+B9^(n - 2)*((limb u n*B9+limb u (n - 1))*B9+limb u (n - 2)):=by
 have c:=iH u (n - 2);have b:=iH u (n - 1);have a:=iH u n;have g:n - 2+1=n - 1:=Om;have f:n - 1+1=n:=Om;rw[g] at c;rw[f] at b;rw[dz Om] at a;have e:B9^(n - 1)=B9^(n - 2)*B9:=awu;have d:B9^n=B9^(n - 2)*B9*B9:=by rw[<-eU,<-eU];congr 1;omega
 rw[a,b,c,e,d];generalize B9^(n - 2)=P;grind
section
variable{u v:List Nat}{n:Nat}(hn:2<=n)(hv:v.length=n)(hu:u.length=n+1)(dv:bH v)(du:bH u)
include hn hv
theorem aqm:(limb v (n - 1)*B9+limb v (n - 2))*B9^(n - 2)<=val v:=by rw[val_two hn hv,ed];omega
include dv in
theorem aqn:val v<(limb v (n - 1)*B9+limb v (n - 2)+1)*B9^(n - 2):=by have h:=jV (dv.take (n - 2));rw[cJ,iR Om] at h;rw[val_two hn hv,ki,nQ,ed];omega
theorem adW:limb v (n - 1)*B9^(n - 1)<=val v:=by have h:=iH v (n - 1);have a:n - 1+1=n:=Om;rw[a,dz Om] at h;rw[h,ed];omega
include dv in
theorem alP:val v<(limb v (n - 1)+1)*B9^(n - 1):=by have h:=iH v (n - 1);have a:=jV (dv.take (n - 1));rw[cJ,iR Om] at a;have b:n - 1+1=n:=Om;rw[b,dz Om] at h;rw[h,ki,nQ,ed];omega
end
section
variable{u:List Nat}{n:Nat}(hn:2<=n)(hu:u.length=n+1)(du:bH u)
include hn hu
theorem aqo:((limb u n*B9+limb u (n - 1))*B9+limb u (n - 2))*B9^(n - 2)<=val u:=by rw[aaF hn hu,ed];omega
include du in
theorem aer:val u<((limb u n*B9+limb u (n - 1))*B9+limb u (n - 2)+1)*B9^(n - 2):=by have h:=jV (du.take (n - 2));rw[cJ,iR Om] at h;rw[aaF hn hu,ki _ 1,nQ,ed];omega
omit hn in
theorem apH:limb u n*B9^n<=val u:=by have h:=iH u n;rw[dz Om] at h;rw[h,ed];omega
include du in
theorem aj0:val u<(limb u n*B9+limb u (n - 1)+1)*B9^(n - 1):=by have h:=aer hn hu du;have b:=du.getD (n - 2);have a:B9^(n - 1)=B9*B9^(n - 2):=awK;rw[a,<-fO];refine cF h (eT _ ?_);rw[ki _ 1];omega
end
structure IX(u v:List Nat)(n q r:Nat):Prop where
 top:q*limb v (n - 1)+r=limb u n*B9+limb u (n - 1)
 up:val u<(q+1)*val v
 rb:r<B9+limb v (n - 1)
def aiq{u v:List Nat}{n:Nat}(hn:2<=n)(hv:v.length=n)(hu:u.length=n+1)(_dv:bH v)(du:bH u)(a:0<limb v (n - 1)):
 IX u v n ((limb u n*B9+limb u (n - 1))/limb v (n - 1)) ((limb u n*B9+limb u (n - 1))%limb v (n - 1)):=by
 refine⟨Nat.div_add_mod' _ _,?_,?_⟩
 ·have e:=aj0 hn hu du;have b:=adW hn hv;have d:=Nat.lt_mul_div_succ (limb u n*B9+limb u (n - 1)) a;generalize limb u n*B9+limb u (n - 1)=T at*;have c:(T+1)*B9^(n - 1)<=(T/limb v (n - 1)+1)*val v:=(by refine a7 (eT (B9^(n - 1)) (show T+1<=(T/limb v (n - 1)+1)*limb v (n - 1) by rw[ed];omega)) ?_;rw[fO];exact iF _ b)
  omega
 ·have:=eF (limb u n*B9+limb u (n - 1)) a;omega
def ajr{u v:List Nat}{n:Nat}(hn:2<=n)(hv:v.length=n)(hu:u.length=n+1)(_dv:bH v)(du:bH u)(f:val u<B9*val v)(g:IX u v n a b)(l:b<B9)
 (h:B9<=a\/b*B9+limb u (n - 2)<a*limb v (n - 2)):1<=a/\IX u v n (a - 1) (b+limb v (n - 1)):=by
 have d:1<=a:=by
  rcases h with h|h
  ·unfold B9 at h;omega
  ·rcases ip a with c|c
   ·subst c;simp at h
   ·exact c
 refine⟨d,?_,?_,by omega⟩
 ·have k:=g.top;have:a*limb v (n - 1)=(a - 1)*limb v (n - 1)+limb v (n - 1):=(by rw[<-qT];congr 1;omega)
  omega
 ·have e:a - 1+1=a:=Om;rw[e];rcases h with h|h
  ·exact cF f (eT _ h)
  ·have k:=aer hn hu du;have j:=aqm hn hv;have i:(limb u n*B9+limb u (n - 1))*B9+limb u (n - 2)+1<=a*(limb v (n - 1)*B9+limb v (n - 2)):=(by rw[<-g.top,fZ,<-fO,ki];omega)
   have m:((limb u n*B9+limb u (n - 1))*B9+limb u (n - 2)+1)*B9^(n - 2)<=a*val v:=(by refine a7 (eT _ i) ?_;rw[fO];exact iF _ j);omega
def apI{u v:List Nat}{n:Nat}(hn:2<=n)(hv:v.length=n)(hu:u.length=n+1)(dv:bH v)(_du:bH u)(a:val u<B9*val v):limb u n<=limb v (n - 1):=by
 rcases cA (limb v (n - 1)) (limb u n) with h|h
 ·exfalso;have g:=apH hu;have f:=alP hn hv dv;have d:(limb v (n - 1)+1)*B9^n<=limb u n*B9^n:=eT _ h;have e:B9^n=B9^(n - 1)*B9:=awu;have c:B9*val v<=B9*((limb v (n - 1)+1)*B9^(n - 1)):=iF _ Om;have b:B9*((limb v (n - 1)+1)*B9^(n - 1))=(limb v (n - 1)+1)*B9^n:=by rw[e];grind
  omega
 ·exact h
def alg{u v:List Nat}{n:Nat}(hn:2<=n)(hv:v.length=n)(hu:u.length=n+1)(dv:bH v)(du:bH u)(i:val u<B9*val v)(g:IX u v n a b)
 (h:B9<=b\/(a<B9/\a*limb v (n - 2)<=b*B9+limb u (n - 2))):a<B9/\a*(limb v (n - 1)*B9+limb v (n - 2))<=(limb u n*B9+limb u (n - 1))*B9+limb u (n - 2):=by
 have d:=g.top;rcases h with h|⟨j,p⟩
 ·have k:=apI hn hv hu dv du i;have f:=du.getD (n - 1);have e:=dv.getD (n - 2);have o:limb u n*B9<=limb v (n - 1)*B9:=eT _ k;have c:a<B9:=by
   rcases cA a B9 with c|c
   ·exact c
   ·exfalso;have:B9*limb v (n - 1)<=a*limb v (n - 1):=eT _ c;rw[ed] at this;omega
  refine⟨c,?_⟩;rw[<-d,fZ,<-fO,ki];have m:a*limb v (n - 2)<=B9*B9:=vF Om Om;have l:B9*B9<=b*B9:=eT _ h;omega
 ·refine⟨j,?_⟩;rw[<-d,fZ,<-fO,ki];omega
def ajq{u v:List Nat}{n:Nat}(hn:2<=n)(hv:v.length=n)(hu:u.length=n+1)(dv:bH v)(_du:bH u)(b:0<limb v (n - 1))(c:a<B9)
 (h:a*(limb v (n - 1)*B9+limb v (n - 2))<=(limb u n*B9+limb u (n - 1))*B9+limb u (n - 2)):a*val v<=val u+val v:=by
 have m:=aqo hn hu;have l:=aqn hn hv dv;have k:=adW hn hv;have e:B9^(n - 1)=B9*B9^(n - 2):=awK;have j:a*val v<=a*((limb v (n - 1)*B9+limb v (n - 2)+1)*B9^(n - 2)):=iF _ Om;have i:a*((limb v (n - 1)*B9+limb v (n - 2)+1)*B9^(n - 2))=a*(limb v (n - 1)*B9+limb v (n - 2))*B9^(n - 2)+a*B9^(n - 2):=(by rw[ki,nQ,fZ,fO])
 have g:a*(limb v (n - 1)*B9+limb v (n - 2))*B9^(n - 2)<=((limb u n*B9+limb u (n - 1))*B9+limb u (n - 2))*B9^(n - 2):=eT _ h;have f:a*B9^(n - 2)<=B9*B9^(n - 2):=eT _ Om;have d:1*B9^(n - 1)<=limb v (n - 1)*B9^(n - 1):=eT _ b;omega
def aiB{u v:List Nat}{y c':Nat}(g:i.length=a)(h:val i+c*val (v.take a)=val (u.take a)+B9^a*b)(f:d=c*limb v a+b)(e:y+d=limb u a+B9*c'):
 val (i++ [y])+c*val (v.take (a+1))=val (u.take (a+1))+B9^(a+1)*c':=by
 rw[nR,g,iH v a,iH u a,eU,fO,fZ];have m:B9^a*y+B9^a*d=B9^a*limb u a+B9^a*(B9*c'):=by rw[<-fZ,<-fZ,e]
 have l:B9^a*d=B9^a*(c*limb v a)+B9^a*b:=by rw[f,fZ]
 have j:c*(B9^a*limb v a)=B9^a*(c*limb v a):=Y1 _ _ _;omega
def aiC{u v:List Nat}{n:Nat}(hv:v.length=n)(hu:u.length=n+1)(f:i.length=n)(up:val u<(b+1)*val v)
 (h:val i+b*val (v.take n)=val (u.take n)+B9^n*a) (j:a<=limb u n):val u/val v=b/\val (i++ [limb u n - a])=val u%val v:=by
 rw[dz Om] at h;have g:=iH u n;rw[dz Om] at g;have l:B9^n*limb u n=B9^n*a+B9^n*(limb u n - a):=by rw[<-fZ];congr 1;omega
 have k:val (i++ [limb u n - a])+b*val v=val u:=by rw[nR,f];omega
 have e:val u/val v=b:=(by refine(Nat.div_eq_iff (by rcases ip (val v) with d|d;(rw[d] at up;simp at up);exact d)).2 ⟨by omega,?_⟩;rw[ki] at up;omega);refine⟨e,?_⟩;have:=ua (val u) (val v);rw[e,ed] at this;omega
def aj7{u v:List Nat}{n:Nat}(hv:v.length=n)(hu:u.length=n+1)(x:i.length=n)(t:j.length=n)(C:bH j)(dv:bH v)(up:val u<(b+1)*val v)(l:b*val v<=val u+val v)
 (h:val i+b*val (v.take n)=val (u.take n)+B9^n*a) (D:limb u n<a) (g:bH i) (y:val j+B9^n*c=val (i.take n)+val (v.take n)):
 1<=b/\val u/val v=b - 1/\val j=val u%val v/\limb u n+c=a:=by
 rw[dz Om] at h;rw[dz Om,dz Om] at y;have B:=iH u n;rw[dz Om] at B;have s:=jV g;have o:=jV C;have m:=jV dv;rw[x] at s;rw[t] at o;rw[hv] at m;have G:B9^n*a=B9^n*limb u n+B9^n*(a - limb u n):=by rw[<-fZ];congr 1;omega
 have F:B9^n*1<=B9^n*(a - limb u n):=iF _ Om;have f:val u<b*val v:=Om;have w:1<=b:=by
  rcases ip b with k|k
  ·subst k;simp at f
  ·exact k
 have H:b*val v=(b - 1)*val v+val v:=by rw[<-qT];congr 1;omega
 have A:val j+B9^n*c+(b - 1)*val v=val u+B9^n*(a - limb u n):=Om;have z:c=a - limb u n:=by
  rcases P7 c (a - limb u n) with e|e|e
  ·exfalso;have:B9^n*(c+1)<=B9^n*(a - limb u n):=iF _ e;rw[LN] at this;omega
  ·exact e
  ·exfalso;have:B9^n*(a - limb u n+1)<=B9^n*c:=iF _ e;rw[LN] at this;omega
 have E:val j+(b - 1)*val v=val u:=by rw[z] at A;omega
 have e:val u/val v=b - 1:=(by refine(Nat.div_eq_iff Om).2 ⟨by omega,by omega⟩);refine⟨w,e,?_,by omega⟩;have:=ua (val u) (val v);rw[e,ed] at this;omega
def amM(o:0<a)(m:a<B9):500000000<=a*(B9/ (a+1)):=by
 have g:=ua B9 (a+1);have d:=eF B9 (show 0<a+1 by omega);generalize e:B9/ (a+1)=f at*;generalize c:B9%(a+1)=r at*;have i:B9=1000000000:=rfl;rcases cA f 2 with h|h
 ·have:f=0\/f=1:=Om;rcases this with rfl|rfl
  ·omega
  ·omega
 ·rcases cA a 2 with b|b
  ·have:a=1:=Om;subst this;omega
  ·have l:f*(a - 1)≥2*(a - 1):=eT _ h;have k:(a+1)*f=f*(a - 1)+2*f:=(by have:a+1=(a - 1)+2:=Om;rw[this,ki,ed (a - 1)])
   have j:a*f=(a+1)*f - f:=by rw[ki];omega
   omega
def acb{v:List Nat}{n:Nat}(r:Canon i)(hn:i=n)(D:1<=n)(t:a=B9/ (limb i (n - 1)+1))(hv:Canon v)(s:val v=val i*a):
 v.length=n/\500000000<=limb v (n - 1):=by
 have m:0<limb i (n - 1):=(by have:=r.2.last Om;rw[f4 Om];have e:i.length - 1=n - 1:=Om;simp only[e] at this;omega);have l:=r.1.getD (n - 1);have c:=amM m l;rw[<-t] at c;have z:=iH i (n - 1);have w:n - 1+1=n:=Om;rw[w,dz Om] at z;have o:=jV (r.1.take (n - 1));rw[cJ,iR Om] at o;have p:(limb i (n - 1)+1)*a<=B9:=by rw[t];exact Nat.mul_div_le _ _
 generalize limb i (n - 1)=x at*;have y:val v<B9^n:=by
  have d:val i<(x+1)*B9^(n - 1):=by rw[ki,nQ,ed];omega
  have q:0<a:=by
   rcases ip a with h|h
   ·subst h;simp at c
   ·exact h
  have j:val i*a<(x+1)*B9^(n - 1)*a:=YA d q;have k:(x+1)*B9^(n - 1)*a=(x+1)*a*B9^(n - 1):=by rw[fO,fO,ed a]
  have B:(x+1)*a*B9^(n - 1)<=B9*B9^(n - 1):=eT _ p;have C:B9^n=B9*B9^(n - 1):=awK;omega
 have A:500000000*B9^(n - 1)<=val v:=by
  have d:x*B9^(n - 1)<=val i:=by rw[ed];omega
  have j:x*B9^(n - 1)*a<=val i*a:=eT _ d;have k:x*B9^(n - 1)*a=x*a*B9^(n - 1):=by rw[fO,fO,ed a]
  have B:500000000*B9^(n - 1)<=x*a*B9^(n - 1):=eT _ c;omega
 have g:v=n:=by
  rcases P7 v.length n with h|h|h
  ·exfalso;have d:=jV hv.1;have j:B9^v.length<=B9^(n - 1):=fN Od Om;have k:1*B9^(n - 1)<=500000000*B9^(n - 1):=eT _ Od;omega
  ·exact h
  ·exfalso;have d:=Ee hv.2 Om;have j:B9^n<=B9^(v.length - 1):=fN Od Om;omega
 refine⟨g,?_⟩;have d:=iH v (n - 1);rw[w,dz Om] at d;have j:=jV (hv.1.take (n - 1));rw[cJ,iR Om] at j;rcases cA (limb v (n - 1)) 500000000 with h|h
 ·exfalso;have k:(limb v (n - 1)+1)*B9^(n - 1)<=500000000*B9^(n - 1):=eT _ h;rw[ki,nQ,ed (limb v (n - 1))] at k;omega
 ·exact h
structure zf(A V:Nat)(n m:Nat)(uw q:List Nat):Prop where
 zE:bH uw
 aev:bH q
 zero:∀x∈uw.drop (m+n),x=0
 rem:val ((uw.drop m).take n)<V
 sum:A=val q*(B9^m*V)+val uw
def ZE{n:Nat}(h:zf a b n (c+1) i j)(d:c<i):val ((i.drop c).take (n+1))<B9*b:=by rw[jR d,PY,mr];have g:=h.zE.getElem d;have f:=h.rem;have e:B9*(val ((i.drop (c+1)).take n)+1)<=B9*b:=iF _ f;rw[LN] at e;omega
def Zh(h:i=a):(i++j).drop a=j:=by subst h;simp
def ajd{n:Nat}(h:zf a b n (c+1) i j)(B:c+n+1<=i)(hu:k=n+1)(du:bH k)(C:b<B9^n)(l:0<b)
 (p:val k=val ((i.drop c).take (n+1))%b):zf a b n c (i.take c++(k++i.drop (c+(n+1)))) (val ((i.drop c).take (n+1))/b::j):=by
 have r:=ZE h Om;have t:val ((i.drop c).take (n+1))/b<B9:=by rw[PT l];exact r
 have m:∀x∈i.drop (c+(n+1)),x=0:=by have:=h.zero;rwa[Nat.add_right_comm,yq c n 1] at this
 have d:(i.take c).length=c:=avU;have s:val k<b:=by rw[p];exact eF _ l
 have g:=iH k n;rw[dz Om] at g;have e:limb k n=0:=by
  rcases ip (limb k n) with o|o
  ·exact o
  ·have:B9^n*1<=B9^n*limb k n:=iF _ o;omega
 refine⟨(h.zE.take c).append (du.append (h.zE.drop _)),rj t h.aev,?_,?_,?_⟩
 ·intro x f;rw[<-yi,Zh d,P_,bV] at f;rcases f with f|f
  ·rw[jR Om,pU Om,bG,<-f4 Om,e] at f;exact f
  ·exact m x (Ha f)
 ·rw[Zh d,Lb Om];rw[e] at g;omega
 ·have z:val i=val (i.take c)+B9^c*val ((i.drop c).take (n+1)):=(by rw[AX i c,d,AX (i.drop c) (n+1),yi,AW m];simp);have y:val (i.take c++(k++i.drop (c+(n+1))))=val (i.take c)+B9^c*val k:=(by rw[Ey,d,Ey,AW m];simp);have w:=ua (val ((i.drop c).take (n+1))) b;rw[h.sum,z,y,mr,p,eU];generalize val ((i.drop c).take (n+1))=W at*;generalize W/b=Q at*;generalize W%b=R at*;generalize B9^c=P at*;rw[<-w];grind
def ajc{r:List Nat}{n:Nat}(A:Canon i)(z:Canon j)(g:i=a)(hn:j=n)(C:1<=n)(q:n<=a)(s:0<b)(o:Canon r)(e:r<=a+1)(hv:val r=val i*b):
 zf (val i*b) (val j*b) n (a+1 - n) (pad r (a+1)) []:=by
 have d:val (pad r (a+1))=val i*b:=(by have m:val (List.replicate (a+1 - r.length) 0)=0:=AW (by intro x c;exact(qN.1 c).2);rw[pad,Ey,m,hv];simp);have p:=sU (r:=r) (N:=a+1) e;refine⟨o.1.append (by intro x c;rw[qN] at c;rw[c.2];decide),jT,?_,?_,?_⟩
 ·intro x c;rw[pU Om] at c;cases c
 ·rw[dz (by rw[o8];omega)];have y:=AX (pad r (a+1)) (a+1 - n);rw[d,cJ,iR Om] at y;have l:=jV A.1;have k:=Ee z.2 Om;rw[g] at l;rw[hn] at k;have w:val i*b<B9^a*b:=YA l s;have t:B9^a=B9^(a+1 - n)*B9^(n - 1):=by rw[<-pW];congr 1;omega
  have B:B9^(a+1 - n)*(B9^(n - 1)*b)<=B9^(a+1 - n)*(val j*b):=iF _ (eT _ k);rw[t,fO] at w;rcases cA (val ((pad r (a+1)).drop (a+1 - n))) (val j*b) with h|h
  ·exact h
  ·exfalso;have:B9^(a+1 - n)*(val j*b)<=B9^(a+1 - n)*val ((pad r (a+1)).drop (a+1 - n)):=iF _ h;omega
 ·rw[d];simp
def amS{n:Nat}(o:0<b)(g:0<c)(h:zf (a*c) (b*c) n 0 i j):val j=a/b/\val (i.take n)/c=a%b/\val (i.take n)%c=0:=by
 have e:=h.rem;have d:=h.sum;rw[lJ] at e;have k:=h.zero;rw[ja] at k;rw[yr,nQ,<-Lp i n k] at d;generalize val (i.take n)=R at*;generalize val j=Q at*;have m:a*c/ (b*c)=Q:=(by rw[d,ed Q,Nat.mul_add_div (Nat.mul_pos o g),Lu e,iq])
 have l:a*c%(b*c)=R:=(by rw[d,ed Q,Nat.mul_add_mod,sN e]);rw[Nat.mul_div_mul_right _ _ g] at m;rw[Nat.mul_mod_mul_right] at l;rw[<-l,Nat.mul_div_cancel _ g,Nat.mul_mod_left];exact⟨m.symm,rfl,rfl⟩
def cU(l:List Nat):List Value:=l.map fun x:Nat=>Value.int .u64 (x:Int)
def LR(l:List Nat):(cU l).length=l.length:=by simp [cU]
def ko(h:a<i):(cU i)[a]? =some (.int .u64 (i[a]:Int)):=by simp [cU,h]
def Re(l:List Nat)(k:Nat):(cU l).take k=cU (l.take k):=by simp [cU,El]
abbrev Lm(w:au)(A:aR)(l:List Nat):Prop:=Sl w 209 A (cU l)
def Behind(l:List Nat)(n:Nat):Prop:=n<=l.length/\∀x∈l.drop n,x=0
def Behind.step{n:Nat}(h:Behind i (n+1))(b:∀c:n<i,i[n]=0):Behind i n:=by
 refine⟨by have:=h.1;omega,fun x a=> ?_⟩;have hn:n<i.length:=by have:=h.1;omega
 rw[jR hn] at a;rcases aJ.1 a with rfl|a
 ·exact b hn
 ·exact h.2 x a
def alW(A:aR)(c:Nat)(l:List Nat)(w:au)(s:l<=c)(t:l.length<=1000000000)(j:Lm w A l):
 Calls prog 143 #[.slice A l c] w fun e p=>∃n,n<=l.length/\Behind l n/\gC (l.take n)/\e= .returned (.slice A n c)/\w=p:=by
 have r:=af j;clear j;go_enter func143,ntmps143;go_wp2;go_loop [3] (fun i=>∃n:Nat,n<=l.length/\i= .int .i64 n/\Behind l n) (fun i=>(intOf i).toNat);exact⟨l.length,aK _,rfl,⟨aK _,by simp⟩⟩;obtain⟨n,hn,rfl,m⟩:=hrel;have h:=af m;clear m;by_cases x:0<n
 ·obtain⟨k,rfl⟩:∃k,n=k+1:=⟨n - 1,by omega⟩;obtain⟨g,o,rfl,_,d⟩:=r.at_ (ko (show k<l.length by omega));have q:decide ((0:Int)<(k:Int)+1)=true:=fU;by_cases a:l[k]=0
  ·have b:((l[k]:Int)==0)=true:=avS;have f:=af a;clear a;go_wp2;go_round;exact⟨k,by omega,by go_num,h.step (fun _=>f.ae)⟩;simp [intOf]
  ·have b:((l[k]:Int)==0)=false:=avY;have f:=af a;clear a;go_wp2;go_ret;refine⟨k+1,hn,h,?_,rfl,rfl⟩;exact gC.SH Oc (by simpa [cJ,iR hn] using f.ae)
 ·obtain rfl:n=0:=Om;go_wp2;go_ret;exact⟨0,by omega,h,by simpa using gC.nil,rfl,rfl⟩
def sX(A:aR)(c n:Nat)(l:List Nat)(w:au)(hn:l.length=n)(g:n<=c)(h:n<=1000000000)(d:bH l)(b:Lm w A l):
 Calls prog 143 #[.slice A n c] w fun e a=>∃r,r.length<=n/\e= .returned (.slice A r.length c)/\Canon r/\val r=val l/\Lm a A r/\w=a:=by
 subst hn;refine(alW A c l w g h b).mono ?_;rintro e a ⟨m,k,i,f,rfl,rfl⟩;have j:(l.take m).length=m:=avU;exact⟨l.take m,by omega,by rw[j],⟨d.take m,f⟩,Lp l m i.2,by unfold Lm;rw[<-Re];exact b.take m,rfl⟩
def al7(n:Int)(w:au):
 Calls prog 200 #[.int .i64 n] w fun e c=>e= .returned (.int .i64 n.sign)/\w=c:=by
 rcases P9 n 0 with h|h|h
 ·have a:n.sign= -1:=G5 h;have b:=af a;clear a;go_enter func200,ntmps200;go_wp2;go_ret;exact⟨mV b.symm,rfl⟩
 ·subst h;go_enter func200,ntmps200;go_wp2;go_ret;exact⟨rfl,rfl⟩
 ·have a:n.sign=1:=Aj h;have b:=af a;clear a;have d:¬n<0:=Om;go_enter func200,ntmps200;go_wp2;go_ret;exact⟨mV b.symm,rfl⟩
def EZ(A:aR)(c:Nat)(l:List Nat)(i:Nat)(w:au)(_hc:l.length<=1000000000)(_hi:i<=2000000000)(d:Lm w A l):
 Calls prog 199 #[.slice A l c,.int .i64 i] w fun e f=>e= .returned (.int .u64 (limb l i:Nat))/\w=f:=by
 have j:=af d;clear d;by_cases h:i<l
 ·obtain⟨g,o,rfl,_,a⟩:=j.at_ (ko h);have b:ah (limb l i=l[i]):=f4 h;go_enter func199,ntmps199;go_wp2;go_ret;exact⟨mV (by rw[b.ae]),rfl⟩
 ·have b:ah (limb l i=0):=pg Om;go_enter func199,ntmps199;go_wp2;go_ret;exact⟨mV (by rw[b.ae];rfl),rfl⟩
def d7(a b:Nat):Int:=if a<b then -1 else if b<a then 1 else 0
def ET(h:a<b):d7 a b= -1:=by simp [d7,h]
def MU(h:b<a):d7 a b=1:=by simp [d7,h];omega
def aoY(h:a=b):d7 a b=0:=by simp [d7,h]
def LW(z y:aR)(F E:Nat)(a b:List Nat)(w:au)(h1:a.length<=1000000000)(h2:b.length<=1000000000)(x:Canon a)(t:Canon b)(r:Lm w z a)(p:Lm w y b):
 Calls prog 145 #[.slice z a F,.slice y b E] w fun e l=>e= .returned (.int .i64 (d7 (val a) (val b)))/\∃n,l=w.drewN n:=by
 have H:=af r;have G:=af p;have CA:=af x;have CB:=af t;clear r p x t;by_cases c:a.length=b
 ·have f:((a.length:Int) !=(b.length:Int))=false:=awh;have HL:=af c;have D:a<=b.length:=Om;have C:b<=a.length:=Om;clear c;go_enter func145,ntmps145;go_wp2;go_loopw [5] (fun i wr=>∃m:Int,i= .int .i64 m/\ -1<=m/\m<a/\a.drop (m+1).toNat=b.drop (m+1).toNat/\∃q,wr=w.drewN q) (fun i _=>(intOf i+1).toNat)
  exact⟨(a.length:Int) - 1,rfl,by omega,by omega,by rw[pU Om,pU Om],0,rfl⟩;obtain⟨m,rfl,B,A,s,q,rfl⟩:=hrel;have HD:=af s;clear s;by_cases J:0<=m
  ·obtain⟨k,rfl⟩:∃k:Nat,m=k:=⟨m.toNat,by omega⟩;have hk:k<a.length:=Om;have zv:k<b.length:=Om;obtain⟨g,o,rfl,_,j⟩:=H.at_ (ko hk);obtain⟨K,I,rfl,_,d⟩:=G.at_ (ko zv);exact m33
  ·exact ae7
 ·have f:((a.length:Int) !=(b.length:Int))=true:=Oc;have HV:ah (((a.length:Int) - (b.length:Int)).sign=d7 (val a) (val b)):=by
   rcases Nat.lt_or_gt_of_ne c with h|h
   ·rw[ah,ET (AB CA CB h)];exact G5 Om
   ·rw[ah,MU (AB CB CA h)];exact Aj Om
  clear c;go_enter func145,ntmps145;go_wp2_with (go_at_call 200;refine(al7 _ _).mono ?_;rintro e l ⟨rfl,rfl⟩);go_ret;exact⟨mV HV,0,rfl⟩
def abP:(prog.info? 209).map (fun i=>(i.zero,i.size,i.bytes))=some (some (.int .u64 0),1,8):=Ok
def EK(n:Nat)(h:n<=1000000000)(w:au):
 (Instr.makeSlice 87 (.int .i64 (n:Int)) (.int .i64 (n:Int))).run prog w= .ok (.slice (some ⟨w.heap.size,0,none⟩) n n) (w.alloc (.cells (cU (pad [] n)).toArray 209)):=by
 obtain⟨e,f,c,b,a⟩:=info_parts abP;have d:=run_make (P:=prog) w 87 209 e (.int .u64 0) underlying87 f c .i64 .i64 (n:Int) (n:Int) Om (yz _) awk Om;simp only[kg,b,kG,Value.cells,ym] at d;rw[d,Ir,cU,x_];rfl
def aaf(h:ar m a 209 (cU (pad i c)))(f:i=b)(j:b<c)(e:B=d):ar (m.setCell ⟨a,b,none⟩ (.int .u64 B)) a 209 (cU (pad (i++ [d]) c)):=by have:=h.bu b (.int .u64 B);subst f;rw[<-aoe d j,cU,Eo,<-cU,<-e];exact this
def abh(h:ar m a 209 (cU (pad i c)))(d:i=b)(e:b<c):m.cell? ⟨a,b,none⟩=some (.int .u64 (0:Nat)):=
 h.cell (by rw[ko (by rw[sU Om];omega)];simp [pad,d])
def Rv(m n:Nat)(e:n=m+1)(h:n<=1000000000)(w:au):
 (Instr.makeSlice 87 (.int .i64 ((m:Int)+1)) (.int .i64 ((m:Int)+1))).run prog w= .ok (.slice (some ⟨w.heap.size,0,none⟩) n n) (w.alloc (.cells (cU (pad [] n)).toArray 209)):=by
 have a:((m:Int)+1)=(n:Int):=Om;rw[a];exact EK n h w
def akZ(m k n:Nat)(e:n=max m k+1)(h:n<=1000000000)(w:au):
 (Instr.makeSlice 87 (.int .i64 (max (m:Int) (k:Int)+1)) (.int .i64 (max (m:Int) (k:Int)+1))).run prog w= .ok (.slice (some ⟨w.heap.size,0,none⟩) n n) (w.alloc (.cells (cU (pad [] n)).toArray 209)):=by
 have a:(max (m:Int) (k:Int)+1)=(n:Int):=Om;rw[a];exact EK n h w
def ao4(J I:aR)(S R:Nat)(a b:List Nat)(w:au)(h1:a.length<=100000000)(h2:b.length<=100000000)(Q:bH a)(P:bH b)(L:Lm w J a)(K:Lm w I b):
 Calls prog 144 #[.slice J a.length S,.slice I b.length R] w fun e j=>∃r c,r.length<=c/\e= .returned (.slice (some ⟨w.heap.size,0,none⟩) r.length c)/\Canon r/\val r=val a+val b/\Lm j (some ⟨w.heap.size,0,none⟩) r/\Ext w j:=by
 have S1:=af L;have S2:=af K;have W:=af Q;have V:=af P;clear L K Q P;obtain⟨N,G⟩:∃N,N=max a.length b.length+1:=⟨_,rfl⟩;have Wl:N<=100000001:=Om;have HN:=af G;rcases cA a b with E|E;all_goals
  have f:=fun e=>Rv a N e Om;have d:=fun e=>Rv b N e Om;first|have m:=f Om|have m:=d Om
  have l:=fun w=>akZ a b N G Om w;clear f d G;go_enter func144,ntmps144;go_wp2;clear m l;go_loopw [6,7,8,18] (fun cr _ _ i wr=>∃(k c:Nat) (r:List Nat),k<=N/\i= .int .i64 k/\cr= .int .u64 c/\c<=1/\r.length=k/\bH r/\val r+B9^k*c=val (a.take k)+val (b.take k)/\ar wr w.heap.size 209 (cU (pad r N))/\Ext w wr) (fun _ _ _ i _=>N - (intOf i).toNat);exact⟨0,0,[],aV _,rfl,rfl,by omega,rfl,jT,by simp,iT _ _ _,(aB w).alloc _⟩;obtain⟨k,c,r,hk,rfl,rfl,hc,M,O,hv,g,q⟩:=hrel;have h:=af M;have U:=af O;have T:=af hv;have s:=af g;clear M O hv g;by_cases o:k<N
  ·go_wp2_with fail
   refine(EZ J S a k wr Om Om (S1.ext q)).mono ?_;rintro e j ⟨rfl,rfl⟩;go_wp2_with fail;refine(EZ I R b k wr Om Om (S2.ext q)).mono ?_;rintro e j ⟨rfl,rfl⟩;have ha:=W.getD k;have Z:=V.getD k;unfold B9 at ha Z;obtain⟨t,A⟩:∃t,t=limb a k+limb b k+c:=⟨_,rfl⟩;have HA:=af (RM h T A);have H:=af A;clear A;generalize limb a k=x at*;generalize limb b k=y at*;have F:=abh s h o;have Y:=s.frozen k;go_wp2;go_roundw
   ·refine⟨k+1,t/B9,r++ [t%B9],by omega,by go_num,congrArg _ (by rw[H.ae];unfold B9;omega),?_,?_,U.snoc (eF _ Od),HA,aaf s h o (by rw[H.ae];unfold B9;omega),q.setCell (aK _) _⟩
    ·rw[H.ae];unfold B9;omega
    ·simp [h.ae]
   simp [intOf];omega
  ·obtain rfl:k=N:=Om;have HE:=af (ao3 W V h HN T);have B:Lm wr (some ⟨w.heap.size,0,none⟩) r:=(by have:=s.sl 0;rwa[R_ h.ae,lJ] at this)
   go_wp2_with (go_at_call 143;refine(sX _ _ k r wr h (aK _) Om U B).mono ?_;rintro e j ⟨X,D,rfl,p,z,C,rfl⟩)
   go_ret;exact⟨X,k,D,rfl,p,z.trans HE,C,q⟩
def anZ(V U:aR)(c1 c2:Nat)(a b:List Nat)(w:au)(h1:a.length<=100000000)(h2:b.length<=100000000)(P:Canon a)(O:Canon b)(m:val b<=val a)(K:Lm w V a)(J:Lm w U b):
 Calls prog 146 #[.slice V a.length c1,.slice U b.length c2] w fun e y=>∃r c,r.length<=c/\e= .returned (.slice (some ⟨w.heap.size,0,none⟩) r.length c)/\Canon r/\val r=val a - val b/\Lm y (some ⟨w.heap.size,0,none⟩) r/\Ext w y:=by
 have S1:=af K;have S2:=af J;have T:=af P;have S:=af O;have HL:=af m;clear K J P O m;have H:=EK a Om;go_enter func146,ntmps146;go_wp2;clear H;go_loopw [6,7,8,14] (fun cr _ _ i wr=>∃(k c:Nat) (r:List Nat),k<=a/\i= .int .i64 k/\cr= .int .u64 c/\c<=1/\r=k/\bH r/\val r+val (b.take k)=val (a.take k)+B9^k*c/\ar wr w.heap.size 209 (cU (pad r a))/\Ext w wr) (fun _ _ _ i _=>a - (intOf i).toNat)
 exact⟨0,0,[],aV _,rfl,rfl,by omega,rfl,jT,by simp,iT _ _ _,(aB w).alloc _⟩;obtain⟨k,c,r,hk,rfl,rfl,hc,L,M,hv,f,q⟩:=hrel;have j:=af L;have I:=af M;have Q:=af hv;have x:=af f;clear L M hv f;by_cases d:k<a
 ·obtain⟨g,o,rfl,_,h⟩:=(S1.ext q).at_ (ko d);rw[<-f4 d] at h;have ha:=T.1.getD k;have Z:=S.1.getD k;unfold B9 at ha Z;obtain⟨t,A⟩:∃t,t+limb b k+c=limb a k+B9:=⟨limb a k+B9 - limb b k - c,by unfold B9;omega⟩;have N:=aaO j Q A;have R:=af A;clear A;have G:IntKind.u64.wrap ((limb a k:Int)+1000000000)=limb a k+1000000000:=avX;have F:IntKind.u64.wrap ((limb a k:Int)+1000000000 - limb b k)=limb a k+1000000000 - limb b k:=avX;have E:IntKind.u64.wrap ((limb a k:Int)+1000000000 - limb b k - c)=limb a k+1000000000 - limb b k - c:=avX;go_wp2;go_quiet ((go_at_call 199;exact M0 (EZ _ _ b k _ Om Om (S2.ext (q.drewN _)))));clear G F E;have l:(limb a k:Int)+1000000000 - limb b k - c=t:=by have:=R.ae;unfold B9 at this;omega
  rw[l];have X:t<=1999999999:=by have:=R.ae;unfold B9 at this;omega
  clear l;have HA:=af (N avN);clear N;have s:=abh x j d;have Y:=x.frozen k;go_wp2;go_roundw
  ·refine⟨k+1,1 - t/B9,r++ [t%B9],by omega,by go_num,congrArg _ avN,Nat.sub_le _ _,?_,I.snoc (eF _ Od),HA,aaf (x.drewN nq) j d avN,(q.drewN nq).setCell (aK _) _⟩;simp [j.ae]
  simp [intOf];omega
 ·obtain rfl:k=a.length:=Om;have HE:=af (acY T S j I HL Q);have B:Lm wr (some ⟨w.heap.size,0,none⟩) r:=(by have:=x.sl 0;rwa[R_ j.ae,lJ] at this)
  go_wp2_with (go_at_call 143;refine(sX _ _ a r wr j (aK _) Om I B).mono ?_;rintro e y ⟨W,D,rfl,p,z,C,rfl⟩)
  go_ret;exact⟨W,a,D,rfl,p,z.trans HE,C,q⟩
def Iw{i:Nat}(h:ar m a 209 (cU j))(b:i<j):m.cell? ⟨a,i,none⟩=some (.int .u64 (limb j i:Nat)):=
 h.cell (by rw[ko b,f4 b])
def EL{i x:Nat}{z:Int}(h:ar m a 209 (cU j))(b:z=x):ar (m.setCell ⟨a,i,none⟩ (.int .u64 z)) a 209 (cU (j.set i x)):=by have:=h.bu i (.int .u64 z);rw[cU,Eo,<-cU,<-b];exact this
def yP(p:List Nat)(z:Nat)(q:List Nat)(x i:Nat)(h:p=i):(p++z::q).set i x=p++x::q:=by subst h;simp
def Bg(p:List Nat)(z:Nat)(q:List Nat)(i:Nat)(h:p=i):limb (p++z::q) i=z:=by subst h;rw[f4 Ou];simp
def H_(l:List Nat)(i:Nat)(h:i<l):l.drop i=limb l i::l.drop (i+1):=by rw[f4 h];exact jR h
def Mu:limb (pad i a) b=limb i b:=by
 unfold limb pad;rw[fh,fh,List.getElem?_append];split
 ·rfl
 ·rename_i h;rw[Ae,fF (l:=i) Om];split<;>rfl
def ak0(m1 m2 n:Nat)(e:n=m1+m2)(h:n<=1000000000)(w:au):
 (Instr.makeSlice 87 (.int .i64 ((m1:Int)+m2)) (.int .i64 ((m1:Int)+m2))).run prog w= .ok (.slice (some ⟨w.heap.size,0,none⟩) n n) (w.alloc (.cells (cU (pad [] n)).toArray 209)):=by
 have a:((m1:Int)+m2)=(n:Int):=Om;rw[a];exact EK n h w
def aa7(m N:Nat)(h:m<=N):pad (List.replicate m 0) N=pad [] N:=by simp [pad];omega
def SM(A1 A2:aR)(c1 c2:Nat)(a b:List Nat)(w:au)(h1:a.length<=100000000)(h2:b.length<=100000000)(da:bH a)(db:bH b)(s1:Lm w A1 a)(s2:Lm w A2 b):
 Calls prog 149 #[.slice A1 a.length c1,.slice A2 b.length c2] w fun e M=>∃r c,r.length<=c/\e= .returned (.slice (some ⟨w.heap.size,0,none⟩) r.length c)/\Canon r/\val r=val a*val b/\Lm M (some ⟨w.heap.size,0,none⟩) r/\Ext w M:=by
 have S1:=af s1;have S2:=af s2;have DA:=af da;have DB:=af db;clear s1 s2 da db;obtain⟨N,hN⟩:∃N,N=a+b.length:=⟨_,rfl⟩;have Wl:N<=a+b.length:=Om;have hN2:a+b<=N:=Om;have U:=ak0 a b N hN Om;clear hN;go_enter func149,ntmps149;go_wp2;clear U;go_loopw [6,7,8,9,10,11,20] (fun _ _ _ _ _ _ i wr=>∃(k:Nat) (r:List Nat),k<=a/\i= .int .i64 k/\r=k+b/\bH r/\val r=val (a.take k)*val b/\ar wr w.heap.size 209 (cU (pad r N))/\Ext w wr) (fun _ _ _ _ _ _ i _=>a - (intOf i).toNat)
 exact⟨0,List.replicate b 0,aV _,rfl,by simp,(by intro x f;rw[qN] at f;rw[f.2];decide),by rw[AW (by intro x f;exact(qN.1 f).2)];simp,by rw[aa7 _ _ Om];exact iT _ _ _,(aB w).alloc _⟩;obtain⟨i,r,hi,rfl,hr,hd,hv,d,f⟩:=hrel;have s:=af hr;have HD:=af hd;have HV:=af hv;have HB:=af d;have Z:=af f;clear hr hd hv d f;by_cases F:i<a
 ·obtain⟨g,o,rfl,_,A⟩:=(S1.ext Z).at_ (ko F);rw[<-f4 F] at A;have X:=DA.getD i;unfold B9 at X;go_wp2;obtain⟨wo,rfl⟩:∃wo:World,wo=wr:=⟨_,rfl⟩;go_loopw [8,9,10,11,27] (fun cr _ _ _ j ws=>∃(k c:Nat) (p:List Nat),k<=b/\j= .int .i64 k/\cr= .int .u64 c/\c<1000000000/\p=i+k/\bH p/\val p+B9^(i+k)*c=val (r.take (i+k))+B9^i*(limb a i*val (b.take k))/\ar ws w.heap.size 209 (cU (p++(pad r N).drop (i+k)))/\Ext w ws) (fun _ _ _ _ j _=>b - (intOf j).toNat)
  ·refine⟨0,0,(pad r N).take i,aV _,rfl,rfl,by omega,?_,?_,?_,?_,Z⟩
   ·rw[cJ,sU av_];omega
   ·refine bH.take ?_ i;exact HD.append (by intro x f;rw[qN] at f;rw[f.2];decide)
   ·have:(pad r N).take i=r.take i:=(by rw[pad,Lb av_]);simp [this]
   ·simpa using HB.ae
  obtain⟨k,c,p,hk,rfl,rfl,hc,hp,G,D,d,f⟩:=hrel;have l:=af hp;have L:=af G;have I:=af D;have h:=af d;have B:=af f;clear hp G D d f;by_cases y:k<b
  ·obtain⟨g2,o2,rfl,_,q⟩:=(S2.ext B).at_ (ko y);rw[<-f4 y] at q;have W:=DB.getD k;have V:=HD.getD (i+k);have O:=Es (DA.getD i) (DB.getD k);unfold B9 at W V;have C:ah ((pad r N).drop (i+k)=limb r (i+k)::(pad r N).drop (i+k+1)):=by rw[ah,H_ _ _ (by rw[sU av_];omega),Mu]
   obtain⟨t,Q⟩:∃t,t=limb r (i+k)+limb a i*limb b k+c:=⟨_,rfl⟩;have HA:=af (Rt l I rfl Q);have rM:t<=999999999999999999:=Om;have E:(limb r (i+k):Int)+(limb a i:Int)*(limb b k:Int)+c=t:=by rw[Q];simp
   have J:=af E;clear Q E;have hxi:(limb a i:Int)*(limb b k:Int)<=999999998000000001:=av5;have arH:0<=(limb a i:Int)*(limb b k:Int):=Eh Om Om;have m:wr.cell? ⟨w.heap.size,i+k,none⟩=some (.int .u64 (limb r (i+k):Nat)):=(by have:=Iw (i:=i+k) h (by rw[C.ae,bC,l.ae,cP];omega);rw[this,C.ae,Bg _ _ _ _ l.ae])
   have Y:=h.frozen (i+k);clear O;go_wp2;go_roundw
   ·refine⟨k+1,t/B9,p++ [t%B9],by omega,by go_num,congrArg _ (by rw[J.ae];unfold B9;omega),by unfold B9;omega,?_,L.snoc (eF _ Od),HA,?_,B.setCell (aK _) _⟩
    ·simp only[bC,l.ae,cP,yg];omega
    ·have:=EL (i:=i+k) (x:=t%B9) h (show((limb r (i+k):Int)+limb a i*limb b k+c)%1000000000=((t%B9:Nat):Int) by rw[J.ae];unfold B9;omega);rw[C.ae,yP _ _ _ _ _ l.ae] at this;simpa [yq] using this
   simp [intOf];omega
  ·obtain rfl:k=b.length:=Om;have C:ah ((pad r N).drop (i+b)=0::(pad r N).drop (i+b.length+1)):=by rw[ah,H_ _ _ (by rw[sU av_];omega),Mu,pg av_]
   have HM:=af (akV l s HV I);have m:wr.cell? ⟨w.heap.size,i+b,none⟩=some (.int .u64 (0:Nat)):=(by have:=Iw (i:=i+b) h (by rw[C.ae,bC,l.ae,cP];omega);rw[this,C.ae,Bg _ _ _ _ l.ae])
   have Y:=h.frozen (i+b);go_wp2;go_roundw
   ·refine⟨i+1,p++ [c],by omega,by go_num,?_,L.snoc avN,HM,?_,B.setCell (aK _) _⟩
    ·simp only[bC,l.ae,cP,yg];omega
    ·have:=EL (i:=i+b) (x:=c) (z:=(c:Int)) h rfl;rw[C.ae,yP _ _ _ _ _ l.ae] at this;have e1:p++c::(pad r N).drop (i+b.length+1)=pad (p++ [c]) N:=by
      have hl:(p++ [c]).length=i+b.length+1:=by simp [l.ae]
      have h2:(pad r N).drop (i+b.length+1)=List.replicate (N - (i+b.length+1)) 0:=(by rw[pad,P_,pU av_,YR,s.ae,vE];congr 1;omega);rw[h2,pad,hl,ie];rfl
     rw[e1] at this;simpa using this
   simp [intOf];omega
 ·obtain rfl:i=a.length:=Om;have HE:ah (val r=val a*val b):=by rw[ah,HV.ae,dz (aK _)]
  have K:ah (r=N):=by have:=s.ae;unfold ah;omega
  have R:Lm wr (some ⟨w.heap.size,0,none⟩) r:=(by have:=HB.sl 0;rwa[R_ K.ae,lJ] at this);go_wp2_with (go_at_call 143;refine(sX _ _ N r wr K (aK _) Om HD R).mono ?_;rintro e M ⟨r',T,rfl,H,P,S,rfl⟩);go_ret;exact⟨r',N,T,rfl,H,P.trans HE,S,Z⟩
def aaP(A1:aR)(c1:Nat)(a:List Nat)(d:Nat)(w:au)(h1:a.length<=100000000)(da:bH a)(p:0<d)(iN:d<1000000000)(Y:Lm w A1 a):
 Calls prog 240 #[.slice A1 a.length c1,.int .u64 d] w fun e J=>∃r c,r.length<=c/\e= .returned (.tuple #[.slice (some ⟨w.heap.size,0,none⟩) r.length c,.int .u64 ((val a%d:Nat):Int)])/\Canon r/\val r=val a/d/\Lm J (some ⟨w.heap.size,0,none⟩) r/\Ext w J:=by
 have S1:=af Y;have DA:=af da;clear Y da;have O:=EK a Om;go_enter func240,ntmps240;go_wp2;clear O;go_loopw [7,8,9] (fun rs i _ wr=>∃(m:Int) (rest:Nat) (q:List Nat), -1<=m/\m<a/\i= .int .i64 m/\rs= .int .u64 rest/\rest<d/\bH q/\q.length=a - (m+1).toNat/\val (a.drop (m+1).toNat)=val q*d+rest/\ar wr w.heap.size 209 (cU (List.replicate (m+1).toNat 0++q))/\Ext w wr) (fun _ i _ _=>(intOf i+1).toNat)
 ·refine⟨(a.length:Int) - 1,0,[],by omega,by omega,rfl,rfl,p,jT,?_,?_,?_,(aB w).alloc _⟩
  ·simp
  ·rw[pU Om];simp
  ·have z:((a.length:Int) - 1+1).toNat=a.length:=Om;rw[z,i7,<-Ir];exact iT _ _ _
 obtain⟨m,rest,q,jK,nu,rfl,rfl,l,D,b,hv,j,Z⟩:=hrel;have H:=af D;have G:=af b;have HV:=af hv;have HB:=af j;have S:=af Z;clear D b hv j Z;by_cases h0:0<=m
 ·obtain⟨k,rfl⟩:∃k:Nat,m=k:=⟨m.toNat,by omega⟩;have Q:k<a.length:=Om;have h:((k:Int)+1).toNat=k+1:=Om;have F:=af (h▸G.ae);have T:=af (h▸HV.ae);have A:=af (h▸HB.ae);clear h;obtain⟨g,o,rfl,_,s⟩:=(S1.ext S).at_ (ko Q);rw[<-f4 Q] at s;have P:=DA.getD k;have V:=af (al8 l (DA.getD k));unfold B9 at P;obtain⟨t,C⟩:∃t,t=rest*B9+limb a k:=⟨_,rfl⟩;have HA:=af (ah2 Q T C);have HT:=af C;have B:(rest:Int)*1000000000+limb a k=t:=by rw[C];unfold B9;omega
  have ht9:t<=999999999999999999:=by unfold B9 at C;omega
  have U:=af B;clear C B;have I:wr.cell? ⟨w.heap.size,k,none⟩=some (.int .u64 (0:Nat)):=(by have z:List.replicate (k+1) 0++q=List.replicate k 0++(0::q):=awP;have:=Iw (i:=k) A Oc;rw[this,z,Bg _ _ _ _ Ou])
  have JF:=A.frozen k;go_wp2;rw[U.ae];go_region;all_goals go_wp2
  go_roundw
  ·have f:t/d<B9:=by rw[HT.ae];exact V
   refine⟨(k:Int) - 1,t%d,t/d::q,by omega,by omega,by go_num,congrArg _ (Qa t d).symm,eF _ p,H.cons f,?_,?_,?_,(S.setCell (aK _) _).drew⟩
   ·have:=F.ae;rw[cP];omega
   ·have z:((k:Int) - 1+1).toNat=k:=Om;rw[z];exact HA
   ·have z:((k:Int) - 1+1).toNat=k:=Om;have e2:IntKind.u64.wrap ((t:Int)/ (d:Int))=((t/d:Nat):Int):=(by rw[<-AD,kh];unfold B9 at f;generalize t/d=y at f⊢;omega)
    have e3:List.replicate (k+1) 0++q=List.replicate k 0++(0::q):=awP;have:=EL (i:=k) (x:=t/d) A e2;rw[e3,yP _ _ _ _ _ Ou] at this;rw[z];exact this.drew
  simp [intOf]
 ·obtain rfl:m= -1:=Om;have hv:=HV.ae;have b:=G.ae;have R:=HB.ae;simp only[Int.reduceNeg,Int.reduceAdd,Int.toNat_zero,lJ,YP,vE,Qt] at hv b R;have HE:ah (val q=val a/d/\rest=val a%d):=(by rw[ah,hv,mS,Nat.add_mul_div_right _ _ p,Lu l,Nat.add_mul_mod_self_right,sN l];exact⟨by omega,rfl⟩)
  have X:=af R;have W:=af b;clear hv b R;have L:Lm wr (some ⟨w.heap.size,0,none⟩) q:=(by have:=X.sl 0;rwa[lJ] at this)
  go_wp2_with (go_at_call 143;refine(sX _ _ a q wr W (aK _) Om H L).mono ?_;rintro e J ⟨r',N,rfl,E,K,M,rfl⟩)
  go_ret2;exact⟨r',a,N,by rw[<-HE.2];rfl,E,K.trans HE.1,M,S⟩
def vM(h:b<a):limb (i.take a) b=limb i b:=by unfold limb;rw[fh,fh,YW,if_pos h]
def acj{s:List Nat}{k:Nat}(h:i=a):limb (i++s) (a+k)=limb s k:=by subst h;unfold limb;rw[fh,fh,x4 Om];congr 2;omega
def A_(h:ar m a 209 (cU (i++j)))(d:i.length=b)(e:c<j.length):m.cell? ⟨a,b+c,none⟩=some (.int .u64 (limb j c:Nat)):=by rw[Iw h awZ,acj d]
def Ih{y:Nat}(h:ar m a 209 (cU (j++(k++l.drop c))))(r:j=b)(q:k=c)(f:c<l)(e:B=y):
 ar (m.setCell ⟨a,b+c,none⟩ (.int .u64 B)) a 209 (cU (j++((k++ [y])++l.drop (c+1)))):=by
 have d:=EL (i:=b+c) (x:=y) h e;rw[jR f,<-ie,yP _ _ _ _ _ awZ] at d;simpa using d
def akB{y:Nat}(h:ar m a 209 (cU (j++((k++ [d])++l))))(t:j=b)(s:k=c)(q:B=y):
 ar (m.setCell ⟨a,b+c,none⟩ (.int .u64 B)) a 209 (cU (j++((k++ [y])++l))):=by
 have f:=EL (i:=b+c) (x:=y) h q;have e:j++((k++ [d])++l)=(j++k)++d::l:=Ou;rw[e,yP _ _ _ _ _ awZ] at f;simpa using f
def H6{s:List Nat}{k:Nat}(a:i=k):limb (i++s.drop k) k=limb s k:=by have:=acj (s:=s.drop k) (k:=0) a;rw[iq] at this;rw[this];unfold limb;rw[fh,fh,D8,iq]
def al2(g o n c1 c2 gv ov:Nat)(I s v:List Nat)(w:au)(hn:2<=n)(uM:n<=100000000)(ho:I=o)(hs:n+1<=s)(ds:bH s)(f:ar w g 209 (cU (I++s)))
 (hv:v=n) (dv:bH v) (sv:Lm w (some ⟨gv,ov,none⟩) v) (hne:gv≠g) (auw:500000000<=limb v (n - 1)) (hB:val (s.take (n+1))<B9*val v):
 Calls prog 241 #[.slice (some ⟨g,o,none⟩) (n+1) c1,.slice (some ⟨gv,ov,none⟩) n c2] w fun e w'=>
  e= .returned (.int .u64 ((val (s.take (n+1))/val v:Nat):Int))/\∃u',u'.length=n+1/\bH u'/\val u'=val (s.take (n+1))%val v/\ar w' g 209 (cU (I++(u'++s.drop (n+1))))/\Only g w w':=by
 have G:=af ho;have DS:=af ds;have KP:=af f;have V:=af hv;have DV:=af dv;have SV:=af sv;have zP:=af hne;have HB:=af hB;have D:ah ((s.take (n+1))=n+1):=by rw[ah,cJ];omega
 have DU:=af (ds.take (n+1));have HS:=af hs;clear ho ds f hv dv sv hne hB;have cu0:=A_ KP G (show n<s by omega);have cu1:=A_ KP G (show n - 1<s by omega);have cu2:=A_ KP G (show n - 2<s by omega);have cv1:w.cell? ⟨gv,ov+(n - 1),none⟩=some (.int .u64 (limb v (n - 1):Nat)):=(by have hk:n - 1<v.length:=awM;exact aeF)
 have cv2:w.cell? ⟨gv,ov+(n - 2),none⟩=some (.int .u64 (limb v (n - 2):Nat)):=(by have hk:n - 2<v.length:=awM;exact aeF);have bu0:=DS.getD n;have bu1:=DS.getD (n - 1);have bu2:=DS.getD (n - 2);have bv1:=DV.getD (n - 1);have bv2:=DV.getD (n - 2);have Wn:=aiq hn V D DV DU Om;rw[vM Om,vM Om] at Wn;have KB:=af Wn;clear Wn;unfold B9 at bu0 bu1 bu2 bv1 bv2;generalize hu0:limb s n=u0 at*;generalize hu1:limb s (n - 1)=u1 at*;generalize hu2:limb s (n - 2)=u2 at*;generalize NY:limb v (n - 1)=v1 at*;generalize hv2:limb v (n - 2)=l at*;have E:=af hu0;have qF:=af hu1;have Kd:=af hu2;have xx:=af NY;have nC:=af hv2;clear hu0 hu1 hu2 NY hv2;have lA:IntKind.u64.wrap ((u0:Int)*1000000000)=u0*1000000000:=avX;have rP:IntKind.u64.wrap ((u0:Int)*1000000000+u1)=u0*1000000000+u1:=avX;have hq3:IntKind.i64.wrap ((n:Int) - 1)=n - 1:=Eg _ Om;have hq4:((n:Int) - 1).toNat=n - 1:=Om;go_enter func241,ntmps241;go_wp2;go_quiet (fail);clear lA rP;obtain⟨T,hT⟩:∃T:Nat,T=u0*B9+u1:=⟨_,rfl⟩;have Dn:(u0:Int)*1000000000+u1=T:=by rw[hT];unfold B9;omega
 rw[Dn];have hT9:T<=999999999999999999:=by unfold B9 at hT;omega
 clear Dn;have HT:=af hT;clear hT;go_wp2;go_quiet (fail);have hdiv:IntKind.u64.wrap ((T:Int)/ (v1:Int))=((T/v1:Nat):Int):=by have hle:T/v1<=T:=AE _ _;rw[<-AD,kh];generalize T/v1=y at hle⊢;omega
 rw[hdiv,<-Qa];clear hdiv;rw[<-HT.ae] at KB;have Vx:T/v1<=T:=AE _ _;generalize T/v1=q0 at*;generalize T%v1=r0 at*;go_wp2;go_loopw [7,8] (fun a b wr=>∃q r:Nat,a= .int .u64 q/\b= .int .u64 r/\IX (s.take (n+1)) v n q r/\q<=999999999999999999/\∃k,wr=w.drewN k) (fun a _ _=>(intOf a).toNat)
 exact⟨q0,r0,rfl,rfl,KB,by omega,by first|exact Tz _ _|exact IR _ _ _|exact Ty _ _ _ _⟩;obtain⟨q,r,rfl,rfl,hg,Vx,k,rfl⟩:=hrel;have uK:=hg.rb;rw[xx.ae] at uK;unfold B9 at uK;have HG:=af hg;clear hg;by_cases X:r<1000000000/\(1000000000<=q\/r*B9+u2<q*l)
 ·obtain⟨hr,Vz⟩:=X;have Q:decide ((r:Int)<1000000000)=true:=fU;obtain⟨h1q,oF⟩:=ajr hn V D DV DU HB HG avN (by rw[nC.ae,vM Om,Kd.ae];exact Vz);rw[xx.ae] at oF;have HG':=af oF;clear oF;by_cases hq:1000000000<=q
  ·have j4:decide ((1000000000:Int)<=q)=true:=fU;clear Vz;exact aff
  ·have j4:decide ((1000000000:Int)<=q)=false:=aY;have hlt:r*B9+u2<q*l:=Om;have L:=Es (x:=q) (y:=l) avN avN;have K:0<=(q:Int)*(l:Int):=Eh Om Om;have J:(q:Int)*(l:Int)<=999999998000000001:=av5;have O:(r:Int)*1000000000+u2<(q:Int)*(l:Int):=by rw[<-k6];unfold B9 at hlt;omega
   have Dg:decide ((r:Int)*1000000000+u2<(q:Int)*(l:Int))=true:=decide_eq_true O;have uI:IntKind.u64.wrap ((q:Int)*(l:Int))=q*l:=avX;have hw2:IntKind.u64.wrap ((r:Int)*1000000000)=r*1000000000:=avX;have hw3:IntKind.u64.wrap ((r:Int)*1000000000+u2)=r*1000000000+u2:=avX;have hw4:IntKind.i64.wrap ((n:Int) - 2)=n - 2:=Eg _ Om;have zj:((n:Int) - 2).toNat=n - 2:=Om;clear Vz hlt L;exact aff
 ·have C:B9<=r\/(q<B9/\q*l<=r*B9+u2):=by
   rcases cA r 1000000000 with h|h
   ·right;refine⟨?_,?_⟩
    ·rcases cA q 1000000000 with h'|h'
     ·exact h'
     ·exact absurd ⟨h,.inl h'⟩ X
    ·rcases cA (r*B9+u2) (q*l) with h'|h'
     ·exact absurd ⟨h,.inr h'⟩ X
     ·exact h'
   ·left;exact h
  have Y:=alg hn V D DV DU HB HG (by rw[nC.ae,vM Om,Kd.ae];exact C);have N:=ajq hn V D DV DU (by rw[xx.ae];omega) Y.1 Y.2;have hq9:q<=999999999:=by have:=Y.1;unfold B9 at this;omega
  have aql:=af N;have xy:=af HG.up;clear Y N X;have P:r<1000000000->q*l<=r*B9+u2:=fun hr=>by
   rcases C with h|h
   ·unfold B9 at h;omega
   ·exact h.2
  clear C;by_cases hr:r<1000000000;all_goals first
   |(have Q:decide ((r:Int)<1000000000)=false:=aY
     clear P;go_wp2;go_quiet (fail);clear Q;go_wp2)
   |(have Q:decide ((r:Int)<1000000000)=true:=fU
     have C:=P hr;have j4:decide ((1000000000:Int)<=q)=false:=aY;have L:=Es (x:=q) (y:=l) avN avN;have K:0<=(q:Int)*(l:Int):=Eh Om Om;have J:(q:Int)*(l:Int)<=999999998000000001:=av5;have O:(q:Int)*(l:Int)<=(r:Int)*1000000000+u2:=by rw[<-k6];unfold B9 at C;omega
     have Dg:decide ((r:Int)*1000000000+u2<(q:Int)*(l:Int))=false:=aY;have uI:IntKind.u64.wrap ((q:Int)*(l:Int))=q*l:=avX;have hw2:IntKind.u64.wrap ((r:Int)*1000000000)=r*1000000000:=avX;have hw3:IntKind.u64.wrap ((r:Int)*1000000000+u2)=r*1000000000+u2:=avX;have hw4:IntKind.i64.wrap ((n:Int) - 2)=n - 2:=Eg _ Om;have zj:((n:Int) - 2).toNat=n - 2:=Om;clear C L P;go_wp2;go_quiet (fail);clear Q j4 Dg uI hw2 hw3 hw4 zj O J K;go_wp2)
  all_goals
   clear cu0 cu1 cu2 cv1 cv2 hq3 hq4;go_loopw [9,10,11,12,13,80] (fun cr _ _ _ _ i wr=>∃(k c:Nat) (p:List Nat),k<=n/\i= .int .i64 k/\cr= .int .u64 c/\c<=1000000000/\p.length=k/\bH p/\val p+q*val (v.take k)=val ((s.take (n+1)).take k)+B9^k*c/\ar wr g 209 (cU (I++(p++s.drop k)))/\Only g w wr) (fun _ _ _ _ _ i _=>n - (intOf i).toNat);exact⟨0,0,[],aV _,rfl,rfl,by omega,rfl,jT,by simp,(show ar w g _ _ from by simpa using KP.ae),by first|exact(ig _ _).drewN _|exact((ig _ _).drewN _).drewN _⟩;obtain⟨k,c,p,hk,rfl,rfl,hc,hp,hdp,hvp,f,M⟩:=hrel;have m:=af hp;have U:=af hdp;have WP:=af hvp;have z:=af f;have S:=af M;clear hp hdp hvp f M;by_cases hlt:k<n
   ·have cvk:wr.cell? ⟨gv,ov+k,none⟩=some (.int .u64 (limb v k:Nat)):=(by have hk:k<v.length:=awM;obtain⟨_,_,hA,_,hc⟩:=(SV.only S zP).at_ (ko hk);injection hA with hA;injection hA with h1 h2;subst h1 h2;rw[hc,f4 hk]);have cuk:wr.cell? ⟨g,o+k,none⟩=some (.int .u64 (limb s k:Nat)):=(by rw[A_ z.ae G.ae (by rw[bC,m.ae,o8];omega),H6 m.ae]);have JF:=z.frozen (o+k);have bvk:=DV.getD k;have buk:=DS.getD k;have L:=Es (x:=q) (y:=limb v k) avN bvk;have K:0<=(q:Int)*(limb v k:Int):=Eh Om Om;have J:(q:Int)*(limb v k:Int)<=999999998000000001:=av5;unfold B9 at bvk buk;obtain⟨t,ht⟩:∃t,t=q*limb v k+c:=⟨_,rfl⟩;have hti:(q:Int)*(limb v k:Int)+c=t:=by rw[ht];simp
    have ht9:t<=999999999999999999:=Om;have F:=af (fun y c' hy=>aiB (y:=y) (c':=c') m WP ht hy);rw[vM (show k<n+1 by omega)] at F;have A:=af hti;clear ht hti L;by_cases af7:limb s k<t%1000000000
    ·have hd:decide ((limb s k:Int)<((q:Int)*(limb v k:Int)+c)%1000000000)=true:=by rw[A.ae];exact decide_eq_true Om
     have HF:=af (F (limb s k+B9 - t%B9) (t/B9+1) avN);have arN:0<=(limb s k:Int)+1000000000 - ((q:Int)*(limb v k:Int)+c)%1000000000:=Om;go_wp2;go_roundw
     ·refine⟨k+1,t/B9+1,p++ [limb s k+B9 - t%B9],by omega,by go_num,congrArg _ awm,by unfold B9;omega,by simp [m.ae],U.snoc avN,HF,?_,(S.bu _ _).bu _ _⟩;exact akB (Ih (y:=limb s k+1000000000) z G m Om Om) G m awm
     simp [intOf];omega
    ·have hd:decide ((limb s k:Int)<((q:Int)*(limb v k:Int)+c)%1000000000)=false:=by rw[A.ae];exact decide_eq_false Om
     have HF:=af (F (limb s k - t%B9) (t/B9) avN);have arN:0<=(limb s k:Int) - ((q:Int)*(limb v k:Int)+c)%1000000000:=by rw[A.ae];omega
     go_wp2;go_roundw
     ·refine⟨k+1,t/B9,p++ [limb s k - t%B9],by omega,by go_num,congrArg _ awm,by unfold B9;omega,by simp [m.ae],U.snoc avN,HF,?_,S.bu _ _⟩;exact Ih z G m Om awm
     simp [intOf];omega
   ·obtain rfl:k=n:=Om;have cun:wr.cell? ⟨g,o+k,none⟩=some (.int .u64 (u0:Nat)):=(by rw[A_ z.ae G.ae (by rw[bC,m.ae,o8];omega),H6 m.ae,E.ae])
    have JF:=z.frozen (o+k);by_cases hle:c<=u0
    ·have hd:decide ((c:Int)<=(u0:Int))=true:=fU;have F:=af (aiC V D m xy WP (by rw[vM Om,E.ae];exact hle));go_wp2;go_ret;refine⟨mV (by rw[F.1]),p++ [u0 - c],by simp [m.ae],U.snoc avN,?_,Ih z G m Om Om,S.bu _ _⟩;have:=F.2;rw[vM Om,E.ae] at this;exact this
    ·have hd:decide ((c:Int)<=(u0:Int))=false:=aY;go_wp2;obtain⟨wo,rfl⟩:∃wo:World,wo=wr:=⟨_,rfl⟩;go_loopw [14,15,16,17,132] (fun cr _ _ _ i wr=>∃(j d:Nat) (r':List Nat),j<=k/\i= .int .i64 j/\cr= .int .u64 d/\d<=1/\r'=j/\bH r'/\val r'+B9^j*d=val (p.take j)+val (v.take j)/\ar wr g 209 (cU (I++(r'++(p++s.drop k).drop j)))/\Only g w wr) (fun _ _ _ _ i _=>k - (intOf i).toNat);exact⟨0,0,[],aV _,rfl,rfl,by omega,rfl,jT,by simp,by simpa using z.ae,S⟩;obtain⟨j,d,r',hj,rfl,rfl,Q,Oi,hdr,Jj,f,M⟩:=hrel;have W:=af Oi;have XP:=af hdr;have HVR:=af Jj;have H:=af f;have R:=af M;clear Oi hdr Jj f M cun JF;have Z:ah (k<(p++s.drop k).length):=by rw[ah,bC,m.ae,o8];omega
     by_cases ar4:j<k
     ·have cvj:wr.cell? ⟨gv,ov+j,none⟩=some (.int .u64 (limb v j:Nat)):=(by have hk:j<v.length:=awM;obtain⟨_,_,hA,_,hc⟩:=(SV.only R zP).at_ (ko hk);injection hA with hA;injection hA with h1 h2;subst h1 h2;rw[hc,f4 hk]);have epj:limb (p++s.drop k) j=limb p j:=(by unfold limb;rw[fh,fh,nM (by rw[m.ae];exact ar4)]);have cuj:wr.cell? ⟨g,o+j,none⟩=some (.int .u64 (limb p j:Nat)):=(by rw[A_ H.ae G.ae (by rw[bC,W.ae,o8];have:=Z.ae;omega),H6 W.ae,epj]);have Ub:=H.frozen (o+j);have bvj:=DV.getD j;have bpj:=U.getD j;unfold B9 at bvj bpj;obtain⟨t,ht⟩:∃t,t=limb p j+limb v j+d:=⟨_,rfl⟩;have HA:=af (RM W HVR ht);have Ke:=af ht;clear ht epj;go_wp2;go_roundw
      ·refine⟨j+1,t/B9,r'++ [t%B9],by omega,by go_num,congrArg _ (by rw[Ke.ae];unfold B9;omega),by rw[Ke.ae];unfold B9;omega,by simp [W.ae],XP.snoc (eF _ Od),HA,?_,R.bu _ _⟩;exact Ih H G W (by have:=Z.ae;omega) (by rw[Ke.ae];unfold B9;omega)
      simp [intOf];omega
     ·obtain rfl:j=k:=Om;have B:=af (aj7 V D m W XP DV xy aql WP (by rw[vM Om,E.ae];omega) U HVR);have V4:u0+d=c:=by have:=B.2.2.2;rw[vM Om,E.ae] at this;exact this
      have cun:wr.cell? ⟨g,o+j,none⟩=some (.int .u64 (u0:Nat)):=(by rw[A_ H.ae G.ae (by rw[bC,W.ae,o8];have:=Z.ae;omega),H6 W.ae,H6 m.ae,E.ae]);have Ub:=H.frozen (o+j);have lA:=B.1;have HCD:=af V4;clear V4;go_wp2;go_ret;refine⟨mV (by rw[B.2.1];omega),r'++ [0],by simp [W.ae],XP.snoc Od,?_,?_,R.bu _ _⟩
      ·rw[nR,B.2.2.1];simp
      ·have e0:(p++s.drop j).drop (j+1)=s.drop (j+1):=(by rw[P_,pU (by have:=m.ae;omega),m.ae,vE,yi];congr 1;omega);rw[<-e0];refine Ih H G W (by have:=Z.ae;omega) ?_;have:=HCD.ae;rw[kh,kh];omega
def MW(a b:List Nat)(w:au)(e:Ending)(f:au):Prop:=
 ∃j d h i c g,e= .returned (.tuple #[.slice j d.length h,.slice i c.length g])/\d.length<=h/\c.length<=g/\Canon d/\Canon c/\val d=val a/val b/\val c=val a%val b/\Lm f j d/\Lm f i c/\Ext w f
def ais(i q:aR)(h r:Nat)(a b:List Nat)(w:au)(z:a.length<=10000000)(y:b.length<=10000000)(p:Canon a)(o:Canon b)(m:a<=h)(l:Lm w i a)(j:Lm w q b)(c:val a<val b):
 Calls prog 201 #[.slice i a h,.slice q b.length r] w (MW a b w):=by
 have s:=af l;have A:=af j;have t:=af p;have B:=af o;have f:=af c;have d:=ET c;have g:=af (LW i q h r a b w Om Om p o l j);rw[d] at g;clear l j p o d c;go_enter func201,ntmps201;go_wp2_with fail
 refine g.mono ?_;rintro e x ⟨rfl,k,rfl⟩;go_wp2;go_ret2;refine⟨none,[],0,i,a,h,rfl,by simp,m,Canon.nil,t,?_,?_,Sl.nil,s,(aB w).drewN k⟩
 ·rw[Lu f.ae];rfl
 ·rw[sN f.ae]
def ajA(s L:aR)(I N:Nat)(a b:List Nat)(w:au)(X:a.length<=10000000)(H:Canon a)(q:Canon b)(y:Lm w s a)(x:Lm w L b)(E:val b<=val a)(l:b.length=1):
 Calls prog 201 #[.slice s a I,.slice L b.length N] w (MW a b w):=by
 have K:=af (LW s L I N a b w Om Om H q y x);obtain⟨d,rfl⟩:∃d,b= [d]:=by
  match b,l with
  | [d],_=>exact⟨d,rfl⟩
 obtain⟨g,o,rfl,_,f⟩:=x.at_ (ko (show 0< [d].length by simp));simp only[Le,iq] at f;have F:d<1000000000:=q.1.head;have j:0<d:=(by have:=q.2;unfold gC at this;simp at this;omega)
 have i:val [d]=d:=Ou;have S:decide (d7 (val a) (val [d])<0)=false:=(by unfold d7;rw[if_neg Om];split<;>rfl)
 have U:=af y;have W:=af H;have p:=af i;clear y x H q E l i;simp only[cP,yg,ja] at*;go_enter func201,ntmps201;go_wp2_with fail
 refine K.mono ?_;rintro e O ⟨rfl,k,rfl⟩;generalize d7 (val a) (val [d])=Y at*;go_wp2_with fail;refine(aaP s I a d (w.drewN k) Om W.1 j F U).mono ?_;rintro e t ⟨r,c,C,rfl,T,h,A,Q⟩;have R:val a%d<d:=eF _ j;generalize M:val a%d=m at*;have V:=af M;have J:=af h;clear M h;go_wp2_with fail
 refine(sX (some ⟨t.heap.size,0,none⟩) 1 1 [m] _ rfl Om Om (rj avN jT) (Sl.new t 209 #[.int .u64 m])).mono ?_;rintro e O ⟨P,D,rfl,G,z,B,rfl⟩;go_wp2;go_ret2;refine⟨_,r,c,_,P,1,rfl,C,D,T,G,?_,?_,A.ext ((aB t).alloc _),B,?_⟩
 ·rw[p.ae,J.ae]
 ·rw[z,p.ae,V.ae];simp
 ·exact(Ext.trans (((aB w).drewN k)) Q).alloc _
def air(A1 A2:aR)(c1 c2:Nat)(a b:List Nat)(w:au)(h1:a.length<=10000000)(ca:Canon a)(cb:Canon b)(s1:Lm w A1 a)(s2:Lm w A2 b)(hle:val b<=val a)(hb2:2<=b.length):
 Calls prog 201 #[.slice A1 a c1,.slice A2 b.length c2] w (MW a b w):=by
 have hbl:=Eb ca cb hle;have XY:=af (LW A1 A2 c1 c2 a b w Om Om ca cb s1 s2);have hcm:decide (d7 (val a) (val b)<0)=false:=(by unfold d7;rw[if_neg Om];split<;>rfl)
 have avz:((b.length:Int)==1)=false:=beq_eq_false_iff_ne.2 Om;have hkb:b.length - 1<b.length:=Om;obtain⟨g,o,rfl,_,O⟩:=s2.at_ (ko hkb);rw[<-f4 hkb] at O;have hx0:0<limb b (b.length - 1):=(by have:=cb.2.last Om;rw[f4 hkb];omega)
 have jJ:=cb.1.getD (b.length - 1);obtain⟨f,hf⟩:∃f,f=B9/ (limb b (b.length - 1)+1):=⟨_,rfl⟩;have X:0<f:=by rw[hf];exact Nat.div_pos Om Om
 have VY:f<1000000000:=(by rw[hf,PT Om];unfold B9;omega);have qz:(1000000000:Int)/ ((limb b (b.length - 1):Int)+1)=f:=(by rw[hf];unfold B9;simp);have tR:=af qz;have HF:=af hf;have S1:=af s1;have S2:=af s2;have CA:=af ca;have CB:=af cb;have si:=af hle;clear s1 s2 ca cb hle hf qz;unfold B9 at jJ;have kR:=Rv a (a.length+1) rfl Om;go_enter func201,ntmps201;go_wp2_with fail
 refine XY.mono ?_;rintro e w' ⟨rfl,k,rfl⟩;generalize d7 (val a) (val b)=cm at*;go_upto_region 7 with fail
 rw[tR.ae];have hW1:Ext w ((w.drewN k).alloc (Obj.cells #[Value.int IntKind.u64 f] 209)):=(((aB w).drewN k)).alloc _;have hWf:Lm ((w.drewN k).alloc (Obj.cells #[Value.int IntKind.u64 f] 209)) (some ⟨w.heap.size,0,none⟩) [f]:=Sl.new (w.drewN k) 209 #[.int .u64 f];have hWs:((w.drewN k).alloc (Obj.cells #[Value.int IntKind.u64 f] 209)).heap.size=w.heap.size+1:=Ou;generalize(w.drewN k).alloc (Obj.cells #[Value.int IntKind.u64 f] 209)=W at*;have hW2:w.heap.size+1<=W.heap.size:=Om;clear hWs;have HW:=af hW1;have HWF:=af hWf;clear hW1 hWf O hcm;go_cut [9,10] (fun s9 s10 wx=>∃p gv v cv,p≠gv/\w.heap.size+1<=p/\s9= .slice (some ⟨p,0,none⟩) (a.length+1) (a.length+1)/\s10= .slice (some ⟨gv,0,none⟩) v.length cv/\Canon v/\val v=val b*f/\Lm wx (some ⟨gv,0,none⟩) v/\ar wx p 209 (cU (pad [] (a.length+1)))/\Ext W wx)
 case first=>
  have hwa:IntKind.i64.wrap ((a.length:Int)+1)=a.length+1:=Eg _ Om;go_region_with (go_at_call 149;refine(SM _ _ _ _ b [f] _ Om Ou CB.1 (rj avN jT) (by exact S2.ext (HW.trans (by first|exact(aB W).drew|exact((aB W).alloc _).drew|exact((aB W).drew).alloc _))) (by exact HWF.ext (by first|exact(aB W).drew|exact((aB W).alloc _).drew|exact((aB W).drew).alloc _))).mono ?_;rintro e w1 ⟨v,cv,hcv,rfl,hv,J,s,hx⟩);all_goals (go_wp2_with fail;go_meet)
  all_goals have I:val v=val b*f:=by rw[J];simp
  ·refine⟨W.heap.size,W.heap.size+1,v,cv,by omega,hW2,rfl,rfl,hv,I,?_,?_,?_⟩
   ·have e:(W.alloc (Obj.cells (cU (pad [] (a.length+1))).toArray 209)).drew.heap.size=W.heap.size+1:=by show(W.alloc _).heap.size=_;simp
    rw[e] at s;exact s
   ·exact(iT W 209 (cU (pad [] (a.length+1)))).drew.ext hx
   ·exact Ext.trans (((aB W).alloc _).drew) hx
  ·have hx0:Ext W w1:=Ext.trans ((aB W).drew) hx;have hlt:W.heap.size<w1.heap.size:=(by obtain⟨g',_,P,oF,_⟩:=s.at_ (k:=0) (ko (show 0<v.length by have:=(acb CB rfl Om HF hv I).1;omega));injection P with P;injection P with h1 h2;have:W.drew.heap.size=W.heap.size:=rfl;omega)
   refine⟨w1.heap.size,W.heap.size,v,cv,by omega,by omega,rfl,rfl,hv,I,s.ext ((aB w1).alloc _),?_,?_⟩
   ·exact iT w1 209 (cU (pad [] (a.length+1)))
   ·exact hx0.alloc _
 case rest=>
  obtain⟨p,gv,v,cv,hne,OG,rfl,rfl,hcv,J,s,hbu,FH⟩:=hcut;clear kR;obtain⟨zk,M⟩:=acb CB rfl Om HF hcv J;have oJ:=af (HW.trans FH);have HFW:=af (HWF.ext FH);have zM:=af s;have HBU:=af hbu;have XX:=af hcv;have HVV:=af J;have zJ:=af zk;have auO:v<=b.length:=Om;have auN:b.length<=v.length:=Om;clear s hbu hcv J zk FH;go_wp2_with fail
  refine(SM _ _ _ _ a [f] wc Om Ou CA.1 (rj avN jT) (S1.ext oJ) HFW).mono ?_;rintro e w2 ⟨r,cr,hrc,rfl,hr,Jj,N0,hx2⟩;have Z:val r=val a*f:=by rw[Jj];simp
  have ju:r<=a.length+1:=by
   rcases cA (a.length+1) r with h|h
   ·exfalso;have h3:=Ee hr.2 Om;have h4:=jV CA.1;have h5:B9^(a.length+1)<=B9^(r.length - 1):=fN Od Om;have h6:val a*f<=B9^a.length*B9:=vF Om avN;have h7:val a*f<B9^a.length*B9:=by refine cF (YA h4 X) (iF _ avN)
    rw[eU] at h5;omega
   ·exact h
  have sf:=af (ajc CA CB rfl rfl Om hbl X hr ju Z);have Kl:=af N0;have aZ:=af hx2;have agp:=HBU.ext hx2;have atP:=af agp;clear N0 hx2 Jj Z agp;obtain⟨d,hQn⟩:∃d,d+v.length=a.length+1:=⟨a.length+1 - v.length,by omega⟩;have T8:∀w:World,(Instr.makeSlice 87 (.int .i64 ((a.length:Int)+1 - v)) (.int .i64 ((a.length:Int)+1 - v))).run prog w= .ok (.slice (some ⟨w.heap.size,0,none⟩) d d) (w.alloc (.cells (cU (pad [] d)).toArray 209)):=(by have e':((a.length:Int)+1 - v)=(d:Int):=Om;rw[e'];exact EK d Om)
  have ate:ah (zf (val a*f) (val v) v.length d (pad r (a.length+1)) []):=by
   have:=sf.ae;rw[ah,HVV.ae];have F:a.length+1 - b.length=d:=by have:=zJ.ae;omega
   rw[F,<-zJ.ae] at this;exact this
  have C:500000000<=limb v (v.length - 1):=by rw[zJ.ae];exact M
  have Pm:=af C;have lA:d<=a.length:=Om;have rP:a.length+1<=d+v.length:=Om;have hq3:d+v.length<=a.length+1:=Om;have qx:2<=v.length:=Om;have HQN:=af hQn;clear hQn M C;go_wp2_with ((with_reducible show wpList _ _ _ _ _ _);refine ahv rfl (.tmp 49) (.tmp 52) 87 87 rfl 209 underlying87 Ok p 0 (a.length+1) (a.length+1) _ r.length cr rfl rfl 209 _ atP (cU r) (by rw[LR];exact(iR ju).symm) Kl (by rw[LR,LR,sU Ou];omega) (by intro u hu;simp [cU] at hu;obtain⟨y,_,rfl⟩:=hu;rfl) ?_;intro t gO B)
  have agF:ah (Ext w t):=(oJ.trans aZ).only B Om;have agJ:ah (Lm t (some ⟨gv,0,none⟩) v):=(zM.ext aZ).only B (fun h=>hne h.symm);have atz:ah (Lm t (some ⟨w.heap.size,0,none⟩) [f]):=(HFW.ext aZ).only B Om;have hb3:ar t p 209 (cU (pad r (a.length+1))):=by
   have:=gO.ae;have F:(cU (pad [] (a.length+1))).take 0++(cU r++(cU (pad [] (a.length+1))).drop (0+(cU r)))=cU (pad r (a.length+1)):=(by rw[kF,vE,ja,LR,Ir,cU,cU,cU,x_,YR,pad,kD,x_])
   rwa[F] at this
  have ave:p<t.heap.size:=hb3.lt;have avc:gv<t.heap.size:=(by obtain⟨g',_,P,oF,_⟩:=agJ.at_ (k:=0) (ko (show 0<v.length by omega));injection P with P;injection P with h1 h2;omega)
  have atT:=af hb3;clear hb3 T8 B;go_loopw [12] (fun i wr=>∃(m:Int) (c q:List Nat), -1<=m/\m<d/\i= .int .i64 m/\c.length=a.length+1/\q.length=d - (m+1).toNat/\zf (val a*f) (val v) v.length (m+1).toNat c q/\ar wr p 209 (cU c)/\ar wr t.heap.size 209 (cU (List.replicate (m+1).toNat 0++q))/\Lm wr (some ⟨gv,0,none⟩) v/\Lm wr (some ⟨w.heap.size,0,none⟩) [f]/\Ext w wr) (fun i _=>(intOf i+1).toNat)
  ·refine⟨(d:Int) - 1,pad r (a.length+1),[],by omega,by omega,rfl,sU ju,?_,?_,atT.alloc _,?_,agJ.ext ((aB t).alloc _),atz.ext ((aB t).alloc _),agF.alloc _⟩
   ·simp
   ·have F:((d:Int) - 1+1).toNat=d:=Om;rw[F];exact ate
   ·have F:((d:Int) - 1+1).toNat=d:=Om;rw[F,i7,<-Ir];exact iT _ _ _
  obtain⟨m,c,q,jK,nu,rfl,K,D,N,ago,E,afV,age,Y⟩:=hrel;have G:=af K;have Kr:=af D;have HLO:=af N;have S:=af ago;have HBQ:=af E;have I7:=af afV;have agY:=af age;have agE:=af Y;clear K D N ago E afV age Y;have hV0:0<val v:=Bq XX (by intro h;rw[h] at qx;simp at qx);by_cases h0:0<=m
  ·obtain⟨j,rfl⟩:∃j:Nat,m=j:=⟨m.toNat,by omega⟩;have V:((j:Int)+1).toNat=j+1:=Om;have as2:=af (V▸Kr.ae);have R:=af (V▸HLO.ae);have atR:=af (V▸HBQ.ae);clear V;have dI:j<c.length:=awN;have A:=ZE R dI;have DZ:ah (ar wr p 209 (cU (c.take j++c.drop j))):=by rw[ah,sJ];exact S
   have NZ:(c.take j).length=j:=avU;have tH:v.length+1<=(c.drop j).length:=by rw[o8];have:=G.ae;omega
   have HST:=af (al2 p j v.length (a.length+1 - j) cv gv 0 (c.take j) (c.drop j) v wr qx Om NZ tH (R.zE.drop j) DZ rfl XX.1 I7 (fun h=>hne h.symm) Pm A);have HQ9:ah (val ((c.drop j).take (v.length+1))/val v<B9):=by rw[ah,PT hV0];exact A
   have asN:ah (j+v.length+1<=c):=by have:=G.ae;unfold ah;omega
   have HHW:=af A;have Gt:=af NZ;clear A NZ tH dI;go_wp2_with fail
   rw[show j+v.length+1 - j=v.length+1 from by omega];refine HST.mono ?_;rintro e w5 ⟨rfl,u',L,afS,afR,ny,l⟩;have zS:=af (ajd R asN L afS (jV XX.1) hV0 afR);rw[yi] at ny;have sB:=af ny;have T:=af (atR.only l Om);have asQ:=af (I7.only l (fun h=>hne h.symm));have aty:=af (agY.only l Om);have Uu:ah (Ext w w5):=agE.only l Om;have asM:ah ((c.take j++(u'++c.drop (j+(v.length+1)))).length=a.length+1):=by rw[ah,bC,bC,Gt.ae,L,o8,G.ae];omega
   clear L afS afR ny l;have hqi:=HQ9.ae;unfold B9 at hqi;generalize val ((c.drop j).take (v.length+1))/val v=qj at*;generalize c.take j++(u'++c.drop (j+(v.length+1)))=uw' at*;have aum:w5.cell? ⟨t.heap.size,j,none⟩=some (.int .u64 (0:Nat)):=by have F:List.replicate (j+1) 0++q=List.replicate j 0++(0::q):=awP;have:=Iw (i:=j) T Oc;rw[this,F,Bg _ _ _ _ Ou]
   have avm:=T.frozen j;have arI:w.heap.size<=t.heap.size:=agF.size;go_wp2;go_roundw
   ·refine⟨(j:Int) - 1,uw',qj::q,by omega,by omega,by go_num,asM,?_,?_,sB.far (by show p≠t.heap.size;omega) _,?_,asQ.only ((ig _ _).bu _ _) Om,aty.only ((ig _ _).bu _ _) Om,Uu.setCell arI _⟩
    ·have:=as2.ae;rw[cP];omega
    ·have F:((j:Int) - 1+1).toNat=j:=Om;rw[F];exact zS
    ·have F:((j:Int) - 1+1).toNat=j:=Om;have e3:List.replicate (j+1) 0++q=List.replicate j 0++(0::q):=awP;have:=EL (i:=j) (x:=qj) (z:=(qj:Int)) T rfl;rw[e3,yP _ _ _ _ _ Ou] at this;rw[F];exact this
   simp [intOf]
  ·obtain rfl:m= -1:=Om;have U:=HLO.ae;have D:=Kr.ae;have E:=HBQ.ae;simp only[Int.reduceNeg,Int.reduceAdd,Int.toNat_zero,YP,vE,Qt] at U D E;have af8:zf (val a*f) (val b*f) v 0 c q:=by rw[<-HVV.ae];exact U
   have hb0:0<val b:=Bq CB (by intro h;rw[h] at hb2;simp at hb2);have agT:=af (amS hb0 X af8);have Q:=af U;have as1:=af D;have atQ:=af E;clear U D E af8;have hsu:Lm wr (some ⟨p,0,none⟩) (c.take v):=(by have:=(S.sl 0).take v;rw[lJ,Re] at this;exact this)
   have K:(c.take v.length).length=v.length:=by rw[cJ,G.ae];omega
   have HTR:=af (sX (some ⟨p,0,none⟩) (a.length+1) v (c.take v) wr K Om Om (Q.zE.take _) hsu);have hcf:wr.cell? ⟨w.heap.size,0,none⟩=some (.int .u64 f):=(by obtain⟨_,_,P,_,hc⟩:=agY.at_ (k:=0) (ko (show 0< [f].length by simp));injection P with P;injection P with h1 h2;subst h1 h2;simpa using hc)
   have hsq:Lm wr (some ⟨t.heap.size,0,none⟩) q:=(by have:=atQ.sl 0;rwa[lJ] at this);have HSQ:=af hsq;clear hsu K hsq;go_wp2_with fail;go_region_with (first|(go_at_call 143;refine(sX (some ⟨p,0,none⟩) (a.length+1) v (c.take v) _ (by rw[cJ,G.ae];omega) Om Om (Q.zE.take _) (by exact(show Lm wr (some ⟨p,0,none⟩) (c.take v) from by have:=(S.sl 0).take v;rw[lJ,Re] at this;exact this))).mono ?_;rintro e w6 ⟨r6,Og,rfl,JJ,qw,N9,rfl⟩)|(go_at_call 240;refine(aaP _ _ r6 f _ Om JJ.1 X VY N9).mono ?_;rintro e w7 ⟨r7,c7,arR,rfl,hc7,Jl,FK,H⟩))
   all_goals
    go_wp2_with fail
    have fV:Ext wr w7:=⟨H.os,H.tape,H.output,H.size,H.block⟩;refine(sX (some ⟨t.heap.size,0,none⟩) d d q w7 as1 (aK _) Om Q.aev (HSQ.ext fV)).mono ?_;rintro e w8 ⟨r8,hr8,rfl,uQ,ox,hs8,rfl⟩;have Dw:=af Jl;have Dx:=af qw;have J9:=af ox;clear Jl qw ox;go_wp2;go_ret2;exact⟨_,r8,d,_,r7,c7,rfl,hr8,arR,uQ,hc7,J9.trans agT.1,by rw[Dw.ae,Dx.ae];exact agT.2.1,hs8,FK,agE.trans fV⟩
def Q_(e d:aR)(c f:Nat)(a b:List Nat)(w:au)(k:a.length<=10000000)(q:b.length<=10000000)(m:Canon a)(l:Canon b)(j:a.length<=c)(i:Lm w e a)(g:Lm w d b)(p:b≠ []):
 Calls prog 201 #[.slice e a.length c,.slice d b.length f] w (MW a b w):=by
 rcases cA (val a) (val b) with h|h
 ·exact ais e d c f a b w k q m l j i g h
 ·rcases cA b.length 2 with o|o
  ·have:b.length≠0:=fun h=>p (mh h);exact ajA e d c f a b w k m l i g h Om
  ·exact air e d c f a b w k m l i g h o
def eA(w:au)(v:Value)(n:Nat):Prop:=∃A c,v= .slice A (aW n).length c/\(aW n).length<=c/\Lm w A (aW n)
def eA.ext{w':au}{v:Value}{n:Nat}(h:eA m v n)(a:Ext m w'):eA w' v n:=by obtain⟨A,c,rfl,d,b⟩:=h;exact⟨A,c,rfl,d,b.ext a⟩
def eA.keep{v:Value}{n:Nat}(h:eA m v n)(a:Kept 209 m o):eA o v n:=by obtain⟨A,c,rfl,d,b⟩:=h;exact⟨A,c,rfl,d,b.keep a⟩
def eA.mk'{A:aR}{n:Nat}(b:Canon i)(hv:val i=n)(d:i<=c)(a:Lm m A i):eA m (.slice A i c) n:=by subst hv;have:=acU b;exact⟨A,c,by rw[this],by rw[this];exact d,by rw[this];exact a⟩
def Fit(n:Nat):Prop:=(aW n).length<=1000000
def Fit.of_lt{n:Nat}(h:n<10^e)(a:e<=8000000):Fit n:=by have:=Zc h;unfold Fit;omega
def Ig:=@Fit.of_lt
def Fit.le{n:Nat}(h:Fit n)(b:a<=n):Fit a:=by have:=Eb (cW n) (cW a) (by rw[dm,dm];exact b);unfold Fit at*;omega
def Hx(A:aR)(c:Nat)(l:List Nat)(w:au)(m:l.length<=2)(d:bH l)(b:Lm w A l):
 Calls prog 211 #[.slice A l c] w fun e a=>e= .returned (.int .u64 (val l:Nat))/\w=a:=by
 have g:=af b;have i:=d.getD 0;have h:=d.getD 1;have hv:val l=limb l 1*1000000000+limb l 0:=(by have j:=iH l 0;have f:=iH l 1;rw[dz (show l.length<=1+1 by omega),j] at f;rw[f];simp only[kF,EP,yr,po,B9];omega)
 unfold B9 at i h;have k:=af hv;clear b hv;go_enter func211,ntmps211;go_wp2_with fail
 refine(EZ A c l 1 w Om Om g).mono ?_;rintro e a ⟨rfl,rfl⟩;go_wp2_with fail;refine(EZ A c l 0 w Om Om g).mono ?_;rintro e a ⟨rfl,rfl⟩;go_wp2;go_ret;exact⟨mV (by rw[k.ae];omega),rfl⟩
def ahU(x:Nat)(a:x<1000000000000000000):bH [x%B9,x/B9]/\val [x%B9,x/B9]=x:=by refine⟨rj (eF _ Od) (rj avN jT),?_⟩;simp only[mr,EP,yt,iq];exact Hf x B9
def aoJ(va vb:Value)(a b:Nat)(w:au)(fa:Fit a)(fb:Fit b)(ha:eA w va a)(hb:eA w vb b):
 Calls prog 196 #[va,vb] w fun e o=>∃v,e= .returned v/\eA o v (Nat.gcd a b)/\Ext w o:=by
 have HA:=af ha;have HB:=af hb;have FA:=af fa;have FB:=af fb;clear ha hb fa fb;go_enter func196,ntmps196;go_wp2;go_loopg [0,1,5,6] b (fun k sa sb _ _ wr=>∃x y:Nat,k=y/\Fit x/\Fit y/\eA wr sa x/\eA wr sb y/\Nat.gcd x y=Nat.gcd a b/\Ext w wr)
 case atStart=>exact⟨a,b,rfl,FA,FB,HA,HB,rfl,aB w⟩
 case round=>
  obtain⟨x,y,rfl,fx,fy,hx,hy,hg,l⟩:=hrel;obtain⟨Z,T,rfl,C,sx⟩:=hx;obtain⟨S,N,rfl,OL,sy⟩:=hy;have FX:=af fx;have FY:=af fy;have U:=af sx;have O:=af sy;have W:=af hg;have V:=af l;unfold Fit at fx fy;clear sx sy hg l;by_cases i:2<(aW gk).length
  ·go_wp2_with fail
   refine(Q_ Z S T N (aW x) (aW gk) wr Om Om (cW x) (cW gk) C U O (by intro h;rw[h] at i;simp at i)).mono ?_;rintro e d ⟨Aq,lq,cq,Ar,lr,cr,rfl,wV,I,cq',j,A,c,sq,sr,f⟩;rw[dm,dm] at c;have H:0<gk:=by
    rcases ip gk with h|h
    ·subst h;simp [alY] at i
    ·exact h
   have B:x%gk<gk:=eF _ H;have E:=af c;clear c A;go_wp2;go_roundg (x%gk)
   case measure=>exact B
   case rel=>exact⟨gk,x%gk,rfl,FY,FY.le Om,⟨S,N,rfl,OL,O.ext f⟩,.mk' j E I sr,by rw[<-W.ae,AH x gk,QO gk x,AH],V.trans f⟩
  ·by_cases t:gk=0
   ·subst t;have hz:((aW 0).length:Int)=0:=rfl;have K:(((aW 0).length:Int)==0)=true:=rfl;have hb2:decide ((2:Int)<((aW 0).length:Int))=false:=rfl;have HE:ah (x=Nat.gcd a b):=by rw[ah,<-W.ae,YU]
    clear hz;go_wp2;go_ret;refine⟨_,rfl,?_,V⟩;rw[<-HE.ae];exact⟨Z,T,rfl,C,U⟩
   ·have s:0<(aW gk).length:=by
     rcases ip (aW gk).length with h|h
     ·exact absurd (qW.1 (mh h)) t
     ·exact h
    have K:(((aW gk).length:Int)==0)=false:=beq_eq_false_iff_ne.2 Om;have hb3:decide ((2:Int)<((aW gk).length:Int))=false:=aY;have g:gk<1000000000000000000:=(by have h3:=jV (cW gk).1;rw[dm] at h3;have h4:B9^(aW gk).length<=B9^2:=fN Od Om;have h5:B9^2=1000000000000000000:=Od;omega)
    by_cases hx2:2<(aW x).length
    all_goals first
     |(have J:decide ((2:Int)<((aW x).length:Int))=true:=fU
       go_wp2_with fail
       refine(Q_ Z S T N (aW x) (aW gk) wr Om Om (cW x) (cW gk) C U O (by intro h;rw[h] at s;simp at s)).mono ?_;rintro e d ⟨Aq,lq,cq,Ar,lr,cr,rfl,wV,I,cq',j,A,c,sq,sr,f⟩;rw[dm,dm] at c;have B:x%gk<gk:=eF _ Om;have Ox:lr.length<=2:=by have:=Eb (cW gk) j (by rw[dm,c];omega);omega
       have E:=af c;clear c A;go_wp2_with fail;refine(Hx S N (aW gk) d Om (cW gk).1 (O.ext f)).mono ?_;rintro e o ⟨rfl,rfl⟩;rw[dm];go_wp2_with fail;refine(Hx Ar cr lr d Om j.1 sr).mono ?_;rintro e o ⟨rfl,rfl⟩;rw[E.ae];have Q:ah (Ext w d):=V.trans f;obtain⟨X,D⟩:∃X,X=gk:=⟨_,rfl⟩;obtain⟨Y,m⟩:∃Y,Y=x%gk:=⟨_,rfl⟩;have P:ah (Nat.gcd X Y=Nat.gcd a b):=by rw[ah,D,m,<-W.ae,AH x gk,QO gk x,AH]
       have M:X<1000000000000000000:=Om;have L:Y<1000000000000000000:=by rw[m];exact Qv B g
       rw[<-m,<-D];clear D m)
     |(have J:decide ((2:Int)<((aW x).length:Int))=false:=aY
       go_wp2_with fail
       refine(Hx Z T (aW x) wr Om (cW x).1 U).mono ?_;rintro e o ⟨rfl,rfl⟩;rw[dm];go_wp2_with fail;refine(Hx S N (aW gk) wr Om (cW gk).1 O).mono ?_;rintro e o ⟨rfl,rfl⟩;rw[dm];obtain⟨d,z⟩:∃d,d=wr:=⟨_,rfl⟩;have Q:ah (Ext w d):=by rw[z];exact V
       rw[<-z];obtain⟨X,D⟩:∃X,X=x:=⟨_,rfl⟩;obtain⟨Y,m⟩:∃Y,Y=gk:=⟨_,rfl⟩;have P:ah (Nat.gcd X Y=Nat.gcd a b):=by rw[ah,D,m];exact W
       have M:X<1000000000000000000:=(by have h3:=jV (cW x).1;rw[dm] at h3;have h4:B9^(aW x).length<=B9^2:=fN Od Om;have h5:B9^2=1000000000000000000:=Od;omega);have L:Y<1000000000000000000:=Om;rw[<-D,<-m];clear D m z)
    all_goals
     clear K hb3 J hx2 s t i g;go_wp2;go_loopw [9,10] (fun p9 r wq=>∃p q:Nat,p9= .int .u64 p/\r= .int .u64 q/\p<1000000000000000000/\q<1000000000000000000/\Nat.gcd p q=Nat.gcd a b/\∃n,wq=d.drewN n) (fun _ r _=>(intOf r).toNat);exact⟨X,Y,rfl,rfl,M,L,P,0,rfl⟩;obtain⟨p,q,rfl,rfl,hp,hq,G,n,rfl⟩:=hrel;have R:=af G;clear G;by_cases tF:q=0
     ·subst tF;have hl:=ahU p hp;have HE:ah (p=Nat.gcd a b):=by rw[ah,<-R.ae,YU]
      have HL:=af hl;clear hl;go_wp2_with fail;have e1:(p:Int)%1000000000=((p%B9:Nat):Int):=avN;have e2:(p:Int)/1000000000=((p/B9:Nat):Int):=avN;rw[e1,e2];refine(sX (some ⟨d.heap.size,0,none⟩) 2 2 [p%B9,p/B9] _ rfl Om Om HL.1 (Sl.new (d.drewN n) 209 #[.int .u64 ((p%B9:Nat):Int),.int .u64 ((p/B9:Nat):Int)])).mono ?_;rintro e o ⟨r',Oi,rfl,hc',F,hs',rfl⟩;have HV':=af (F.trans HL.2);clear F e1 e2;go_wp2;go_ret;exact⟨_,rfl,.mk' hc' (HV'.trans HE) Oi hs',(Q.drewN n).alloc _⟩
     ·have hne:((q:Int) !=0)=true:=awV;go_wp2;go_quiet (fail);go_wp2;go_roundw;exact⟨q,p%q,rfl,congrArg _ (Qa p q).symm,hq,Qv (eF p Om) hq,by rw[<-R.ae,AH p q,QO q p,AH],by first|exact Tz _ _|exact IR _ _ _⟩;simp only[intOf];rw[<-Qa];simp only[kg];exact eF p Om
end Go.Proofs.YtadbchhdjbghkaaGreatDoor
