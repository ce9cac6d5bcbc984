/- Texts of the proof, part 13. -/
import Derived.Test.YthfffpcmldipgaaGreatDoorA12
namespace Go.Proofs.YthfffpcmldipgaaGreatDoor
set_option maxHeartbeats 8000000
set_option linter.all false
set_option maxRecDepth 100000
variable{ai:Prop}
open Go.RowKit Go.Lib Go.Maps Go.ChangeShapes Go.WideShapes Go.ChangeAt Go.Proofs.Tryz
variable{a b c d e f g h:Nat}{i j k l:List Nat}{m n o:World}{p q r s:Value}{t u v:List Value}{w x:TypeId}{y z:Nat→Option Nat}{A:Nat→List Nat}{B C:Int}{E F:Option Addr}{H I:Rat}{J:Nat→Nat}{K:Nat→Bool}{L:List Int}{N:Array Bool}{O:Option Nat}{Q:Act}{R S:Bool}{T:List UInt8}
section
variable{x:aQ}{D:List (List Rw)}{y:Ag}{f0:Fo}
theorem arq(n:cF x)(w:jD x D){t:aF}(h:Iu x (aX x D) a t):eL (kd x a) t:=by
 obtain⟨k,r,j,y,g,rfl⟩:=h;obtain⟨m,A,e,o⟩:=PV w r;rw[e] at g;obtain⟨p,c⟩:=o.val y (xY g);have q:=n.ri _ (aZ m);rw[uP m] at j⊢;unfold EQ;have l:=aaf.2 j;have u:=List.getElem_idxOf l;generalize(cj x.aA[k].2).idxOf a=i at*;have z:(cj x.aA[k].2).length=x.aA[k].2.length:=by unfold cj;rw[cy]
 have b:i<x.aA[k].2.length:=Om;refine c i (a:Int) _ ?_ ?_
 ·rw[aV b];have s:(x.aA[k].2[i]).toNat=a:=by
   have f:(cj x.aA[k].2)[i]?=some a:=by rw[aV l,u]
   unfold cj at f;rw[dY,aV b] at f;injection f
  have:=(q _ (aZ b)).1;congr 1;omega
 ·have d:i<y.1.length:=Om;rw[fG,aV d];rfl
theorem Vz{α β:Type}{f:α->List β}{c:Nat}:∀{l:List α},(∀a∈l,(f a).length<=c)->(l.flatMap f).length<=l.length*c
 | [],_=>by simp
 |a::l,h=>by rw[vP,bC,cW,rM];have g:=h a lI;have e:=Vz fun b d=>h b (sS _ d);omega
theorem acX(b:nI x D):∀l∈aX x D,l.length<=4:=fun l a=>by
 unfold aX at a;obtain⟨i,c,rfl⟩:=dH.1 a;refine a8 (mK _ _) ?_;cases h:D[i]? with
 |none=>exact aT _
 |some l=>exact b.2 l (uy h)
theorem ak1(f:cF x)(v:x.aq.length<=5)(r:x.aA.length<=3)(j:nI x D):(univ (aX x D)).length<=61:=by
 have q:=PN (Hi (aX x D)) (fun t m=>xS.1 m);have hT:=acW f j.1;have p:((aX x D).flatMap fun l:List Rw=>l.flatMap fun y:Rw=>y.1).length<=(aX x D).length*20:=Vz fun l g=>by
  have u:=acX j l g;refine a8 (Vz (c:=5) fun y k=> ?_) Om;obtain⟨i,h,rfl⟩:=ju g;have d:i<x.aA.length:=by rwa[mP] at h
  have b:=km.2 d;have e:bR (aX x D) i=(aX x D)[i]:=by unfold bR;rw[aV h];rfl
  have s:=hT.len i b y (by rw[e];exact k);have o:=PN (hT.nd i b) fun a n=>dP.2 (Lc f i b a n);rw[gN] at o;omega
 rw[mP] at p;rw[cW] at q;omega
theorem arF(d:jD x D):∀h,∀y∈bR (aX x D) h,y.2.natAbs<=100:=fun h y a=>by
 by_cases c:h<x.aA.length
 ·obtain⟨g,f,e,b⟩:=PV d (km.2 c);rw[e] at a;have:=b.wt y (xY a);omega
 ·unfold bR at a;rw[fH aAf] at a;cases a
noncomputable def jQ(x:aQ)(D:List (List Rw))(f0:Fo)(y:Ag)(k:List aF):Rat:=oU (bJ x) (univ (aX x D)) f0 (fun _=> []) (fun v t=>gS v (fun f=>np f t) y.1) (bR (aX x D)) (eO (fun _=>none) y.2 k)
theorem apN(x:aQ):(bV x).Nodup:=sV
theorem aey(o:cF x)(j:x.aq.length<=5)(d:x.aA.length<=3)(i:nI x D)(w:Whole x.aq.length (bJ x) (bV x) f0)(c:y.1.length<=1)(k:List aF):bS 42 (jQ x D f0 y k):=by
 have h:=amF (env:=fun _=> []) (lift:=fun v t=>gS v (fun f=>np f t) y.1) (tab:=bR (aX x D)) (fx:=eO (fun _=>none) y.2 k) (a:=(y.1.head?.map (·.1)).getD 0) (B:=sP) (M:=vy) w (apN x) (ak1 o j d i) (fun t=>UM _ t _ c) asS (fun v t g=>by
  rcases b:y.1 with _|⟨f,l⟩
  ·exact Ic
  ·rw[b] at c g;obtain rfl:=lH ay7;rw[Pf,if_neg]
   ·exact Ic
   ·exact fun e=>g e.symm) (arF i.1)
 refine dQ.fit h Od ?_ Od;have e:(bV x).length=x.aA.length:=by unfold bV;rw[gN]
 rw[e];have n:61^x.aq.length<=61^5:=gM Od j;have m:100^x.aA.length<=100^3:=gM Od d;refine DC (xN (fc vy n) m) ?_;decide
theorem Wp(ok:cF x)(g:x.aq.length<=5)(c:x.aA.length<=3)(hB:nI x D)(w:Whole x.aq.length (bJ x) (bV x) f0)(hy:pP x y.1 y.2)(b:y.1.length<=1):aiV x D f0 np sP vy (jQ x D f0) y:=by
 refine⟨hy,⟨fun f e t d=>arB (hy.fo f e) (arq ok hB.1 d),fun v t=> ?_,fun v t i _=>aex (UM v t _ ay8),fun f _ t=>aex (aev f t)⟩,fun k=>rfl,fun k=>(aey ok g c hB w b k).mono Od,?_⟩
 ·have h:=UM v t y.1 b;unfold iL;rwa[sY,sY,qK]
 ·exact agP
theorem P6(c:pP x y.1 y.2){G:List Gp}(h:lN x D (jQ x D f0) y G):oH x.aq.length (bJ x) (bV x) (univ (aX x D)) f0 (fun _=> []) (fun v t=>gS v (fun f=>np f t) y.1) y.2 (bR (aX x D)) G:=by
 have a:=(VG c.ua).imp fun h=>Nat.ne_of_lt h;by_cases b:j6 x D fun _=>none
 ·rw[h.1 b];exact aq_ a c.ao b
 ·rw[h.2 b];exact akP a b
theorem VY(ok:cF x)(hB:nI x D)(hy:pP x y.1 y.2){G:List Gp}(h:lN x D (jQ x D f0) y G):G.length<=64:=by
 by_cases b:j6 x D fun _=>none
 ·rw[h.1 b,cy];exact agP
 ·rw[h.2 b];exact aT _
theorem VZ(d:cF x)(g:x.aq.length<=5)(c:x.aA.length<=3)(e:nI x D)(w:Whole x.aq.length (bJ x) (bV x) f0)(f:y.1.length<=1){G:List Gp}(h:lN x D (jQ x D f0) y G):∀z∈G,bS 42 z.2:=fun z a=>by
 by_cases b:j6 x D fun _=>none
 ·rw[h.1 b] at a;obtain⟨k, -,rfl⟩:=dH.1 a;exact aey d g c e w f k
 ·rw[h.2 b] at a;cases a
theorem aeP(b:pP x y.1 y.2){G:List Gp}(h:lN x D (jQ x D f0) y G):∀z∈G,z.1.length=y.2.length:=fun z a=>(((P6 b h).mem z.1).1 ⟨z,a,rfl⟩).1
theorem VK{l:List Rw}(d:a<x.aA.length)(c:a<D.length):bR (aX x (D.set a l))=g_ (bR (aX x D)) a (iR x.aA x.aA[a].2 l):=by
 funext h
 unfold g_;by_cases b:h<x.aA.length
 ·by_cases e:h=a
  ·subst e;rw[if_pos rfl];unfold bR;rw[Ks b (by rw[lY];exact c),List.getElem_set_self];rfl
  ·rw[if_neg e];unfold bR aX;rw[dY,dY,lX b];simp only[aaL,aaF];rw[aao (fM e)]
 ·have e:h≠a:=Om;rw[if_neg e];unfold bR;rw[fH aAf,fH aAf]
theorem U_(b:a<x.aA.length)(c:a<D.length):bR (aX x D)=g_ (bR (aX x D)) a (iR x.aA x.aA[a].2 D[a]):=by have h:=VK (x:=x) (D:=D) (l:=D[a]) b c;rwa[List.set_getElem_self] at h
theorem D9{a:List Rl}{l:List Rw}{z:Rw}:z∈iR a L l↔z∈l/\Qc a L z.1=true:=fI
theorem U8{T:List (List Rw)}(hT:T.length=x.aA.length):∀h∈bV x,∀z∈bR T h,∀t∈z.1,t∈univ T:=fun h d z a t c=>by
 have f:=km.1 d;have b:h<T.length:=Om;have e:bR T h=T[h]:=by unfold bR;rw[aV b];rfl
 rw[e] at a;exact U9 (aZ b) a c
theorem aor{l:List Rw}(d:a<x.aA.length)(h:a<D.length)(o:∀z∈l,∃u∈D[a],u.1=z.1):∀t∈univ (aX x (D.set a l)),t∈univ (aX x D):=fun t c=>by
 rcases adt c with rfl|⟨m,n,z,b,c⟩
 ·exact xS.2 lI
 ·obtain⟨i,g,rfl⟩:=ju n;have f:i<x.aA.length:=by rwa[mP] at g
  have e:bR (aX x (D.set a l)) i=(aX x (D.set a l))[i]:=by unfold bR;rw[aV g];rfl
  rw[<-e,VK d h] at b;unfold g_ at b;split at b
  ·rename_i e;obtain⟨q,p⟩:=D9.1 b;obtain⟨u,k,j⟩:=o z q;refine U8 (mP x D) a (km.2 d) u ?_ t (by rw[j];exact c);rw[U_ d h];unfold g_;rw[if_pos rfl];exact D9.2 ⟨k,by rw[j];exact p⟩
  ·exact U8 (mP x D) i (km.2 f) z b t c
theorem ar1(c:cF x):∀v,v<x.aq.length->∃h∈bV x,v∈bJ x h:=fun v d=>by obtain⟨r,e,f⟩:=c.used v d;obtain⟨i,a,rfl⟩:=ju e;exact⟨i,km.2 a,(wD a fun b g=>(c.ri _ (aZ a) b g).1).2 f⟩
theorem Vq(d:cF x)(w:Whole x.aq.length (bJ x) (bV x) f0)(e:pP x y.1 y.2){l:List Rw}(b:a<x.aA.length)(c:a<D.length)(i:∀z∈l,∃u∈D[a],u.1=z.1){G:List Gp}(h:lN x (D.set a l) (jQ x (D.set a l) f0) y G):
 oH x.aq.length (bJ x) (bV x) (univ (aX x D)) f0 (fun _=> []) (fun v t=>gS v (fun f=>np f t) y.1) y.2 (g_ (bR (aX x D)) a (iR x.aA x.aA[a].2 l)) G:=by
 have g:=(P6 e h).univ w w (Hi _) (Hi _) (aor b c i) (U8 (mP x _)) (ar1 d);rwa[VK b c] at g
theorem arb{l:List Rw}(h:tC x L l):Func (iR x.aA L l):=fun y i z m e=>by
 have g:∀{l:List Rw},l.Pairwise IE->∀y∈l,∀z∈l,y.1=z.1->y=z:=by
  intro l;induction l with
  |nil=>intro _ y i;cases i
  |cons a l k=>
   intro f y n z j e;rw[jI] at f;rcases aI.1 n with rfl|d
   ·rcases aI.1 j with rfl|b
    ·rfl
    ·have c:eA y.1 z.1=true:=f.1 z b;rw[e,qP.lm] at c;cases c
   ·rcases aI.1 j with rfl|b
    ·have c:eA z.1 y.1=true:=f.1 y d;rw[e,qP.lm] at c;cases c
    ·exact k f.2 y d z b e
 exact g h.ord y (xY i) z (xY m) e
theorem aqW(k:cF x)(w:Whole x.aq.length (bJ x) (bV x) f0)(s:jD x D)(l:pP x y.1 y.2){i f:List Rw}(e:a<x.aA.length)(j:a<D.length)(m:∀z,z∈D[a]↔z∈i\/z∈f)(q:∀z∈i,z∉f){G p o:List Gp}
 (g:lN x D (jQ x D f0) y G) (u:lN x (D.set a i) (jQ x (D.set a i) f0) y p) (t:lN x (D.set a f) (jQ x (D.set a f) f0) y o):kM (p++o)=G:=by
 have n:=P6 l g;rw[U_ e j] at n;refine alZ w (Lc k) (km.2 e) (arb (s.2 a _ _ (aV j) (aV e))) (fun z=> ?_) (fun z d=> ?_) n (Vq k w l e j (fun z d=>⟨z,(m z).2 (.inl d),rfl⟩) u) (Vq k w l e j (fun z d=>⟨z,(m z).2 (.inr d),rfl⟩) t)
 ·rw[D9,D9,D9,m];constructor
  ·rintro⟨b|b,c⟩
   ·exact .inl ⟨b,c⟩
   ·exact .inr ⟨b,c⟩
  ·rintro(⟨b,c⟩|⟨b,c⟩)
   ·exact⟨.inl b,c⟩
   ·exact⟨.inr b,c⟩
 ·exact fun h=>q z (D9.1 d).1 (D9.1 h).1
theorem anG(c:cF x)(w:Whole x.aq.length (bJ x) (bV x) f0)(d:pP x y.1 y.2)(b:a<x.aA.length)(f:a<D.length){G i:List Gp}
 (g:lN x D (jQ x D f0) y G) (l:lN x (D.set a (D[a].map fun z=>(z.1,z.2*B))) (jQ x (D.set a (D[a].map fun z=>(z.1,z.2*B))) f0) y i):i=G.map fun y=>(y.1,(B:Rat)*y.2):=by
 have h:=P6 d g;rw[U_ b f] at h;have n:=Vq c w d b f (fun z j=>by obtain⟨u,k,rfl⟩:=dH.1 j;exact⟨u,k,rfl⟩) l
 refine aka w (Lc c) (km.2 b) h ?_;have e:iR x.aA x.aA[a].2 (D[a].map fun z=>(z.1,z.2*B))=(iR x.aA x.aA[a].2 D[a]).map fun z=>(z.1,z.2*B):=by unfold iR;rw[List.filter_map];rfl
 rwa[e] at n
theorem aqq{l m:List Rw}(h:tC x L l)(a:m.Sublist l):tC x L m:=⟨a8 a.length_le h.len,fun y b=>h.val y (a.subset b),fun y b=>h.wt y (a.subset b),h.ord.sublist a⟩
theorem afq{m:List Rw}(b:nI x D)(d:a<D.length)(f:m.Sublist D[a]):nI x (D.set a m):=by
 refine⟨⟨by rw[lY];exact b.1.1,fun k t q c g=> ?_⟩,fun l i=> ?_⟩
 ·by_cases e:k=a
  ·subst e;rw[JX d] at c;cases c;exact aqq (b.1.2 k _ q (aV d) g) f
  ·rw[aao (fM e)] at c;exact b.1.2 k t q c g
 ·rcases List.mem_or_eq_of_mem_set i with h|rfl
  ·exact b.2 l h
  ·exact a8 f.length_le (b.2 _ (aZ d))
theorem afN(h:Gu x D x.aA.length):nI x D:=by
 refine⟨⟨h.1,fun k t r d b=>(h.2 k t r d b).ok⟩,fun l c=> ?_⟩;obtain⟨i,e,rfl⟩:=ju c;have a:i<x.aA.length:=by have:=h.1;omega
 exact(h.2 i _ _ (aV e) (aV a)).len
theorem ap0(h:Gu x D x.aA.length)(i:a<D.length)(v:1<=B)(p:B<=5):nI x (D.set a (D[a].map fun z=>(z.1,z.2*B))):=by
 have f:=afN h;refine⟨⟨by rw[lY];exact f.1.1,fun k t q d j=> ?_⟩,fun l n=> ?_⟩
 ·by_cases e:k=a
  ·subst e;rw[JX i] at d;cases d;have b:=h.2 k _ q (aV i) j;refine⟨by rw[cy];exact b.ok.len,fun y g=> ?_,fun y g=> ?_,zX.2 (b.ok.ord.imp fun h=>h)⟩
   ·obtain⟨z,c,rfl⟩:=dH.1 g;exact b.ok.val z c
   ·obtain⟨z,c,rfl⟩:=dH.1 g;have u:=b.ok.wt z c;have s:=b.wt z c;have o:B=1\/B=2\/B=3\/B=4\/B=5:=Om;rcases o with rfl|rfl|rfl|rfl|rfl<;>omega
  ·rw[aao (fM e)] at d;exact f.1.2 k t q d j
 ·rcases List.mem_or_eq_of_mem_set n with h|rfl
  ·exact f.2 l h
  ·rw[cy];exact f.2 _ (aZ i)
end
def PM{x:aQ}{D:List (List Rw)}{g:List Fu}{k:Fo}(h:dK m p x)(r:cF x)(O:qY m q x)(z:nI x D)(P:D.length=a)(S:fS m (.slice E a b) D)(V:x.aq.length<=5)(I:x.aA.length<=3)
 (f:Whole x.aq.length (bJ x) (bV x) k) (Q:qC m (.slice F 1 c) [(g,i)]) (T:pP x g i) (R:g.length<=1) (M:eR m):
 Calls prog 12 #[p,q,.slice E a b,.slice F 1 c] m fun e j=>∃A d G,e= .returned (.tuple #[.slice A 1 d,av 0])/\JI j (.slice A 1 d) [G]/\lN x D (jQ x D k) (g,i) G/\Ext m j:=by
 subst P;refine(ae8 (zq:=np) (DD:=sP) (MM:=vy) p q x D E F b c [(g,i)] (jQ x D k) m h r O z.1 S Om Od Od Od f Q Ou (fun y J=>by rw[bG.1 J];exact Wp r V I z f T R) M).mono ?_;rintro e j ⟨u,B,rfl,L,s,N,K⟩;obtain⟨G,rfl⟩:∃G,B= [G]:=by
  rcases B with _|⟨G,_|⟨H,t⟩⟩
  ·simp at s
  ·exact⟨G,rfl⟩
  ·simp at s
 obtain⟨A,d,C,rfl,U⟩:=L;exact⟨A,d,G,rfl,⟨A,d,C,rfl,U⟩,N 0 Ou Ou,K⟩
abbrev oX:TypeId:=171
abbrev Lv:TypeId:=95
def jh(w:au)(c:List Value)(y:Gp):Prop:=∃A d h j b f g i a e,c= [.slice A y.1.length d,.bool h,.slice j b f,.bool g,.slice i a e]/\TL w (.slice A y.1.length d) y.1/\fB w (.agg #[.bool h,.slice j b f,.bool g,.slice i a e]) y.2
def jh.jN:j7 [bI,aU] jh:=fun _ _ _ _ b ⟨A,d,l,n,f,j,k,m,c,i,e,h,g⟩=>⟨A,d,l,n,f,j,k,m,c,i,e,fN jY h fun t a=>b t aAb,g.keep (b _ Ou)⟩
def uL:=@jh.jN
def jh.five(w:au)(c:List Value)(x:Gp)(h:jh w c x):c.length=5:=by obtain⟨_,_,_,_,_,_,_,_,_,_,rfl,_⟩:=h;rfl
def Pe:ko prog Lv oX 5 88:= .mk' (z:= .agg #[.slice none 0 0,.bool false,.slice none 0 0,.bool false,.slice none 0 0]) Ok Ok rfl Od Od
abbrev MO:=Ls oX jh
def MO.get{n:Nat}{l:List Gp}(h:MO m (.slice E n a) l){i:Nat}(t:i<l.length):
 ∃g o B d q s f k p r e j,E=cT g o/\g<m.heap.size/\ay m g (o+i*5) (.slice B l[i].1.length d)/\ay m g (o+i*5+1) (.bool q)/\ay m g (o+i*5+2) (.slice s f k)/\ay m g (o+i*5+3) (.bool p)/\ay m g (o+i*5+4) (.slice r e j)/\ah (TL m (.slice B l[i].1.length d) l[i].1)/\ah (fB m (.agg #[.bool q,.slice s f k,.bool p,.slice r e j]) l[i].2):=by
 obtain⟨g,o,d,y,x,⟨B,z,q,s,f,k,p,r,e,j,rfl,v,u⟩,b⟩:=qR jh.five Od h t;exact⟨g,o,B,z,q,s,f,k,p,r,e,j,y,x,b 0 _ rfl,b 1 _ rfl,b 2 _ rfl,b 3 _ rfl,b 4 _ rfl,v,u⟩
def anT{x:Gp}{o:List Gp}(b:a<o.length)(h:eK x o=o.take a++eK x (o.drop a))(c:eA o[a].1 x.1=true):eK x o=o.take (a+1)++eK x (o.drop (a+1)):=by
 rw[h,i6 b];show o.take a++(if eA o[a].1 x.1=true then o[a]::eK x (o.drop (a+1)) else _)=_
 rw[if_pos c,pE,aV b,iB];rfl
def apF{x:Gp}{o:List Gp}{k:Nat}(a:k<o.length)(h:eK x o=o.take k++eK x (o.drop k))(hl:eA o[k].1 x.1=false)(he:(o[k].1==x.1)=false):eK x o=o.take k++x::o.drop k:=by rw[h,i6 a];exact agt
def apE{x:Gp}{o:List Gp}{k:Nat}(a:k<o.length)(h:eK x o=o.take k++eK x (o.drop k))(hl:eA o[k].1 x.1=false)(he:(o[k].1==x.1)=true):eK x o=o.set k (o[k].1,o[k].2+x.2):=by rw[h,S8,if_pos a,i6 a];exact agt
def apG{x:Gp}{o:List Gp}(h:eK x o=o.take o.length++eK x (o.drop o.length)):eK x o=o.take o.length++x::o.drop o.length:=by rw[h,Tn];rfl
def arL{o:List Gp}(h:bH oX 5 jh a m (aG b 0 c d) o)(C:e<o.length):
 ∃B f s u l q r t j p,b<m.heap.size/\ay m b (e*5) (.slice B o[e].1.length f)/\ay m b (e*5+1) (.bool s)/\ay m b (e*5+2) (.slice u l q)/\ay m b (e*5+3) (.bool r)/\ay m b (e*5+4) (.slice t j p)/\ah (TL m (.slice B o[e].1.length f) o[e].1)/\ah (fB m (.agg #[.bool s,.slice u l q,.bool r,.slice t j p]) o[e].2):=by
 obtain⟨J,I,B,f,s,u,l,q,r,t,j,p,i,F,A,z,y,x,v,E,D⟩:=MO.get h.ls C;injection i with i;injection i with H G;subst H G;rw[jc] at A z y x v;exact⟨B,f,s,u,l,q,r,t,j,p,F,A,z,y,x,v,E,D⟩
def ao1{o:List Gp}(j:n.ownsRow a oX 5 (aG b 0 c d) c t)(M:Ch (jh n) t o)(L:o.length=c)(G:e<o.length){p:Nat}(K:fB n (.agg #[.bool R,.slice E f g,.bool S,.slice F h p]) H):
 bH oX 5 jh a ((((n.setCell (aB b (e*5+1)) (.bool R)).setCell (aB b (e*5+2)) (.slice E f g)).setCell (aB b (e*5+3)) (.bool S)).setCell (aB b (e*5+4)) (.slice F h p)) (aG b 0 c d) (o.set e (o[e].1,H))/\n.grownBy ((((n.setCell (aB b (e*5+1)) (.bool R)).setCell (aB b (e*5+2)) (.slice E f g)).setCell (aB b (e*5+3)) (.bool S)).setCell (aB b (e*5+4)) (.slice F h p)) (some b):=by
 obtain⟨U,Y⟩:=j.stored (e*5+1) (.bool R);obtain⟨T,X⟩:=U.stored (e*5+2) (.slice E f g);obtain⟨Q,W⟩:=T.stored (e*5+3) (.bool S);obtain⟨P,V⟩:=Q.stored (e*5+4) (.slice F h p);have I:n.grownBy ((((n.setCell (aB b (e*5+1)) (.bool R)).setCell (aB b (e*5+2)) (.slice E f g)).setCell (aB b (e*5+3)) (.bool S)).setCell (aB b (e*5+4)) (.slice F h p)) (some b):=(((show Only b _ _ from Y).trans X).trans W).trans V;refine⟨⟨_,by rw[lY,L];exact P,?_⟩,I⟩;have z:∀u,oX≠u->Kept u n ((((n.setCell (aB b (e*5+1)) (.bool R)).setCell (aB b (e*5+2)) (.slice E f g)).setCell (aB b (e*5+3)) (.bool S)).setCell (aB b (e*5+4)) (.slice F h p)):=fun u r=>jW j I r;have y:=lg (fun d x J=>uL _ _ d x (fun u r=>by
  simp only[aI,bF,or_false] at r;rcases r with rfl|rfl
  ·exact z _ Od
  ·exact z _ Od) J) M
 have v:=K.keep (z aU Od);generalize((((n.setCell (aB b (e*5+1)) (.bool R)).setCell (aB b (e*5+2)) (.slice E f g)).setCell (aB b (e*5+3)) (.bool S)).setCell (aB b (e*5+4)) (.slice F h p))=w' at*;obtain⟨D,w,C,rfl,s,O,⟨B,i,A,q,m1,f1,Z,k,m2,f2,rfl,hT, -⟩,N⟩:=Ch.split (jh.five _) y G;have A:((((D++([Value.slice B o[e].1.length i,.bool A,.slice q m1 f1,.bool Z,.slice k m2 f2]++C)).set (e*5+1) (.bool R)).set (e*5+2) (.slice E f g)).set (e*5+3) (.bool S)).set (e*5+4) (.slice F h p)=D++([Value.slice B o[e].1.length i,.bool R,.slice E f g,.bool S,.slice F h p]++C):=(by rw[<-s,Dy _ _ Om,Dy _ _ Om,Dy _ _ Om,Dy _ _ Om];simp only[Nat.add_sub_cancel_left];rfl)
 rw[A,S8,if_pos G];exact KE (l:=o.take e) (m:=(o[e].1,H)::o.drop (e+1)) ⟨_,_,rfl,⟨B,i,R,E,f,g,S,F,h,p,rfl,hT,v⟩,N⟩ O
def art{o:List Gp}{k:Nat}{x:Gp}(h:Ch (jh n) t o)(a:jh n u x):
 Ch (jh n) (t.take (k*5)++(u++t.drop (k*5))) (o.take k++x::o.drop k):=
 KE (l:=o.take k) (m:=x::o.drop k) ⟨_,_,rfl,a,Ch.drop (jh.five _) h k⟩ (Ch.take (jh.five _) h k)
def Ch.VL{l:List Gp}(h:Ch (jh m) t l)(e:Kept bI m n)(d:Kept aU m n):Ch (jh n) t l:=h.mono fun c x b=>uL _ _ _ _ (fun u a=>by
 simp only[aI,bF,or_false] at a;rcases a with rfl|rfl
 ·exact e
 ·exact d) b
def adB{l:List Gp}(h:Ch (jh m) t l):∀u∈t,u.oneCell'=true:=Ch.all (fun c x ⟨_,_,_,_,_,_,_,_,_,_,e,_⟩ u a=>by rw[e] at a;simp only[aI,bF,or_false] at a;rcases a with rfl|rfl|rfl|rfl|rfl<;>rfl) h
def uu.get{n:Nat}{l:List Gp}(h:uu m (.slice E n a) l){i:Nat}(e:i<l.length):
 ∃g o B d,E=cT g o/\g<m.heap.size/\ay m g (o+i*2) (.slice B l[i].1.length d)/\ay m g (o+i*2+1) (aO (cL l[i].2))/\ah (TL m (.slice B l[i].1.length d) l[i].1):=by
 obtain⟨g,o,d,k,j,⟨B,p,rfl,f⟩,b⟩:=qR oW.two Od h e;exact⟨g,o,B,p,k,j,b 0 _ rfl,b 1 _ rfl,f⟩
def Es:=@uu.get
def EP(q:Rat):Nat:=max (nDigits q.num.natAbs) (nDigits q.den)
def arn(h:bS (a+1) H):EP H<=a+1:=by have c:=h.dn;have b:=h.dd;unfold EP;omega
def aoP(q:Rat)(w:au)(j:bS 400 q):
 Calls prog 85 #[aO (cL q)] w fun e a=>e= .returned (av (EP q:Int))/\Ext w a:=by
 have R:=af (fun w=>OQ q w j);have Q:=af (fun w=>OY q w (e:=399) j Od);have P:=af (fun v w h=>TZ v q.num w h (j.num Od).wide);have y:=af (fun v w h=>TZ v q.den w h (j.den Od).wide);have I:=j.dn;have H:=j.dd;have M:ah ((max (nDigits q.num.natAbs:Int) (nDigits q.den:Int))=(EP q:Int)):=by rw[ah];unfold EP;omega
 rw[f6] at y;generalize cL q=t at*;go_enter func85,ntmps85;go_wp2_with fail;refine(R w).mono ?_;rintro e D ⟨rfl,p⟩;go_wp2_with fail;refine(Q D).mono ?_;rintro e C ⟨v,rfl,G,o⟩;obtain⟨b,A,n,c,L,V,E,J,rfl,O,N⟩:=G.parts;have s:=af (p.trans o);go_upto_region 4 with fail
 refine aP fun W g U=> ?_;have r:=af (s.trans g);have x:=af (O.ext g);have u:=af (N.ext g);generalize C.heap.size=k at*;have bL:ah (∀a,Ext W a->ay a k 0 (.bool b)/\ay a k 1 (.slice A n c)/\ay a k 2 (.bool L)/\ay a k 3 (.slice V E J)):=fun a F=>(U.ext F).four;have aH:ah (Ext W W.drew):=(aC W).drew;refine b9 (S:=fun a=>Ext W a) (T:=fun _=>false) Ok ?_;generalize W.drew=z at*;refine ax 0 9 ?_;refine ax 1 10 ?_;refine ax 3 12 ?_;refine ax 4 13 ?_;refine aL 2 ?_;intro K f;go_simp;refine(P _ z (x.ext aH)).mono ?_;rintro e B ⟨rfl,m⟩;have i:=af (aH.trans m);refine f.ae _ _ (fun _=>i.ae) ?_;refine aL 5 ?_;intro K f;go_simp;refine(y _ B (u.ext i)).mono ?_;rintro e X ⟨rfl,l⟩;have d:=af (i.trans l);refine f.ae _ _ (fun _=>d.ae) ?_;refine aL 6 ?_;intro K f;go_simp;refine f.ae _ _ (fun _=>d.ae) ?_;refine aL 7 ?_;intro K f;go_simp;refine f.ae _ _ (fun _=>d.ae) ?_;refine bY Ok ?_;go_wp2_with fail
 go_ret;exact⟨by rw[<-M.ae];rfl,r.trans d⟩
def alc{l:List Gp}(F:uu m (.slice E a b) l)(D:l.length*(c+1)<=6000)(N:c+1<=400)(M:∀y∈l,bS (c+1) y.2):
 Calls prog 39 #[.slice E a b] m fun e G=>e= .returned (.bool false)/\Ext m G:=by
 obtain⟨J,I,P⟩:=bE F;subst J;have Q:=af F;have R:=af M;have L:l.length<=6000:=a8 (JU _ (Nat.succ_pos c)) D;have C:ah (∀f:Nat,f<=c+1->l.length*f<=6000):=fun f q=>a8 (jt _ q) D;go_enter func39,ntmps39;go_upto_region 3 with fail
 go_loopw [3,8] (fun H k wr=>∃i f:Nat,i<=l.length/\f<=c+1/\H=av f/\k=av i/\ah (Ext m wr)) (fun _ k _=>l.length - (RowKit.intOf k).toNat)
 exact⟨0,0,aT _,aT _,rfl,rfl,aC _⟩;obtain⟨i,f,V,q,rfl,rfl,x⟩:=hrel;by_cases h:i<l.length
 ·obtain⟨g,o,B,d,rfl,X,q1,q2,Z⟩:=Es (bX kj Q x) h;have j:=R _ (aZ h);have O:EP l[i].2<=c+1:=arn j;have S:=af (fun m=>aoP l[i].2 m (j.mono N));generalize l[i]=y at*;generalize EP y.2=z at*;generalize cL y.2=t at*;go_upto_region 5 with fail
  refine aP fun W r T=> ?_;have Y:=T.aD 1;have u:=af (x.trans r);go_wp2_with fail
  refine(S W).mono ?_;rintro e U ⟨rfl,p⟩;have s:=af (u.trans p);go_wp2_with fail
  go_roundw;exact⟨i+1,max f z,by omega,by omega,by first|rfl|(congr 1;omega),by go_num,s⟩;simp [RowKit.intOf];omega
 ·have d1:decide ((i:Int)<(l.length:Int))=false:=aW;have K:=C f q;have d2:decide ((6000:Int)<(l.length:Int)*(f:Int))=false:=decide_eq_false azj;go_wp2_with fail
  exact bodyPost_ret (v:= .bool false) (by simp [results,results39,go_sem]) rfl ⟨rfl,x⟩
def rX(a:List aF)(b:List Nat):List aF:=b.map fun k=>a.getD k []
def alk{b:List aF}(d:a<i.length)(c:i[a]<b.length):rX b (i.take (a+1))=rX b (i.take a)++ [b[i[a]]]:=by unfold rX;rw[pE,aV d,mL];simp [fG,aV c]
def am8(a:List aF):rX a (List.range a.length)=a:=by unfold rX;refine List.ext_getElem Ou fun i c b=> ?_;simp [fG,aV b]
def am7(b:List aF)(a:List Nat):(rX b a).length=a.length:=by unfold rX;rw[cy]
def amP{c:List aF}{K:aS}{ck:Nat}{ks:List Nat}(hT:TL m (.slice E c.length a) c)(p:IL m (.slice K ks.length ck) (ints ks))(b:∀k∈ks,k<c.length)(F:ks.length<=100):
 Calls prog 41 #[.slice E c.length a,.slice K ks.length ck] m fun e s=>∃v,e= .returned v/\bH bI 1 jq m.heap.size s v (rX c ks)/\Ext m s:=by
 have N:=af hT;have P:=af p;have r:=af b;obtain⟨-,L,J⟩:=bE hT;obtain⟨-,I,H⟩:=bE p;clear hT p b;go_enter func41,ntmps41;go_upto_region 3 with fail
 go_loopw [5,10] (fun A f wr=>∃i:Nat,i<=ks.length/\f=av i/\ah (bH bI 1 jq m.heap.size wr A (rX c (ks.take i)))/\ah (Ext m wr)) (fun _ f _=>ks.length - (RowKit.intOf f).toNat)
 exact⟨0,aT _,rfl,f_,aC _⟩;obtain⟨i,W,rfl,q,l⟩:=hrel;have g:(rX c (ks.take i)).length=i:=by rw[am7,cP];omega
 obtain⟨Q,M,S,rfl, -, -,n,y⟩:=q.parts;by_cases j:i<ks.length
 ·obtain⟨Y,V,rfl,q1⟩:=nK (P.ext l) j (jL aU wr);have b:=r _ (aZ j);have Ng:=af (alk j b);obtain⟨X,U,rfl,G,q2⟩:=tq (cQ N l) b;generalize c[ks[i]]=t at*;generalize ks[i]=k at*;have C:=l.size;have o:((rX c (ks.take i)).length+1)*16<=140737488355328:=Om;have O:=af g;clear g;go_wp2_with (at_builtin;refine gG rfl _ _ rW rfl m.heap.size str_slice _ _ _ rfl n.ae #[aO t] 1 1 rfl rfl rfl o C ?_)
  intro T z tJ ni _;have ub:=af (iN (R:=jq) (x:=t) jY Oy9 n y rfl tJ ni);have Je:=af (jV l n ni (aK _));exact agM
 ·have d1:decide ((i:Int)<(ks.length:Int))=false:=aW;have hit:ks.take i=ks:=dA Om;rw[hit] at q n y⊢;clear hit g;go_wp2_with fail
  exact bodyPost_ret (v:= .slice Q (rX c ks).length M) (by simp [results,results41,go_sem]) rfl ⟨_,rfl,q,l⟩
def ald{l:List Gp}(G:MO m (.slice E a b) l)(hl:l.length<=3000)(U:∀y∈l,bS 400 y.2):
 Calls prog 43 #[.slice E a b] m fun e T=>∃v,e= .returned (.tuple #[v,av 0])/\bH eT 2 oW m.heap.size T v l/\Ext m T:=by
 obtain⟨hn,Me,hcm⟩:=bE G;subst hn;have HL:=af G;have HF:=af U;clear G U;go_enter func43,ntmps43;go_upto_region 3 with fail
 go_loopw [4,11] (fun w k wr=>∃i:Nat,i<=l.length/\k=av i/\ah (bH eT 2 oW m.heap.size wr w (l.take i))/\ah (Ext m wr)) (fun _ k _=>l.length - (RowKit.intOf k).toNat)
 exact⟨0,aT _,rfl,f_,aC _⟩;obtain⟨i,hi,rfl,C,M⟩:=hrel;have p:(l.take i).length=i:=ay8;by_cases q:i<l.length
 ·obtain⟨g,o,B,d,b1,A1,n1,c1,b2,A2,n2,c2,rfl,hg,q1,q2,q3,q4,q5,X,Y⟩:=MO.get (bX uL HL M) q;have t:=af (HF _ (aZ q));have Ng:ah (l.take (i+1)=l.take i++ [l[i]]):=by rw[ah,pE,aV q];rfl
  generalize l[i]=y at*;generalize l.take i=lt at*;obtain⟨S,D⟩:=y;simp only at q1 X Y t;go_upto_region 5 with fail
  refine aP fun W j r=> ?_;have CG:=af (abD _ D W (Y.ext j) t);have Q:=af (C.ext kj j);have L:=af (M.trans j);have O:=af (cQ X j);have b0:=r.aD 0;have K:=r.aD 1;have J:=r.aD 2;have I:=r.aD 3;have H:=r.aD 4;generalize wr.heap.size=bx at*;clear q1 q2 q3 q4 q5;go_wp2_with fail
  refine CG.mono ?_;rintro e w3 ⟨rfl,f⟩;have P:=af (Q.ext kj f);have s:=af (L.trans f);have N:=af (cQ O f);have b0:=(r.ext f).aD 0;clear f K J I H r;obtain⟨A,V,n,rfl, -, -,z,Z⟩:=P.parts;have hw:=s.size;have F:(lt.length+1)*40<=140737488355328:=Om;have Nh:=af p;clear p;go_wp2_with (at_builtin;refine gG rfl _ _ lh rfl m.heap.size U0 _ _ _ rfl z.ae #[.slice B S.length d,aO (cL D)] 1 1 rfl rfl rfl F hw ?_)
  intro v' c tJ ni _;have ub:=af (iN (R:=oW) (x:=(S,D)) kj (fun u hu=>by rw[bG.1 hu];decide) z Z ⟨B,d,rfl,N⟩ tJ ni);have Je:=af (jV s z ni (aK _));exact agM
 ·have d1:decide ((i:Int)<(l.length:Int))=false:=aW;have hit:l.take i=l:=dA Om;rw[hit] at C;clear hit p;obtain⟨A,V,n,rfl, -, -,z,Z⟩:=C.parts;go_wp2_with fail
  exact bodyPost_ret (v:= .tuple #[.slice A l.length V,av 0]) (by simp [results,results43,go_sem]) rfl ⟨_,rfl,C,M⟩
def atu.k40(h:ai:=by
 refine Et 9 57 (.slice (if co=k then some ⟨go',0,none⟩ else some ⟨go',k*5,none⟩) (o.length - k) (co - k)) _ rfl rfl Ok (fun _ _ _ h=>h) aH rfl ?_ ?_;focus (intro w' hSw;go_simp)
 exact m4):=h
def atq.EK(h:ai:=by
 have tR:w0.heap.size<=WZ.heap.size:=dU.size;refine AX _ _ Lv rfl w0.heap.size Pe _ 0 [] rfl (lJ _ _ _ _) ⟨wd.heap.size,0,none⟩ 1 1 [.slice B vs.length d,.bool x1,.slice X2 x3 x4,.bool y1,.slice Y2 y3 y4] rfl rfl (wm qm) ?_ Od tR ?_
 ·intro u hu;simp only[aI,bF,or_false] at hu;rcases hu with rfl|rfl|rfl|rfl|rfl<;>rfl
 intro v9 w9 p8 uX _;have o5:Ext WZ w9:=AK uX;clear uX;have ed:=af (dU.trans o5);have ke:ah (bH oX 5 jh w0.heap.size w9 v9 [(vs,q)]):=⟨_,p8,⟨_,[],rfl,⟨B,d,x1,X2,x3,x4,y1,Y2,y3,y4,rfl,cQ FV o5,Nd.ext o5⟩,rfl⟩⟩;obtain⟨A9,c9,rfl,_,_,_⟩:=dZ p8;clear p8 o5 BZ;simp only[Act.put,dN,dB,dO];refine hK.ae _ _ Oy9 ?_;clear hK;refine aL 12 ?_;intro K hK;go_simp;refine hK.ae _ _ Oy9 ?_;refine bY Ok ?_;clear hK;go_wp2_with fail
 refine bodyPost_ret (v:= .slice A9 _ c9) (by simp [results,results40,go_sem];rfl) rfl ⟨_,rfl,?_,ed⟩;rw[HN.ae];exact ke):=h
def atr.EK(h:ai:=by refine VH _ _ Lv rfl Pe wd.heap.size 1 _ _ rfl qm.ae rfl ?_;simp only[Act.put,dN,dB,dO];refine hK.ae _ _ (fun _=>cD.ae) ?_;clear hK;refine iO 11 Ok ?_;open atq in exact EJ):=h
def atp.k40(h:ai:=by
 refine Et 9 57 (.slice (if co=k then some ⟨go',0,none⟩ else some ⟨go',k*5,none⟩) (o.length - k) (co - k)) _ rfl rfl Ok (fun _ _ _ h=>h) aH rfl ?_ ?_;focus (intro w' hSw;go_simp)
 exact m4):=h
def aoL{w0:au}{co:Nat}{o:List Gp}(hO:bH oX 5 jh w0.heap.size m (.slice E o.length co) o)(hX:Ext w0 m){B:aS}{vs:List aF}(hT:TL m (.slice B vs.length d) vs){q:Rat}(hQ:fB m r q)(hl:o.length<=3000)(hf:bS 1000 q)(xc:∀y∈o,bS 100000 y.2):
 Calls prog 40 #[.slice E o.length co,.slice B vs.length d,r] m fun e w'=>∃v,e= .returned v/\bH oX 5 jh w0.heap.size w' v (eK (vs,q) o)/\Ext w0 w':=by
 obtain⟨x1,X2,x3,x4,y1,Y2,y3,y4,rfl,_,_⟩:=hQ.parts;have HO:=af hO;have HX:=af hX;have HT:=af hT;have HQ:=af hQ;have HF:=af xc;clear hO hX hT hQ xc;go_enter func40,ntmps40;go_upto_region 1 with fail
 refine aP fun W U BX=> ?_;have I:=af (HO.ext uL U);have V:=af (HX.trans U);have N:=af (cQ HT U);have Y:=af (HQ.ext U);have E8:w0.heap.size<=m.heap.size:=HX.size;generalize m.heap.size=bx at*;have XT:ah (eK (vs,q) o=o.take 0++eK (vs,q) (o.drop 0)):=rfl;go_upto_region 2 with fail
 go_loopw [7] (fun v7 wr=>∃k:Nat,k<=o.length/\v7= .int .i64 k/\ah (eK (vs,q) o=o.take k++eK (vs,q) (o.drop k))/\ah (Ext W wr)) (fun v7 _=>o.length - (RowKit.intOf v7).toNat)
 exact⟨0,aT _,rfl,XT,aC _⟩;obtain⟨k,hk,rfl,Z,H⟩:=hrel;have I:=af (I.ext uL H);have V:=af (V.trans H);have N:=af (cQ N H);have Y:=af (Y.ext H);have BX:=af (BX.ext H);obtain⟨b0,b1,b2,b3⟩:=BX.four;have vu:=BX.lt;by_cases F:k<o.length
 ·obtain⟨_,_,xs,e,_,_,HR,HC⟩:=I.parts;injection e with e1 _ e2;subst e1 e2;obtain⟨go',rfl,hgb⟩:=xX HR Om;obtain⟨Bk,dk,u1,U2,u3,u4,v1,V2,v3,v4,C,J,t,s,l,g,rC,HQk⟩:=arL I F;have P:ah (∀n,Calls prog 86 #[.slice Bk o[k].1.length dk,.slice B vs.length d] (wr.drewN n) fun e w'=>e= .returned (.bool (eA o[k].1 vs))/\∃a,w'=wr.drewN a):=fun n=>by refine(UK _ _ _ _ _ _ o[k].1 vs _ (cQ rC ((aC wr).drewN n)) (cQ N ((aC wr).drewN n))).mono ?_;rintro e w' ⟨h1,a,rfl⟩;exact⟨h1,_,wj _ _ _⟩
  have bB:=af (fun h=>anT F Z h);have d9:=af (fun h h'=>apF F Z h h');have n9:=af (fun h h'=>apE F Z h h');have MV:=af (HF _ (aZ F));simp only at bB d9 n9;obtain⟨y,hy⟩:∃y,y=o[k]:=⟨_,rfl⟩;have HY:=af hy;rw[<-hy] at P bB d9 n9 MV J rC HQk;clear hy;cases A:eA y.1 vs with
  |true=>
   rw[A] at P;have HN:=af (bB A);clear A;go_wp2_with fail
   refine(P 0).mono ?_;rintro e w' ⟨rfl,a,rfl⟩;go_wp2;go_roundw;exact⟨k+1,by omega,by go_num,HN,H.drewN _⟩;simp [RowKit.intOf];omega
  |false=>
   rw[A] at P;have HNN:=af (d9 A);have Jv:=af (n9 A);clear A;go_wp2_with fail
   refine(P 0).mono ?_;rintro e R ⟨rfl,a,hW2⟩;have bh:ah (Ext wr R):=hW2▸(aC wr).drewN a;clear hW2;have js:=af (BX.ext bh);have kW:=af (cQ N bh);have C7:=af (Y.ext bh);have aY:=af (V.trans bh);have f4:=af (jM HR bh);have fR:=af (lg (fun c x hc=>uL _ _ _ _ (fun _ _=>rL bh) hc) HC);have XK:=af (cQ rC bh);have av':=af (HQk.ext bh);have J:=(bh.cell (p:=⟨go',k*5,none⟩) C).trans J;have t:=(bh.cell (p:=⟨go',k*5+1,none⟩) C).trans t;have s:=(bh.cell (p:=⟨go',k*5+2,none⟩) C).trans s;have l:=(bh.cell (p:=⟨go',k*5+3,none⟩) C).trans l;have g:=(bh.cell (p:=⟨go',k*5+4,none⟩) C).trans g;have b:=cE C bh.size;have X:ah (∀n,Calls prog 17 #[.slice Bk y.1.length dk,.slice B vs.length d] (R.drewN n) fun e w'=>e= .returned (.bool (y.1==vs))/\∃a,w'=R.drewN a):=fun n=>by refine(Kf _ _ _ _ _ _ y.1 vs _ (cQ XK ((aC R).drewN n)) (cQ kW ((aC R).drewN n))).mono ?_;rintro e w' ⟨h1,a,rfl⟩;exact⟨h1,_,wj _ _ _⟩
   clear C b0 b1 b2 b3 vu;cases G:y.1==vs with
   |true=>
    rw[G] at X;have HN:=af (Jv G);clear G;go_wp2_with fail
    refine(X 0).mono ?_;rintro e W3 ⟨rfl,a,f⟩;have bh:ah (Ext R W3.drew):=f▸((aC R).drewN a).drew;clear f;go_upto_region 5 with fail
    have lG:=af (js.ext bh);have bZ:=af (aY.trans bh);have F6:=af (C7.ext bh);have av9:=af (av'.ext bh);have gK:=af (jM f4 bh);have iK:ah (Ch (jh W3.drew) xs o):=lg (fun c x hc=>uL _ _ _ _ (fun _ _=>rL bh) hc) fR;have t:=(bh.cell (p:=⟨go',k*5+1,none⟩) b).trans t;have s:=(bh.cell (p:=⟨go',k*5+2,none⟩) b).trans s;have l:=(bh.cell (p:=⟨go',k*5+3,none⟩) b).trans l;have g:=(bh.cell (p:=⟨go',k*5+4,none⟩) b).trans g;clear J b;have Q:=Ex gK;have bL:ah (∀w',Ext W3.drew w'->w'.cell? ⟨bx,0,none⟩=some (.bool x1)/\w'.cell? ⟨bx,1,none⟩=some (.slice X2 x3 x4)/\w'.cell? ⟨bx,2,none⟩=some (.bool y1)/\w'.cell? ⟨bx,3,none⟩=some (.slice Y2 y3 y4)/\w'.cell? ⟨go',k*5+1,none⟩=some (.bool u1)/\w'.cell? ⟨go',k*5+2,none⟩=some (.slice U2 u3 u4)/\w'.cell? ⟨go',k*5+3,none⟩=some (.bool v1)/\w'.cell? ⟨go',k*5+4,none⟩=some (.slice V2 v3 v4)):=fun w' hx=>by obtain⟨b0,b1,b2,b3⟩:=(lG.ext hx).four;exact⟨b0,b1,b2,b3,(hx.cell (p:=⟨go',k*5+1,none⟩) Q).trans t,(hx.cell (p:=⟨go',k*5+2,none⟩) Q).trans s,(hx.cell (p:=⟨go',k*5+3,none⟩) Q).trans l,(hx.cell (p:=⟨go',k*5+4,none⟩) Q).trans g⟩
    have aH:ah (Ext W3.drew W3.drew):=aC _;refine b9 (S:=fun w'=>Ext W3.drew w') (T:=fun j=>decide (11<=j)) Ok ?_;generalize W3.drew=wd at*;refine ax 0 36 ?_;refine ax 1 37 ?_;refine ax 2 38 ?_;refine ax 3 39 ?_;refine ax 4 40 ?_;refine ax 5 41 ?_;refine ax 6 42 ?_;refine ax 7 43 ?_;refine aL 8 ?_;intro K hK;go_simp;refine(amV _ _ y.2 q _ av9 F6 MV hf Od).mono ?_;rintro e w9 ⟨v9,rfl,hv9,D⟩;obtain⟨e0,E0,e1,e2,f0,F0,f1,f2,rfl,_,_⟩:=hv9.parts;refine hK.ae _ _ (fun _=>D) ?_;clear hK;have O:=af (jM gK D);have iJ:ah (Ch (jh w9) xs o):=lg (fun c x hc=>uL _ _ _ _ (fun _ _=>rL D) hc) iK;have ed:=af (bZ.trans D);obtain⟨w,MF⟩:=ao1 O iJ rfl F hv9;have Gk:=af (jV ed O MF (aK _));rw[<-HY.ae] at w;have rD:=af w;have L:∀i,w9.frozen? ⟨go',i,none⟩=false:=fun i=>O.frozenAt _;have IZ:=O.1;have M:∀i,i<5->∃z,w9.cell? ⟨go',k*5+i,none⟩=some z:=fun i hi=>by have h1:k*5+i<xs.length:=Om;obtain⟨g',o',cur,fr,hA,hg,hc⟩:=wm O (k*5+i) xs[k*5+i] (aV h1);injection hA with hA;injection hA with e1 e2;subst e1 e2;exact⟨xs[k*5+i],by simp only[World.cell?,hg];rw[<-hc,jc];rfl⟩
    obtain⟨z1,hz1⟩:=M 1 Od;obtain⟨z2,hz2⟩:=M 2 Od;obtain⟨z3,hz3⟩:=M 3 Od;obtain⟨z4,hz4⟩:=M 4 Od;have hf1:=L (k*5+1);have hf2:=L (k*5+2);have hf3:=L (k*5+3);have hf4:=L (k*5+4);clear M L;clear w MF;refine aL 9 ?_;intro K hK;go_simp;refine hK.ae _ _ (fun _=>D) ?_;clear hK;refine aL 10 ?_;intro K hK;go_simp;refine hK.ae _ _ (fun _=>D) ?_;clear hK;refine aL 11 ?_;intro K hK;go_simp;refine hK.ae _ _ Oy9 ?_;refine bY Ok ?_;clear t s l g hK;go_wp2_with fail
    refine bodyPost_ret (v:= .slice (some ⟨go',0,none⟩) o.length co) (by simp [results,results40,go_sem]) rfl ⟨_,rfl,?_,Gk⟩;rw[HN.ae];exact rD
   |false=>
    rw[G] at X;have HN:=af (HNN G);clear G;go_wp2_with fail
    refine(X 0).mono ?_;rintro e W3 ⟨rfl,a,f⟩;have bh:ah (Ext R W3.drew):=f▸((aC R).drewN a).drew;clear f;go_upto_region 7 with fail
    clear J t s l g b;open atu in exact m40
 ·have yQ:o.length<=k:=Om;obtain⟨_,_,xs,e,_,_,HR,HC⟩:=I.parts;injection e with e1 _ e2;subst e1 e2;have HN:ah (eK (vs,q) o=o.take k++(vs,q)::o.drop k):=(by have e:k=o.length:=Om;rw[ah,e];exact apG (by rw[<-e];exact Z))
  have d1:decide ((k:Int)<(o.length:Int))=false:=aW;go_upto_region 7 with fail
  obtain⟨W3,f⟩:∃W3,W3=wr:=⟨_,rfl⟩;rw[<-f];have bh:ah (Ext wr W3.drew):=f▸(aC wr).drew;clear f;have et:=I;have js:=BX;have kW:=N;have C7:=Y;have aY:=V;have f4:=HR;have fR:=HC;clear b0 b1 b2 b3 vu;clear d1;rcases acP f4 with⟨rfl,h0,rfl⟩|⟨go',rfl,hgb⟩
  ·have h0:o= []:=lH h0;subst h0;have wY:k=0:=by simpa using hk
   subst wY;have lG:=af (js.ext bh);have bZ:=af (aY.trans bh);have zn:=af (cQ kW bh);have F6:=af (C7.ext bh);have gK:=af (jM f4 bh);have iK:ah (Ch (jh W3.drew) xs []):=lg (fun c x hc=>uL _ _ _ _ (fun _ _=>rL bh) hc) fR;have bL:ah (∀w',Ext W3.drew w'->w'.cell? ⟨bx,0,none⟩=some (.bool x1)/\w'.cell? ⟨bx,1,none⟩=some (.slice X2 x3 x4)/\w'.cell? ⟨bx,2,none⟩=some (.bool y1)/\w'.cell? ⟨bx,3,none⟩=some (.slice Y2 y3 y4)):=fun w' hx=>(lG.ext hx).four;have aH:ah (Ext W3.drew W3.drew):=aC _;have L3:w0.heap.size<=W3.drew.heap.size:=bZ.size;refine b9 (S:=fun w'=>Ext W3.drew w') (T:=fun j=>decide (11<=j)) Ok ?_;generalize W3.drew=wd at*;refine ax 0 48 ?_;refine ax 1 49 ?_;refine ax 2 50 ?_;refine ax 3 51 ?_;refine ax 4 52 ?_;refine ax 5 53 ?_;refine ax 7 55 ?_;refine ax 8 56 ?_;refine ax 9 57 ?_;refine aL 6 ?_;intro K hK;go_simp;refine hK.ae _ _ (fun _=>aH.alloc _) ?_;refine aP fun WZ cD BZ=> ?_;have FV:=af (cQ zn cD);have Nd:=af (F6.ext cD);have dU:=af (bZ.trans cD);have qm:ah (WZ.ownsRow wd.heap.size oX 5 (.slice (some ⟨wd.heap.size,0,none⟩) 1 1) 1 [.slice B vs.length d,.bool x1,.slice X2 x3 x4,.bool y1,.slice Y2 y3 y4]):=PH BZ rfl (aK _) Od;have hzz:wd.heap.size<=WZ.heap.size:=cD.size;clear hK;refine iO 10 Ok ?_;open atr in exact EJ
  ·clear yQ;open atp in exact m40
def T6:∀(l:List Gp) (x:Gp),kM (l++ [x])=eK x (kM l):=fun l x=>by unfold kM;rw[DI];rfl
def ad_(x:Gp):∀l,(eK x l).length<=l.length+1
 | []=>aK _
 |y::l=>by
  unfold eK;have:=ad_ x l;split
  ·simp only[cW];omega
  ·split<;>simp
def abT(l:List Gp):∀i,(kM (l.take i)).length<=i
 |0=>by rw[kH];exact aK _
 |i+1=>by
  have h:=abT l i;rcases cA i l.length with a|a
  ·rw[pE,aV a];show(kM (l.take i++ [l[i]])).length<=_
   rw[T6];exact a8 (ad_ _ _) Om
  ·rw[dA Om] at h⊢;omega
def aea{e m:Nat}{x:Gp}(c:bS e x.2):∀{l:List Gp},(∀y∈l,bS m y.2)->e<=m->∀y∈eK x l,bS (m+e+1) y.2
 | [],_,_,y,a=>by rw[bG.1 a];exact c.mono Om
 |z::l,b,d,y,a=>by
  unfold eK at a;split at a
  ·rcases aI.1 a with rfl|a
   ·exact(b _ lI).mono Om
   ·exact aea c (fun y h=>b y (sS _ h)) d y a
  ·split at a
   ·rcases aI.1 a with rfl|a
    ·exact(b _ lI).add c
    ·exact(b _ (sS _ a)).mono Om
   ·rcases aI.1 a with rfl|a
    ·exact c.mono Om
    ·exact(b _ a).mono Om
def abU{e:Nat}{l:List Gp}(h:∀y∈l,bS e y.2):∀i,∀y∈kM (l.take i),bS ((i+1)*(e+1)) y.2
 |0,y,a=>by rw[kH] at a;cases a
 |i+1,y,a=>by
  have c:=abU h i;rcases cA i l.length with d|d
  ·rw[pE,aV d] at a;have b:y∈kM (l.take i++ [l[i]]):=a;rw[T6] at b;have f:e<=(i+1)*(e+1):=a8 (l9 e) (aak _ (Nat.succ_pos i));refine(aea (h _ (aZ d)) c f y b).mono ?_;rw[rM (i+1)];omega
  ·rw[dA Om] at c a;exact(c y a).mono (fc _ Om)
def ajY{K:aS}{ck e0:Nat}{l:List Gp}(hL:uu m (.slice E a b) l)(s:IL m (.slice K c ck) (ints (List.range c)))(hm:c<=3)(hv:∀y∈l,y.1.length=c)(hl:l.length<=1000)(M:l.length*(e0+1)<=6000)(he:e0+1<=400)(hf:∀y∈l,bS (e0+1) y.2)(hg:∀y∈kM l,bS 400 y.2):
 Calls prog 13 #[.slice E a b,.slice K c ck] m fun e u=>∃v,e= .returned (.tuple #[v,av 0])/\uu u v (kM l)/\Ext m u:=by
 obtain⟨hn,Me,hcm⟩:=bE hL;subst hn;obtain⟨-,nu,Fm⟩:=bE s;have HL:=af hL;have HK:=af s;have HF:=af hf;have HV:=af hv;have HHV:=af (fun m (h:uu m (.slice E l.length b) l)=>alc h M he hf);have HG:=af hg;have zx:=af (abU hf);have HL6:=af M;have n:(List.range c).length=c:=gN;have Q:=af n;clear hL s hf hv hg M n;go_enter func13,ntmps13;go_upto_region 2 with fail
 go_loopw [6] (fun v6 wr=>∃i:Nat,1<=i/\(i<=c\/i=1)/\v6=av i/\ah (Ext m wr)) (fun v6 _=>c - (RowKit.intOf v6).toNat)
 exact⟨1,aK _,.inr rfl,rfl,aC _⟩;obtain⟨i,h1,V,rfl,HX⟩:=hrel;obtain⟨j,rfl⟩:∃j,i=j+1:=⟨i - 1,by omega⟩;by_cases w:j+1<c
 ·obtain⟨g,o,hA,q0⟩:=nK (HK.ext HX) (k:=j) (by rw[Q.ae];omega) (jL aU wr);obtain⟨g',o',C,q1⟩:=nK (HK.ext HX) (k:=j+1) (by rw[Q.ae];exact w) (jL aU wr);rw[hA] at C;injection C with C;injection C with e1 e2 _;subst e1 e2;subst hA;rw[J2] at q0 q1;have d0:decide (((j+1:Nat):Int)<(c:Int))=true:=fF;have d1:decide (((j+1:Nat):Int)<=(j:Int))=false:=aW;exact agW
 ·have d0:decide (((j+1:Nat):Int)<(c:Int))=false:=aW;go_upto_region 7 with fail
  clear d0;generalize wr=w1 at*;go_loopw [34] (fun I wr=>∃i:Nat,i<=l.length/\I=av i/\ah (Ext m wr)) (fun I _=>l.length - (RowKit.intOf I).toNat);exact⟨0,aT _,rfl,HX⟩;clear w V h1;obtain⟨i,V,rfl,HX⟩:=hrel;by_cases f:i<l.length
  ·obtain⟨g,o,B,d,rfl,hg,q1,q2,HT⟩:=Es (bX kj HL HX) f;have q:=HV _ (aZ f);have hbc:=(bE HT).2;generalize l[i]=y at*;rw[q] at q1 hbc;generalize cL y.2=t at*;clear q;go_upto_region 9 with fail
   refine aP fun W p U=> ?_;have z:=af (HX.trans p);generalize wr.heap.size=bx at*;clear q1 q2;go_upto_region 10 with fail
   generalize wr=w2 at*;go_loopw [40] (fun H wr=>∃j:Nat,j<=c/\H=av j/\ah (Ext W wr)) (fun H _=>c - (RowKit.intOf H).toNat);exact⟨0,aT _,rfl,aC _⟩;obtain⟨j,hj,rfl,HE⟩:=hrel;have b0:=(U.ext HE).aD 0;have aY:=af (z.trans HE);by_cases Rj:j<c
   ·obtain⟨g',o',rfl,q0⟩:=nK (HK.ext aY) (k:=j) (by rw[Q.ae];omega) (jL aU wr);rw[J2] at q0;have d2:decide ((j:Int)<0)=false:=aW;have d3:decide ((c:Int)<=(j:Int))=false:=aW;go_wp2_with fail
    go_roundw;exact⟨j+1,by omega,by go_num,HE⟩;simp [RowKit.intOf];omega
   ·have d2:decide ((j:Int)<(c:Int))=false:=aW;clear b0;go_wp2_with fail;go_roundw;exact⟨i+1,by omega,by go_num,aY⟩;simp [RowKit.intOf];omega
  ·have d0:decide ((i:Int)<(l.length:Int))=false:=aW;go_upto_region 17 with fail
   clear d0;generalize wr=w2 at*;go_loopw [57] (fun G wr=>∃i:Nat,i<=l.length/\G=av i/\ah (Ext m wr)) (fun G _=>l.length - (RowKit.intOf G).toNat);exact⟨0,aT _,rfl,HX⟩;clear f V;obtain⟨i,V,rfl,HX⟩:=hrel;by_cases f:i<l.length
   ·obtain⟨g,o,B,d,rfl,hg,q1,q2,HT⟩:=Es (bX kj HL HX) f;have CV:=af (fun m=>OQ l[i].2 m ((HF _ (aZ f)).mono he));generalize l[i]=y at*;generalize cL y.2=t at*;go_upto_region 19 with fail
    refine aP fun W p U=> ?_;have z:=af (HX.trans p);have b1:=U.aD 1;generalize wr.heap.size=bx at*;clear q1 q2 U;go_wp2_with fail
    refine(CV W).mono ?_;rintro e w3 ⟨rfl,Z⟩;have bZ:=af (z.trans Z);clear Z;go_wp2_with fail
    go_roundw;(repeat apply Exists.intro);exact⟨⟨i+1,by omega,by go_num,bZ⟩,rfl⟩;simp [RowKit.intOf];omega
   ·have d0:decide ((i:Int)<(l.length:Int))=false:=aW;have CH:=af (HHV wr (bX kj HL HX));generalize wr=w3 at*;go_wp2_with fail
    refine CH.mono ?_;rintro e w5 ⟨rfl,Y⟩;have en:=af (HX.trans Y);clear Y d0;go_upto_region 26 with fail
    go_loopw [13,70] (fun v13 F wr=>∃i:Nat,i<=l.length/\F=av i/\ah (bH oX 5 jh w5.heap.size wr v13 (kM (l.take i)))/\ah (Ext w5 wr)) (fun _ F _=>l.length - (RowKit.intOf F).toNat)
    exact⟨0,aT _,rfl,f_,aC _⟩;clear V f;obtain⟨i,V,rfl,HO,HX⟩:=hrel;have N:=af (en.trans HX);have Ce:=abT l i;by_cases f:i<l.length
    ·obtain⟨g,o,B,d,rfl,hg,q1,q2,HT⟩:=Es (bX kj HL N) f;have R:=af ((HF _ (aZ f)).mono he);have q:=HV _ (aZ f);have HFo:ah (∀y∈kM (l.take i),bS 100000 y.2):=fun y hy=>(zx i y hy).mono (by have h6:=HL6.ae;have h7:(i+1)*(e0+1)<=l.length*(e0+1):=fc _ Om;rw[Kd];omega)
     have HMS:ah (kM (l.take (i+1))=eK l[i] (kM (l.take i))):=(by rw[ah,pE,aV f];exact T6 _ _);have HPK:ah (rX l[i].1 (List.range c)=l[i].1):=by rw[ah,<-q];exact am8 _
     generalize l[i]=y at*;generalize kM (l.take i)=mo at*;obtain⟨yk,yq⟩:=y;simp only at q1 q2 HT R q HPK;have HVI:=af q;clear q;obtain⟨Ao,co,xs,rfl, -, -, -, -⟩:=HO.parts;go_upto_region 28 with fail
     refine aP fun W p U=> ?_;have gZ:=af (HO.ext uL p);have z:=af (HX.trans p);have ug:=af (cQ HT p);have HK1:=af (HK.ext (N.trans p));generalize wr.heap.size=bx at*;clear q1 q2;have bL:ah (∀u,Ext W u->ay u bx 0 (.slice B yk.length d)/\ay u bx 1 (aO (cL yq))):=fun u hx=>(U.ext hx).two;have aH:ah (Ext W W.drew):=(aC W).drew;have CR:=af (fun m=>OY yq m (e:=399) R.ae (by decide));clear U;generalize cL yq=t at*;have CPK:ah (∀D,Ext W D->Calls prog 41 #[.slice B yk.length d,.slice K c ck] D fun e u=>∃v,e= .returned v/\bH bI 1 jq D.heap.size u v yk/\Ext D u):=fun D hx=>by have h:=amP (ks:=List.range c) (K:=K) (ck:=ck) (cQ ug hx) (by rw[gN];exact HK1.ext hx) (fun k hk=>by rw[HVI.ae];exact dP.1 hk) (by rw[gN];omega);rw[gN,HPK.ae] at h;exact h
     refine b9 (S:=fun u=>Ext W u) (T:=fun j=>decide (8<=j)) Ok ?_;generalize W.drew=wd at*;refine ax 0 74 ?_;refine ax 1 75 ?_;refine ax 2 76 ?_;refine ax 3 77 ?_;refine ax 5 79 ?_;refine ax 6 80 ?_;refine aL 4 ?_;intro K s;go_simp;refine(CPK wd aH).mono ?_;rintro e D ⟨v6,rfl,L,X⟩;obtain⟨A6,c6,xs6,rfl, -, -, -, -⟩:=L.parts;have zi:=af L.ls;have cY:=af (aH.trans X);refine s.ae _ _ (fun _=>cY.ae) ?_;clear s X L;refine aL 7 ?_;intro K s;go_simp;refine(CR D).mono ?_;rintro e w7 ⟨v7,rfl,A,J⟩;have P:=af (cY.trans J);have zh:=af (cQ zi J);have Nc:=af A;refine s.ae _ _ (fun _=>P.ae) ?_;clear s J A;refine aL 8 ?_;intro K s;go_simp;refine(aoL (gZ.ext uL P) (z.trans P) zh Nc Om (R.mono Od) HFo).mono ?_;rintro e w8 ⟨v8,rfl,r,x⟩;have qs:=af r;have O:=af x;obtain⟨A8,c8,xs8,rfl, -, -, -, -⟩:=r.parts;refine s.ae _ _ Oy9 ?_;clear s r x;refine aL 9 ?_;intro K s;go_simp;refine s.ae _ _ Oy9 ?_;refine bY Ok ?_;clear s;go_wp2_with fail
     go_roundw;exact⟨i+1,by omega,by go_num,by rw[HMS.ae];exact qs,O⟩;simp [RowKit.intOf];omega
    ·have d0:decide ((i:Int)<(l.length:Int))=false:=aW;have hit:l.take i=l:=dA Om;rw[hit] at HO Ce;clear hit;obtain⟨Ao,co,xs,rfl, -, -, -, -⟩:=HO.parts;have CG:=af (ald HO.ls Om HG);go_wp2_with fail
     refine CG.mono ?_;rintro e w8 ⟨v8,rfl,r,x⟩;have FQ:=af r.ls;obtain⟨A8,c8,xs8,rfl, -, -, -, -⟩:=r.parts;have O:=af (N.trans x);clear r x;go_wp2_with fail
     exact bodyPost_ret (v:= .tuple #[.slice A8 (kM l).length c8,av 0]) (by simp [results,results13,go_sem]) rfl ⟨_,rfl,FQ,O⟩
def asN{wr:au}(h:∃q,wr=m.drewN q)(n:Nat):∃q,wr.drewN n=m.drewN q:=by obtain⟨q,rfl⟩:=h;exact⟨_,wj _ _ _⟩
def Qh{wr:au}(h:∃q,wr=m.drewN q):Ext m wr:=by obtain⟨q,rfl⟩:=h;exact(aC m).drewN q
def abd{l:List Gp}(x:uu m (.slice E a c) l)(u:uu m (.slice F b d) l):
 Calls prog 14 #[.slice E a c,.slice F b d] m fun e k=>e= .returned (.bool true)/\∃q,k=m.drewN q:=by
 obtain⟨I,H,N⟩:=bE x;obtain⟨K,J,M⟩:=bE u;subst I;subst K;have T:=af x;have S:=af u;go_enter func14,ntmps14;go_upto_region 4 with fail
 go_loopw [13] (fun f wr=>∃i:Nat,i<=l.length/\f=av i/\ah (∃q,wr=m.drewN q)) (fun f _=>l.length - (RowKit.intOf f).toNat)
 exact⟨0,aT _,rfl,⟨0,rfl⟩⟩;obtain⟨i,V,rfl,HQ⟩:=hrel;have z:=af (Qh HQ);by_cases j:i<l.length
 ·obtain⟨g,o,P,p,rfl,W,q1,q2,R⟩:=Es (bX kj T z) j;obtain⟨X,U,Q,G,rfl,L,D,C,s⟩:=Es (bX kj S z) j;have r:ah (∀a,Calls prog 17 #[.slice P l[i].1.length p,.slice Q l[i].1.length G] (wr.drewN a) fun e k=>e= .returned (.bool true)/\∃b,k=wr.drewN b):=fun a=>by refine(Kf _ _ _ _ _ _ l[i].1 l[i].1 _ (cQ R ((aC wr).drewN a)) (cQ s ((aC wr).drewN a))).mono ?_;rintro e k ⟨O,b,rfl⟩;exact⟨by rw[O,beq_self_eq_true],_,wj _ _ _⟩
  generalize l[i]=y at*;generalize cL y.2=t at*;have d2:(t.toArray==t.toArray)=true:=beq_self_eq_true _;go_upto_region 6 with fail
  go_quiet ((go_at_call 17;exact r _));exact agh
 ·have d1:decide ((i:Int)<(l.length:Int))=false:=aW;go_wp2_with fail;exact bodyPost_ret (v:= .bool true) (by simp [results,results14,go_sem]) rfl ⟨rfl,HQ⟩
def ajZ{l:List (List Gp)}(u:JI m (.slice E a c) l)(t:JI m (.slice F b d) l):
 Calls prog 22 #[.slice E a c,.slice F b d] m fun e k=>e= .returned (.bool true)/\∃q,k=m.drewN q:=by
 obtain⟨G,D,L⟩:=bE u;obtain⟨I,H,K⟩:=bE t;subst G;subst I;have R:=af u;have Q:=af t;go_enter func22,ntmps22;go_upto_region 4 with fail
 go_loopw [13] (fun f wr=>∃i:Nat,i<=l.length/\f=av i/\ah (∃q,wr=m.drewN q)) (fun f _=>l.length - (RowKit.intOf f).toNat)
 exact⟨0,aT _,rfl,⟨0,rfl⟩⟩;obtain⟨i,T,rfl,HQ⟩:=hrel;have x:=af (Qh HQ);by_cases j:i<l.length
 ·obtain⟨g,o,P,p,rfl,U,O,q1⟩:=Ei (bX x8 R x) j;obtain⟨V,S,N,C,rfl,J,s,z⟩:=Ei (bX x8 Q x) j;have r:ah (∀a,Calls prog 14 #[.slice P l[i].length p,.slice N l[i].length C] (wr.drewN a) fun e k=>e= .returned (.bool true)/\∃b,k=wr.drewN b):=fun a=>by refine(abd (bX kj O ((aC wr).drewN a)) (bX kj s ((aC wr).drewN a))).mono ?_;rintro e k ⟨M,b,rfl⟩;exact⟨M,_,wj _ _ _⟩
  generalize l[i]=y at*;go_upto_region 6 with fail
  go_quiet ((go_at_call 14;exact r _));exact agh
 ·have d1:decide ((i:Int)<(l.length:Int))=false:=aW;go_wp2_with fail;exact bodyPost_ret (v:= .bool true) (by simp [results,results22,go_sem]) rfl ⟨rfl,HQ⟩
def adi:∀{l:List Nat} {a:Nat},qX l=true->(∀b∈l,b<a)->qX (l++ [a])=true
 | [],_,_,_=>rfl
 | [b],a,_,h=>by
   show(decide (b<a)&&true)=true
   rw[TD,decide_eq_true_eq];exact h b lI
 |b::c::l,a,h,f=>by
  rw[qX,cZ] at h;show(decide (b<c)&&qX (c::(l++ [a])))=true
  rw[cZ];exact⟨h.1,adi (l:=c::l) h.2 fun d e=>f d (sS _ e)⟩
def anj(h:bH aU 1 dr b m p L)(d:Only a m n)(e:a<b):bH aU 1 dr b n p L:=h.only cI d e fun u c=>by cases c
def anv(g n k:Nat)(w:au)(h:cJ w g)(hn:n<=100)(O:1<=k)(Y:k<=100):
 Calls prog 9 #[aJ g 0,av n,av k] w fun e y=>∃l u,qX l=true/\(∀a∈l,a<n)/\l.length<=n/\e= .returned u/\bH aU 1 dr w.heap.size y u (ints l)/\cJ y g/\Only g w y:=by
 have HS:=af h;have hg:=h.lt;clear h;go_enter func9,ntmps9;go_upto_region 3 with fail
 go_loopw [7,8] (fun T z wr=>∃(i:Nat) (l:List Nat),i<=n/\z=av i/\l.length<=i/\ah (qX l=true)/\ah (∀a∈l,a<i)/\ah (bH aU 1 dr w.heap.size wr T (ints l))/\ah (cJ wr g)/\ah (Only g w wr)) (fun _ z _=>n - (RowKit.intOf z).toNat)
 exact⟨0,[],aT _,rfl,aK _,rfl,Oy9,f_,HS,ii _ _⟩;obtain⟨i,l,hi,rfl,X,N,J,G,q,Q⟩:=hrel;have b:(ints l).length=l.length:=azg;obtain⟨A7,c7,S,rfl, -, -, -, -⟩:=G.parts;by_cases Z:i<n
 ·have CN:=af (oM g k wr q Om Om);go_wp2_with fail;refine CN.mono ?_;rintro e2 w2 ⟨r,hr,rfl,m,f⟩;have s:=af (anj G f hg);have d9:=af m;have j:=af (Q.trans f);have t:ah (∀a∈l,a<i+1):=fun a p=>Nat.lt_succ_of_lt (J a p);clear m f;by_cases W:r=k - 1
  ·have d1:((r:Int)==(k:Int) - 1)=true:=azt;have M:=af (adi N J);have I:ah (∀a∈l++ [i],a<i+1):=fun a p=>by
    rcases bQ.1 p with h|h
    ·exact t a h
    ·rw[bG.1 h];omega
   obtain⟨_,_,S,ee,_,_,d,L⟩:=s.parts;injection ee with D _ C;subst D C;have U:=j.size;have B:((ints l).length+1)*8<=140737488355328:=Om;have A:(l++ [i]).length<=i+1:=by rw[bC,iM];omega
   have K:=af b;clear b;go_wp2_with (at_builtin;refine gG rfl _ _ cO rfl w.heap.size jy _ _ _ rfl d.ae #[av (i:Int)] 1 1 rfl rfl rfl B U ?_);intro v' w3 o c _;have P:=af (iN (R:=dr) (x:=(i:Int)) cI Oy9 d L rfl o c);rw[<-Ku] at P;have F:=af (d9.grown c (fun k O=>by have:=(d.lt k O).1;omega));have E:=af (DX j d c (aK _));clear o c;go_wp2_with fail
   go_roundw;exact⟨i+1,l++ [i],by omega,by go_num,A,M,I,P,F,E⟩;simp [RowKit.intOf];omega
  ·have d1:((r:Int)==(k:Int) - 1)=false:=ayZ;have K:=af b;clear b;go_wp2_with fail
   go_roundw;exact⟨i+1,l,by omega,by go_num,by omega,N,t,s,d9,j⟩;simp [RowKit.intOf];omega
 ·have d1:decide ((i:Int)<(n:Int))=false:=aW;have H:ah (∀a∈l,a<n):=fun a p=>cE (J a p) hi;go_wp2_with fail
  exact bodyPost_ret (v:= .slice A7 (ints l).length c7) (by simp [results,results9,go_sem]) rfl ⟨l,_,N,H,by omega,rfl,G,q,Q⟩
def yo(x:aQ)(f:Fu):Prop:=f.1<x.aq.length/\((f.2.1=1/\f.2.2= [])\/(f.2.1=2/\f.2.2= [])\/(f.2.1=3/\eL (kd x f.1) f.2.2)\/(f.2.1=4/\f.2.2≠ []/\(kd x f.1≠3->eL (kd x f.1) f.2.2))\/(f.2.1=5/\f.2.2= []))
def Ia{d:Go.Func}{u0 u1 u2:Value}{R:Ending->World->Prop}(b:d.results= #[.cell a jf])(f:Q.tmps.getD a undef=aJ g 0)(h:Q.defers= [])
 (j:ar m g jf [u0,u1,u2]) (i:∀e,Only g m e->R (.returned (.agg #[p,q,r])) e):
 bodyPost prog d R .ret Q (((m.setCell (aB g 0) p).setCell (aB g 1) q).setCell (aB g 2) r):=by
 have c:ar (((m.setCell (aB g 0) p).setCell (aB g 1) q).setCell (aB g 2) r) g jf [p,q,r]:=((j.bu 0 p).bu 1 q).bu 2 r;exact bodyPost_ret (results_cell_row b Q.tmps _ g jf #[p,q,r] (0,0) _ f c underlying48 rfl Ok) h (i _ ((((ii g m).bu 0 p).bu 1 q).bu 2 r))
def ato.Yy(h:ai:=by have b:ah (yo x (a,1,[])):=⟨kQ,by rw[k.ae];exact .inl ⟨rfl,rfl⟩⟩;go_wp2_with fail;exact Ia rfl rfl rfl qA.ae fun Q ho=>⟨(a,1,[]),rfl,b,n.past ho Om,((ei (g:=g) y).trans jF.ae).fresh ho Om⟩):=h
def atn.Yy(h:ai:=by have b:ah (yo x (a,2,[])):=⟨kQ,by rw[k.ae];exact .inr (.inl ⟨rfl,rfl⟩)⟩;go_wp2_with fail;exact Ia rfl rfl rfl qA.ae fun Q ho=>⟨(a,2,[]),rfl,b,n.past ho Om,((ei (g:=g) y).trans jF.ae).fresh ho Om⟩):=h
def atm.Yy(h:ai:=by have b:ah (yo x (a,5,[])):=⟨kQ,by rw[k.ae];exact .inr (.inr (.inr (.inr ⟨rfl,rfl⟩)))⟩;go_wp2_with fail;exact Ia rfl rfl rfl qA.ae fun Q ho=>⟨(a,5,[]),rfl,b,n.past ho Om,((ei (g:=g) y).trans jF.ae).fresh ho Om⟩):=h
def atk.ahx(h:ai:=by have b:ah (yo x (a,3,t)):=⟨kQ,by rw[k.ae];exact .inr (.inr (.inl ⟨rfl,HT⟩))⟩;go_wp2_with fail;exact Ia rfl rfl rfl xK.ae fun Q ho=>⟨(a,3,t),rfl,b,eZ.past ho Om,((ei (g:=g) y).trans MS.ae).fresh ho Om⟩):=h
def atl.k70(h:ai:=by
 go_upto_region 10 with fail
 clear k1;open atk in exact agp):=h
def ati.ahx(h:ai:=by have b:ah (yo x (a,4,t)):=⟨kQ,by rw[k.ae];exact .inr (.inr (.inr (.inl ⟨rfl,HT0,fun _=>HT.ae⟩)))⟩;go_wp2_with fail;exact Ia rfl rfl rfl xK.ae fun Q ho=>⟨(a,4,t),rfl,b,eZ.past ho Om,((ei (g:=g) y).trans MS.ae).fresh ho Om⟩):=h
def atj.k70(h:ai:=by
 have k2:=B8.aD 2;by_cases p:t= []
 ·subst p;have f2:=B8.frozen 2;have hl8:=B8.lt;obtain⟨W9,Cm,B9,K9,V⟩:=gp (i:=2) B8 (.string ⟨#[49]⟩);have rD:=af (eZ.past V Om);have ZQ:=af (MS.fresh V Mq);have j:=af (xK.only V Om);have vD:ah (ak≠3->eL ak [49]):=fun h3=>by
   have Y:ak=1\/ak=2:=Om;rcases Y with rfl|rfl
   ·exact Pl 1 _ Od td
   ·exact KF 1 Od
  clear K9 V;go_upto_region 10 with fail
  clear k1 k2 f2;have k0:=B9.aD 0;have k1:=B9.aD 1;have k2:=B9.aD 2;have f0:=j.frozen 0;have f1:=j.frozen 1;have f2:=j.frozen 2;have r0:=j.aD 0;have r1:=j.aD 1;have r2:=j.aD 2;have Mf:=j.lt;have b:ah (yo x (a,4,[49])):=⟨kQ,by rw[k.ae];exact .inr (.inr (.inr (.inl ⟨rfl,by simp,vD⟩)))⟩;go_wp2_with fail
  exact Ia rfl rfl rfl j.ae fun Q ho=>⟨(a,4,[49]),rfl,b,rD.past ho Om,((ei (g:=g) y).trans ZQ.ae).fresh ho Om⟩
 ·have rx:(t== [])=false:=beq_eq_false_iff_ne.2 p;have HT0:=af p;clear p;go_upto_region 10 with fail
  clear k1 k2;open ati in exact agp):=h
def api(g:Nat)(v:Value)(x:aQ)(w:au)(h:cJ w g)(hv:dK w v x)(U:cF x):
 Calls prog 10 #[aJ g 0,v] w fun e o=>∃f:Fu,e= .returned (.agg #[av (f.1:Int),av (f.2.1:Int),aO f.2.2])/\yo x f/\cJ o g/\Only g w o:=by
 obtain⟨A,c,B,d,Dd,e,rfl,ha,hr,hf⟩:=hv;obtain⟨-,ha1,ha2⟩:=bE ha;have HA:=af ha;have aN:=af U;have HS:=af h;have hg:=h.lt;have a12:=U.a12;have a1:=U.a1;obtain⟨AN,q⟩:∃AN,x.aq.length=AN:=⟨_,rfl⟩;have vJ:=af q;rw[q] at ha1 HA a12 a1;rw[q];clear ha hr hf U h q;go_enter func10,ntmps10;go_upto_region 1 with fail
 refine fX fun W y BX BR=> ?_;have Zb:g<W.heap.size:=cE hg y.size;have Rz:=BR.lt;have xA:=af (HS.ext y);have SK:=af (bX mS HA y);have hbg:w.heap.size≠g/\w.heap.size+1≠g:=Om;obtain⟨s0,s1,s2,s3⟩:=BX.four;have CN:=af (oM g AN W xA Om Om);generalize vu:w.heap.size=bs at*;go_wp2_with fail
 refine CN.mono ?_;rintro e2 w2 ⟨a,My,rfl,E,L⟩;have d9:=af E;have HY2:=af L;have CR:=af (acC g 1 5 w2 E Od Od);clear E L s0 s1 s2 s3;go_wp2_with fail
 refine CR.mono ?_;rintro e3 w3 ⟨s,O,N,rfl,J,K⟩;have n9:=af J;have R:=af (HY2.trans K);clear J K;go_upto_region 3 with fail
 refine aP fun W4 S BF=> ?_;have G:=af (n9.ext S);have m:=af (R.trans (ei S));have Mq:W.heap.size<=w3.heap.size:=R.size;have hbf:=BF.lt;generalize w3.heap.size=fb at*;have kQ:a<x.aq.length:=by rw[vJ.ae];exact My
 obtain⟨ga,oa,rfl,Rq, -, -⟩:=oL (AL.past SK xA m) kQ;have H:ah (∀o,Only g W o->ay o ga (oa+a*2) (aO x.aq[a].1)/\ay o ga (oa+a*2+1) (av x.aq[a].2)):=fun o ho=>by exact agB
 have k:ah (kd x a=x.aq[a].2):=Wz kQ;have M:=aN.ak _ (aZ kQ);generalize x.aq[a]=ML at*;obtain⟨nm,ak⟩:=ML;simp only at k M H;obtain⟨c0,c1⟩:=H W4 m;obtain⟨s0,s1,s2,s3⟩:=(BX.only m hbg.1).four;go_upto_region 4 with fail
 clear c0 c1 s0 s1 s2 s3;have C:ah (ar W4 fb jf [av (a:Int),av (s:Int),.string ⟨#[]⟩]):=BF.ae;go_cut [34] (fun X D=>∃bb,X= .bool bb/\ah (ar D fb jf [av (a:Int),av (s:Int),.string ⟨#[]⟩])/\ah (cJ D g)/\ah (Only g W D))
 case first=>
  have f1:=C.aD 1;by_cases h3:ak=3
  ·subst h3;by_cases Z:s=3
   ·subst Z;go_wp2;go_meet;case rel=>exact⟨_,rfl,C,G,m⟩
   ·have d1:((s:Int) !=3)=true:=azR;have CN:=af (oM g 20 W4 G Od Od);go_wp2_with fail
    refine CN.mono ?_;rintro e5 w5 ⟨r,hr,rfl,I,F⟩;have z:=af I;have u:=af (m.trans F);have l:=af (C.only F Om);clear I F f1;go_wp2;go_meet;case rel=>exact⟨_,rfl,l,z,u⟩
  ·have d1:(ak==3)=false:=beq_eq_false_iff_ne.2 h3;go_wp2;go_meet;case rel=>exact⟨_,rfl,C,G,m⟩
 case rest=>
  obtain⟨bb,rfl,l,z,u⟩:=hcut;clear BF;generalize wc=w5 at*;go_upto_if 34 with fail;go_cut [5] (fun s5 D=>s5=av a/\∃s:Nat,1<=s/\s<=5/\ah (ar D fb jf [av (a:Int),av (s:Int),.string ⟨#[]⟩])/\ah (cJ D g)/\ah (Only g W D));case first=>
   cases bb with
   |false=>go_wp2;go_meet;case rel=>exact⟨rfl,s,O,N,l,z,u⟩
   |true=>
    have f1:=l.aD 1;have q1:=l.frozen 1;have Y3:=l.lt;obtain⟨W6,Cn,B6,K6,N6⟩:=gp (i:=1) l (av 5);have n:=af (z.past N6 Om);have jF:=af (u.fresh N6 Mq);clear K6 N6;go_wp2_with fail
    go_meet;case rel=>exact⟨rfl,5,by decide,by decide,B6,n,jF⟩
  case rest=>
   obtain⟨rfl,P,Fp,hj5,qx,n,jF⟩:=hcut;clear O N;generalize wc=T at*;have CV:ah (Calls prog 29 #[aJ g 0,.agg #[aO nm,av ak]] T fun e o=>∃v,eL ak v/\e= .returned (aO v)/\cJ o g/\Only g T o):=adV g nm ak T n M;obtain⟨c0,c1⟩:=H T jF;obtain⟨s0,s1,s2,s3⟩:=(BX.only jF hbg.1).four;have f1:=qx.aD 1;have qA:=af (BR.only jF hbg.2);have h5:P=1\/P=2\/P=5\/P=3\/P=4:=Om;rcases h5 with rfl|rfl|rfl|rfl|rfl
   ·open ato in exact Yq
   ·open atn in exact Yq
   ·open atm in exact Yq
   ·open atl in exact m70
   ·open atj in exact m70
def ath.k60(h:ai:=by
 have a:r=3\/r=1\/r=2:=Om;rcases R.ae with⟨rfl,rfl⟩|⟨rfl,rfl⟩|⟨rfl,n⟩|⟨rfl,t,n⟩|⟨rfl,rfl⟩
 ·skip
  rcases a with rfl|rfl|rfl
  ·go_wp2_with fail
   exact Yu
  ·have HP:=af (l (.inl ⟨rfl,by decide,rfl⟩));exact m20
  ·have HP:=af (l (.inl ⟨rfl,by decide,rfl⟩));exact m20
 ·skip
  rcases a with rfl|rfl|rfl
  ·go_wp2_with fail
   exact Yu
  ·have HP:=af (l (.inr (.inl ⟨rfl,by decide,rfl⟩)));exact m20
  ·have HP:=af (l (.inr (.inl ⟨rfl,by decide,rfl⟩)));exact m20
 ·have m:=af (G W2 n);have HP:=af (l (.inr (.inr (.inl ⟨rfl,n⟩))));rcases a with rfl|rfl|rfl;all_goals
   go_wp2_with fail
   refine m.mono ?_;rintro e H ⟨rfl,z⟩;have j:=af (nY.trans z);have nY:=j;exact m20
 ·have M:(i== [])=false:=beq_eq_false_iff_ne.2 t;rcases a with rfl|rfl|rfl
  ·skip
   go_wp2_with fail
   exact Yu
  all_goals
   have s:=n Od;have m:=af (G W2 s);have HP:=af (l (.inr (.inr (.inr (.inl ⟨rfl,by decide,t,s⟩)))));go_wp2_with fail
   refine m.mono ?_;rintro e H ⟨rfl,z⟩;have j:=af (nY.trans z);have nY:=j;exact m20
 ·have HP:=af (l (.inr (.inr (.inr (.inr ⟨rfl,rfl⟩)))));rcases a with rfl|rfl|rfl;all_goals
   exact m20):=h
def aj0(v:Value)(x:aQ)(f:Fu)(w:au)(h:dK w v x)(J:cF x)(O:yo x f):
 Calls prog 31 #[v,.agg #[av (f.1:Int),av (f.2.1:Int),aO f.2.2]] w fun e I=>∃b,e= .returned (.bool b)/\(b=true->oQ x f)/\Ext w I:=by
 obtain⟨A,c,B,d,D,e,rfl,E,L,N⟩:=h;obtain⟨fa,q,i⟩:=f;obtain⟨u,y⟩:=O;obtain⟨g,o,rfl,hg,q1,q2⟩:=oL E u;have C:=J.ak _ (aZ u);have k:ah (∀P:Prop,P=(((q=1/\kd x fa≠3/\i= [])\/(q=2/\kd x fa≠3/\i= [])\/(q=3/\eL (kd x fa) i)\/(q=4/\kd x fa≠3/\i≠ []/\eL (kd x fa) i)\/(q=5/\i= [])))->P->oQ x (fa,q,i)):=fun P e h=>⟨u,by rw[<-e];exact h⟩;simp only at u y q1 q2 C⊢;rw[Wz u] at y k;generalize x.aq[fa]=F at*;obtain⟨K,r⟩:=F;simp only at q1 q2 y C k;have G:=af (fun W (n:eL r i)=>adF K i r W C n);have R:=af y;have l:=af (k _ rfl);have Q:decide ((fa:Int)<(x.aq.length:Int))=true:=fF;go_enter func31,ntmps31;open ath in exact m60
def atg.yJ(h:ai:=by
 have J:=af (BX.ext hx1);have s:=af (HX.trans hx1);have V:ah (∀r,Ext w1 r->ay r g o (aG G C 1 cf)/\ay r g (o+1) (.slice Aa 0 ca)/\ay r G C (av (f.1:Int))/\ay r G (C+1) (av (f.2.1:Int))/\ay r G (C+2) (aO f.2.2)):=fun r hx=>by have m:=s.trans hx;exact⟨(m.cell (p:=aB g o) hg).trans q1,(m.cell (p:=aB g (o+1)) hg).trans q2,(m.cell (p:=aB G C) F).trans f1,(m.cell (p:=aB G (C+1)) F).trans f2,(m.cell (p:=aB G (C+2)) F).trans f3⟩
 generalize w.heap.size=bs at*;go_upto_region 7 with fail
 go_loopw [25] (fun y wr=>∃k:Nat,k<=1/\y=av k/\ah (k=0\/oQ x f)/\ah (Ext w1 wr)) (fun y _=>1 - (RowKit.intOf y).toNat)
 exact⟨0,by decide,rfl,.inl rfl,aC _⟩;obtain⟨k,hk,rfl,a,U⟩:=hrel;by_cases n:k=0
 ·subst n;obtain⟨p1,p2,p3,p4,Z⟩:=V _ U;go_upto_region 9 with fail
  refine aP fun W2 S K=> ?_;have j:=af (U.trans S);have g0:=K.aD 0;have g1:=K.aD 1;generalize wr.heap.size=bg at*;go_upto_region 12 with fail
  go_loopw [42] (fun u wr=>∃k:Nat,k<=1/\u=av k/\ah (Ext W2 wr)) (fun u _=>1 - (RowKit.intOf u).toNat)
  exact⟨0,by decide,rfl,aC _⟩;obtain⟨k,hk,rfl,q⟩:=hrel;by_cases n:k=0
  ·subst n;obtain⟨p1,p2,p3,p4,Z⟩:=V _ (j.trans q);go_upto_region 14 with fail
   refine aP fun W3 H L=> ?_;have l:=af (q.trans H);have f0:=L.aD 0;obtain⟨s0,s1,s2,s3⟩:=(J.ext (j.trans l)).four;go_wp2_with fail
   go_roundw;first|exact⟨1,by decide,rfl,l⟩|((repeat apply Exists.intro);exact⟨⟨1,by decide,rfl,l⟩,rfl⟩)
   simp [RowKit.intOf]
  ·obtain rfl:k=1:=Om;have g0:=(K.ext q).aD 0;have g1:=(K.ext q).aD 1;go_upto_region 18 with fail
   generalize wr=Y at*;go_loopw [61] (fun N wr=>N=av 0/\wr=Y) (fun _ _=>0);case atStart=>exact⟨rfl,rfl⟩
   case round=>
   obtain⟨rfl,E⟩:=hrel;subst E;go_upto_region 24 with fail;generalize wr=Y at*;go_loopw [78] (fun t wr=>∃k:Nat,k<=1/\t=av k/\ah (k=0\/oQ x f)/\ah (Ext W2 wr)) (fun t _=>1 - (RowKit.intOf t).toNat);exact⟨0,by decide,rfl,.inl rfl,q⟩;obtain⟨k,hk,rfl,a,q⟩:=hrel;by_cases n:k=0
   ·subst n;obtain⟨p1,p2,p3,p4,Z⟩:=V _ (j.trans q);go_upto_region 26 with fail
    refine aP fun W3 H L=> ?_;have l:=af (q.trans H);have X:=af (CV W3 (s.trans (j.trans l)));have f0:=L.aD 0;have f1:=L.aD 1;have f2:=L.aD 2;obtain⟨s0,s1,s2,s3⟩:=(J.ext (j.trans l)).four;generalize wr.heap.size=bf at*;go_wp2_with fail
    refine X.mono ?_;rintro e w5 ⟨b,rfl,hb,Q⟩;have I:=af (l.trans Q);have HB:=af hb;cases b with
    |true=>
     have a:=af (HB rfl);go_wp2_with fail;go_roundw;first|exact⟨1,by decide,rfl,Or.inr a,I⟩|((repeat apply Exists.intro);exact⟨⟨1,by decide,rfl,Or.inr a,I⟩,rfl⟩)
     simp [RowKit.intOf]
    |false=>
     go_wp2_with fail
     exact bodyPost_ret (v:=av 8) (by simp [results,results11,go_sem]) rfl ⟨8,rfl,Oy9,s.trans (j.trans I)⟩
   ·obtain rfl:k=1:=Om;have g1:=(K.ext q).aD 1;go_upto_region 30 with fail
    go_loopw [14] (fun O M=>O=av 1/\M=wr) (fun _ _=>0)
    exact⟨rfl,rfl⟩;obtain⟨rfl,E⟩:=hrel;subst E;go_wp2_with fail;go_roundw;first|exact⟨1,by decide,rfl,a,j.trans q⟩|((repeat apply Exists.intro);exact⟨⟨1,by decide,rfl,a,j.trans q⟩,rfl⟩)
    simp [RowKit.intOf]
 ·obtain rfl:k=1:=Om;go_wp2_with fail;exact bodyPost_ret (v:=av 0) (by simp [results,results11,go_sem]) rfl ⟨0,rfl,fun _=>a.resolve_left Od,s.trans U⟩):=h
def amX(v:Value)(x:aQ)(f:Fu)(A0:aS)(c0:Nat)(w:au)(h:dK w v x)(ok:cF x)(hf:yo x f)(hl:qC w (.slice A0 1 c0) [([f],[])]):
 Calls prog 11 #[v,.slice A0 1 c0] w fun e r=>∃z:Int,e= .returned (av z)/\(z=0->oQ x f)/\Ext w r:=by
 have CH:=af (fun W (R:Ext w W)=>abE v x W (h.ext R) ok);have CV:=af (fun W (R:Ext w W)=>aj0 v x f W (h.ext R) ok hf);obtain⟨g,o,Af,cf,Aa,ca,rfl,hg,q1,q2,T,HG⟩:=qC.get hl (i:=0) (aaG 0);simp only[N_,iM,vU] at q1 q2 T HG;obtain⟨G,C,rfl,F,f1,f2,f3⟩:=FuL.get T (i:=0) (aaG 0);simp only[N_] at f1 f2 f3;obtain⟨-,avr,avq⟩:=bE hl;obtain⟨-,ayD,ayC⟩:=bE T;obtain⟨-,ayF,ayE⟩:=bE HG;obtain⟨A,c,B,d,D,e,rfl,hat,lx,Fr⟩:=h;have ha:=hf.1;have d1:decide ((f.1:Int)<0)=false:=aW;have d2:decide ((x.aq.length:Int)<=(f.1:Int))=false:=aW;have a:ah (∀P:Prop,P=oQ x f->P=oQ x f):=fun _ h=>h;go_enter func11,ntmps11;open atg in exact E6
structure aiW(l:List Nat)(m:Nat)(G0 G1 G2 G3:List Gp):Prop where
 m3:G3=G0.map fun y=>(y.1,((m:Int):Rat)*y.2)
 m1:kM (G1++G2)=G0
 n0:G0.length<=64
 n1:G1.length<=64
 n2:G2.length<=64
 v:∀y∈G1++G2,y.1.length=l.length
 f:∀y∈G1++G2,bS 42 y.2
 f0:∀y∈G0,bS 42 y.2
def anI{x:aQ}{D:List (List Rw)}{b:List Fu}{f:Fo}{m:Nat}{p j g:List Rw}{J I H G:List Gp}(c:cF x)(v:x.aq.length<=5)(q:x.aA.length<=3)(w:Whole x.aq.length (bJ x) (bV x) f)(e:pP x b i)(t:b.length<=1)
 (u:nI x D) (F:nI x (D.set a j)) (E:nI x (D.set a g)) (A:a<x.aA.length) (B:a<D.length) (K:p=D[a]) (C:uU p j g)
 (o:lN x D (jQ x D f) (b,i) J) (n:lN x (D.set a j) (jQ x (D.set a j) f) (b,i) I) (k:lN x (D.set a g) (jQ x (D.set a g) f) (b,i) H)
 (L:lN x (D.set a (p.map fun z=>(z.1,z.2*(m:Int)))) (jQ x (D.set a (p.map fun z=>(z.1,z.2*(m:Int)))) f) (b,i) G):aiW i m J I H G:=by
 subst K;refine⟨anG (y:=(b,i)) c w e A B o L,aqW (y:=(b,i)) c w u.1 e A B C.m C.d o n k,VY (y:=(b,i)) c u e o,VY (y:=(b,i)) c F e n,VY (y:=(b,i)) c E e k,fun y s=> ?_,fun y s=> ?_,VZ (y:=(b,i)) c v q u w t o⟩
 ·rcases bQ.1 s with h|h
  ·exact aeP (y:=(b,i)) e n y h
  ·exact aeP (y:=(b,i)) e k y h
 ·rcases bQ.1 s with h|h
  ·exact VZ (y:=(b,i)) c v q F w t n y h
  ·exact VZ (y:=(b,i)) c v q E w t k y h
def atf.ahF(h:ai:=by refine VH s f t C T i d v q B j z ?_;have:=h v n (by simpa using j) (aau n _);exact this):=h
def aqi{P:Program}{o:Oper}{K:Act->World->Prop}{b:Exit->Act->World->Prop}(s f:Operand)(t:TypeId)
 (C:o.op= .call {callee:= .builtin .append,args:= #[s,f],argTypes:= #[t,t]})
 (i:Nat) {size bytes:Nat} (T:ko P t w size bytes)
 (v:Value) (d:Nat) (q:List Value) (B:Q.eval s=v) (j:n.ownsRow i w size v d q)
 (A:aS) (m c:Nat) (news:List Value) (z:Q.eval f= .slice A m c) (hc:A=none->c=0) (hl:news.length=m*size) (hnews:Sl n x A news) (F:∀u∈news,u.oneCell'=true)
 (k:(d+m)*bytes<=140737488355328) (l:i<=n.heap.size)
 (h:∀y p,p.ownsRow i w size y (d+m) (q++news)->n.grownBy p v.ownBlock->K (Q.put o.dst y) p):o.wp P Q n K b:=by
 rcases A with _|G
 ·open atf in exact agU
 ·exact AX s f t C i T v d q B j G m c news z hl hnews F k l fun y p E D _=>h y p E D
def aew{o:Oper}{K:Act->World->Prop}{d:Exit->Act->World->Prop}(s x:Operand)
 (I:o.op= .call {callee:= .builtin .append,args:= #[s,x],argTypes:= #[lh,lh]})
 {base:Nat} {q l:List Gp} (H:Q.eval s=p) (O:bH eT 2 oW base m p q) (F:Q.eval x= .slice E a b) (N:uu m (.slice E a b) l)
 (G:q.length+l.length<=10000) (f:base<=m.heap.size)
 (h:∀k g,bH eT 2 oW base g k (q++l)->m.grownBy g p.ownBlock->K (Q.put o.dst k) g):o.wp prog Q m K d:=by
 obtain⟨B,j,r⟩:=O;obtain⟨W,V,z,e,U,T,M,L,y⟩:=N;injection e with S R P;subst S R P;refine aqi s x lh I base U0 p _ B H j _ _ _ z F M (Ch.length (oW.two m) y) L (Ch.all (fun b x ⟨_,_,e,_⟩ u i=>by rw[e] at i;simp only[aI,bF,or_false] at i;rcases i with rfl|rfl<;>rfl) y) Om f fun k g J D=> ?_;have C:∀u∈ [bI],Kept u m g:=fun u i=>by rw[bG.1 i];exact jW j D Od
 exact h k g ⟨B++z,by rw[bC];exact J,KE (y.mono fun b x t=>kj _ _ _ _ C t) (r.mono fun b x t=>kj _ _ _ _ C t)⟩ D
def VM(h:m.ownsRow b w d p c t)(o:a<=b):m.ownsRow a w d p c t:=by
 obtain⟨j,r|⟨g,i,f,e,l,q⟩⟩:=h
 ·exact⟨j,.inl r⟩
 ·exact⟨j,.inr ⟨g,i,f,e,a8 o l,q⟩⟩
def Wl(h:m.ownsRow a w e (aG d 0 b c) b t):∃l,ar m d w l:=by
 rcases h.2 with⟨f,_⟩|⟨q,j,i,f,p,o,_⟩
 ·cases f
 ·injection f with f;injection f with f;injection f with f;subst f;exact⟨i.toList,by unfold ar;simpa using o⟩
abbrev kt:Value:= .slice none 0 0
def anH{wc:au}{r b1 b2 b3:Nat}(hs:cJ wc a)(P:wc.ownsRow b1 eG 1 (aG c 0 b f) b t)(X:wc.ownsRow b2 eG 1 (aG d 0 b g) b t)(W:wc.ownsRow b3 eG 1 (aG e 0 b h) b t)
 (R:a<c) (h2:c<d) (h3:d<e):∃z,((wc.setCell (aB c r) kt).setCell (aB d r) kt).setCell (aB e r) kt=z/\ah (jP z z a b r t c d e f g h kt kt kt [] [] [])/\ah (∀i∈ [a,c,d,e],∃s l,ar z i s l/\(s=pQ\/s=eG))/\ah (a7 [c,d,e] wc z)/\ah (∀u,eG≠u->Kept u wc z):=by
 refine⟨_,rfl,?_⟩;have v:∀{w w':au} {x y m:Nat},x≠y->∀q,some x=some q->(Value.slice (cT y 0) b m).ownBlock≠some q:=fun K q Q o=>by injection Q with Q;have T:=(by simpa [Value.ownBlock] using o:_=q);omega
 obtain⟨a1,I⟩:=P.stored r kt;have F:=jw X I (v (w:=wc) (w':=wc) (by omega:c≠d));have L:=jw W I (v (w:=wc) (w':=wc) (by omega:c≠e));have V:=hs.past (show Only c _ _ from I) R;have n:∀u,eG≠u->Kept u wc (wc.setCell (aB c r) kt):=fun u A=>jW P I A;obtain⟨M,H⟩:=F.stored r kt;have a2:=jw a1 H (v (w:=wc) (w':=wc) (by omega:d≠c));have E:=jw L H (v (w:=wc) (w':=wc) (by omega:d≠e));have U:=V.past (show Only d _ _ from H) Om;have Z:∀u,eG≠u->Kept u _ _:=fun u A=>jW F H A;obtain⟨C,G⟩:=E.stored r kt;have N:=jw a2 G (v (w:=wc) (w':=wc) (by omega:e≠c));have D:=jw M G (v (w:=wc) (w':=wc) (by omega:e≠d));have O:=U.past (show Only e _ _ from G) Om;have Y:∀u,eG≠u->Kept u _ _:=fun u A=>jW E G A;have hc:a7 [c,d,e] wc (((wc.setCell (aB c r) kt).setCell (aB d r) kt).setCell (aB e r) kt):=(((ig (aC wc)).only (show Only c _ _ from I) (.inl Ou)).only (show Only d _ _ from H) (.inl Ou)).only (show Only e _ _ from G) (.inl Ou);have hk:∀u,eG≠u->Kept u wc (((wc.setCell (aB c r) kt).setCell (aB d r) kt).setCell (aB e r) kt):=fun u A=>((n u A).trans (Z u A)).trans (Y u A);generalize((wc.setCell (aB c r) kt).setCell (aB d r) kt).setCell (aB e r) kt=z at*;have e1:=Wl N;have T:=Wl D;have e3:=Wl C;have J:∀{S m j:Nat},z.ownsRow j eG 1 (aG S 0 b m) b (t.set r kt)->S<z.heap.size:=fun p=>Ex p;refine⟨⟨O,VM N (aT _),VM D (aT _),VM C (aT _),f_,f_,f_,J N,J D,J C,R,by omega,by omega,by omega,by omega,by omega,Oy9,Oy9,Oy9,.ij (aC _)⟩,fun i K=> ?_,hc,hk⟩;simp only[aI,bF,or_false] at K;rcases K with rfl|rfl|rfl|rfl
 ·obtain⟨_,_,_,_,_,_,_,B,_⟩:=O;exact⟨_,_,B,.inl rfl⟩
 ·obtain⟨l,B⟩:=e1;exact⟨_,l,B,.inr rfl⟩
 ·obtain⟨l,B⟩:=T;exact⟨_,l,B,.inr rfl⟩
 ·obtain⟨l,B⟩:=e3;exact⟨_,l,B,.inr rfl⟩
def ata.k15(h:ai:=by
 go_roundw;first|exact⟨i+1,_,_,_,(H++ [(yk,yw)]),G,by omega,by go_num,by rw[fp.ae];exact(HP.fst vF),by rw[QE.ae];exact Su⟩|((repeat apply Exists.intro);exact⟨⟨i+1,_,_,_,(H++ [(yk,yw)]),G,by omega,by go_num,by rw[fp.ae];exact(HP.fst vF),by rw[QE.ae];exact Su⟩,rfl⟩)
 simp [RowKit.intOf];omega):=h
def atb.k23(h:ai:=by
 refine Et 11 112 (av (yw*(m:Int))) _ rfl rfl Ok (fun _ _ _ h=>h) aH rfl ?_ ?_;focus (intro w' hSw;go_simp;exact Jl)
 open ata in exact m15):=h
def atc.k51(h:ai:=by generalize w7.setCell (aB g1 r) (.slice Aq (H.length+1) cq)=w8 at*;clear pY cK E9 d1;obtain⟨w6,yL⟩:∃w6,w6=w8:=⟨_,rfl⟩;rw[<-yL] at Ju pg JM⊢;clear yL;have jH:=af (Ju.ae).PW;open atb in exact m23):=h
def atd.ahz(h:ai:=by have nV:WZ.grownBy w7 (Value.slice Ap H.length cp).ownBlock:=EM;have Fw:v'.ownBlock=(Value.slice Ap H.length cp).ownBlock\/v'.ownBlock=some WZ.heap.size:=EO;clear EM EO;obtain⟨Aq,cq,rfl,_,_,_⟩:=dZ kR;obtain⟨wU,Rt,I0,mC⟩:=nB.mid mD xB nV (.slice Aq (H.length+1) cq);open atc in exact m51):=h
def ate.ahy(h:ai:=by have nD:ah (Ch (eh WZ) ys H):=lg (fun c x hc=>fL _ _ _ _ (fun _ _=>rL nQ) hc) ND;open atd in exact agy):=h
def as6.k15(h:ai:=by
 go_roundw;first|exact⟨i+1,_,_,_,H,(G++ [(yk,yw)]),by omega,by go_num,by rw[fp.ae];exact(HP.snd vF),by rw[QE.ae];exact Su⟩|((repeat apply Exists.intro);exact⟨⟨i+1,_,_,_,H,(G++ [(yk,yw)]),by omega,by go_num,by rw[fp.ae];exact(HP.snd vF),by rw[QE.ae];exact Su⟩,rfl⟩)
 simp [RowKit.intOf];omega):=h
def as7.k23(h:ai:=by
 refine Et 11 112 (av (yw*(m:Int))) _ rfl rfl Ok (fun _ _ _ h=>h) aH rfl ?_ ?_;focus (intro w' hSw;go_simp;exact Jl)
 open as6 in exact m15):=h
def as8.k51(h:ai:=by generalize w7.setCell (aB Z r) (.slice Aq (G.length+1) cq)=w8 at*;clear pY cK hv2 d1;obtain⟨w6,yL⟩:∃w6,w6=w8:=⟨_,rfl⟩;rw[<-yL] at Ju pg JM⊢;clear yL;have jH:=af (Ju.Wh).PW;open as7 in exact m23):=h
def as9.ahz(h:ai:=by have nV:WZ.grownBy w7 (Value.slice Ap G.length cp).ownBlock:=EM;have Fw:v'.ownBlock=(Value.slice Ap G.length cp).ownBlock\/v'.ownBlock=some WZ.heap.size:=EO;clear EM EO;obtain⟨Aq,cq,rfl,_,_,_⟩:=dZ kR;obtain⟨wU,Rt,I0,mC⟩:=nB.mid mD xB nV (.slice Aq (G.length+1) cq);open as8 in exact m51):=h
def as_.ahy(h:ai:=by have nD:ah (Ch (eh WZ) ys G):=lg (fun c x hc=>fL _ _ _ _ (fun _ _=>rL nQ) hc) ND;open as9 in exact agy):=h
def akA(afL:∀w,eR w->Calls prog 5 #[] w fun e w'=>e= .returned (.bool true)/\Ext w w')(t:TypeId)(A:aS)(zs:List Int)(c:Nat)(kk:Nat)(w:au)(hc:zs.length<=c)(hm:c<=9223372036854775807)(hs:Sl w t A (fh zs))(hz:∀z∈zs, -9223372036854775808<=z/\z<=9223372036854775807)(hk:kk<256)(ht:eR w):
 Calls prog 3 #[.slice A zs.length c,.int .u8 kk] w fun e w'=>e= .returned (.bool true)/\Ext w w':=by
 have HS:=af hs;have HZ:=af hz;have HT:=af ht;have Jr:=af afL;clear hs hz ht afL;go_enter func3,ntmps3;by_cases hl:zs.length<=400
 ·have hd:decide ((zs.length:Int)>400)=false:=aW;have CM:=af (aph t A zs c w hc hm Om HS HZ);go_wp2_with fail
  refine CM.mono ?_;rintro e w1 ⟨rfl,WC,hx1⟩;clear hd;generalize hgd:w.heap.size=g at*;go_wp2_with fail;refine(amn g w1 WC).mono ?_;rintro e w2 ⟨x,v,o,D,u,ru,h5,h3,rfl,hv,ho,d,hD,hs2,YU⟩;have aN:=af ru;have HV:=af hv;have lW:=af ho;have HD:=af hD;obtain⟨Aa,ca,Ba,da,Ea,ea,rfl, -, -, -⟩:=hv;obtain⟨Ao,co,p,dd,rfl, -, -⟩:=ho;obtain⟨Au,cu,xs,rfl,hun,hum,HU,HUC⟩:=d.parts;have aY:ah (Ext w w2):=hx1.only YU Om;have j8:=WC.lt;have auT:=YU.size;have hr1:=ru.r1;have RI:0<D.length:=by have:=hD.1;omega
  have hDm:D.length<=3:=by have:=hD.1;omega
  have SC:=af hD.1;have avB:=ru.a12;clear d ru WC hD YU hx1;go_upto_region 5 with fail
  refine fX fun W3 C B6 B7=> ?_;have CN:=af (oM g D.length W3 (hs2.ext C) Om Om);have Zl:=B6.lt;have Fw:=B7.lt;go_wp2_with fail
  refine CN.mono ?_;rintro e w4 ⟨r,IR,rfl,IQ,U⟩;have QX:cJ W3 g:=hs2.ext C;have sK:=af (jM HU C);have aiJ:∀q,(Value.slice Au D.length cu).ownBlock=some q->g<q:=fun q e=>by have:=(HU.lt q e).1;omega
  have FR:ah (w4.ownsRow w1.heap.size eG 1 (.slice Au D.length cu) D.length xs):=jw sK (row:=some g) U (fun q hq e=>by injection hq with hq;have:=aiJ q e;omega);have avW:ah (Ch (lz W3) xs D):=lg (fun c y hc=>mU w2 W3 c y (fun u _=> .jd C) hc) HUC;have Fl:∀u∈ [dJ,bI],Kept u W3 w4:=fun u d=>uM QX U (by
   simp only[aI,bF,or_false] at d;rcases d with rfl|rfl
   ·decide
   ·decide)
  have ai0:ah (Ch (lz w4) xs D):=lg (fun c y hc=>mU W3 w4 c y Fl hc) avW;have zv:ah (qY w4 (.agg #[.slice Ao x.aq.length co]) x):=(lW.ext C).kept (uM QX U Od);have HV4:=af ((HV.ext C).past QX U);have B64:=af (B6.only U Om);have B74:=af (B7.only U Om);have dU:ah (Ext w w4):=(aY.trans C).only U Om;have mH:=af IQ;obtain⟨gu,rfl, -, -⟩:=xX FR RI;have H1c:ah (∀u∈xs,u.oneCell'=true):=Ch.all (fun c y ⟨_,_,e,_⟩ u d=>by rw[e] at d;rw[bG.1 d];rfl) ai0;have Jx:ah (xs.length=D.length*1):=FR.1;have zo:=af (wm FR);have cK:(0+D.length)*24<=140737488355328:=Om;have avg:g<w4.heap.size:=IQ.lt;have ayp:g<w2.heap.size:=Om;have ayP:w2.heap.size+1<w4.heap.size:=by have:=U.size;omega
  have ayk:=Ex FR;have ayi:g<gu:=by have:=(FR.lt gu rfl).1;omega
  clear B6 B7 aiJ Fl U IQ QX hs2 auT j8;go_wp2_with (at_builtin;refine AC rfl _ _ LR rfl w4.heap.size OW _ _ _ rfl (lJ _ _ _ _) (cT gu 0) D.length cu xs rfl Oy9 Jx zo H1c cK (aK _) ?_);intro va wa I J _;have xx:ah (Ext w4 wa):=AK J;obtain⟨A1,c1,rfl,_,_,_⟩:=dZ I;obtain⟨g1,rfl,hg1,ays⟩:=xX I RI;have Nj:=af I;have HSa:=af (zo.ext xx);clear I J;go_wp2_with (at_builtin;refine AC rfl _ _ LR rfl wa.heap.size OW _ _ _ rfl (lJ _ _ _ _) (cT gu 0) D.length cu xs rfl Oy9 Jx HSa H1c cK (aK _) ?_)
  intro vb wb Fh hgb _;have xt:ah (Ext wa wb):=AK hgb;obtain⟨A2,c2,rfl,_,_,_⟩:=dZ Fh;obtain⟨Z,rfl,hg2,ayr⟩:=xX Fh RI;have Ni:=af Fh;have R_:=af (HSa.ext xt);clear Fh hgb;go_wp2_with (at_builtin;refine AC rfl _ _ LR rfl wb.heap.size OW _ _ _ rfl (lJ _ _ _ _) (cT gu 0) D.length cu xs rfl Oy9 Jx R_ H1c cK (aK _) ?_)
  intro vc wc Fg Rp _;have rB:ah (Ext wb wc):=AK Rp;obtain⟨A3,c3,rfl,_,_,_⟩:=dZ Fg;obtain⟨g3,rfl,hg3,avl⟩:=xX Fg RI;have xD:=af Fg;have aiH:ah (Ext wa wc):=xt.trans rB;have Gt:ah (Ext w4 wc):=xx.trans aiH;clear Fg Rp;have Nj:=af (jM Nj aiH);have Ni:=af (jM Ni rB);obtain⟨wB,IP,Jz,V,oq,Gc⟩:=anH (r:=r) (mH.ext Gt) Nj Ni xD Om Om Om;have QR:xs[r]?=some (xs[r]'aAy):=aV _;have q1:=Kr Nj QR;have q2:=Kr Ni QR;have q3:=Kr xD QR;have f1:=Nj.frozenAt r;have f2:=Ni.frozenAt r;have f3:=xD.frozenAt r;generalize xs[r]'aAy=xr at*;have FK:=af IP;have Xl:g1≠Z:=Om;have ax2:g1≠g3:=Om;have ax1:Z≠g3:=Om;clear QR IP;go_upto_region 8 with fail
  rw[FK.ae];have HUc:=af (aeI (jM FR Gt) oq (by have:=Ex FR;have h5:=xx.size;simp only[aI,bF,or_false];omega))
  have LL:ah (Ch (lz wB) xs D):=lg (fun c y hc=>mU wc wB c y (fun u d=>Gc u (by
   simp only[aI,bF,or_false] at d;rcases d with rfl|rfl
   ·decide
   ·decide)) hc) (lg (fun c y hc=>mU w4 wc c y (fun u _=> .jd Gt) hc) ai0)
  have R9:=af ((HV4.ext Gt).kept Gc Od Od Od Od);have HOB:=af ((zv.ext Gt).kept (Gc _ Od));have hbg:∀{gi:Nat} {ti:TypeId} {li:List Value},ar w4 gi ti li->ar wB gi ti li:=fun h=>(h.ext Gt).bP oq (by have:=h.lt;have h5:=xx.size;simp only[aI,bF,or_false];omega)
  have B6B:=af (hbg B64);have B7B:=af (hbg B74);have Cv:ah (Ext w wB):=(dU.trans Gt).bP oq fun i hi=>by have h5:=dU.size;simp only[aI,bF,or_false] at hi;omega
  have HDL:ah (fS wB (aG gu 0 D.length cu) D):=D5 HUc LL;have mD:r<xs.length:=aAy;obtain⟨_,_,Ar,cr,er,hgx,Js,Cl⟩:=fS.get HDL IR;injection er with er;injection er with er1 er2;subst er1 er2;rw[jc] at Cl;have aym:=avg;have Sk:=af (show D[r].length<=4/\D[r].Pairwise IE/\∀y∈D[r],1<=y.2/\y.2<=20 from by
   have YM:r<x.aA.length:=by have:=SC.ae;omega
   have h:=HD.2 r _ _ (aV IR) (aV YM);exact⟨h.len,h.ok.ord,fun y hy=>⟨(h.ok.wt y hy).1,h.wt y hy⟩⟩)
  obtain⟨m,nt⟩:∃m:Nat,m=2+kk%4:=⟨_,rfl⟩;have Re:2<=m/\m<=5:=Om;have hme:(2:Int)+(kk:Int)%4=(m:Int):=Om;have YN:=bE Js;obtain⟨Lr,Zw⟩:∃Lr,Lr=D[r]:=⟨_,rfl⟩;have QC:=af Zw;rw[<-Zw] at Js Cl Sk YN;clear nt Zw hgx q1 q2 q3 f1 f2 f3;go_upto_region 10 with fail
  clear hme Cl;go_loopw [74] (fun v74 wr=>∃(i:Nat) (v1 v2 v3:Value) (H G:List Rw),i<=Lr.length/\v74=av i/\ah (uU (Lr.take i) H G)/\ah (jP wB wr g D.length r xs g1 Z g3 c1 c2 c3 v1 v2 v3 H G ((Lr.take i).map fun z=>(z.1,z.2*(m:Int))))) (fun v74 _=>Lr.length - (RowKit.intOf v74).toNat);exact⟨0,kt,kt,kt,[],[],aT _,rfl,uU.nil,Jz⟩;obtain⟨i,v1,v2,v3,H,G,hi,rfl,HP,F⟩:=hrel;have Mh:=F.kept V (u:=dJ) Od Od;have Fl:=F.kept V (u:=bI) Od Od;have M8:ah (ny wr (.slice Ar Lr.length cr) Lr):=fN fL Js fun u d=>by
   simp only[aI,bF,or_false] at d;rcases d with rfl|rfl
   ·exact Mh
   ·exact Fl
  clear Mh Fl;by_cases Y:i<Lr.length
  ·obtain⟨gy,oy,By,dy,rfl,Rn,p1,p2,nZ⟩:=yf M8 Y;have hyw:=Sk.2.2 _ (aZ Y);have fp:ah (Lr.take (i+1)=Lr.take i++ [Lr[i]]):=by rw[ah,pE,aV Y];rfl
   have vF:ah (Lr[i]∉Lr.take i):=fun hm=>by have hp:=Sk.2.1;rw[<-sQ i Lr,Tf,i6 Y] at hp;have h:=hp.2.2 _ hm _ lI;have h3:eA Lr[i].1 Lr[i].1=true:=h;rw[qP.lm] at h3;cases h3
   have hlt:=Sk.1;have Dg:ah (((Lr.take i).map fun z=>(z.1,z.2*(m:Int))).length<=4):=by rw[ah,cy,cP];omega
   have ax':H.length<=4/\G.length<=4:=(by have h1:=HP.s1.length_le;have h2:=HP.s2.length_le;rw[cP] at h1 h2;omega);have E9:∀q,v1.ownBlock=some q->q<wr.heap.size:=fun q e=>(F.r1.blk e).2.1;have hv2:∀q,v2.ownBlock=some q->q<wr.heap.size:=fun q e=>(F.r2.blk e).2.1;have hv3:∀q,v3.ownBlock=some q->q<wr.heap.size:=fun q e=>(F.r3.blk e).2.1;have hbB:wB.heap.size<=wr.heap.size:=F.bP.size;generalize Lr[i]=y at*;obtain⟨yk,yw⟩:=y;simp only at p1 p2 nZ hyw;have Jl:ah (IntKind.i64.wrap (yw*(m:Int))=yw*(m:Int)):=(by have h4:m=2\/m=3\/m=4\/m=5:=Om;rw[ah,zY];rcases h4 with rfl|rfl|rfl|rfl<;>omega)
   go_upto_region 12 with fail
   refine aP fun W5 en BX=> ?_;have jH:=af (F.ext en);have CN:=af (oM g 2 W5 jH.src Od Od);have FU:=af (cQ nZ en);have lU:=BX.lt;have hgr:=F.src.lt;generalize wr.heap.size=bx at*;clear p1 p2 Rn;go_wp2_with fail
   refine CN.mono ?_;rintro e w6 ⟨z,hz,rfl,Fb,IW⟩;have FU:=af (FU.yl (uM jH.src IW Od));have jH:=af (jH.call IW Fb);have BX:=af (BX.only IW Om);clear Fb IW lU hgr;by_cases hz0:z=0
   ·have d1:((z:Int)==0)=true:=azt;have pY:∀q,v1.ownBlock=some q->q<bx:=E9;obtain⟨Ap,cp,ys,rfl, -, -,Sa,ND⟩:=jH.r1.parts;have cK:(H.length+1)*32<=140737488355328:=Om;go_upto_region 13 with fail
    have gX:=jH.cell1 mD;have j8:g1<w6.heap.size:=cE jH.b1 jH.bP.size;obtain⟨S,dw⟩:∃S:World->Prop,S=fun w'=>ay w' g1 r (.slice Ap H.length cp)/\ay w' bx 0 (.slice By yk.length dy)/\ay w' bx 1 (av yw):=⟨_,rfl⟩;have bL:ah (∀w',S w'->ay w' g1 r (.slice Ap H.length cp)/\ay w' bx 0 (.slice By yk.length dy)/\ay w' bx 1 (av yw)):=azh;have zr:ah (∀w',ay w' g1 r (.slice Ap H.length cp)->ar w' bx dJ [.slice By yk.length dy,av yw]->S w'):=azl;have bU:ah (∀w',Ext w6 w'->S w'):=fun w' hx=>zr w' ((hx.cell (p:=aB g1 r) j8).trans gX) (BX.ext hx);have zf:ah (Ext w6 w6.drew):=(aC w6).drew;have aH:ah (S w6.drew):=bU _ zf;clear dw;refine b9 (S:=S) (T:=fun j=>decide (10<=j)) Ok ?_;generalize w6.drew=wd at*;refine ax 0 81 ?_;refine ax 1 82 ?_;refine ax 2 83 ?_;refine ax 3 84 ?_;refine ax 4 85 ?_;refine ax 5 86 ?_;refine ax 6 87 ?_;open ate in exact ags
   ·have d1:((z:Int)==0)=false:=ayZ;have jH:=af jH.Wh;have pY:∀q,v2.ownBlock=some q->q<bx:=hv2;obtain⟨Ap,cp,ys,rfl, -, -,Sa,ND⟩:=jH.r1.parts;have cK:(G.length+1)*32<=140737488355328:=Om;go_upto_region 14 with fail
    have gX:=jH.cell1 mD;have j8:Z<w6.heap.size:=cE jH.b1 jH.bP.size;obtain⟨S,dw⟩:∃S:World->Prop,S=fun w'=>ay w' Z r (.slice Ap G.length cp)/\ay w' bx 0 (.slice By yk.length dy)/\ay w' bx 1 (av yw):=⟨_,rfl⟩;have bL:ah (∀w',S w'->ay w' Z r (.slice Ap G.length cp)/\ay w' bx 0 (.slice By yk.length dy)/\ay w' bx 1 (av yw)):=azh;have zr:ah (∀w',ay w' Z r (.slice Ap G.length cp)->ar w' bx dJ [.slice By yk.length dy,av yw]->S w'):=azl;have bU:ah (∀w',Ext w6 w'->S w'):=fun w' hx=>zr w' ((hx.cell (p:=aB Z r) j8).trans gX) (BX.ext hx);have zf:ah (Ext w6 w6.drew):=(aC w6).drew;have aH:ah (S w6.drew):=bU _ zf;clear dw;refine b9 (S:=S) (T:=fun j=>decide (10<=j)) Ok ?_;generalize w6.drew=wd at*;refine ax 0 91 ?_;refine ax 1 92 ?_;refine ax 2 93 ?_;refine ax 3 94 ?_;refine ax 4 95 ?_;refine ax 5 96 ?_;refine ax 6 97 ?_;open as_ in exact ags
  ·have d1:decide ((i:Int)<(Lr.length:Int))=false:=aW;have hit:Lr.take i=Lr:=dA Om;rw[hit] at HP F;have cY:ah (Ext w wr):=Cv.bP F.bP fun i hi=>by simp only[aI,bF,or_false] at hi;have hs1:=F.s1;have hs2:=F.s2;have hs3:=F.s3;omega
   go_upto_region 17 with fail
   clear hit Y hi;have ah9:∀i∈ [g,Z,g1,g3],∃t l,ar wB i t l/\(t=pQ\/t=eG):=fun i hi=>V i (by simp only[aI,bF,or_false] at hi⊢;omega);have ah8:∀i∈ [g,g3,Z,g1],∃t l,ar wB i t l/\(t=pQ\/t=eG):=fun i hi=>V i (by simp only[aI,bF,or_false] at hi⊢;omega);have X:∀u,pQ≠u->eG≠u->Kept u wB wr:=fun u h1 h2=>F.kept V h1 h2;have h4g:=Cv.size;have J:w2.heap.size∉ [g,g1,Z,g3]/\w2.heap.size+1∉ [g,g1,Z,g3]/\gu∉ [g,g1,Z,g3]:=by have e1:=F.s1;refine⟨?_,?_,?_⟩<;>simp only[aI,bF,or_false]<;>omega
   have E:ah (xp wr g w2.heap.size (w2.heap.size+1) D.length x [.slice Aa x.aq.length ca,.slice Ba x.aA.length da,.slice Ea x.bk.length ea,av x.label] [.slice Ao x.aq.length co] (cT gu 0) (cT g1 0) (cT Z 0) (cT g3 0) cu c1 c2 c3 D (D.set r H) (D.set r G) (D.set r (Lr.map fun z=>(z.1,z.2*(m:Int))))):=
    ⟨F.src,R9.asE (X _ Od Od) (X _ Od Od) (X _ Od Od) (X _ Od Od),HOB.kept (X _ Od Od),B6B.bP F.bP J.1,B7B.bP F.bP J.2.1,
     D5 (aeI HUc F.bP J.2.2) (lg (fun c y hc=>mU wB wr c y (fun u d=>by
      simp only[aI,bF,or_false] at d;rcases d with rfl|rfl
      ·exact X _ Od Od
      ·exact X _ Od Od) hc) LL),
     F.db V LL rfl,F.Wh.db ah9 LL rfl,F.PW.db ah8 LL rfl,by omega,by omega⟩
   have ayO:w2.heap.size+1<wr.heap.size:=E.bo.lt;clear ah9 ah8 X J d1 hbg;obtain⟨nm,hnm⟩:∃nm:Nat,nm=min x.aq.length 3:=⟨_,rfl⟩;have hne:min (x.aq.length:Int) 3=(nm:Int):=Om;have yQ:nm<=x.aq.length:=Om;have hn3:nm<=3:=Om;have CS:=af (anv g nm 2 wr E.src Om Od Od);clear hnm;generalize w2.heap.size=b6 at*;generalize b6+1=b7 at*;obtain⟨s0,s1,s2,s3⟩:=E.bs.four;go_wp2_with fail
   refine CS.mono ?_;rintro e w8 ⟨l,u,Mg,IY,nU,rfl,d,QY,rv⟩;have QD:=af (E.call rv QY);have jS:ah (Ext w w8):=cY.only rv Om;have vE:=af d.ls;have Y:(ints l).length=l.length:=kI l;obtain⟨Ag,cg,ys,rfl, -, -, -, -⟩:=d.parts;rw[Y] at vE⊢;have HLA:ah (qX l=true/\(∀a∈l,a<x.aq.length)/\l.length<=3):=⟨Mg,fun a ha=>cE (IY a ha) yQ,by omega⟩;clear d Y QY rv s0 s1 s2 s3 Mg IY nU hne;go_upto_region 18 with fail
   refine aP fun W9 ed BL=> ?_;have LJ:=af (QD.ext ed);have Gk:=af (jS.trans ed);have HG9:=af (iP vE ed);have hbl:w8.heap.size<W9.heap.size:=BL.lt;have hbg:g<w8.heap.size:=QD.src.lt;have ayN:b6<w8.heap.size:=QD.bs.lt;have ayM:b7<w8.heap.size:=QD.bo.lt;generalize w8.heap.size=bl at*;obtain⟨LW,hLW⟩:∃LW:World->Prop,LW=fun M=>xp M g b6 b7 D.length x [.slice Aa x.aq.length ca,.slice Ba x.aA.length da,.slice Ea x.bk.length ea,av x.label] [.slice Ao x.aq.length co] (cT gu 0) (cT g1 0) (cT Z 0) (cT g3 0) cu c1 c2 c3 D (D.set r H) (D.set r G) (D.set r (Lr.map fun z=>(z.1,z.2*(m:Int)))):=⟨_,rfl⟩;have XR:ah (∀M,LW M↔xp M g b6 b7 D.length x [.slice Aa x.aq.length ca,.slice Ba x.aA.length da,.slice Ea x.bk.length ea,av x.label] [.slice Ao x.aq.length co] (cT gu 0) (cT g1 0) (cT Z 0) (cT g3 0) cu c1 c2 c3 D (D.set r H) (D.set r G) (D.set r (Lr.map fun z=>(z.1,z.2*(m:Int))))):=by rw[hLW];exact fun _=>Iff.rfl
   clear hLW;obtain⟨R,Zr⟩:∃R:World->Prop,R=fun M=>∃fs:List Fu,(fs.length<=1/\∀f∈fs,oQ x f)/\LW M/\qC M (aG bl 0 1 1) [(fs,l)]/\Ext w M:=⟨_,rfl⟩;have fZ:ah (∀M,(∃fs:List Fu,(fs.length<=1/\∀f∈fs,oQ x f)/\LW M/\qC M (aG bl 0 1 1) [(fs,l)]/\Ext w M)->R M):=by rw[Zr];exact fun _ h=>h
   have n_:ah (∀M,R M->∃fs:List Fu,(fs.length<=1/\∀f∈fs,oQ x f)/\LW M/\qC M (aG bl 0 1 1) [(fs,l)]/\Ext w M):=by rw[Zr];exact fun _ h=>h
   clear Zr;obtain⟨s0,s1,s2,s3⟩:=LJ.bs.four;go_wp2_with fail;refine(api g _ x W9 LJ.src LJ.yH aN).mono ?_;rintro e wa ⟨f,rfl,Rb,hsa,I⟩;have awo:=af (LJ.call I hsa);have BLa:=af (BL.only I Om);have HGa:ah (IL wa (.slice Ag l.length cg) (ints l)):=fN cI HG9 fun t ht=>by rw[bG.1 ht];exact uM LJ.src I Od
   have HEa:ah (Ext w wa):=Gk.only I Om;have zx:=af Rb;clear s0 s1 s2 s3 BL hsa I Rb;go_upto_region 19 with fail
   refine aP fun Wb xt BF=> ?_;have XQ:=af (awo.ext xt);have BLb:=af (BLa.ext xt);have HGb:=af (iP HGa xt);have HEb:=af (HEa.trans xt);generalize wa.heap.size=fb at*;obtain⟨s0,s1,s2,s3⟩:=XQ.bs.four;have f0:=BF.aD 0;have f1:=BF.aD 1;have f2:=BF.aD 2;go_wp2_with fail
   refine fX (P:=fun W=>Calls _ _ _ W _) fun Wc rB B1 B2=> ?_;have hAg:qC Wc (aG (Wb.heap.size+1) 0 1 1) [([f],[])]:=mf (l:= [([f],[])]) B2 ⟨_,[],rfl,⟨cT Wb.heap.size 0,1,none,0,rfl,mf (l:= [f]) B1 ⟨_,[],rfl,rfl,rfl⟩ Ou,(f_ (base:=0) (k:=1)).ls⟩,rfl⟩ Ou;refine(amX _ x f _ 1 Wc (XQ.yH.ext rB) aN zx hAg).mono ?_;rintro e wd ⟨z,rfl,hzf,hxd⟩;have hx:=rB.trans hxd;have ai_:=af (XQ.ext hx);have NW:=af (BLb.ext hx);have HGd:=af (iP HGb hx);have Sz:=af (HEb.trans hx);have BFd:=af (BF.ext hx);have HZF:=af hzf;clear hAg hx hzf hxd s0 s1 s2 s3 f0 f1 f2 BF B1 B2;go_upto_if 135 with fail
   go_cut [] from 126 to 140 (fun M=>R M)
   case first=>
    by_cases hz0:z=0
    ·subst hz0;have f0:=BFd.aD 0;have f1:=BFd.aD 1;have f2:=BFd.aD 2;have q0:=NW.aD 0;have qf:=NW.frozen 0;have ayK:=NW.lt;go_wp2_with fail
     go_meet;obtain⟨W6,Cn,BL6,K6,N6⟩:=gp (i:=0) NW (aG wd.heap.size 0 1 1);have hsz:W6.heap.size=wd.heap.size:=by rw[<-Cn];simp [World.setCell]
     show R ((wd.setCell (aB bl 0) (aG wd.heap.size 0 1 1)).alloc _)
     rw[Cn];refine aP (P:=fun W=>R W) fun W7 vz B4=> ?_;rw[hsz] at B4;have hL:=ai_.ae;have kd:∀{A:aS} {n c:Nat} {D:List (List Rw)},fS wd (.slice A n c) D->fS W6 (.slice A n c) D:=fun h=>fN mU h fun u d=>K6 u (by
      simp only[aI,bF,or_false] at d;rcases d with rfl|rfl|rfl
      ·decide
      ·decide
      ·decide)
     have hL6:xp W6 _ _ _ _ _ _ _ _ _ _ _ _ _ _ _ _ _ _ _:=⟨hL.src.past N6 hbg,hL.yH.kept K6 Od Od Od Od,hL.ord.kept (K6 _ Od),hL.bs.only N6 Om,hL.bo.only N6 Om,kd hL.d0,kd hL.d1,kd hL.d2,kd hL.d3,hL.l6,hL.l7⟩;have hL7:=(XR W7).2 (hL6.ext vz);have hI7:IL W7 (.slice Ag l.length cg) (ints l):=iP (fN cI HGd fun t ht=>by rw[bG.1 ht];exact K6 _ Od) vz
     exact fZ _ ⟨[f],⟨by simp,fun f' h=>by rw[bG.1 h];first|exact HZF rfl|exact HZF trivial⟩,hL7,mf (l:= [([f],l)]) (BL6.ext vz) ⟨_,[],rfl,⟨cT wd.heap.size 0,1,Ag,cg,rfl,mf (l:= [f]) B4 ⟨_,[],rfl,rfl,rfl⟩ Ou,hI7⟩,rfl⟩ Ou,(Sz.only N6 Om).trans vz.ae⟩
    ·have d1:(z==0)=false:=by rw[beq_eq_false_iff_ne];exact hz0
     go_wp2_with fail
     go_meet;exact fZ _ ⟨[],⟨by decide,fun f h=>by cases h⟩,(XR _).2 ai_,mf (l:= [([],l)]) NW ⟨_,[],rfl,⟨none,0,Ag,cg,rfl,(f_ (base:=0) (k:=3)).ls,HGd⟩,rfl⟩ Ou,Sz⟩
   case rest=>
    obtain⟨fs,p_,YY,I7,hex⟩:=n_ _ hcut;have E:=af ((XR _).1 YY);have zI:=af I7;have HEX:=af hex;have Gg:=af p_;obtain⟨fo,lw⟩:=ab4 x aN;have Cw:=af lw;have JH:ah (pP x fs l):=⟨by have:=p_.1;omega,HLA.2.2,p_.2,HLA.2.1,HLA.1⟩;have YM:r<x.aA.length:=by have:=SC.ae;omega
    have zG:=af (afN HD);have nH:ah (nI x (D.set r H)):=afq zG IR (by rw[<-QC.ae];exact HP.s1);have eE:ah (nI x (D.set r G)):=afq zG IR (by rw[<-QC.ae];exact HP.s2);have g7:ah (nI x (D.set r (Lr.map fun z=>(z.1,z.2*(m:Int))))):=(by rw[ah,QC.ae];exact ap0 HD IR Om Om)
    clear hcut YY I7 hex p_ lw;have Gv:=af (PM E.yH aN E.ord zG rfl E.d0 h5 h3 Cw zI JH Gg.1 (HT.ext HEX));obtain⟨s0,s1,s2,s3⟩:=E.bs.four;have t0:=E.bo.aD 0;go_wp2_with fail
    refine Gv.mono ?_;rintro e y0 ⟨P0,p0,G0,rfl,B,s,b⟩;have Q:=af (E.ext b);have ajq:=af (bX H6 zI b);have aji:=af (HEX.trans b);have bh:=af b;have HG0:=af B;have CY:=af s;clear s0 s1 s2 s3 t0 B s b;go_upto_region 22 with fail
    have Gv:=af (PM Q.yH aN Q.ord nH (lY) Q.d1 h5 h3 Cw ajq JH Gg.1 (HT.ext aji));obtain⟨s0,s1,s2,s3⟩:=Q.bs.four;have t0:=Q.bo.aD 0;go_wp2_with fail
    refine Gv.mono ?_;rintro e y1 ⟨P1,p1,G1,rfl,B,s,b⟩;have O:=af (Q.ext b);have ajp:=af (bX H6 ajq b);have ajh:=af (aji.trans b);have bW:=af b;have Dk:=af B;have jT:=af s;clear s0 s1 s2 s3 t0 B s b;go_upto_region 23 with fail
    have Gv:=af (PM O.yH aN O.ord eE (lY) O.d2 h5 h3 Cw ajp JH Gg.1 (HT.ext ajh));obtain⟨s0,s1,s2,s3⟩:=O.bs.four;have t0:=O.bo.aD 0;go_wp2_with fail
    refine Gv.mono ?_;rintro e y2 ⟨P2,p2,G2,rfl,B,s,b⟩;have N:=af (O.ext b);have ajo:=af (bX H6 ajp b);have ajg:=af (ajh.trans b);have aY:=af b;have Nw:=af B;have f4:=af s;clear s0 s1 s2 s3 t0 B s b;go_upto_region 24 with fail
    have Gv:=af (PM N.yH aN N.ord g7 (lY) N.d3 h5 h3 Cw ajo JH Gg.1 (HT.ext ajg));obtain⟨s0,s1,s2,s3⟩:=N.bs.four;have t0:=N.bo.aD 0;go_wp2_with fail
    refine Gv.mono ?_;rintro e y3 ⟨P3,p3,G3,rfl,B,s,b⟩;have ayY:=af (N.ext b);have aw0:=af (bX H6 ajo b);have ajf:=af (ajg.trans b);have C:=af b;have HG3:=af B;have gK:=af s;clear s0 s1 s2 s3 t0 B s b;go_upto_region 25 with fail
    have Df:ah (aiW l m G0 G1 G2 G3):=anI aN h5 h3 Cw JH Gg.1 zG nH eE YM IR QC HP CY jT f4 gK;have Y4:l.length<=3:=JH.al;have Nf:=af (bX x8 HG0 (bW.trans (aY.trans C)));have HQ1:=af (bX x8 Dk (aY.trans C));have C7:=af (bX x8 Nw C);have F6:=af HG3.ae;obtain⟨ga,oa,Ea,na,rfl,J,zJ,qa⟩:=Ei Nf (i:=0) Ou;obtain⟨gb,ob,Eb,nb,rfl,hgb,qy,qb⟩:=Ei HQ1 (i:=0) Ou;obtain⟨gc,oc,Ec,nc,rfl,Rp,Gs,qc⟩:=Ei C7 (i:=0) Ou;obtain⟨gd,od,Ed,nd,rfl,hgd,HA3,qd⟩:=Ei F6 (i:=0) Ou;obtain⟨gl,ol,dl,el,j8,⟨Af,cf,Al,cl,rfl, -,d_⟩,ql⟩:=qR GC.two Od aw0 (i:=0) Ou;obtain rfl:=Df.m3;have HK:=af Df.f0;have n0:=Df.n0;have n1:=Df.n1;have n2:=Df.n2;injection el with el;injection el with el eo;subst el eo;have ql:=ql 1 _ rfl;simp only[N_,jK,jc,Kc,cy] at zJ qy Gs HA3 d_ qa qb qc qd ql;go_quiet (fail);go_upto_region 29 with fail
    go_loopw [26,223] (fun v26 WM wr=>∃(j:Nat) (lk:List Int),j<=l.length/\WM=av j/\ah (lk=ints (List.range j))/\ah (bH aU 1 dr y3.heap.size wr v26 lk)/\ah (Ext y3 wr)) (fun _ WM _=>l.length - (RowKit.intOf WM).toNat)
    exact⟨0,[],aT _,rfl,rfl,f_,(aC _).drewN _⟩;obtain⟨j,lk,hj,rfl,sM,HO,L⟩:=hrel;obtain⟨Ak,ck,xk,rfl, -, -,M8,NE⟩:=HO.parts;by_cases dX:j<l.length
    ·have cK:(lk.length+1)*8<=140737488355328:=by rw[sM.ae,kI,gN];omega
     have hw:=L.size;go_wp2_with (at_builtin;refine gG rfl _ _ cO rfl y3.heap.size jy _ _ _ rfl M8.ae #[av (j:Int)] 1 1 rfl rfl rfl cK hw ?_);intro v' w' ho hg _;have C9:=af (iN (R:=dr) (x:=(j:Int)) cI Oy9 M8 NE rfl ho hg);have HX':=af (L.Ws M8 hg);have awq:ah (lk++ [(j:Int)]=ints (List.range (j+1))):=by rw[ah,GQ,Ku,sM.ae]
     clear ho hg cK hw;go_wp2_with fail;go_roundw;exact⟨j+1,lk++ [(j:Int)],by omega,by go_num,awq,C9,HX'⟩;simp [RowKit.intOf];omega
    ·have d1:decide ((j:Int)<(l.length:Int))=false:=aW;have yT:j=l.length:=Om;have hlk:lk.length=l.length:=by rw[sM.ae,kI,gN,yT]
     rw[yT] at sM;have Sp:=af HO.ls;rw[hlk,sM.ae] at Sp;rw[hlk];clear hlk yT;go_upto_region 33 with fail
     obtain⟨GG,zD⟩:∃GG,ah (GG=G1++G2):=⟨_,rfl⟩;have hGG:GG.length<=128:=by rw[zD.ae,bC];omega
     have HMG:ah (kM GG=G0):=by rw[zD.ae];exact Df.m1
     have CC:ah (∀{A:aS} {c:Nat} {W:au},uu W (.slice A GG.length c) GG->IL W (.slice Ak l.length ck) (ints (List.range l.length))->Calls prog 13 #[.slice A GG.length c,.slice Ak l.length ck] W fun e w'=>∃v,e= .returned (.tuple #[v,av 0])/\uu w' v G0/\Ext W w'):=fun hL hK=>by rw[<-HMG.ae];exact ajY (e0:=41) hL hK Y4 (by rw[zD.ae];exact Df.v) Om Om Od (by rw[zD.ae];exact Df.f) (by rw[HMG.ae];exact fun y hy=>(HK y hy).mono Od)
     obtain⟨S,dw⟩:∃S:World->Prop,S=fun w'=>Ext y3 w':=⟨_,rfl⟩;have bL:ah (∀w',S w'->ay w' gb ob (.slice Eb G1.length nb)/\ay w' gc oc (.slice Ec G2.length nc)):=by rw[dw];exact fun w' h=>⟨(h.cell (p:=aB gb ob) hgb).trans qb,(h.cell (p:=aB gc oc) Rp).trans qc⟩
     have bU:ah (∀w',Ext y3 w'->S w'):=azh;clear dw;have nX:=af L.drew;have HKd:ah (IL wr.drew (.slice Ak l.length ck) (ints (List.range l.length))):=iP Sp (aC wr).drew;have aH:ah (S wr.drew):=bU _ nX;refine b9 (S:=S) (T:=fun _=>false) Ok ?_;generalize wr.drew=wd at*;refine ax 0 232 ?_;refine ax 1 233 ?_;refine ax 2 234 ?_;refine ax 4 236 ?_;refine ax 5 237 ?_;refine ax 6 238 ?_;refine ax 8 240 ?_;refine aL 3 ?_;intro K hK;refine mr rfl ?_;refine aew _ _ rfl (base:=wd.heap.size) rfl f_ rfl (bX kj qy nX) (by simp only[vU];omega) (aK _) ?_;intro vA wA IV I4;rw[vR] at IV;obtain⟨Ae,ce,yA,rfl, -, -,lV,Gq⟩:=IV.parts;have R4:ah (Ext wd wA):=AK I4;have R8:=af (nX.trans R4);have Dh:=af (iP HKd R4);simp only[Act.put,dN,dB,dO];refine hK.ae _ _ (fun _=>bU _ R8) ?_;clear hK IV I4;refine aL 7 ?_;intro K hK;refine mr rfl ?_;refine aew _ _ rfl (base:=wd.heap.size) rfl (AZ lV Gq) rfl (bX kj Gs R8) Om R4.size ?_;intro vB wB' Q_ Zc;rw[<-zD.ae] at Q_;obtain⟨Ag',cg',yB,rfl, -, -,CU,oq⟩:=Q_.parts;have HGB:=af Q_.ls;have HxB:=af (R4.Ws lV Zc);have Gc:ah (IL wB' (.slice Ak l.length ck) (ints (List.range l.length))):=fN cI Dh fun u d=>by rw[bG.1 d];exact jW lV Zc Od
     have Cv:=af (nX.trans HxB);simp only[Act.put,dN,dB,dO];refine hK.ae _ _ (fun _=>bU _ Cv) ?_;clear hK Q_ Zc;refine aL 9 ?_;intro K hK;go_simp;refine(CC HGB Gc).mono ?_;rintro e wC ⟨v,rfl,hv,hxC⟩;obtain⟨Ah,ch,rfl, -, -,HV⟩:=hv.parts;have R7:=af (Cv.trans hxC);have aH:=af (bU _ R7);refine hK.ae _ _ (fun _=>aH.ae) ?_;clear hK hv hxC;refine ax 10 231 ?_;refine ax 11 242 ?_;refine ax 12 243 ?_;refine aL 13 ?_;intro K hK;go_simp;refine hK.ae _ _ (fun _=>aH.ae) ?_;clear hK;refine aL 14 ?_;intro K hK;go_simp;refine hK.ae _ _ (fun _=>aH.ae) ?_;clear hK;refine bY Ok ?_;clear hGG qb qc;have Yj:ay wC ga oa (.slice Ea G0.length na):=(R7.cell (p:=aB ga oa) J).trans qa;go_wp2_with fail
     refine(abd HV (bX kj zJ R7)).mono ?_;rintro e wE ⟨rfl,hq⟩;have HXE:=af (R7.trans (Qh hq));clear hq Yj;have Yj:ay wE ga oa (.slice Ea G0.length na):=(HXE.cell (p:=aB ga oa) J).trans qa;go_upto_region 37 with fail
     obtain⟨tm,HTM⟩:∃tm,ah (tm=cL ((m:Int):Rat)):=⟨_,rfl⟩;have CW:ah (∀W,Calls prog 16 #[av (m:Int)] W fun e w'=>e= .returned (aO tm)/\Ext W w'):=fun W=>by rw[HTM.ae];exact ak' (m:Int) W Om Om
     have FM:ah (bS 2 ((m:Int):Rat)):=⟨by rw[akM];omega,by rw[akN];decide⟩;go_loopw [258] (fun WL wr=>∃j:Nat,j<=G0.length/\WL=av j/\ah (Ext y3 wr)) (fun WL _=>G0.length - (RowKit.intOf WL).toNat);exact⟨0,aT _,rfl,HXE⟩;clear Yj d1;obtain⟨j,hj,rfl,L⟩:=hrel;by_cases jR:j<G0.length
     ·have HKj:=af (HK _ (aZ jR));have qd':∀W,Ext wr W->ay W gd od (.slice Ed G0.length nd):=fun W hW=>((L.trans hW).cell (p:=aB gd od) hgd).trans qd;have HQD:=af qd';clear qd';obtain⟨gy,oy,By,dy,rfl,Rn,u1,u2,nZ⟩:=Es (bX kj zJ L) jR;obtain⟨gz,oz,Bz,dz,rfl,Mn,t1,t2,HTz⟩:=Es (bX kj HA3 L) (i:=j) (by rw[cy];exact jR);simp only[DK] at t1 t2 HTz;generalize G0[j]=y at*;have HTX:ah (∀W,Ext wr W->∀n,Calls prog 17 #[.slice Bz y.1.length dz,.slice By y.1.length dy] (W.drewN n) fun e w'=>e= .returned (.bool true)/\∃m,w'=W.drewN m):=fun W hW n=>by refine(Kf _ _ _ _ _ _ y.1 y.1 _ (cQ HTz (hW.drewN n)) (cQ nZ (hW.drewN n))).mono ?_;rintro e w' ⟨h1,k,rfl⟩;exact⟨by rw[h1,beq_self_eq_true],_,wj _ _ _⟩
      obtain⟨ty,V⟩:∃ty,ah (ty=cL y.2):=⟨_,rfl⟩;obtain⟨tz,xz⟩:∃tz,ah (tz=cL (((m:Int):Rat)*y.2)):=⟨_,rfl⟩;rw[<-V.ae] at u2;rw[<-xz.ae] at t2;have HZC:ah (∀W,Ext wr W->ay W gz (oz+j*2) (.slice Bz y.1.length dz)/\ay W gz (oz+j*2+1) (aO tz)):=fun W hW=>⟨(hW.cell (p:=aB gz (oz+j*2)) Mn).trans t1,(hW.cell (p:=aB gz (oz+j*2+1)) Mn).trans t2⟩;have CM:ah (∀W,Calls prog 15 #[aO ty,aO tm] W fun e w'=>e= .returned (.tuple #[aO tz,av 0])/\Ext W w'):=fun W=>by rw[V.ae,HTM.ae,xz.ae,Rat.mul_comm];exact amZ y.2 _ W (HKj.mono Od) (FM.mono Od) ((HKj.mul FM).mono Od)
      clear t1 t2 Mn;go_upto_region 39 with fail
      refine aP fun W5 en BY=> ?_;have hyb:=BY.lt;generalize wr.heap.size=yb at*;clear u1 u2 Rn;obtain⟨S,dw⟩:∃S:World->Prop,S=fun w'=>Ext W5 w':=⟨_,rfl⟩;have bL:ah (∀w',S w'->ay w' yb 0 (.slice By y.1.length dy)/\ay w' yb 1 (aO ty)):=by rw[dw];exact fun w' h=>(BY.ext h).two
      have bU:ah (∀w',Ext W5 w'->S w'):=azh;clear dw;have nX:ah (Ext W5 W5.drew):=(aC W5).drew;have aH:ah (S W5.drew):=bU _ nX;refine b9 (S:=S) (T:=fun _=>false) Ok ?_;generalize W5.drew=wd at*;refine ax 0 264 ?_;refine ax 1 265 ?_;refine ax 2 266 ?_;refine aL 3 ?_;intro K hK;go_simp;refine(CW wd).mono ?_;rintro e we ⟨rfl,L5⟩;have vz:=af (nX.trans L5);refine hK.ae _ _ (fun _=>bU _ vz) ?_;clear hK L5;refine aL 4 ?_;intro K hK;go_simp;refine(CM we).mono ?_;rintro e wf ⟨rfl,hxf⟩;have jG:=af (vz.trans hxf);have aH:=af (bU _ jG);refine hK.ae _ _ (fun _=>aH.ae) ?_;clear hK hxf;refine ax 5 263 ?_;refine ax 6 269 ?_;refine ax 7 270 ?_;refine aL 8 ?_;intro K hK;go_simp;refine hK.ae _ _ (fun _=>aH.ae) ?_;clear hK;refine aL 9 ?_;intro K hK;go_simp;refine hK.ae _ _ (fun _=>aH.ae) ?_;clear hK;refine bY Ok ?_;have cY:=af (en.trans jG);obtain⟨y0c,y1c⟩:=(BY.ext jG).two;obtain⟨z0c,z1c⟩:=HZC wf cY;have dc:=HQD wf cY;have avX:=af (HTX wf cY);have kV:=af (L.trans cY);have d2:(tz.toArray==tz.toArray)=true:=beq_self_eq_true _;clear BY hyb;go_upto_region 40 with fail
      go_quiet ((go_at_call 17;exact avX _));go_wp2_with fail;go_roundw;exact⟨j+1,by omega,by go_num,kV.drewN _⟩;simp [RowKit.intOf];omega
     ·have d1:decide ((j:Int)<(G0.length:Int))=false:=aW;go_wp2_with fail;refine(Jr wr (HT.ext (ajf.trans L))).mono ?_;rintro e wz ⟨rfl,nQ⟩;have HXz:=af ((ajf.trans L).trans nQ);clear nQ;go_wp2_with fail
      exact bodyPost_ret (v:= .bool true) (by simp [results,results3,go_sem]) rfl ⟨rfl,HXz⟩
 ·have hd:decide ((zs.length:Int)>400)=true:=fF;go_wp2_with fail;refine(Jr w HT).mono ?_;rintro e w1 ⟨rfl,hx1⟩;go_wp2_with fail;exact bodyPost_ret (v:= .bool true) (by simp [results,results3,go_sem]) rfl ⟨rfl,hx1⟩
def sx:aQ:=⟨[([97],2)],[([114],[0])],[], -1⟩
def sD:List (List Rw):= [[([[49,47,50]],3),([[50]],1)]]
def Lh:cF sx:=by
 have e:∀c:UInt8,H8 c->qW [c]:=fun c h=>⟨by simp,by simp,fun d i=>by
  injection i with i;subst i;exact h,fun d i=>by
  rw[bG.1 i];exact .inl h⟩
 refine⟨by decide,by decide,by decide,by decide,by decide,?_,by simp [sx],?_,?_,by simp [sx],?_,?_,?_,?_,?_,by simp [sx],?_,by decide,?_⟩
 ·intro a b;rw[bG.1 b];exact e 97 Od
 ·intro a b;rw[bG.1 b];decide
 ·intro a b;rw[bG.1 b];exact e 114 Od
 ·intro r g;rw[bG.1 g];decide
 ·intro r g a b;rw[bG.1 g] at b;rw[bG.1 b];decide
 ·intro r g;rw[bG.1 g];decide
 ·intro a b;have k:a=0:=by have:a<1:=b;omega
  subst k;exact⟨_,bG.2 rfl,by decide⟩
 ·intro f j;cases j
 ·intro f j;cases j
 ·intro h;exact absurd h Od
def E2: [49,47,50]=cL (1/2:Rat):=aa2.symm
def afG:jD sx sD:=by
 refine⟨rfl,fun k t r e f=> ?_⟩;rcases k with _|k
 ·injection e with e;injection f with f;subst e f;have h:∀t:aF,(∃q:Rat,t=cL q/\mG q)->pJ sx [0] [t]:=fun t j=>⟨rfl,fun i a u g d=>by
   rcases i with _|i
   ·injection g with g;injection d with d;subst g d;exact .inr (.inr (.inr ⟨rfl,j⟩))
   ·simp at d⟩
  refine⟨by decide,?_,?_,?_⟩
  ·intro y c;simp only[aI,bF,or_false] at c;rcases c with rfl|rfl
   ·exact h _ ⟨1/2,E2,by unfold mG ib;decide +kernel⟩
   ·exact h _ ⟨2,WN.symm,by unfold mG ib;decide +kernel⟩
  ·intro y c;simp only[aI,bF,or_false] at c;rcases c with rfl|rfl<;>decide
  ·refine jI.2 ⟨fun y c=> ?_,JW _ _⟩;rw[bG.1 c];decide +kernel
 ·simp [sD] at e
def af8:nI sx sD:=⟨afG,fun l a=>by rw[bG.1 a];decide⟩
def afo{f:Fo}(h:f.vars= []):f= .nil:=by
 cases f with
 |nil=>rfl
 |cons v a b n=>simp [Fo.vars] at h
def aoH{f:Fo}(w:Whole sx.aq.length (bJ sx) (bV sx) f):f= .cons 0 [0] .nil .nil:=by
 have c:f.vars= [0]:=by
  have a:=xU w.vd (sV (n:=1)) fun v=>by rw[w.vm,dP];rfl
  exact List.perm_singleton.1 a
 have d:f.homes= [0]:=(by have a:=xU w.hd (sV (n:=1)) w.hm;exact List.perm_singleton.1 a);cases f with
 |nil=>cases c
 |cons v h b n=>simp only[Fo.vars,Ov,List.append_eq_nil_iff] at c;obtain⟨rfl,g,e⟩:=c;obtain rfl:=afo g;obtain rfl:=afo e;simp only[Fo.homes,kG] at d;rw[d]
def afe:univ (aX sx sD)= [[],[49,47,50],[50]]:=by decide +kernel
def afE(e:List Fu):jQ sx sD (.cons 0 [0] .nil .nil) (e,[]) []=gS 0 (fun f=>np f [49,47,50]) e*3+gS 0 (fun f=>np f [50]) e:=by
 unfold jQ;rw[afe];have i:oT (bJ sx) (bR (aX sx sD)) 0 (put (fun _=> []) 0 [])=0:=by unfold oT dS;rw[show lL (bJ sx 0) (bR (aX sx sD) 0) (put (fun _=> []) 0 [])=none by decide +kernel];rfl
 have h:oT (bJ sx) (bR (aX sx sD)) 0 (put (fun _=> []) 0 [49,47,50])=3:=(by unfold oT dS;rw[show lL (bJ sx 0) (bR (aX sx sD) 0) (put (fun _=> []) 0 [49,47,50])=some ([[49,47,50]],3) by decide +kernel];rfl);have g:oT (bJ sx) (bR (aX sx sD)) 0 (put (fun _=> []) 0 [50])=1:=(by unfold oT dS;rw[show lL (bJ sx 0) (bR (aX sx sD) 0) (put (fun _=> []) 0 [50])=some ([[50]],1) by decide +kernel];rfl);simp only[oU,Fo.val,SR.sum,SR.prod,List.foldr,dt,eO,if_true];simp only[gm];rw[i,h,g];generalize gS 0 (fun f=>np f [49,47,50]) e=a;generalize gS 0 (fun f=>np f [50]) e=b;generalize gS 0 (fun f=>np f []) e=c;grind
def arK:pR [49,47,50]=1/2:=by have h:=VT (t:= [49,47,50]) ⟨1/2,by unfold mG ib;decide +kernel,E2⟩;exact(abe (E2.symm.trans h)).symm
def ash:pR [50]=2:=by have h:=VT (t:= [50]) ⟨2,by unfold mG ib;decide +kernel,WN.symm⟩;exact(abe (WN.trans h)).symm
def arI:jQ sx sD (.cons 0 [0] .nil .nil) ([],[]) []=4:=by rw[afE,acH,acH];decide +kernel
def arH:jQ sx sD (.cons 0 [0] .nil .nil) ([(0,2,[])],[]) []=19/4:=by rw[afE,Pf,Pf,if_pos rfl,if_pos rfl];unfold np;rw[if_neg Od,if_pos rfl,if_neg Od,if_pos rfl,arK,ash];decide +kernel
def arD:cL (19/4:Rat)= [49,57,47,52]:=by rw[qH (by decide +kernel),show(19/4:Rat).num=((19:Nat):Int) by decide +kernel,show(19/4:Rat).den=4 by decide +kernel,rS,Ep Od,l_ Od,l_ Od];rfl
def asi:j6 sx sD fun _=>none:=by
 refine⟨fun _=> [50],fun v d=>⟨?_,rfl⟩,fun h b=> ?_⟩
 ·rw[afe];show([50]:aF)∈_;decide
 ·have c:h=0:=by have:=dP.1 b;have:h<1:=this;omega
  subst c;decide +kernel
def afF{b:Fo}{a:List Fu}{G:List Gp}(w:Whole sx.aq.length (bJ sx) (bV sx) b)(h:lN sx sD (jQ sx sD b) (a,[]) G):G= [([],jQ sx sD (.cons 0 [0] .nil .nil) (a,[]) [])]:=by rw[h.1 asi,aoH w];rfl
def asr:pP sx [] []:=⟨by decide,by decide,Oy9,Oy9,rfl⟩
def asq:pP sx [(0,2,[])] []:=⟨by decide,by decide,(fun f h=>by rw[bG.1 h];exact⟨by decide,.inr (.inl ⟨rfl,by decide,rfl⟩)⟩),Oy9,rfl⟩
def asl:Qk sx (fun _=>none) fun _=>0:=by
 refine⟨?_,fun r f a d b e c=> ?_⟩
 ·exact⟨fun a d=>DC (aT a) d,fun a _ _=>rfl,fun a b _ h=>by cases h⟩
 ·rw[bG.1 f] at d e;rw[bG.1 d,bG.1 e] at c;exact absurd rfl c
def Qv(h:ar m a w [p,q,r]):ay m a 0 p/\ay m a 1 q/\ay m a 2 r:=⟨h.cell rfl,h.cell rfl,h.cell rfl⟩
def aof(v:Value)(x:aQ)(f:Fu)(t:aF)(z:Rat)(w:au)(h:dK w v x)(q:cF x)(hf:oQ x f)(ht:eL (kd x f.1) t)(hz:zK f.2.1 t f.2.2 z)(hq:bS 400 z)(C:eR w):
 Calls prog 23 #[v,.agg #[av (f.1:Int),av (f.2.1:Int),aO f.2.2],aO t] w fun e a=>e= .returned (.tuple #[aO (cL z),av 0])/\Ext w a:=by
 have aN:=af q;have CK:=af h;have HZ:=af hz;have HQ:=af hq;have HT:=af C;have i:=hf.1;have avB:=q.a12;have C2:=af (fun(W:au) (hX:Ext w W)=>acd v x f W (h.ext hX) q hf);have C1:=af (fun(W:au) (hX:Ext w W)=>KA v x W (h.ext hX) q);have hk:=q.ak _ (aZ i);obtain⟨k,fk,ft⟩:=f;simp only at*;have ek:kd x (k:Int)=(x.aq[k]).2:=(by unfold kd;rw[kF,aV i];rfl)
 have CV:=af (fun W=>Vb (x.aq[k]).1 t (x.aq[k]).2 W hk (by rw[<-ek];exact ht));obtain⟨A,c,B,d,D,e,rfl,F,lx,Fr⟩:=h;obtain⟨-,hcA,hmA⟩:=bE F;have HA:=af F;have E:x.aq.length<=maxLen:=ay';have CE:=af (fun W=>ab6 A B D x.aq.length c x.aA.length d x.bk.length e k x.label i E W);have CF:=af (fun W=>aeZ HZ W);go_enter func23,ntmps23;go_upto_region 1 with fail
 refine fX fun W HX BS BF=> ?_;have E_:=BS.lt;have Mq:=BF.lt;generalize w.heap.size=sb at*;generalize sb+1=H at*;obtain⟨s0,Z,Y,X⟩:=BS.four;go_wp2_with fail
 refine(C1 W HX).mono ?_;rintro e1 w1 ⟨rfl,n⟩;have bW:=af (HX.trans n);have N:=af (BS.ext n);have V:=af (BF.ext n);obtain⟨s0,Z,Y,X⟩:=N.four;obtain⟨f0,f1,f2⟩:=(Qv V);go_wp2_with fail
 refine(CE w1).mono ?_;rintro e2 w2 ⟨rfl,m⟩;have L:=af (bW.trans m);have M:=af (N.ext m);have U:=af (V.ext m);obtain⟨s0,Z,Y,X⟩:=M.four;obtain⟨f0,f1,f2⟩:=(Qv U);go_wp2_with fail
 refine(C2 w2 L).mono ?_;rintro e3 w3 ⟨rfl,l⟩;have J:=af (L.trans l);have BS3:=af (M.ext l);have R:=af (U.ext l);obtain⟨s0,Z,Y,X⟩:=BS3.four;obtain⟨f0,f1,f2⟩:=(Qv R);obtain⟨g,o,rfl,hg,a0,a1⟩:=oL (bX mS HA J) i;generalize x.aq[k]=at_ at*;obtain⟨nm,kn⟩:=at_;simp only at a0 a1 CV;go_wp2_with fail
 refine(CV w3).mono ?_;rintro e4 w4 ⟨rfl,y⟩;have dU:=af (J.trans y);have BF4:=af (R.ext y);go_upto_region 7 with fail
 obtain⟨S,G⟩:∃S:World->Prop,S=fun a=>ar a H jf [av (k:Int),av (fk:Int),aO ft]:=⟨_,rfl⟩;have bL:ah (∀a,S a->ay a H 0 (av (k:Int))/\ay a H 1 (av (fk:Int))/\ay a H 2 (aO ft)):=by rw[G];exact fun a h=>Qv h
 have b:ah (∀a,ar a H jf [av (k:Int),av (fk:Int),aO ft]->S a):=by rw[G];exact fun a h=>h
 have O:=af BF4.drew;have aH:ah (S w4.drew):=b _ O;have nX:=af dU.drew;refine b9 (S:=S) (T:=fun _=>false) Ok ?_;generalize w4.drew=wd at*;refine ax 0 36 ?_;refine ax 1 37 ?_;refine ax 3 39 ?_;refine ax 4 40 ?_;refine ax 5 41 ?_;refine aL 2 ?_;intro K j;go_simp;refine(CF wd).mono ?_;rintro e5 w5 ⟨fid,avG,rfl,Mm,HC,u⟩;have hif:=Mm.ae;have en:=af (nX.trans u);have Q:=af (O.ext u);have C4:=af (HC w5 (aC w5));refine j.ae _ _ (fun _=>b _ Q) ?_;refine aL 6 ?_;intro K j;go_simp;refine C4.mono ?_;rintro e6 w6 ⟨u6,rfl,hu6,s⟩;have I:=af (en.trans s);have P:=af (Q.ext s);have CR:=af (aeh u6 z w6 hu6 HQ Od (HT.ext I));refine j.ae _ _ (fun _=>b _ P) ?_;refine aL 7 ?_;intro K j;go_simp;refine CR.mono ?_;rintro e7 w7 ⟨rfl,r⟩;have iy:=af (I.trans r);have p:=af (P.ext r);refine j.ae _ _ (fun _=>b _ p) ?_;refine aL 8 ?_;intro K j;go_simp;refine j.ae _ _ (fun _=>b _ p) ?_;refine aL 9 ?_;intro K j;go_simp;refine j.ae _ _ (fun _=>b _ p) ?_;refine bY Ok ?_;go_wp2_with fail
 exact bodyPost_ret (v:= .tuple #[aO (cL z),av 0]) (by simp [results,results23,go_sem]) rfl ⟨rfl,iy⟩
def afS{P:World->Prop}{t1 t2 t3 t4:TypeId}{a:List Value}(h:∀W,ah (Ext m W)->ah (ar W m.heap.size t1 t)->ah (ar W (m.heap.size+1) t2 u)->ah (ar W (m.heap.size+1+1) t3 v)->ah (ar W (m.heap.size+1+1+1) t4 a)->P W):
 P ((((m.alloc (.cells t.toArray t1)).alloc (.cells u.toArray t2)).alloc (.cells v.toArray t3)).alloc (.cells a.toArray t4)):=by
 exact h _ (((((aC m).alloc _).alloc _).alloc _).alloc _) ((((kq m t1 t).alloc _).alloc _).alloc _) (((mm (m.alloc _) t2 u _ Ou).alloc _).alloc _) ((mm ((m.alloc _).alloc _) t3 v _ Ou).alloc _) (mm (((m.alloc _).alloc _).alloc _) t4 a _ Ou)
def asm:oQ sx (0,4,[49]):=⟨by decide,.inr (.inr (.inr (.inl ⟨rfl,by decide,by decide,.inr (.inr (.inr ⟨rfl,1,WO.symm,by unfold mG ib;decide +kernel⟩))⟩)))⟩
def asn:zK 4 [49,47,50] [49] 1:= .inr (.inr (.inr (.inl ⟨rfl,1/2,1,.inr ⟨by decide,E2,399,by decide,Vd (by decide +kernel)⟩,.inr ⟨by decide,WO.symm,399,by decide,Vd (by decide +kernel)⟩,by rw[if_pos ⟨by decide,by decide +kernel⟩]⟩)))
def aqt(v:Value)(W:au)(h:dK W v sx)(d:eR W):Calls prog 23 #[v,.agg #[av 0,av 4,.string ⟨#[49]⟩],.string ⟨#[49,47,50]⟩] W fun e c=>e= .returned (.tuple #[.string ⟨#[49]⟩,av 0])/\Ext W c:=by have b:=aof v sx (0,4,[49]) [49,47,50] 1 W h Lh asm (.inr (.inr (.inr ⟨rfl,1/2,E2,by unfold mG ib;decide +kernel⟩))) asn (Vd (by decide +kernel)) d;rw[WO] at b;exact b
def asj(f:ar m a Bp [.string ⟨#[97]⟩,av 2])(e:ar m b aU [av 0])(d:ar m c tE [.string ⟨#[114]⟩,aG b 0 1 1]):
 dK m (.agg #[aG a 0 1 1,aG c 0 1 1,.slice none 0 0,av (-1)]) sx:=
 ⟨_,_,_,_,_,_,rfl,mf (l:= [(([97]:List UInt8),(2:Int))]) f ⟨_,[],rfl,rfl,rfl⟩ Ou,mf (l:= [(([114]:List UInt8),([0]:List Int))]) d ⟨_,[],rfl,⟨_,_,_,rfl,mf (l:= [(0:Int)]) e ⟨_,[],rfl,rfl,rfl⟩ Ou⟩,rfl⟩ Ou,Ls.nil⟩
def tl1{t:aF}(h:ar m a bI [aO t]):TL m (aG a 0 1 1) [t]:=mf (l:= [t]) h ⟨_,[],rfl,rfl,rfl⟩ Ou
def as3(h:ar m a bI [.string ⟨#[49,47,50]⟩])(g:ar m b bI [.string ⟨#[50]⟩])(f:ar m c dJ [aG a 0 1 1,av 3,aG b 0 1 1,av 1])(e:ar m d eG [aG c 0 2 2]):
 fS m (aG d 0 sD.length 1) sD:=
 mf (l:=sD) e ⟨_,[],rfl,⟨_,_,rfl,mf (l:= [(([[49,47,50]]:List aF),(3:Int)),([[50]],1)]) f ⟨[aG a 0 1 1,av 3],_,rfl,⟨_,_,rfl,tl1 h⟩,[aG b 0 1 1,av 1],[],rfl,⟨_,_,rfl,tl1 g⟩,rfl⟩ Ou⟩,rfl⟩ (by simp [sD])
abbrev IB:List Ag:= [([],[]),([(0,2,[])],[])]
def asp(d:ar m a jf [av 0,av 2,.string ⟨#[]⟩])(c:ar m b Qo [.slice none 0 0,.slice none 0 0,aG a 0 1 1,.slice none 0 0]):
 qC m (aG b 0 IB.length 2) IB:=
 mf (l:=IB) c ⟨[.slice none 0 0,.slice none 0 0],_,rfl,⟨none,0,none,0,rfl,Ls.nil,Ls.nil⟩,[aG a 0 1 1,.slice none 0 0],[],rfl,⟨cT a 0,1,none,0,rfl,mf (l:= [((0,2,[]):Fu)]) d ⟨_,[],rfl,rfl,rfl⟩ Ou,Ls.nil⟩,rfl⟩ Ou
def arJ(B:ar m a aU [av (-1)]):qY m (.agg #[aG a 0 1 1]) sx:=
 ⟨_,1,fun _=>none,fun _=>0,rfl,mf (l:= [(-1:Int)]) B ⟨_,[],rfl,rfl,rfl⟩ Ou,asl⟩
abbrev Yh:List (List Gp):= [[([],4)],[([],19/4)]]
def as2(f:ar m a eT [.slice none 0 0,.string ⟨#[52]⟩])(e:ar m b eT [.slice none 0 0,.string ⟨#[49,57,47,52]⟩])(d:ar m c lh [aG a 0 1 1,aG b 0 1 1]):
 JI m (aG c 0 2 2) Yh:=
 mf (l:=Yh) d ⟨[aG a 0 1 1],_,rfl,⟨_,_,rfl,mf (l:= [(([],4):Gp)]) f ⟨_,[],rfl,⟨none,0,by rw[asW],Ls.nil⟩,rfl⟩ Ou⟩,[aG b 0 1 1],[],rfl,⟨_,_,rfl,mf (l:= [(([],19/4):Gp)]) e ⟨_,[],rfl,⟨none,0,by rw[arD],Ls.nil⟩,rfl⟩ Ou⟩,rfl⟩ Ou
def aso(v o:Value)(i j:aS)(W:au)(h:dK W v sx)(s:qY W o sx)(x:fS W (.slice i sD.length 1) sD)(w:qC W (.slice j IB.length 2) IB)(r:eR W):
 Calls prog 12 #[v,o,.slice i 1 1,.slice j 2 2] W fun e b=>∃A c,e= .returned (.tuple #[.slice A 2 c,av 0])/\JI b (.slice A 2 c) Yh/\Ext W b:=by
 obtain⟨B,a⟩:=ab4 sx Lh;refine(ae8 (zq:=np) (DD:=sP) (MM:=vy) v o sx sD i j 1 2 IB (jQ sx sD B) W h Lh s afG x Od Od Od Od a w Od (fun y k=>by
  simp only[aI,bF,or_false] at k;rcases k with rfl|rfl
  ·exact Wp Lh Od Od af8 a asr Od
  ·exact Wp Lh Od Od af8 a asq Od) r).mono ?_
 rintro e b ⟨u,m,rfl,q,d,l,p⟩;obtain⟨G,H,rfl⟩:∃G H,m= [G,H]:=by
  rcases m with _|⟨G,_|⟨H,_|⟨I,t⟩⟩⟩
  ·simp at d
  ·simp at d
  ·exact⟨G,H,rfl⟩
  ·simp at d
 have g:=afF a (l 0 Ou Ou);have f:=afF a (l 1 Ou Ou);simp only[N_,List.getElem_cons_succ] at g f;rw[arI] at g;rw[arH] at f;subst g f;obtain⟨A,c,n,rfl,z⟩:=q;exact⟨A,c,rfl,⟨A,c,n,rfl,z⟩,p⟩
def aoG(w:au)(C:eR w):Calls prog 5 #[] w fun e u=>e= .returned (.bool true)/\Ext w u:=by
 have r:=af C;go_enter func5,ntmps5;go_upto_region 2 with fail
 refine afS fun W N B0 B1 B2 s=> ?_;have O:=af (asj B0 B1 B2);have F:=s.lt;generalize w.heap.size=I at*;generalize I+1=H at*;generalize H+1=G at*;generalize G+1=b3 at*;go_upto_region 3 with fail
 refine afS fun W2 d Z Y X V=> ?_;have R:=af (as3 Z Y X V);have d9:=af (O.ext d);have k:=af (s.ext d);have l:=af (N.trans d);generalize W.heap.size+1+1+1=d3 at*;obtain⟨B,z,y,x⟩:=k.four;go_wp2_with fail
 refine sf (P:=fun W=>Calls _ _ _ W _) fun J a M L K=> ?_;have h:=af (l.trans a);refine(aso _ _ _ _ J (d9.ext a) (arJ M) (bX mU R a) (asp L K) (r.ext h)).mono ?_;rintro e t ⟨A,c,rfl,E,g⟩;have Q:=af E;have j:=af (h.trans g);have b:=a.trans g;have o:=af (d9.ext b);have q:=af (k.ext b);obtain⟨B,z,y,x⟩:=q.four;go_wp2_with fail
 refine(aqt _ t o (r.ext j)).mono ?_;rintro e w5 ⟨rfl,f⟩;have n:=af (j.trans f);have p:=af (bX x8 Q f);go_wp2_with fail
 refine sf (P:=fun W=>Calls _ _ _ W _) fun W6 i U T S=> ?_;refine(ajZ (bX x8 p i) (as2 U T S)).mono ?_;rintro e w7 ⟨rfl,D⟩;have m:=af ((n.trans i).trans (Qh D));go_wp2_with fail
 exact bodyPost_ret (v:= .bool true) (by simp [results,results5,go_sem]) rfl ⟨rfl,m⟩
end Go.Proofs.YthfffpcmldipgaaGreatDoor
