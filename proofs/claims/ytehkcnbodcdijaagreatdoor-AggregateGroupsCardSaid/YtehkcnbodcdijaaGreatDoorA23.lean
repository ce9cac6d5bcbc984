/- Texts of the proof, part 23. -/
import Derived.Test.YtehkcnbodcdijaaGreatDoorA22
namespace Go.Proofs.YtehkcnbodcdijaaGreatDoor
set_option maxHeartbeats 8000000
set_option linter.all false
set_option maxRecDepth 100000
variable{ar:Prop}
open Go.RowKit Go.Lib Go.Maps Go.ChangeShapes Go.WideShapes Go.ChangeAt Go.Proofs.Tryz
variable{a b c d e f g h:Nat}{i j k l:List Nat}{m n o:World}{p q r s:Value}{t u v:List Value}{w x:TypeId}{y z:Nat→Option Nat}{A:Nat→List Nat}{B C:Int}{E F:Option Addr}{H I:Rat}{J:Nat→Nat}{K:Nat→Bool}{L:List Int}{N:Array Bool}{O:Option Nat}{Q:Act}{R S:Bool}{T:List UInt8}
structure yO(adj:Nat->Nat->Prop)(rest:VS)(a n:Nat)(on:VS):Prop where
 sub:∀b,on b=true->b<n/\Reach adj rest a b
 self:on a=true
def QC(adj:Nat->Nat->Prop)(rest:VS)(n:Nat)(on:VS):Prop:=∀x y,x<n->y<n->on x=true->on y=false->rest y=true->¬adj x y
def yO.done{adj:Nat->Nat->Prop}{rest:VS}{n:Nat}{on:VS}(h:yO adj rest a n on)(l:QC adj rest n on)(g:∀b,rest b=true->b<n)(b:Nat):on b=true↔Reach adj rest a b:=by
 refine⟨fun d=>(h.sub b d).2,fun d=> ?_⟩;induction d with
 |refl=>exact h.self
 |step o k f e=>
  rename_i x y;cases c:on y with
  |true=>rfl
  |false=>exact absurd k (l x y (h.sub x e).1 (g y f) e c f)
def sj(n:Nat)(on:VS):Nat:=(List.range n).countP fun b=> !on b
def mB(on:VS)(j:Nat):VS:=fun b=>if b=j then true else on b
def an4{n j:Nat}{on:VS}(g:j<n)(h:on j=false):sj n (mB on j)<sj n on:=by
 have f:=RL (c:=fun b=> !on b) (a:=j) aya (dL.2 g);have e:VS.less (fun b=> !on b) (VS.one j)=fun b=> !mB on j b:=by
  funext b
  unfold VS.less VS.one mB;by_cases d:b=j
  ·subst d;simp
  ·rw[if_neg d,beq_eq_false_iff_ne.2 d];simp
 rw[e] at f;exact f
def UT:Value->Bool
 | .bool false=>true
 |_=>false
def JO(w:au)(g:Nat):Nat:=match w.heap[g]? with
 |some (.cells a _ _)=>a.toList.countP UT
 |_=>0
def ad'{n:Nat}{on:VS}(h:aq o a fV (fU n on)):JO o a=sj n on:=by
 unfold aq at h;unfold JO;rw[h];show(fU n on).countP UT=_
 unfold fU sj;rw[List.countP_map];congr 1;funext b;show UT (.bool (on b))=_
 cases on b<;>rfl
def bN:Value->Nat
 | .bool true=>1
 |_=>0
structure pJ(adj:Nat->Nat->Prop)(rest:VS)(n i j:Nat)(m:Bool)(qR on:VS):Prop where
 eq:m=false->on=qR/\∀x y,(x<i\/(x=i/\y<j))->x<n->y<n->qR x=true->qR y=false->rest y=true->¬adj x y
 lt:m=true->sj n on<sj n qR
 le:sj n on<=sj n qR
section
variable{adj:Nat->Nat->Prop}{rest:VS}{n i j:Nat}{m:Bool}{qR on:VS}
theorem pJ.start:pJ adj rest n 0 0 false on on:=⟨fun _=>⟨rfl,fun x y h=>by omega⟩,fun h=>(by cases h),aL _⟩
theorem pJ.skip(h:pJ adj rest n i j m qR on)(d:on i=true->on j=false->rest j=true->¬adj i j):pJ adj rest n i (j+1) m qR on:=⟨fun f=>by
 obtain⟨rfl,g⟩:=h.eq f;refine⟨rfl,fun x y b c a=> ?_⟩;by_cases e:x=i/\y=j
 ·obtain⟨rfl,rfl⟩:=e;exact d
 ·exact g x y Om c a,h.lt,h.le⟩
theorem pJ.put(h:pJ adj rest n i j m qR on)(c:j<n)(a:on j=false):pJ adj rest n i (j+1) true qR (mB on j):=by have:=an4 c a;have:=h.le;exact⟨fun b=>(by cases b),fun _=>by omega,by omega⟩
theorem pJ.row(h:pJ adj rest n i n m qR on):pJ adj rest n (i+1) 0 m qR on:=⟨fun d=>by obtain⟨rfl,e⟩:=h.eq d;exact⟨rfl,fun x y b c a=>e x y Om c a⟩,h.lt,h.le⟩
theorem pJ.all(h:pJ adj rest n n 0 false qR on):QC adj rest n on:=by obtain⟨rfl,c⟩:=h.eq rfl;exact fun x y a b=>c x y (.inl a) a b
theorem yO.put(h:yO adj rest a n on)(f:j<n)(g:on i=true)(d:rest j=true)(k:adj i j):yO adj rest a n (mB on j):=⟨fun b c=>by
 unfold mB at c;split at c
 ·rename_i e;subst e;exact⟨f,.step (h.sub i g).2 k d⟩
 ·exact h.sub b c,by
 unfold mB;split
 ·rfl
 ·exact h.self⟩
end
def aoU(v:Value)(x:aP)(n a K:Nat)(rest:VS)(w:au)(h:dP w v x)(hN:x.ai=n)(hn:n<=12)(S:a<n)(hr:∀b,rest b=true->b<n)(O:aq w K fV (fU n fun b=> !rest b)):
 Calls prog 218 #[v,aG K 0 n n,av a] w fun e w'=>∃g on,e= .returned (aG g 0 n n)/\aq w' g fV (fU n on)/\w.heap.size<=g/\(∀b,on b=true↔Reach (iY x.ay) rest a b)/\Ext w w':=by
 have CS:=af (fun W i j (hX:Ext w W)=>alC v x i j W (h.ext hX));obtain⟨A,c,B,d,D,e,rfl,hat,kQ,D7⟩:=h;have HR:=af hr;subst hN;generalize vQ:x.ai.length=n at*;have P:=IR n Om;have e0:List.replicate n (Value.bool false)=fU n fun _=>false:=(MO (n:=n) (v:= .bool false)).symm;rw[e0] at P;go_enter func218,ntmps218;go_upto_region 1 with fail
 refine aR fun W l BX=> ?_;have s0:=BX.aF 0;go_upto_region 2 with fail
 refine aR fun W2 bk L=> ?_;have Z:=af (BX.ext bk);have U:=af (l.trans bk);have E:w.heap.size<=W.heap.size:=l.size;have hgx:w.heap.size<W.heap.size:=BX.lt;generalize W.heap.size=k at*;have q0:=L.cell (qC S);have f0:=L.frozen a;obtain⟨W3,T,B3,K3,N3⟩:=fM (i:=a) L (.bool true);have HW3:=af T;have hli:k<W2.heap.size:=L.lt;go_upto_region 3 with fail
 have e3:(fU n fun _=>false).set a (.bool true)=fU n (mB (fun _=>false) a):=MU S;have B30:ah (aq W3 k fV (fU n (mB (fun _=>false) a))):=by rw[<-e3];exact B3
 have X:ah (yO (iY x.ay) rest a n (mB (fun _=>false) a)):=by
  refine⟨fun b R=> ?_,by unfold mB;rw[if_pos rfl]⟩;unfold mB at R;split at R
  ·rename_i e;subst e;exact⟨S,.refl⟩
  ·cases R
 go_upto_region 4 with fail
 go_loopw [8,9,10] (fun u _ _ wr=>∃(m:Bool) (on:VS),u= .bool m/\ah (aq wr k fV (fU n on))/\ah (yO (iY x.ay) rest a n on)/\ah (m=false->QC (iY x.ay) rest n on)/\ah (aq wr w.heap.size kM [.slice A n c,.slice B x.ay d,.slice D x.a_ e,av x.label])/\ah (Ext w wr)) (fun u _ _ wr=>2*JO wr k+bN u)
 exact⟨true,_,rfl,B30,X,Oe,(Z.only N3 Om),(U.only N3 E)⟩;obtain⟨m,on,rfl,HB,HI,HC,BX,HE⟩:=hrel;cases m with
 |false=>have H:=HI.done (HC rfl) HR;go_wp2_with fail;exact bodyPost_ret (v:=aG k 0 n n) (by simp [results,results218,go_sem]) rfl ⟨k,rfl,on,HB,E,H,HE⟩
 |true=>
  have HM:ah (2*JO wr k+1=2*sj n on+1):=by rw[ah,ad' HB.ae]
  go_upto_region 7 with fail
  go_loopw [8,9,10,21] (fun u _ _ z N=>∃(i:Nat) (m:Bool) (p:VS),i<=n/\z=av i/\u= .bool m/\ah (aq N k fV (fU n p))/\ah (yO (iY x.ay) rest a n p)/\ah (pJ (iY x.ay) rest n i 0 m on p)/\ah (aq N w.heap.size kM [.slice A n c,.slice B x.ay d,.slice D x.a_ e,av x.label])/\ah (Ext w N)) (fun _ _ _ z _=>n - (RowKit.intOf z).toNat)
  exact⟨0,false,on,aU _,rfl,rfl,HB,HI,.start,BX,HE⟩;obtain⟨i,m,p,hi,rfl,rfl,HB,HI,l,BX,HE⟩:=hrel;by_cases Q:i<n
  ·go_upto_region 10 with fail
   go_loopw [8,10,26] (fun u _ y M=>∃(j:Nat) (m:Bool) (o3:VS),j<=n/\y=av j/\u= .bool m/\ah (aq M k fV (fU n o3))/\ah (yO (iY x.ay) rest a n o3)/\ah (pJ (iY x.ay) rest n i j m on o3)/\ah (aq M w.heap.size kM [.slice A n c,.slice B x.ay d,.slice D x.a_ e,av x.label])/\ah (Ext w M)) (fun _ _ y _=>n - (RowKit.intOf y).toNat)
   exact⟨0,m,p,aU _,rfl,rfl,HB,HI,l,BX,HE⟩;obtain⟨j,m,o3,hj,rfl,rfl,HB,HI,l,BX,HE⟩:=hrel;by_cases f:j<n
   ·have pi:=HB.cell (qC Q);have pj:=HB.cell (qC f);have F:=(O.ext HE).cell (qC f);have hw:=HB.lt;have t:=af l.skip;go_upto_region 12 with fail
    cases s:o3 i with
    |false=>rw[s] at pi;have bk:=af (t fun h=>by rw[s] at h;cases h);exact V3
    |true=>
     rw[s] at pi;cases r:o3 j with
     |true=>rw[r] at pj;have bk:=af (t fun _ h=>by rw[r] at h;cases h);exact V3
     |false=>
      rw[r] at pj;cases q:rest j with
      |false=>rw[q] at F;have F:aA wr K j (.bool true):=F;have bk:=af (t fun _ _ h=>by rw[q] at h;cases h);exact V3
      |true=>
       rw[q] at F;have F:aA wr K j (.bool false):=F;obtain⟨s0,s1,s2,s3⟩:=BX.four;go_wp2_with fail
       refine(CS wr i j HE).mono ?_;rintro e5 w5 ⟨rfl,C⟩;have o:=af (HB.ext C);have J:=af (BX.ext C);have I:=af (HE.trans C);cases G:nQ x.ay i j with
       |false=>have bk:=af (t fun _ _ _ h=>by rw[iY,G] at h;cases h);go_wp2_with fail;go_roundw;exact⟨j+1,m,o3,by omega,by go_num,by first|rfl|trivial,o,HI,bk,J,I⟩;simp [RowKit.intOf];omega
       |true=>
        have q0:=o.cell (qC f);have f0:=o.frozen j;have zW:=o.lt;obtain⟨W6,KL,B6,K6,N6⟩:=fM (i:=j) o (.bool true);have e6:(fU n o3).set j (.bool true)=fU n (mB o3 j):=MU f;have B60:ah (aq W6 k fV (fU n (mB o3 j))):=by rw[<-e6];exact B6
        go_wp2_with fail
        go_roundw;exact⟨j+1,true,mB o3 j,by omega,by go_num,by first|rfl|trivial,B60,(af (HI.put f s q G)),(af (l.put f r)),(af (J.only N6 Om)),(I.only N6 E)⟩;simp [RowKit.intOf];omega
   ·obtain rfl:j=n:=Om;have d1:decide ((j:Int)<(j:Int))=false:=aW;go_wp2_with fail
    go_roundw;exact⟨i+1,m,o3,by omega,by go_num,by first|rfl|trivial,HB,HI,(af l.row),BX,HE⟩;simp [RowKit.intOf];omega
  ·obtain rfl:i=n:=Om;have d1:decide ((i:Int)<(i:Int))=false:=aW;have Y:ah (m=false->QC (iY x.ay) rest i p):=fun hm=>by have h:=l.ae;rw[hm] at h;exact h.all
   have V:ah (2*JO wr k+bN (.bool m)<2*sj i on+1):=by
    rw[ah,ad' HB.ae];cases m with
    |false=>
     have:=l.le;show 2*sj i p+0<_
     omega
    |true=>
     have:=l.lt rfl;show 2*sj i p+1<_
     omega
   go_wp2_with fail
   go_roundw;exact⟨m,p,rfl,HB,HI,Y,BX,HE⟩;have h1:=V.ae;rw[<-HM.ae] at h1;exact h1
def g_(l:List Nat):VS:=fun b=>l.contains b
def FM:g_ i a=true↔a∈i:=oF
def Gd(i:Nat):Nat->Option Nat:=fun b=>if b<i then none else some 0
def aiM{n:Nat}{p:Nat->Option Nat}(h:∀b,b<n->p b=y b):iT n p=iT n y:=by unfold iT;refine kW fun a c=> ?_;rw[h a (dL.1 c)]
def aiG{n:Nat}{p q:VS}(h:∀b,b<n->p b=q b):fU n p=fU n q:=by unfold fU;refine kW fun a c=> ?_;rw[h a (dL.1 c)]
def sg(a:Nat)(c:VS)(p:Nat->Option Nat)(j:Nat):Nat->Option Nat:=fun b=>if b<j/\c b=true/\b≠a then some a else p b
def anP{d:VS}{p:Nat->Option Nat}(g:d b=true)(e:b≠a):iW (sg a d p b) b (some a)=sg a d p (b+1):=by
 funext c
 unfold iW sg;by_cases f:c=b
 ·subst f;rw[if_pos rfl,if_pos ⟨by omega,g,e⟩]
 ·rw[if_neg f];by_cases h:c<b/\d c=true/\c≠a
  ·rw[if_pos h,if_pos ⟨by omega,h.2⟩]
  ·rw[if_neg h,if_neg fun i=>h ⟨by omega,i.2⟩]
def abX{d:VS}{p:Nat->Option Nat}(h:d b=false\/b=a):sg a d p (b+1)=sg a d p b:=by
 funext c
 unfold sg;by_cases f:c<b/\d c=true/\c≠a
 ·rw[if_pos f,if_pos ⟨by omega,f.2⟩]
 ·rw[if_neg f,if_neg];rintro⟨k,g,i⟩;by_cases e:c=b
  ·subst e;rcases h with h|h
   ·rw[h] at g;cases g
   ·exact i h
  ·exact f ⟨by omega,g,i⟩
def AP(b:Nat->Nat->Prop)(a:List Nat)(q:Nat->Option Nat)(k:Nat)(p:Nat->Option Nat):Prop:=q=iJ b (g_ (a.drop k)) (a.drop k) p
def AP.next{c:Nat->Nat->Prop}{p:Nat->Option Nat}(h:AP c i y a p)(o:a<i)(m:i.Nodup):
 AP c i y (a+1) (fun b=>if b≠i[a]/\part c (g_ (i.drop a)) i[a] b=true then some i[a] else p b)/\VS.less (g_ (i.drop a)) (VS.one i[a])=g_ (i.drop (a+1)):=by
 have e:=jK o;have f:(i.drop a).Nodup:=m.sublist (List.drop_sublist _ _);rw[e,ic] at f;have j:VS.less (g_ (i.drop a)) (VS.one i[a])=g_ (i.drop (a+1)):=by
  funext b
  rw[lW,pU,FM,FM,e,aK];constructor
  ·rintro⟨d|d,g⟩
   ·exact absurd d g
   ·exact d
  ·exact fun d=>⟨.inr d,fun g=>f.1 (g▸d)⟩
 refine⟨?_,j⟩;unfold AP at h⊢;have r:=congrArg (fun l=>iJ c (g_ (i.drop a)) l p) e;have g:iJ c (g_ (i.drop a)) (i[a]::i.drop (a+1)) p=iJ c (VS.less (g_ (i.drop a)) (VS.one i[a])) (i.drop (a+1)) fun b=>if b≠i[a]/\part c (g_ (i.drop a)) i[a] b=true then some i[a] else p b:=rfl;rw[h,r,g,j]
structure kq(w0:au)(sc:List Value)(xb rb ob pb mb n:Nat)(p:Nat->Option Nat)(rm:VS)(w:au):Prop where
 bx:aq w xb kM sc
 br:aq w rb sf [.slice none 0 0]
 bo:aq w ob sf [aG pb 0 n n]
 bp:aq w pb aS (iT n p)
 bm:aq w mb fV (fU n rm)
 ne:w0.heap.size<=xb/\xb<rb/\rb<pb/\pb<ob/\ob<mb
 ex:Ext w0 w
section
variable{w0 w w':au}{sc:List Value}{xb rb ob pb mb n:Nat}{p:Nat->Option Nat}{rm:VS}
theorem kq.ext(h:kq w0 sc xb rb ob pb mb n p rm w)(k:Ext w w'):kq w0 sc xb rb ob pb mb n p rm w':=⟨h.bx.ext k,h.br.ext k,h.bo.ext k,h.bp.ext k,h.bm.ext k,h.ne,h.ex.trans k⟩
theorem kq.congr{q:Nat->Option Nat}{r:VS}(h:kq w0 sc xb rb ob pb mb n p rm w)(c:∀b,b<n->p b=q b)(a:∀b,b<n->rm b=r b):kq w0 sc xb rb ob pb mb n q r w:=⟨h.bx,h.br,h.bo,by rw[<-aiM c];exact h.bp,by rw[<-aiG a];exact h.bm,h.ne,h.ex⟩
theorem kq.afH(h:kq w0 sc xb rb ob pb mb n p rm w){u:Option Nat}{z:Int}(e:a<n)(d:sA u=z):∃c,w.setCell (aD pb a) (av z)=c/\ah (kq w0 sc xb rb ob pb mb n (iW p a u) rm c)/\ah (Only pb w c):=by obtain⟨k,j,i,g,f⟩:=h.ne;subst d;have b:Only pb w (w.setCell (aD pb a) (av (sA u))):=(gD pb w).bh a _;exact⟨_,rfl,⟨h.bx.only b Om,h.br.only b Om,h.bo.only b Om,by rw[<-aaV e];exact h.bp.bh a _,h.bm.only b Om,h.ne,h.ex.only b Om⟩,b⟩
theorem kq.asZ(h:kq w0 sc xb rb ob pb mb n p rm w)(d:a<n):∃c,w.setCell (aD mb a) (.bool true)=c/\ah (kq w0 sc xb rb ob pb mb n p (mB rm a) c)/\ah (Only mb w c):=by obtain⟨k,j,i,g,f⟩:=h.ne;have b:Only mb w (w.setCell (aD mb a) (.bool true)):=(gD mb w).bh a _;have e:(fU n rm).set a (.bool true)=fU n (mB rm a):=MU d;exact⟨_,rfl,⟨h.bx.only b Om,h.br.only b Om,h.bo.only b Om,h.bp.only b Om,by rw[<-e];exact h.bm.bh a _,h.ne,h.ex.only b Om⟩,b⟩
end
def anJ(v:Value)(x:aP)(n:Nat)(B:aQ)(cB:Nat)(f:List Nat)(w:au)(h:dP w v x)(hN:x.ai=n)(hn:n<=12)(hp:IL w (.slice B f cB) (ints f))(G:f=n)(hnd:f.Nodup)(hpm:∀a,a∈f↔a<n):
 Calls prog 149 #[v,.slice B f cB] w fun e w'=>∃g,e= .returned (.agg #[aG g 0 n n])/\aq w' g aS (iT n (iJ (iY x.ay) (g_ f) f fun _=>none))/\w.heap.size<=g/\Ext w w':=by
 have CC:=af (fun W a gr rest (hX:Ext w W)=>aoU v x n a gr rest W (h.ext hX) hN hn);have HP:=af hp;have U:=af G;have yB:=af hnd;have O:=af hpm;obtain⟨q,hq⟩:∃q,(iJ (iY x.ay) (g_ f) f fun _=>none)=q:=⟨_,rfl⟩;rw[hq,G];have HQ0:ah (AP (iY x.ay) f q 0 fun _=>none):=by rw[ah,AP,mV];exact hq.symm
 obtain⟨A,c,t,d,D,e,rfl,hat,kQ,D7⟩:=h;subst hN;generalize x.ai.length=n at*;have mC:=M2 n Om;have Pr:=IR n Om;have e0:List.replicate n (Value.bool false)=fU n fun _=>false:=(MO (n:=n) (v:= .bool false)).symm;rw[e0] at Pr;rw[G] at HP;have iZ:=(bl HP).2;go_enter func149,ntmps149;go_upto_region 1 with fail
 refine gJ fun W HX BX BR=> ?_;have hbr:=BR.lt;go_upto_region 2 with fail
 refine gJ fun W2 M BP BO=> ?_;have xY:=BR.lt;have mO:=af (BX.ext M);have EK:=af (BR.ext M);have yG:=af (HX.trans M);have H:=BO.lt;generalize hpp:W.heap.size=pb at*;go_upto_region 3 with fail
 refine aR fun W3 s BM=> ?_;have P:=BM.lt;have T:ah (kq w [.slice A n c,.slice t x.ay d,.slice D x.a_ e,av x.label] w.heap.size (w.heap.size+1) (pb+1) pb W2.heap.size n (Gd 0) (fun _=>false) W3):=kq.congr ⟨mO.ext s,EK.ext s,BO.ext s,BP.ext s,BM,⟨aL _,by omega,by omega,by omega,H⟩,yG.trans s⟩ (fun b _=>by unfold Gd;rw[if_neg Om]) fun _ _=>rfl;generalize W2.heap.size=mb at*;generalize H:pb+1=ob at*;generalize vN:w.heap.size+1=rb at*;generalize Gt:w.heap.size=xb at*;clear H vN Gt P;have o0:=T.bo.aF 0;go_upto_region 4 with fail
 go_loopw [7,22] (fun _ E wr=>∃i:Nat,i<=n/\E=av i/\ah (kq w [.slice A n c,.slice t x.ay d,.slice D x.a_ e,av x.label] xb rb ob pb mb n (Gd i) (fun _=>false) wr)) (fun _ E _=>n - (RowKit.intOf E).toNat)
 exact⟨0,aU _,rfl,T⟩;obtain⟨i,hi,rfl,l⟩:=hrel;by_cases Q:i<n
 ·have o0:=l.bo.aF 0;have p0:=l.bp.cell (Cl Q);have f0:=l.bp.frozen i;have hlp:=l.bp.lt;obtain⟨W6,S,m, -⟩:=l.afH (u:=none) (z:= -1) Q rfl;have N:=af (m.congr (q:=Gd (i+1)) (r:=fun _=>false) (fun b _=>by
   unfold iW Gd;by_cases e:b=i
   ·rw[if_pos e,if_pos Om]
   ·rw[if_neg e];by_cases e2:b<i
    ·rw[if_pos e2,if_pos Om]
    ·rw[if_neg e2,if_neg Om]) fun _ _=>rfl)
  go_wp2_with fail
  go_roundw;exact⟨i+1,by omega,by go_num,N⟩;simp [RowKit.intOf];omega
 ·obtain rfl:i=n:=Om;have d1:=aW;have bB:ah (kq w [.slice A i c,.slice t x.ay d,.slice D x.a_ e,av x.label] xb rb ob pb mb i (fun _=>none) (fun b=> !g_ (f.drop 0) b) wr):=l.congr (fun b L=>by unfold Gd;rw[if_pos L]) fun b L=>by have:=FM.2 ((O b).2 L);rw[mV,this];rfl
  go_upto_region 9 with fail
  go_loopw [9,10,11,32] (fun _ _ _ C wr=>∃(k:Nat) (p:Nat->Option Nat),k<=i/\C=av k/\ah (AP (iY x.ay) f q k p)/\ah (kq w [.slice A i c,.slice t x.ay d,.slice D x.a_ e,av x.label] xb rb ob pb mb i p (fun b=> !g_ (f.drop k) b) wr)) (fun _ _ _ C _=>i - (RowKit.intOf C).toNat)
  exact⟨0,fun _=>none,aU _,rfl,HQ0,bB⟩;obtain⟨k,p,hk,rfl,HQ,l⟩:=hrel;by_cases sR:k<i
  ·have I:k<f.length:=by rw[U.ae];exact sR
   obtain⟨g1,o1,ko,q0⟩:=nO (HP.ext l.ex) I (jp aS _);have Y:=af (HQ.next I yB);have ha:=(O _).1 (a8 I);generalize f[k]=a at*;subst ko;obtain⟨s0,s1,s2,s3⟩:=l.bx.four;have CC1:=af (CC _ a mb (g_ (f.drop k)) l.ex ha (fun b L=>(O b).1 (Ij (FM.1 L))) l.bm);go_upto_region 11 with fail
   go_wp2_with fail
   refine CC1.mono ?_;rintro e5 w5 ⟨gi,F,rfl,R,kj,Pl,iK⟩;have mI:ah (kq w [.slice A i c,.slice t x.ay d,.slice D x.a_ e,av x.label] xb rb ob pb mb i (sg a F p 0) (fun b=> !g_ (f.drop k) b) w5):=(l.ext iK).congr (fun b _=>by unfold sg;rw[if_neg];rintro⟨h, -⟩;omega) fun _ _=>rfl;have V:=af Pl;have yK:=af R;have hgm:=cy l.bm.lt kj;have hne:=l.ne;go_upto_region 13 with fail
   go_loopw [11,42] (fun _ y wq=>∃j:Nat,j<=i/\y=av j/\ah (kq w [.slice A i c,.slice t x.ay d,.slice D x.a_ e,av x.label] xb rb ob pb mb i (sg a F p j) (fun b=> !g_ (f.drop k) b) wq)/\ah (aq wq gi fV (fU i F))) (fun _ y _=>i - (RowKit.intOf y).toNat)
   exact⟨0,aU _,rfl,mI,yK⟩;obtain⟨j,hj,rfl,l,Z⟩:=hrel;by_cases J:j<i
   ·have pj:=Z.cell (qC J);cases o:F j with
    |false=>
     rw[o] at pj;have en:ah (kq w [.slice A i c,.slice t x.ay d,.slice D x.a_ e,av x.label] xb rb ob pb mb i (sg a F p (j+1)) (fun b=> !g_ (f.drop k) b) wr):=by rw[abX (.inl o)];exact l
     go_wp2_with fail
     go_roundw;exact⟨j+1,by omega,by go_num,en,Z⟩;simp [RowKit.intOf];omega
    |true=>
     rw[o] at pj;by_cases K:j=a
     ·subst K;have en:ah (kq w [.slice A i c,.slice t x.ay d,.slice D x.a_ e,av x.label] xb rb ob pb mb i (sg j F p (j+1)) (fun b=> !g_ (f.drop k) b) wr):=by rw[abX (.inr rfl)];exact l
      have d2:((j:Int) !=(j:Int))=false:=Ou;go_wp2_with fail;go_roundw;exact⟨j+1,by omega,by go_num,en,Z⟩;simp [RowKit.intOf];omega
     ·have d2:((j:Int) !=(a:Int))=true:=(by rw[bne_iff_ne];omega);have o0:=l.bo.aF 0;have p0:=l.bp.cell (Cl J);have f0:=l.bp.frozen j;have hlp:=l.bp.lt;obtain⟨W6,S,m,X⟩:=l.afH (u:=some a) (z:=(a:Int)) J rfl;rw[anP o K] at m;have pG:=af (Z.only X Om);clear o K;go_wp2_with fail
      go_roundw;exact⟨j+1,by omega,by go_num,m,pG⟩;simp [RowKit.intOf];omega
   ·obtain rfl:j=i:=Om;have d1:=aW;have m0:=l.bm.cell (qC ha);have f0:=l.bm.frozen a;have hlm:=l.bm.lt;obtain⟨W6,S,m,X⟩:=l.asZ ha;have N:ah (kq w [.slice A j c,.slice t x.ay d,.slice D x.a_ e,av x.label] xb rb ob pb mb j (fun b=>if b≠a/\part (iY x.ay) (g_ (f.drop k)) a b=true then some a else p b) (fun b=> !g_ (f.drop (k+1)) b) W6):=m.congr (fun b L=>by
     unfold sg;by_cases h:F b=true/\b≠a
     ·rw[if_pos ⟨L,h⟩,if_pos ⟨h.2,fD.2 ((V b).1 h.1)⟩]
     ·rw[if_neg fun h'=>h h'.2,if_neg];rintro⟨h1,h2⟩;exact h ⟨(V b).2 (fD.1 h2),h1⟩) fun b _=>by
     have h2:=congrFun Y.2 b;rw[<-h2];unfold mB VS.less VS.one;by_cases e:b=a
     ·subst e;simp
     ·rw[if_neg e,beq_eq_false_iff_ne.2 e];simp
    have HQ2:=af Y.1;go_wp2_with fail;go_roundw;exact⟨k+1,_,by omega,by go_num,HQ2,N⟩;simp [RowKit.intOf];omega
  ·obtain rfl:k=i:=Om;have d1:=aW;have HQF:ah (q=p):=(by have h:=HQ.ae;have e:=Ic (by rw[U.ae];exact aL _);rw[AP,e] at h;exact h)
   have o0:=l.bo.aF 0;have r0:=l.br.aF 0;have f0:=l.br.frozen 0;obtain⟨W8,Xf,B8,K8,N8⟩:=fM l.br (aG pb 0 k k);obtain⟨n1,n2,n3,n4,n5⟩:=l.ne;have La:=af Xf;have L_:ah (aq W8 pb aS (iT k q)):=by rw[HQF.ae];exact l.bp.only N8 Om
   have lz:=af (l.ex.only N8 Om);go_wp2_with fail;rw[La.ae];exact bodyPost_ret (results_cell_row rfl _ _ rb sf #[aG pb 0 k k] (0,0) _ rfl B8.ae underlying32 rfl Ok) rfl ⟨pb,rfl,L_,by omega,lz⟩
def results_cell_tmp{P:Program}{f:Go.Func}{p q:Tmp}{b:TypeId}(h:f.results= #[.cell p b,.tmp q])(a:Array Value)(w:au)(g:Nat)(t:TypeId)(c:Array Value)(e:Nat×Nat)(d:TypeDesc)
 (k:a.getD p undef=aI g 0) (m:w.heap[g]? =some (.cells c t e))
 (i:P.underlying b=some d) (n:(match d with| .struct _| .array _ _=>true|_=>false)=true) (l:(P.info? b).map (·.size)=some c.size) {v:Value} (j:a.getD q undef=v):
 (results f a).run P w= .ok (.tuple #[.agg c,v]) w:=by
 simp [results,h,(by simpa using k),(by simpa using j),asAddr,run_loadVar_row w g t b c e d m i n l]
def afk(w:au):∀l:List Int,Ch (dw w) (eU l) l
 | []=>rfl
 |z::l=>⟨[av z],eU l,rfl,rfl,afk w l⟩
def ap7(h:IL m (.slice E a b) L){k:Nat}(i:k<=L):IL m (.slice E k b) (L.take k):=by
 obtain⟨g,f⟩:=arD h;obtain⟨e,o,j⟩:=bl h;have d:(L.take k)=k:=axw;refine⟨E,b,eU (L.take k),by rw[d],by rw[d];omega,by unfold maxLen;omega,f,?_,afk m _⟩;have e:eU (L.take k)=(eU L).take k:=by unfold eU;rw[E1]
 rw[e];exact g.take k
def Tg(v:Value)(x:aP)(Y:bV x)(n:Nat)(B:aQ)(H:Nat)(f:List Nat)(w:au)(h:dP w v x)(P:x.ai=n)(hp:IL w (.slice B f H) (ints f))(t:f=n)(u:f.Nodup)(E:∀a,a∈f↔a<n):
 Calls prog 72 #[v,.slice B f.length H] w fun e z=>∃g,e= .returned (.tuple #[.agg #[aG g 0 n n],av 0])/\aq z g aS (iT n (iJ (iY x.ay) (g_ f) f fun _=>none))/\w.heap.size<=g/\Ext w z:=by
 have hn:n<=12:=by rw[<-P];exact Y.a12
 have CH:=af (fun z (hx:Ext w z)=>aaO v x z (h.ext hx) Y);have CO:=af (fun W (hX:Ext w W)=>anJ v x n B H f W (h.ext hX) P hn (iU hp hX) t u E);have K:=af hp;have J:=af t;have R:ah (∀k (N:k<f.length),(ints (f.take k)).contains (f[k]:Int)=false):=fun k N=>by
  rw[<-rI,oF];intro hm;unfold ints at hm;obtain⟨b,hb,e⟩:=b_.1 hm;have e':b=f[k]:=Om;subst e';have e2:f=f.take k++f[k]::f.drop (k+1):=by rw[<-jK N,tH]
  rw[e2,rE] at u;exact u.2.2 _ hb _ eH rfl
 generalize(iJ (iY x.ay) (g_ f) f fun _=>none)=q at*;obtain⟨A,c,Br,d,D,e,rfl,hat,kQ,D7⟩:=h;rw[t] at K CO⊢;subst P;generalize x.ai.length=n at*;have iZ:=(bl K).2;go_enter func72,ntmps72;go_upto_region 1 with fail
 refine gJ fun W HX U BR=> ?_;have hbr:=BR.lt;obtain⟨s0,s1,s2,s3⟩:=U.four;go_wp2_with fail
 refine(CH W HX).mono ?_;rintro e1 X ⟨rfl,l⟩;obtain⟨t0,t1,t2,t3⟩:=(U.ext l).four;have j:=af (HX.trans l);go_upto_region 8 with fail
 go_loopw [9,28] (fun _ r wr=>∃i:Nat,i<=n/\r=av i/\wr=X) (fun _ r _=>n - (RowKit.intOf r).toNat)
 exact⟨0,aU _,rfl,rfl⟩;obtain⟨i,hi,rfl,s⟩:=hrel;have s:=s.symm;subst s;by_cases O:i<n
 ·have G:i<f.length:=by rw[J.ae];exact O
  obtain⟨g1,Z,m,q0⟩:=nO (K.ext j) (k:=i) G (jp aS _);have ha:=(E _).1 (a8 G);generalize f[i]=a at*;subst m;have d1:decide ((a:Int)<0)=false:=aW;have d2:decide ((n:Int)<=(a:Int))=false:=aW;exact VZ
 ·obtain rfl:i=n:=Om;have d1:decide ((i:Int)<(i:Int))=false:=aW;go_upto_region 14 with fail
  go_loopw [10,11,43] (fun _ _ p wq=>∃k:Nat,k<=i/\p=av k/\ah (Ext X wq)) (fun _ _ p _=>i - (RowKit.intOf p).toNat)
  exact⟨0,aU _,rfl,aB _⟩;obtain⟨k,N,rfl,y⟩:=hrel;by_cases M:k<i
  ·have F:k<f.length:=by rw[J.ae];exact M
   obtain⟨g1,Z,m,q0⟩:=nO (K.ext (j.trans y)) (k:=k) F (jp aS _);have S:ah (IL wr (aG g1 Z k H) (ints (f.take k))):=(by have h:=ap7 (K.ext (j.trans y)) (k:=k) (by unfold ints;rw[bP];omega);rw[m] at h;unfold ints at h⊢;rwa[E1])
   have Q:=af (R k F);generalize f[k]=a at*;generalize ints (f.take k)=pk at*;subst m;go_wp2_with fail;refine(Th _ k H pk (a:Int) wr S).mono ?_;rintro e5 V ⟨rfl,nn,rfl⟩;rw[Q.ae];have T:=af (y.drewN nn);generalize wr.drewN nn=V at*;go_wp2_with fail
   go_roundw;exact⟨k+1,by omega,by go_num,T⟩;simp [RowKit.intOf];omega
  ·obtain rfl:k=i:=Om;have d1:decide ((k:Int)<(k:Int))=false:=aW;have I:=af (j.trans y);have L:=af ((BR.ext l).ext y.ae);obtain⟨s0,s1,s2,s3⟩:=((U.ext l).ext y.ae).four;go_wp2_with fail
   refine(CO _ (j.trans y)).mono ?_;rintro e5 V ⟨g,rfl,hg,hl,C⟩;have o:=af (L.ext C);have Kq:=o.lt;have r0:=o.aF 0;have f0:=o.frozen 0;obtain⟨W8,Xf,B8,K8,N8⟩:=fM (i:=0) o.ae (aG g 0 k k);have hsz:=I.size;have Ai:=L.lt;go_wp2_with fail
   exact bodyPost_ret (results_cell_tmp rfl _ _ (w.heap.size+1) sf #[aG g 0 k k] (0,0) _ rfl B8.ae underlying32 rfl Ok rfl) rfl ⟨g,rfl,(hg.only N8 Om),by omega,((I.trans C).only N8.ae Om)⟩
def apk:si a y=(List.range a).map (sI y):=by unfold si;refine kW fun b _=> ?_;unfold sI;cases y b<;>rfl
def Uk{x:aP}(k:bV x)(o:i.length=x.ai.length)(l:i.Nodup)(j:∀a,a∈i↔a<x.ai.length):∃d,Oq x (iJ (iY x.ay) (g_ i) i fun _=>none) d:=by
 have g:=apA j o fun b e=>aea (acJ x.ay) i (g_ i) (fun _=>none) (fun a=>FM.symm) l b e;refine⟨_,g,fun r c a m b e n=> ?_⟩;have q:=k.ri r c a m;have p:=k.ri r c b e;have t:((a.toNat:Nat):Int)=a:=Om;have s:((b.toNat:Nat):Int)=b:=Om;have f:iY x.ay a.toNat b.toNat:=(by unfold iY nQ;rw[mU];exact⟨r,c,by rw[t,s,cV];exact⟨oF.2 m,oF.2 e⟩⟩)
 rcases ad_ (acJ x.ay) i (g_ i) (fun _=>none) (fun a=>FM.symm) l a.toNat ((j _).2 Om) b.toNat ((j _).2 Om) f Om with h|h
 ·exact .inl (ae0 g Om h)
 ·exact .inr (ae0 g Om h)
def Sk(n:Nat):upto n=ints (List.range n):=rfl
def ac8(h:L.Perm (upto a)):∃m:List Nat,L=ints m/\m=a/\m.Nodup/\∀c,c∈m↔c<a:=by
 refine⟨bZ L,(aa' fun c g=> ?_).symm,?_,?_,?_⟩
 ·have f:=h.mem_iff.1 g;rw[Sk] at f;unfold ints at f;obtain⟨b, -,rfl⟩:=b_.1 f;omega
 ·unfold bZ;rw[bP,h.length_eq,aao]
 ·have d:(bZ L).Perm (bZ (upto a)):=h.map _;have e:bZ (upto a)=List.range a:=(by rw[Sk];unfold bZ ints;rw[rK];exact(kW fun c _=>rfl).trans (List.map_id _))
  rw[e] at d;exact d.nodup_iff.2 tK
 ·have d:(bZ L).Perm (bZ (upto a)):=h.map _;have e:bZ (upto a)=List.range a:=(by rw[Sk];unfold bZ ints;rw[rK];exact(kW fun c _=>rfl).trans (List.map_id _))
  rw[e] at d;intro c;rw[d.mem_iff,dL]
def asj.Wh(h:ar:=by exact bodyPost_ret (results_cell_row rfl _ _ (w.heap.size+1) sf #[aG q 0 x.ai x.ai] (0,0) _ rfl B5.ae underlying32 rfl Ok) rfl ⟨q,pp,dd,rfl,HQ5,pC,by omega,mI,mG⟩):=h
def asl.k78(h:ar:=by open asj in exact V'):=h
def asi.Wh(h:ar:=by exact agx):=h
def asf.Wh(h:ar:=by exact agx):=h
def ash.k78(h:ar:=by open asf in exact V'):=h
def aoe(g:Nat)(v:Value)(x:aP)(w:au)(h:cL w g)(hv:dP w v x)(H:bV x):
 Calls prog 24 #[aI g 0,v] w fun e f=>∃q p d,e= .returned (.agg #[aG q 0 x.ai x.ai])/\aq f q aS (iT x.ai p)/\Oq x p d/\w.heap.size<=q/\cL f g/\Only g w f:=by
 have HV:=af hv;have hg:=h.lt;have a12:=H.a12;obtain⟨A,c,B,d,D,e,rfl,ha,hr,hf⟩:=hv;obtain⟨-,ha1,ha2⟩:=bl ha;clear ha hr hf;go_enter func24,ntmps24;go_upto_region 1 with fail
 refine gJ fun W HX BX BR=> ?_;have hbr:=BR.lt;have u:=af (h.ext HX);have L:=af (HV.ext HX);have PD:g<W.heap.size:=cy hg HX.size;have C:ah (Only g W W.drew):=(gD g W).drew;have M:ah (cL W.drew g):=u.ext (aB W).drew;obtain⟨I,J⟩:∃I:World->Prop,I=fun f=>Only g W f/\cL f g:=⟨_,rfl⟩;have qp:ah (∀f,I f->Only g W f/\cL f g):=by rw[ah,J];exact fun _ h=>h
 have jh:ah (∀f,Only g W f->cL f g->I f):=by rw[ah,J];exact fun _ h1 h2=>⟨h1,h2⟩
 have bK:ah (∀f,I f->aA f w.heap.size 0 (.slice A x.ai c)/\aA f w.heap.size 1 (.slice B x.ay d)/\aA f w.heap.size 2 (.slice D x.a_ e)/\aA f w.heap.size 3 (av x.label)):=fun f h=>(BX.only (qp f h).1 Om).four;have aJ:ah (I W.drew):=jh _ (gD g W).drew (u.ext (aB W).drew);clear J;refine cG (S:=I) (T:=fun _=>false) Ok ?_;generalize W.drew=Z at*;refine ax 0 8 ?_;refine ax 1 9 ?_;refine ax 2 10 ?_;refine ax 3 11 ?_;refine ax 4 12 ?_;refine FJ 5 10 Ok ?_ ?_
 ·skip
  refine zT ?_;intro K hK;go_simp;refine(aar g x.ai Z M Om).mono ?_;rintro e5 O ⟨Y,X,l5, -,r,rfl,z,o,y⟩;obtain⟨m,rfl,t,l,s⟩:=ac8 r;have mG:=af (C.trans y);have mI:=af o;have b:=af t;have E:=af s;refine hK.ae _ _ (fun _=>jh _ mG mI) ?_;clear hK o r t s;refine FJ 6 10 Ok ?_ ?_
  ·skip
   refine zT ?_;intro K hK;go_simp;have G:=af (Tg _ x H x.ai Y X m O (L.past u mG) rfl (by rw[b.ae];exact z) b l E);rw[b.ae] at G;have P:=mG.size;refine G.mono ?_;rintro e6 N ⟨q,rfl,F,Q,j⟩;obtain⟨dd,hdd⟩:=Uk H b l E;have HQ:=af F;have pC:=af hdd;clear F hdd;generalize(iJ (iY x.ay) (g_ m) m fun _=>none)=pp at*;have R:W.heap.size<=q:=Om;have a:=af (mG.trans (dM j));have n:=af (mI.ext j);refine hK.ae _ _ (fun _=>jh _ a n) ?_;clear hK;have aJ:=af (jh _ a n);refine ax 7 7 ?_;refine ax 8 15 ?_;refine ax 9 16 ?_;refine aO 10 ?_;intro K hK;go_simp;refine hK.ae _ _ (fun _=>jh _ (a.trans (dM ((aB _).alloc _))) (n.ext ((aB _).alloc _))) ?_;refine aR fun w7 k HB=> ?_;have ro:=af (a.trans (dM k));have kt:=af (n.ext k);have Pn:W.heap.size<=(N).heap.size:=a.size;have U:=HB.lt;generalize V:(N).heap.size=ob at*;clear hK;have aJ:=af (jh _ ro kt);have HQ:=af (HQ.ext k);open asl in exact m78
  ·skip
   refine zT ?_;intro K hK;go_simp;refine hK.ae _ _ (fun _=>jh _ (mG.trans (dM ((aB _).alloc _))) (mI.ext ((aB _).alloc _))) ?_;refine aR fun N k HB=> ?_;have a:=af (mG.trans (dM k));have n:=af (mI.ext k);have Pn:W.heap.size<=(O).heap.size:=mG.size;have U:=HB.lt;generalize V:(O).heap.size=ob at*;clear hK;have aJ:=af (jh _ a n);refine aO 6 ?_;intro K hK;go_simp;have G:=af (Tg _ x H x.ai Y X m N (L.past u a) rfl (by rw[b.ae];exact iU z k) b l E);rw[b.ae] at G;have P:=a.size;refine G.mono ?_;rintro e6 w7 ⟨q,rfl,F,Q,j⟩;obtain⟨dd,hdd⟩:=Uk H b l E;generalize(iJ (iY x.ay) (g_ m) m fun _=>none)=pp at*;have R:W.heap.size<=q:=Om;have ro:=af (a.trans (dM j));have kt:=af (n.ext j);refine hK.ae _ _ (fun _=>jh _ ro kt) ?_;clear hK;have aJ:=af (jh _ ro kt);refine ax 7 7 ?_;refine ax 8 15 ?_;refine ax 9 16 ?_;have HB:=af (HB.ext j);have U6:q≠ob:=fun e=>by have h1:=F;have h2:=HB.ae;subst e;unfold aq at h1 h2;rw[h1] at h2;injection h2 with h;injection h with _ h;exact absurd h Od
   have b0:=HB.aF 0;have f0:=HB.frozen 0;have Ai:=HB.lt;obtain⟨W4,D_,B4,K4,N4⟩:=fM (i:=0) HB.ae (aG q 0 x.ai x.ai);have mJ:=af (kt.past N4 Om);have P2:ah (Only g W W4):=ro.fresh N4 Pn;have HQ4:=af (F.only N4 U6);open asi in exact V'
 ·skip
  refine zT ?_;intro K hK;go_simp;refine hK.ae _ _ (fun _=>jh _ (C.trans (dM ((aB _).alloc _))) (M.ext ((aB _).alloc _))) ?_;refine aR fun O k HB=> ?_;have mG:=af (C.trans (dM k));have mI:=af (M.ext k);have Pn:W.heap.size<=(Z).heap.size:=C.size;have U:=HB.lt;generalize V:(Z).heap.size=ob at*;clear hK;have aJ:=af (jh _ mG mI);refine aO 5 ?_;intro K hK;go_simp;refine(aar g x.ai O mI Om).mono ?_;rintro e5 N ⟨Y,X,l5, -,r,rfl,z,o,y⟩;obtain⟨m,rfl,t,l,s⟩:=ac8 r;have a:=af (mG.trans y);have b:=af t;refine hK.ae _ _ (fun _=>jh _ a o) ?_;clear hK r t;have HB:=af (HB.only y Om);refine aO 6 ?_;intro K hK;go_simp;have G:=af (Tg _ x H x.ai Y X m N (L.past u a) rfl (by rw[b.ae];exact z) b l s);rw[b.ae] at G;have P:=a.size;refine G.mono ?_;rintro e6 w7 ⟨q,rfl,F,Q,j⟩;obtain⟨dd,hdd⟩:=Uk H b l s;have HQ:=af F;clear F;generalize(iJ (iY x.ay) (g_ m) m fun _=>none)=pp at*;have R:W.heap.size<=q:=Om;have ro:=af (a.trans (dM j));have kt:=af (o.ext j);refine hK.ae _ _ (fun _=>jh _ ro kt) ?_;clear hK;have aJ:=af (jh _ ro kt);refine ax 7 7 ?_;refine ax 8 15 ?_;refine ax 9 16 ?_;have HB:=af (HB.ext j);open ash in exact m78
def ajg{P:Program}{y:Go.Func}{p q r:Tmp}{f b:TypeId}(h:y.results= #[.cell p f,.cell q b,.tmp r])(a:Array Value)(w:au)(g k:Nat)(t u:TypeId)(i c:Array Value)(x e:Nat×Nat)(d s:TypeDesc)
 (B:a.getD p undef=aI g 0) (D:w.heap[g]? =some (.cells i t x)) (z:P.underlying f=some d) (E:(match d with| .struct _| .array _ _=>true|_=>false)=true) (C:(P.info? f).map (·.size)=some i.size)
 (l:a.getD q undef=aI k 0) (n:w.heap[k]? =some (.cells c u e)) (j:P.underlying b=some s) (o:(match s with| .struct _| .array _ _=>true|_=>false)=true) (m:(P.info? b).map (·.size)=some c.size) {v:Value} (A:a.getD r undef=v):
 (results y a).run P w= .ok (.tuple #[.agg i,.agg c,v]) w:=by
 simp [results,h,(by simpa using B),(by simpa using l),(by simpa using A),asAddr,run_loadVar_row w g t f i x d D z E C,run_loadVar_row w k u b c e s n j o m]
def ak'(g:Nat)(w:au)(h:cL w g):
 Calls prog 7 #[aI g 0] w fun e a=>∃x v o D u,bV x/\x.ai.length<=5/\x.ay.length<=3/\e= .returned (.tuple #[v,o,u])/\dP a v x/\sF a o x/\bG lI 1 sW w.heap.size a u D/\Hw x D x.ay/\cL a g/\Only g w a:=by
 have hg:=h.lt;go_enter func7,ntmps7;go_upto_region 1 with fail
 refine gJ fun W HX B1 B2=> ?_;have hb2:=B2.lt;go_wp2_with fail
 refine(aiQ g 5 W (h.ext HX) Od Od).mono ?_;rintro e w2 ⟨x,v,t,h5, -,h3,rfl,hv,J,n⟩;have HV:=af hv;obtain⟨A,c,B,d,E,N,rfl, -, -, -⟩:=hv;go_upto_region 2 with fail
 refine aR fun k r Z=> ?_;have qo:=af (J.ext r);have fJ:ah (Only g w k):=((dM HX.ae:Only g w W).trans n).trans (dM r);have B13:ah (aq k w.heap.size kM _):=(B1.only n Om).ext r.ae;have B23:ah (aq k (w.heap.size+1) sf _):=(B2.only n Om).ext r.ae;have hw2:W.heap.size<=w2.heap.size:=n.size;have ag6:=t.a12;generalize w2.heap.size=s at*;clear J n B1 B2;obtain⟨S,z⟩:∃S:World->Prop,S=fun a=>aA a s 0 (.slice A x.ai c)/\aA a s 1 (.slice B x.ay d)/\aA a s 2 (.slice E x.a_ N)/\aA a s 3 (av x.label):=⟨_,rfl⟩;have bK:ah (∀a,S a->aA a s 0 (.slice A x.ai c)/\aA a s 1 (.slice B x.ay d)/\aA a s 2 (.slice E x.a_ N)/\aA a s 3 (av x.label)):=by rw[z];exact fun _ h=>h
 have m:ah (∀a,aq a s kM [.slice A x.ai c,.slice B x.ay d,.slice E x.a_ N,av x.label]->S a):=by rw[z];exact fun a h=>h.four
 clear z;have aJ:ah (S k.drew):=m _ (Z.ext (aB k).drew);refine cG (S:=S) (T:=fun _=>false) Ok ?_;have Q:=af (qo.ext (aB k).drew);have P:=af ((HV.ext r).ext (aB k).drew);have yz:ah (Only g w k.drew):=fJ.trans (dM (aB k).drew);have Md:=af (B13.ext (aB k).drew);have B24:=af (B23.ext (aB k).drew);have B54:=af (Z.ext (aB k).drew);have axf:s<k.drew.heap.size:=Z.lt;clear Z;generalize k.drew=wd at*;refine ax 0 8 ?_;refine ax 1 9 ?_;refine ax 2 10 ?_;refine ax 4 12 ?_;refine ax 5 13 ?_;refine aO 3 ?_;intro K j;go_simp;refine(aoe g _ x wd Q P t).mono ?_;rintro e w5 ⟨q,p,dd,rfl,hq,Kn,Gx,I,l⟩;have O:=af (P.past Q l);have HO5:=af (yz.trans l);have B15:=af (Md.only l Om);have B25:=af (B24.only l Om);have X:=af (B54.only l Om);have hq5:=hq.lt;refine j.ae _ _ (fun _=>m _ X) ?_;clear j l;refine aO 6 ?_;intro K j;go_simp;refine(apU g _ x w5 I O t).mono ?_;rintro e w6 ⟨D,u,hD,rfl,y,xX,f⟩;have El:=af (O.past I f);have pD:=af (HO5.trans f);have XW:=af (hq.only f Om);have H:=af (B15.only f Om);have B26:=af (B25.only f Om);have V:=af (X.only f Om);refine j.ae _ _ (fun _=>m _ V) ?_;clear j f;obtain⟨W7,M,Y,K7,F⟩:=Do H (.slice A x.ai c) (.slice B x.ay d) (.slice E x.a_ N) (av x.label);obtain⟨j0,j1,j2,j3⟩:=H.four;obtain⟨f0,f1,f2,f3⟩:=H.fX;have G:=af (B26.only F Om);have U:=af (V.only F Om);have XV:=af (XW.only F Om);have kt:=af (xX.past F Om);have Ek:=af (El.kept K7 Od Od Od Od);have rr:=af (pD.fresh F (aL _));have G8:=af (y.only tR F Om (fun u y=>K7 _ (by simp only[aK,bJ,or_false] at y;rcases y with rfl|rfl<;>decide)))
 have kT:=af M;clear M F K7;refine aO 7 ?_;intro K j;go_simp;rw[kT.ae];refine j.ae _ _ (fun _=>m _ U) ?_;clear j j0 j1 j2 j3 f0 f1 f2 f3;obtain⟨W8,L,H8,K8,C⟩:=fM (i:=0) G.ae (aG q 0 x.ai x.ai);have j0:=G.aF 0;have f0:=G.frozen 0;have B18:=af (Y.only C Om);have R:=af (U.only C Om);have HQ8:=af (XV.only C Om);have eQ:=af (kt.past C Om);have Lb:=af (Ek.kept K8 Od Od Od Od);have uH:=af (rr.fresh C Om);have ww:=af (G8.only tR C Om (fun u y=>K8 _ (by simp only[aK,bJ,or_false] at y;rcases y with rfl|rfl<;>decide)))
 have La:=af L;clear L C K8 Y;refine aO 8 ?_;intro K j;go_simp;rw[La.ae];refine j.ae _ _ (fun _=>m _ R) ?_;clear j j0 f0;refine aO 9 ?_;intro K j;go_simp;refine j.ae _ _ (fun _=>m _ R) ?_;refine bY Ok ?_;clear j;go_wp2_with fail;exact bodyPost_ret (ajg rfl _ _ w.heap.size (w.heap.size+1) kM sf #[.slice A x.ai c,.slice B x.ay d,.slice E x.a_ N,av x.label] #[aG q 0 x.ai x.ai] (0,0) (0,0) _ _ rfl B18.ae underlying30 rfl Ok rfl H8.ae underlying32 rfl Ok (v:=u) rfl) rfl
  ⟨x,_,_,D,_,t,h5,h3,rfl,Lb,⟨_,_,p,dd,rfl,by rw[<-apk];exact acl HQ8 Om,Kn⟩,(ww.weaken (b':=w5.heap.size) (b:=w.heap.size) Om),hD,eQ,uH⟩
def ajr:∀(l:List Gp) (x:Gp),dH (l++ [x])=kO x (dH l):=fun l x=>by unfold dH;rw[wS];rfl
def adC(x:Gp):∀l,(kO x l)<=l.length+1
 | []=>aL _
 |y::l=>by
  unfold kO;have:=adC x l;split
  ·simp only[cT];omega
  ·split<;>simp
def aa2(l:List Gp):∀i,(dH (l.take i))<=i
 |0=>by rw[kG];exact aL _
 |i+1=>by
  have h:=aa2 l i;rcases cA i l with a|a
  ·rw[tJ,aX a];show(dH (l.take i++ [l[i]])).length<=_
   rw[ajr];exact aV (adC _ _) Om
  ·rw[dD Om] at h⊢;omega
def abh(v:Value)(z:Int)(w:au)(h:cj w v z)(F:kL z)(H:d7 w):
 Calls prog 131 #[v] w fun e G=>e= .returned (av (nDigits z.natAbs:Int))/\Ext w G:=by
 obtain⟨s,rfl,A,c,rfl,L,l⟩:=h;unfold kL Fit at F;by_cases j:z.natAbs=0
 ·have m:(a7 z.natAbs).length=0:=by rw[j];rfl
  have D:nDigits z.natAbs=1:=by rw[j,nDigits_small Od]
  have P:=af D;clear D l;rw[m];go_enter func131,ntmps131;go_wp2;go_ret;exact⟨by rw[P.ae];rfl,(aB w).alloc _⟩
 ·have t:a7 z.natAbs≠ []:=fun h=>j (ve.1 h);have m:0<(a7 z.natAbs).length:=Ik.2 t;have b:=aak (dE z.natAbs) t;rw[dG,List.getLast_eq_getElem] at b;have B:=af b;obtain⟨k,n⟩:∃k,(a7 z.natAbs).length=k+1:=⟨_,(Nat.succ_pred_eq_of_pos m).symm⟩;have a:(a7 z.natAbs)[(a7 z.natAbs).length - 1]<B9:=(dE z.natAbs).1.getElem Om;obtain⟨x,q⟩:∃x,(a7 z.natAbs)[(a7 z.natAbs).length - 1]=x:=⟨_,rfl⟩;rw[q] at b a;rw[n] at b;simp only[Nat.add_sub_cancel] at b;have f:x<18446744073709551616:=by unfold B9 at a;omega
  obtain⟨g,o,rfl,K,r⟩:=l.at_ (kJ (show 0<(a7 z.natAbs).length by omega));have i:(a7 z.natAbs)[k]'Om=x:=by rw[<-q];congr 1;omega
  obtain⟨S,R,u,_,d⟩:=(l.ext ((aB w).alloc (Obj.cells #[.bool (decide (z<0)),aG g o (k+1) c] dm))).at_ (kJ (show k<(a7 z.natAbs).length by omega));injection u with u;injection u with N M;subst N M;rw[i] at d;have C:=af b;have y:=af f;have J:k<=1000000:=Om;have I:nDigits x<=9:=(Dp a).1;clear r b q l a i B f t j m K;rw[n];have T:=af n;clear n F L;have O:ah (d7 (w.alloc (Obj.cells #[.bool (decide (z<0)),aG g o (k+1) c] dm))):=H.ext ((aB w).alloc _);go_enter func131,ntmps131;go_wp2_with fail
  refine(aen x y _ O).mono ?_;rintro e Q ⟨rfl,p⟩;have E:(ByteArray.mk (decDigits x).toArray).size=nDigits x:=by rw[<-decDigits_length];simp [ByteArray.size]
  go_wp2;go_ret;exact⟨qG (by rw[C.ae,Z2,oG];rfl),((aB w).alloc _).trans p⟩
def acs(v:Value)(q:Rat)(w:au)(h:bQ w v q)(j:bR 400 q)(k:d7 w):
 Calls prog 62 #[v] w fun e u=>e= .returned (.tuple #[aM (cP q),av 0])/\Ext w u:=by
 have C:=af (fun(w:au) (h:bQ w v q) (k:d7 w)=>TA v q w h j Od k);obtain⟨b,A,n,c,O,Q,K,N,rfl,H,F⟩:=h.parts;have G:=af (j.num Od).wide;have I:=af (j.den Od).wide;have D:=af h;have o:=af k;have L:(nDigits q.num.natAbs:Int)<=400:=by have:=j.dn;omega
 have M:(nDigits q.den:Int)<=400:=by have:=j.dd;omega
 have E:ah ((q.den:Int).natAbs=q.den):=ib _;clear h j k;go_enter func62,ntmps62;go_wp2_with fail;refine aR (P:=fun W=>Calls _ _ _ W _) fun W l r=> ?_;refine(abh _ q.num W (H.ext l) G (o.ext l)).mono ?_;rintro e t ⟨rfl,f⟩;have a:=af (l.trans f);have i:=af (r.ext f);obtain⟨B,z,y,x⟩:=i.four;generalize nDigits q.num.natAbs=dn at*;clear f l r;go_wp2_with fail
 refine(abh _ q.den t (F.ext a) I (o.ext a)).mono ?_;rintro e s ⟨rfl,d⟩;rw[E.ae];have g:=af (a.trans d);have p:=af (i.ext d);obtain⟨B,z,y,x⟩:=p.four;generalize nDigits q.den=dd at*;clear d a i;go_wp2_with fail
 refine(C s (D.ext g) (o.ext g)).mono ?_;rintro e J ⟨rfl,m⟩;go_wp2;go_ret2;exact⟨rfl,g.trans m⟩
def pH.get{n:Nat}{l:List Gp}(h:pH m (.slice E n a) l){i:Nat}(e:i<l):
 ∃g o B d,E=dV g o/\g<m.heap.size/\aA m g (o+i*2) (.slice B l[i].1 d)/\aA m g (o+i*2+1) (aM (cP l[i].2))/\ah (TL m (.slice B l[i].1 d) l[i].1):=by
 obtain⟨g,o,d,k,j,⟨B,p,rfl,f⟩,b⟩:=rY sG.two Od h e;exact⟨g,o,B,p,k,j,b 0 _ rfl,b 1 _ rfl,f⟩
def Db:=@pH.get
def Du(q:Rat):Nat:=max (nDigits q.num.natAbs) (nDigits q.den)
def aqh(h:bR (a+1) H):Du H<=a+1:=by have c:=h.dn;have b:=h.dd;unfold Du;omega
def arL{wr:au}(h:∃q,wr=m.drewN q)(n:Nat):∃q,wr.drewN n=m.drewN q:=by obtain⟨q,rfl⟩:=h;exact⟨_,Fm _ _ _⟩
def UE{wr:au}(h:∃q,wr=m.drewN q):Ext m wr:=by obtain⟨q,rfl⟩:=h;exact(aB m).drewN q
def aas{l:List Gp}(x:pH m (.slice E a c) l)(u:pH m (.slice F b d) l):
 Calls prog 21 #[.slice E a c,.slice F b d] m fun e k=>e= .returned (.bool true)/\∃q,k=m.drewN q:=by
 obtain⟨I,H,N⟩:=bl x;obtain⟨K,J,M⟩:=bl u;subst I;subst K;have T:=af x;have S:=af u;go_enter func21,ntmps21;go_upto_region 4 with fail
 go_loopw [13] (fun f wr=>∃i:Nat,i<=l/\f=av i/\ah (∃q,wr=m.drewN q)) (fun f _=>l - (RowKit.intOf f).toNat)
 exact⟨0,aU _,rfl,⟨0,rfl⟩⟩;obtain⟨i,V,rfl,HQ⟩:=hrel;have z:=af (UE HQ);by_cases j:i<l
 ·obtain⟨g,o,P,p,rfl,W,q1,q2,R⟩:=Db (bU jq T z) j;obtain⟨X,U,Q,G,rfl,L,D,C,s⟩:=Db (bU jq S z) j;have r:ah (∀a,Calls prog 63 #[.slice P l[i].1 p,.slice Q l[i].1 G] (wr.drewN a) fun e k=>e= .returned (.bool true)/\∃b,k=wr.drewN b):=fun a=>by refine(R3 _ _ _ _ _ _ l[i].1 l[i].1 _ (eB R ((aB wr).drewN a)) (eB s ((aB wr).drewN a))).mono ?_;rintro e k ⟨O,b,rfl⟩;exact⟨by rw[O,beq_self_eq_true],_,Fm _ _ _⟩
  generalize l[i]=y at*;generalize cP y.2=t at*;have d2:(t.toArray==t.toArray)=true:=beq_self_eq_true _;go_upto_region 6 with fail
  go_quiet ((go_at_call 63;exact r _));exact afN
 ·have d1:decide ((i:Int)<(l.length:Int))=false:=aW;go_wp2_with fail;exact bodyPost_ret (v:= .bool true) (by simp [results,results21,go_sem]) rfl ⟨rfl,HQ⟩
def aiJ{l:List (List Gp)}(u:EF m (.slice E a c) l)(t:EF m (.slice F b d) l):
 Calls prog 14 #[.slice E a c,.slice F b d] m fun e k=>e= .returned (.bool true)/\∃q,k=m.drewN q:=by
 obtain⟨G,D,L⟩:=bl u;obtain⟨I,H,K⟩:=bl t;subst G;subst I;have R:=af u;have Q:=af t;go_enter func14,ntmps14;go_upto_region 4 with fail
 go_loopw [13] (fun f wr=>∃i:Nat,i<=l/\f=av i/\ah (∃q,wr=m.drewN q)) (fun f _=>l - (RowKit.intOf f).toNat)
 exact⟨0,aU _,rfl,⟨0,rfl⟩⟩;obtain⟨i,T,rfl,HQ⟩:=hrel;have x:=af (UE HQ);by_cases j:i<l
 ·obtain⟨g,o,P,p,rfl,U,O,q1⟩:=FE (bU FH R x) j;obtain⟨V,S,N,C,rfl,J,s,z⟩:=FE (bU FH Q x) j;have r:ah (∀a,Calls prog 21 #[.slice P l[i] p,.slice N l[i] C] (wr.drewN a) fun e k=>e= .returned (.bool true)/\∃b,k=wr.drewN b):=fun a=>by refine(aas (bU jq O ((aB wr).drewN a)) (bU jq s ((aB wr).drewN a))).mono ?_;rintro e k ⟨M,b,rfl⟩;exact⟨M,_,Fm _ _ _⟩
  generalize l[i]=y at*;go_upto_region 6 with fail
  go_quiet ((go_at_call 21;exact r _));exact afN
 ·have d1:decide ((i:Int)<(l.length:Int))=false:=aW;go_wp2_with fail;exact bodyPost_ret (v:= .bool true) (by simp [results,results14,go_sem]) rfl ⟨rfl,HQ⟩
def acD:∀{l:List Nat} {a:Nat},kh l=true->(∀b∈l,b<a)->kh (l++ [a])=true
 | [],_,_,_=>rfl
 | [b],a,_,h=>by
   show(decide (b<a)&&true)=true
   rw[Rm,decide_eq_true_eq];exact h b eH
 |b::c::l,a,h,f=>by
  rw[kh,cV] at h;show(decide (b<c)&&kh (c::(l++ [a])))=true
  rw[cV];exact⟨h.1,acD (l:=c::l) h.2 fun d e=>f d (gQ _ e)⟩
def al9(h:bG aS 1 dw b m p L)(d:Only a m n)(e:a<b):bG aS 1 dw b n p L:=h.only cJ d e fun u c=>by cases c
def ab8(g n k:Nat)(w:au)(h:cL w g)(hn:n<=100)(O:1<=k)(Y:k<=100):
 Calls prog 15 #[aI g 0,av n,av k] w fun e y=>∃l u,kh l=true/\(∀a∈l,a<n)/\l.length<=n/\e= .returned u/\bG aS 1 dw w.heap.size y u (ints l)/\cL y g/\Only g w y:=by
 have HS:=af h;have hg:=h.lt;clear h;go_enter func15,ntmps15;go_upto_region 3 with fail
 go_loopw [7,8] (fun T z wr=>∃(i:Nat) (l:List Nat),i<=n/\z=av i/\l.length<=i/\ah (kh l=true)/\ah (∀a∈l,a<i)/\ah (bG aS 1 dw w.heap.size wr T (ints l))/\ah (cL wr g)/\ah (Only g w wr)) (fun _ z _=>n - (RowKit.intOf z).toNat)
 exact⟨0,[],aU _,rfl,aL _,rfl,Oe,ii,HS,gD _ _⟩;obtain⟨i,l,hi,rfl,X,N,J,G,q,Q⟩:=hrel;have b:(ints l).length=l.length:=axJ;obtain⟨A7,c7,S,rfl, -, -, -, -⟩:=G.parts;by_cases Z:i<n
 ·have CN:=af (oP g k wr q Om Om);go_wp2_with fail;refine CN.mono ?_;rintro e2 w2 ⟨r,hr,rfl,m,f⟩;have s:=af (al9 G f hg);have en:=af m;have j:=af (Q.trans f);have t:ah (∀a∈l,a<i+1):=fun a p=>Nat.lt_succ_of_lt (J a p);clear m f;by_cases W:r=k - 1
  ·have d1:((r:Int)==(k:Int) - 1)=true:=ayc;have M:=af (acD N J);have I:ah (∀a∈l++ [i],a<i+1):=fun a p=>by
    rcases bO.1 p with h|h
    ·exact t a h
    ·rw[bE.1 h];omega
   obtain⟨_,_,S,ee,_,_,d,L⟩:=s.parts;injection ee with D _ C;subst D C;have U:=j.size;have B:((ints l).length+1)*8<=140737488355328:=Om;have A:(l++ [i]).length<=i+1:=by rw[bD,gc];omega
   have K:=af b;clear b;go_wp2_with (at_builtin;refine gf rfl _ _ cK rfl w.heap.size jo _ _ _ rfl d.ae #[av (i:Int)] 1 1 rfl rfl rfl B U ?_);intro v' w3 o c _;have P:=af (iF (R:=dw) (x:=(i:Int)) cJ Oe d L rfl o c);rw[<-Na] at P;have F:=af (en.grown c (fun k O=>by have:=(d.lt k O).1;omega));have E:=af (zg j d c (aL _));clear o c;go_wp2_with fail
   go_roundw;exact⟨i+1,l++ [i],by omega,by go_num,A,M,I,P,F,E⟩;simp [RowKit.intOf];omega
  ·have d1:((r:Int)==(k:Int) - 1)=false:=axo;have K:=af b;clear b;go_wp2_with fail
   go_roundw;exact⟨i+1,l,by omega,by go_num,by omega,N,t,s,en,j⟩;simp [RowKit.intOf];omega
 ·have d1:decide ((i:Int)<(n:Int))=false:=aW;have H:ah (∀a∈l,a<n):=fun a p=>cy (J a p) hi;go_wp2_with fail
  exact bodyPost_ret (v:= .slice A7 (ints l).length c7) (by simp [results,results15,go_sem]) rfl ⟨l,_,N,H,by omega,rfl,G,q,Q⟩
def xK(x:aP)(f:Fu):Prop:=f.1<x.ai.length/\((f.2.1=1/\f.2.2= [])\/(f.2.1=2/\f.2.2= [])\/(f.2.1=3/\ej (kd x f.1) f.2.2)\/(f.2.1=4/\f.2.2≠ []/\(kd x f.1≠3->ej (kd x f.1) f.2.2))\/(f.2.1=5/\f.2.2= []))
def FQ{d:Go.Func}{u0 u1 u2:Value}{R:Ending->World->Prop}(b:d.results= #[.cell a g7])(f:Q.tmps.getD a undef=aI g 0)(h:Q.defers= [])
 (j:aq m g g7 [u0,u1,u2]) (i:∀e,Only g m e->R (.returned (.agg #[p,q,r])) e):
 bodyPost prog d R .ret Q (((m.setCell (aD g 0) p).setCell (aD g 1) q).setCell (aD g 2) r):=by
 have c:aq (((m.setCell (aD g 0) p).setCell (aD g 1) q).setCell (aD g 2) r) g g7 [p,q,r]:=((j.bh 0 p).bh 1 q).bh 2 r;exact bodyPost_ret (results_cell_row b Q.tmps _ g g7 #[p,q,r] (0,0) _ f c underlying57 rfl Ok) h (i _ ((((gD g m).bh 0 p).bh 1 q).bh 2 r))
def ase.We(h:ar:=by have b:ah (xK x (a,1,[])):=⟨lK,by rw[k.ae];exact .inl ⟨rfl,rfl⟩⟩;go_wp2_with fail;exact FQ rfl rfl rfl pK.ae fun Q ho=>⟨(a,1,[]),rfl,b,n.past ho Om,((dM (g:=g) y).trans pg.ae).fresh ho Om⟩):=h
def asb.We(h:ar:=by have b:ah (xK x (a,2,[])):=⟨lK,by rw[k.ae];exact .inr (.inl ⟨rfl,rfl⟩)⟩;go_wp2_with fail;exact FQ rfl rfl rfl pK.ae fun Q ho=>⟨(a,2,[]),rfl,b,n.past ho Om,((dM (g:=g) y).trans pg.ae).fresh ho Om⟩):=h
def asa.We(h:ar:=by have b:ah (xK x (a,5,[])):=⟨lK,by rw[k.ae];exact .inr (.inr (.inr (.inr ⟨rfl,rfl⟩)))⟩;go_wp2_with fail;exact FQ rfl rfl rfl pK.ae fun Q ho=>⟨(a,5,[]),rfl,b,n.past ho Om,((dM (g:=g) y).trans pg.ae).fresh ho Om⟩):=h
def ar'.agD(h:ar:=by have b:ah (xK x (a,3,t)):=⟨lK,by rw[k.ae];exact .inr (.inr (.inl ⟨rfl,HT⟩))⟩;go_wp2_with fail;exact FQ rfl rfl rfl wO.ae fun Q ho=>⟨(a,3,t),rfl,b,eQ.past ho Om,((dM (g:=g) y).trans KZ.ae).fresh ho Om⟩):=h
def ar_.k59(h:ar:=by
 go_upto_region 10 with fail
 clear k1;open ar' in exact afS):=h
def ar8.agD(h:ar:=by have b:ah (xK x (a,4,t)):=⟨lK,by rw[k.ae];exact .inr (.inr (.inr (.inl ⟨rfl,HT0,fun _=>HT.ae⟩)))⟩;go_wp2_with fail;exact FQ rfl rfl rfl wO.ae fun Q ho=>⟨(a,4,t),rfl,b,eQ.past ho Om,((dM (g:=g) y).trans KZ.ae).fresh ho Om⟩):=h
def ar9.k59(h:ar:=by
 have k2:=B8.aF 2;by_cases p:t= []
 ·subst p;have f2:=B8.frozen 2;have hl8:=B8.lt;obtain⟨W9,AE,B9,K9,V⟩:=fM (i:=2) B8.ae (.string ⟨#[49]⟩);have nD:=af (eQ.past V Om);have XE:=af (KZ.fresh V KB);have j:=af (wO.only V Om);have AV:ah (ak≠3->ej ak [49]):=fun h3=>by
   have Y:ak=1\/ak=2:=Om;rcases Y with rfl|rfl
   ·exact Nh 1 _ Od xt
   ·exact I' 1 Od
  clear K9 V;go_upto_region 10 with fail
  clear k1 k2 f2;have k0:=B9.aF 0;have k1:=B9.aF 1;have k2:=B9.aF 2;have f0:=j.frozen 0;have f1:=j.frozen 1;have f2:=j.frozen 2;have r0:=j.aF 0;have r1:=j.aF 1;have r2:=j.aF 2;have Kq:=j.lt;have b:ah (xK x (a,4,[49])):=⟨lK,by rw[k.ae];exact .inr (.inr (.inr (.inl ⟨rfl,by simp,AV⟩)))⟩;go_wp2_with fail
  exact FQ rfl rfl rfl j.ae fun Q ho=>⟨(a,4,[49]),rfl,b,nD.past ho Om,((dM (g:=g) y).trans XE.ae).fresh ho Om⟩
 ·have sQ:(t== [])=false:=beq_eq_false_iff_ne.2 p;have HT0:=af p;clear p;go_upto_region 10 with fail
  clear k1 k2;open ar8 in exact afS):=h
def aog(g:Nat)(v:Value)(x:aP)(w:au)(h:cL w g)(hv:dP w v x)(U:bV x):
 Calls prog 17 #[aI g 0,v] w fun e o=>∃f:Fu,e= .returned (.agg #[av (f.1:Int),av (f.2.1:Int),aM f.2.2])/\xK x f/\cL o g/\Only g w o:=by
 obtain⟨A,c,B,d,Dd,e,rfl,ha,hr,hf⟩:=hv;obtain⟨-,ha1,ha2⟩:=bl ha;have HA:=af ha;have aN:=af U;have HS:=af h;have hg:=h.lt;have a12:=U.a12;have a1:=U.a1;obtain⟨AN,q⟩:∃AN,x.ai.length=AN:=⟨_,rfl⟩;have uO:=af q;rw[q] at ha1 HA a12 a1;rw[q];clear ha hr hf U h q;go_enter func17,ntmps17;go_upto_region 1 with fail
 refine gJ fun W y BX BR=> ?_;have PD:g<W.heap.size:=cy hg y.size;have PL:=BR.lt;have wD:=af (HS.ext y);have Qy:=af (bU nM HA y);have hbg:w.heap.size≠g/\w.heap.size+1≠g:=Om;obtain⟨s0,s1,s2,s3⟩:=BX.four;have CN:=af (oP g AN W wD Om Om);generalize AD:w.heap.size=bs at*;go_wp2_with fail
 refine CN.mono ?_;rintro e2 w2 ⟨a,KH,rfl,E,L⟩;have en:=af E;have HY2:=af L;have CR:=af (abQ g 1 5 w2 E Od Od);clear E L s0 s1 s2 s3;go_wp2_with fail
 refine CR.mono ?_;rintro e3 w3 ⟨s,O,N,rfl,J,K⟩;have qo:=af J;have R:=af (HY2.trans K);clear J K;go_upto_region 3 with fail
 refine aR fun W4 S BF=> ?_;have G:=af (qo.ext S);have m:=af (R.trans (dM S));have KB:W.heap.size<=w3.heap.size:=R.size;have hbf:=BF.lt;generalize w3.heap.size=fb at*;have lK:a<x.ai.length:=by rw[uO.ae];exact KH
 obtain⟨ga,oa,rfl,Kw, -, -⟩:=oM (AL.past Qy wD m) lK;have H:ah (∀o,Only g W o->aA o ga (oa+a*2) (aM x.ai[a].1)/\aA o ga (oa+a*2+1) (av x.ai[a].2)):=fun o ho=>by exact afW
 have k:ah (kd x a=x.ai[a].2):=Uz lK;have M:=aN.ak _ (a8 lK);generalize x.ai[a]=Xw at*;obtain⟨nm,ak⟩:=Xw;simp only at k M H;obtain⟨c0,c1⟩:=H W4 m;obtain⟨s0,s1,s2,s3⟩:=(BX.only m hbg.1).four;go_upto_region 4 with fail
 clear c0 c1 s0 s1 s2 s3;have C:ah (aq W4 fb g7 [av (a:Int),av (s:Int),.string ⟨#[]⟩]):=BF.ae;go_cut [34] (fun X D=>∃bb,X= .bool bb/\ah (aq D fb g7 [av (a:Int),av (s:Int),.string ⟨#[]⟩])/\ah (cL D g)/\ah (Only g W D))
 case first=>
  have f1:=C.aF 1;by_cases h3:ak=3
  ·subst h3;by_cases Z:s=3
   ·subst Z;go_wp2;go_meet;case rel=>exact⟨_,rfl,C,G,m⟩
   ·have d1:((s:Int) !=3)=true:=ayb;have CN:=af (oP g 20 W4 G Od Od);go_wp2_with fail
    refine CN.mono ?_;rintro e5 w5 ⟨r,hr,rfl,I,F⟩;have z:=af I;have u:=af (m.trans F);have l:=af (C.only F Om);clear I F f1;go_wp2;go_meet;case rel=>exact⟨_,rfl,l,z,u⟩
  ·have d1:(ak==3)=false:=beq_eq_false_iff_ne.2 h3;go_wp2;go_meet;case rel=>exact⟨_,rfl,C,G,m⟩
 case rest=>
  obtain⟨bb,rfl,l,z,u⟩:=hcut;clear BF;generalize wc=w5 at*;go_upto_if 34 with fail;go_cut [5] (fun s5 D=>s5=av a/\∃s:Nat,1<=s/\s<=5/\ah (aq D fb g7 [av (a:Int),av (s:Int),.string ⟨#[]⟩])/\ah (cL D g)/\ah (Only g W D));case first=>
   cases bb with
   |false=>go_wp2;go_meet;case rel=>exact⟨rfl,s,O,N,l,z,u⟩
   |true=>
    have f1:=l.aF 1;have q1:=l.frozen 1;have WH:=l.lt;obtain⟨W6,KL,B6,K6,N6⟩:=fM (i:=1) l.ae (av 5);have n:=af (z.past N6 Om);have pg:=af (u.fresh N6 KB);clear K6 N6;go_wp2_with fail
    go_meet;case rel=>exact⟨rfl,5,by decide,by decide,B6,n,pg⟩
  case rest=>
   obtain⟨rfl,P,D3,hj5,pG,n,pg⟩:=hcut;clear O N;generalize wc=T at*;have CV:ah (Calls prog 49 #[aI g 0,.agg #[aM nm,av ak]] T fun e o=>∃v,ej ak v/\e= .returned (aM v)/\cL o g/\Only g T o):=adg g nm ak T n M;obtain⟨c0,c1⟩:=H T pg;obtain⟨s0,s1,s2,s3⟩:=(BX.only pg hbg.1).four;have f1:=pG.aF 1;have pK:=af (BR.only pg hbg.2);have h5:P=1\/P=2\/P=5\/P=3\/P=4:=Om;rcases h5 with rfl|rfl|rfl|rfl|rfl
   ·open ase in exact V7
   ·open asb in exact V7
   ·open asa in exact V7
   ·open ar_ in exact m59
   ·open ar9 in exact m59
def ar7.k51(h:ar:=by
 have a:m=3\/m=1\/m=2:=Om;rcases L.ae with⟨rfl,rfl⟩|⟨rfl,rfl⟩|⟨rfl,k⟩|⟨rfl,q,k⟩|⟨rfl,rfl⟩
 ·skip
  rcases a with rfl|rfl|rfl
  ·go_wp2_with fail
   exact V6
  ·have HP:=af (HF.1 (.inl ⟨rfl,by decide,rfl⟩));exact Kb
  ·have HP:=af (HF.1 (.inl ⟨rfl,by decide,rfl⟩));exact Kb
 ·skip
  rcases a with rfl|rfl|rfl
  ·go_wp2_with fail
   exact V6
  ·have HP:=af (HF.1 (.inr (.inl ⟨rfl,by decide,rfl⟩)));exact Kb
  ·have HP:=af (HF.1 (.inr (.inl ⟨rfl,by decide,rfl⟩)));exact Kb
 ·have EG:=af (z W2 k);have HP:=af (HF.1 (.inr (.inr (.inl ⟨rfl,k⟩))));rcases a with rfl|rfl|rfl;all_goals
   exact m83
 ·have H:(i== [])=false:=beq_eq_false_iff_ne.2 q;rcases a with rfl|rfl|rfl
  ·skip
   go_wp2_with fail
   exact V6
  all_goals
   have n:=k Od;have EG:=af (z W2 n);have HP:=af (HF.1 (.inr (.inr (.inr (.inl ⟨rfl,by decide,q,n⟩)))));exact m83
 ·have HP:=af (HF.1 (.inr (.inr (.inr (.inr ⟨rfl,rfl⟩)))));rcases a with rfl|rfl|rfl;all_goals
   exact Kb):=h
def aiK(v:Value)(x:aP)(f:Fu)(w:au)(h:dP w v x)(E:bV x)(J:xK x f):
 Calls prog 32 #[v,.agg #[av (f.1:Int),av (f.2.1:Int),aM f.2.2]] w fun e C=>∃b,e= .returned (.bool b)/\(b=true↔nX x f)/\Ext w C:=by
 obtain⟨A,c,B,d,D,e,rfl,u,G,I⟩:=h;obtain⟨fa,l,i⟩:=f;obtain⟨r,s⟩:=J;obtain⟨g,o,rfl,hg,q1,q2⟩:=oM u r;have t:=E.ak _ (a8 r);have j:ah (∀P:Prop,P=(((l=1/\kd x fa≠3/\i= [])\/(l=2/\kd x fa≠3/\i= [])\/(l=3/\ej (kd x fa) i)\/(l=4/\kd x fa≠3/\i≠ []/\ej (kd x fa) i)\/(l=5/\i= [])))->(P↔nX x (fa,l,i))):=fun P e=>by rw[e];exact⟨fun h=>⟨r,h⟩,fun h=>h.2⟩
 simp only at r s q1 q2 t⊢;rw[Uz r] at s j;generalize x.ai[fa]=y at*;obtain⟨F,m⟩:=y;simp only at q1 q2 s t j;have z:=af (fun W (k:ej m i)=>anD F i m W t k);have L:=af s;have HF:=af (j _ rfl);have K:decide ((fa:Int)<(x.ai.length:Int))=true:=fN;go_enter func32,ntmps32;open ar7 in exact m51
def ar6.Kd(h:ar:=by
 have J:=af (BX.ext hx1);have s:=af (HX.trans hx1);have V:ah (∀r,Ext w1 r->aA r g o (aG G C 1 cf)/\aA r g (o+1) (.slice Aa 0 ca)/\aA r G C (av (f.1:Int))/\aA r G (C+1) (av (f.2.1:Int))/\aA r G (C+2) (aM f.2.2)):=fun r hx=>by have m:=s.trans hx;exact⟨(m.cell (p:=aD g o) hg).trans q1,(m.cell (p:=aD g (o+1)) hg).trans q2,(m.cell (p:=aD G C) F).trans f1,(m.cell (p:=aD G (C+1)) F).trans f2,(m.cell (p:=aD G (C+2)) F).trans f3⟩
 generalize w.heap.size=bs at*;go_upto_region 7 with fail
 go_loopw [25] (fun y wr=>∃k:Nat,k<=1/\y=av k/\ah (k=0\/nX x f)/\ah (Ext w1 wr)) (fun y _=>1 - (RowKit.intOf y).toNat)
 exact⟨0,by decide,rfl,.inl rfl,aB _⟩;obtain⟨k,hk,rfl,a,U⟩:=hrel;by_cases n:k=0
 ·subst n;obtain⟨p1,p2,p3,p4,Z⟩:=V _ U;go_upto_region 9 with fail
  refine aR fun W2 S K=> ?_;have j:=af (U.trans S);have g0:=K.aF 0;have g1:=K.aF 1;generalize wr.heap.size=bg at*;go_upto_region 12 with fail
  go_loopw [42] (fun u wr=>∃k:Nat,k<=1/\u=av k/\ah (Ext W2 wr)) (fun u _=>1 - (RowKit.intOf u).toNat)
  exact⟨0,by decide,rfl,aB _⟩;obtain⟨k,hk,rfl,q⟩:=hrel;by_cases n:k=0
  ·subst n;obtain⟨p1,p2,p3,p4,Z⟩:=V _ (j.trans q);go_upto_region 14 with fail
   refine aR fun W3 H L=> ?_;have l:=af (q.trans H);have f0:=L.aF 0;obtain⟨s0,s1,s2,s3⟩:=(J.ext (j.trans l)).four;go_wp2_with fail
   go_roundw;first|exact⟨1,by decide,rfl,l⟩|((repeat apply Exists.intro);exact⟨⟨1,by decide,rfl,l⟩,rfl⟩)
   simp [RowKit.intOf]
  ·obtain rfl:k=1:=Om;have g0:=(K.ext q).aF 0;have g1:=(K.ext q).aF 1;go_upto_region 18 with fail
   generalize wr=Y at*;go_loopw [61] (fun N wr=>N=av 0/\wr=Y) (fun _ _=>0);case atStart=>exact⟨rfl,rfl⟩
   case round=>
   obtain⟨rfl,E⟩:=hrel;subst E;go_upto_region 24 with fail;generalize wr=Y at*;go_loopw [78] (fun t wr=>∃k:Nat,k<=1/\t=av k/\ah (k=0\/nX x f)/\ah (Ext W2 wr)) (fun t _=>1 - (RowKit.intOf t).toNat);exact⟨0,by decide,rfl,.inl rfl,q⟩;obtain⟨k,hk,rfl,a,q⟩:=hrel;by_cases n:k=0
   ·subst n;obtain⟨p1,p2,p3,p4,Z⟩:=V _ (j.trans q);go_upto_region 26 with fail
    refine aR fun W3 H L=> ?_;have l:=af (q.trans H);have X:=af (CV W3 (s.trans (j.trans l)));have f0:=L.aF 0;have f1:=L.aF 1;have f2:=L.aF 2;obtain⟨s0,s1,s2,s3⟩:=(J.ext (j.trans l)).four;generalize wr.heap.size=bf at*;go_wp2_with fail
    refine X.mono ?_;rintro e w5 ⟨b,rfl,hb,Q⟩;have I:=af (l.trans Q);have HB:=af hb;cases b with
    |true=>
     have a:=af (HB.1 rfl);go_wp2_with fail;go_roundw;first|exact⟨1,by decide,rfl,Or.inr a,I⟩|((repeat apply Exists.intro);exact⟨⟨1,by decide,rfl,Or.inr a,I⟩,rfl⟩)
     simp [RowKit.intOf]
    |false=>
     go_wp2_with fail
     exact bodyPost_ret (v:=av 8) (by simp [results,results10,go_sem]) rfl ⟨8,rfl,Oe,s.trans (j.trans I)⟩
   ·obtain rfl:k=1:=Om;have g1:=(K.ext q).aF 1;go_upto_region 30 with fail
    go_loopw [14] (fun O M=>O=av 1/\M=wr) (fun _ _=>0)
    exact⟨rfl,rfl⟩;obtain⟨rfl,E⟩:=hrel;subst E;go_wp2_with fail;go_roundw;first|exact⟨1,by decide,rfl,a,j.trans q⟩|((repeat apply Exists.intro);exact⟨⟨1,by decide,rfl,a,j.trans q⟩,rfl⟩)
    simp [RowKit.intOf]
 ·obtain rfl:k=1:=Om;go_wp2_with fail;exact bodyPost_ret (v:=av 0) (by simp [results,results10,go_sem]) rfl ⟨0,rfl,fun _=>a.resolve_left Od,s.trans U⟩):=h
def alM(v:Value)(x:aP)(f:Fu)(A0:aQ)(c0:Nat)(w:au)(h:dP w v x)(ok:bV x)(hf:xK x f)(hl:ry w (.slice A0 1 c0) [([f],[])]):
 Calls prog 10 #[v,.slice A0 1 c0] w fun e r=>∃z:Int,e= .returned (av z)/\(z=0->nX x f)/\Ext w r:=by
 have CH:=af (fun W (R:Ext w W)=>aaO v x W (h.ext R) ok);have CV:=af (fun W (R:Ext w W)=>aiK v x f W (h.ext R) ok hf);obtain⟨g,o,Af,cf,Aa,ca,rfl,hg,q1,q2,T,HG⟩:=ry.get hl (i:=0) (ZN 0);simp only[QR,gc,uY] at q1 q2 T HG;obtain⟨G,C,rfl,F,f1,f2,f3⟩:=FuL.get T (i:=0) (ZN 0);simp only[QR] at f1 f2 f3;obtain⟨-,atT,atS⟩:=bl hl;obtain⟨-,aw4,aw3⟩:=bl T;obtain⟨-,aw6,aw5⟩:=bl HG;obtain⟨A,c,B,d,D,e,rfl,hat,kQ,D7⟩:=h;have ha:=hf.1;have d1:decide ((f.1:Int)<0)=false:=aW;have d2:decide ((x.ai.length:Int)<=(f.1:Int))=false:=aW;have a:ah (∀P:Prop,P=nX x f->P=nX x f):=fun _ h=>h;go_enter func10,ntmps10;open ar6 in exact Kc
abbrev ae':TypeId:=43
def amM:j7 prog ae' g7 3 32:= .mk' (z:= .agg #[.int .i64 0,.int .i64 0,.string ⟨#[]⟩]) Ok Ok rfl Od Od
end Go.Proofs.YtehkcnbodcdijaaGreatDoor
