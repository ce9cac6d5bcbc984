/- Texts of the proof, part 24. -/
import Derived.Test.YtadbchhdjbghkaaGreatDoorA23
namespace Go.Proofs.YtadbchhdjbghkaaGreatDoor
set_option maxHeartbeats 8000000
set_option linter.all false
set_option maxRecDepth 100000
variable{aq:Prop}
open Go.RowKit Go.Lib Go.Maps Go.ChangeShapes Go.WideShapes Go.ChangeAt Go.Proofs.Tryz
variable{a b c d e f g h:Nat}{i j k l:List Nat}{m n o:World}{p q r s:Value}{t u v:List Value}{w x:TypeId}{y z:Nat→Option Nat}{A:Nat→List Nat}{B C:Int}{E F:Option Addr}{H I:Rat}{J:Nat→Nat}{K:Nat→Bool}{L:List Int}{N:Array Bool}{O:Option Nat}{Q:Act}{R S:Bool}{T:List UInt8}
def g9(l:List Nat):VS:=fun b=>l.contains b
def ER:g9 i a=true↔a∈i:=nN
def Fg(i:Nat):Nat->Option Nat:=fun b=>if b<i then none else some 0
def ahE{n:Nat}{p:Nat->Option Nat}(h:∀b,b<n->p b=y b):iu n p=iu n y:=by unfold iu;refine oZ fun a c=> ?_;rw[h a (dB.1 c)]
def ahz{n:Nat}{p q:VS}(h:∀b,b<n->p b=q b):fG n p=fG n q:=by unfold fG;refine oZ fun a c=> ?_;rw[h a (dB.1 c)]
def rz(a:Nat)(c:VS)(p:Nat->Option Nat)(j:Nat):Nat->Option Nat:=fun b=>if b<j/\c b=true/\b≠a then some a else p b
def amo{d:VS}{p:Nat->Option Nat}(g:d b=true)(e:b≠a):iJ (rz a d p b) b (some a)=rz a d p (b+1):=by
 funext c
 unfold iJ rz;by_cases f:c=b
 ·subst f;rw[if_pos rfl,if_pos ⟨by omega,g,e⟩]
 ·rw[if_neg f];by_cases h:c<b/\d c=true/\c≠a
  ·rw[if_pos h,if_pos ⟨by omega,h.2⟩]
  ·rw[if_neg h,if_neg fun i=>h ⟨by omega,i.2⟩]
def aa4{d:VS}{p:Nat->Option Nat}(h:d b=false\/b=a):rz a d p (b+1)=rz a d p b:=by
 funext c
 unfold rz;by_cases f:c<b/\d c=true/\c≠a
 ·rw[if_pos f,if_pos ⟨by omega,f.2⟩]
 ·rw[if_neg f,if_neg];rintro⟨k,g,i⟩;by_cases e:c=b
  ·subst e;rcases h with h|h
   ·rw[h] at g;cases g
   ·exact i h
  ·exact f ⟨by omega,g,i⟩
def zG(b:Nat->Nat->Prop)(a:List Nat)(q:Nat->Option Nat)(k:Nat)(p:Nat->Option Nat):Prop:=q=iL b (g9 (a.drop k)) (a.drop k) p
def zG.next{c:Nat->Nat->Prop}{p:Nat->Option Nat}(h:zG c i y a p)(o:a<i)(m:i.Nodup):
 zG c i y (a+1) (fun b=>if b≠i[a]/\part c (g9 (i.drop a)) i[a] b=true then some i[a] else p b)/\VS.less (g9 (i.drop a)) (VS.one i[a])=g9 (i.drop (a+1)):=by
 have e:=jR o;have f:(i.drop a).Nodup:=m.sublist (List.drop_sublist _ _);rw[e,i6] at f;have j:VS.less (g9 (i.drop a)) (VS.one i[a])=g9 (i.drop (a+1)):=by
  funext b
  rw[lI,py,ER,ER,e,aJ];constructor
  ·rintro⟨d|d,g⟩
   ·exact absurd d g
   ·exact d
  ·exact fun d=>⟨.inr d,fun g=>f.1 (g▸d)⟩
 refine⟨?_,j⟩;unfold zG at h⊢;have r:=congrArg (fun l=>iL c (g9 (i.drop a)) l p) e;have g:iL c (g9 (i.drop a)) (i[a]::i.drop (a+1)) p=iL c (VS.less (g9 (i.drop a)) (VS.one i[a])) (i.drop (a+1)) fun b=>if b≠i[a]/\part c (g9 (i.drop a)) i[a] b=true then some i[a] else p b:=rfl;rw[h,r,g,j]
structure j6(w0:au)(sc:List Value)(xb rb ob pb mb n:Nat)(p:Nat->Option Nat)(rm:VS)(w:au):Prop where
 bx:ar w xb kq sc
 br:ar w rb uB [.slice none 0 0]
 bo:ar w ob uB [aG pb 0 n n]
 bp:ar w pb aS (iu n p)
 bm:ar w mb fH (fG n rm)
 ne:w0.heap.size<=xb/\xb<rb/\rb<pb/\pb<ob/\ob<mb
 ex:Ext w0 w
section
variable{w0 w w':au}{sc:List Value}{xb rb ob pb mb n:Nat}{p:Nat->Option Nat}{rm:VS}
theorem j6.ext(h:j6 w0 sc xb rb ob pb mb n p rm w)(k:Ext w w'):j6 w0 sc xb rb ob pb mb n p rm w':=⟨h.bx.ext k,h.br.ext k,h.bo.ext k,h.bp.ext k,h.bm.ext k,h.ne,h.ex.trans k⟩
theorem j6.congr{q:Nat->Option Nat}{r:VS}(h:j6 w0 sc xb rb ob pb mb n p rm w)(c:∀b,b<n->p b=q b)(a:∀b,b<n->rm b=r b):j6 w0 sc xb rb ob pb mb n q r w:=⟨h.bx,h.br,h.bo,by rw[<-ahE c];exact h.bp,by rw[<-ahz a];exact h.bm,h.ne,h.ex⟩
theorem j6.aex(h:j6 w0 sc xb rb ob pb mb n p rm w){u:Option Nat}{z:Int}(e:a<n)(d:rE u=z):∃c,w.setCell (aC pb a) (av z)=c/\ah (j6 w0 sc xb rb ob pb mb n (iJ p a u) rm c)/\ah (Only pb w c):=by obtain⟨k,j,i,g,f⟩:=h.ne;subst d;have b:Only pb w (w.setCell (aC pb a) (av (rE u))):=(ig pb w).bu a _;exact⟨_,rfl,⟨h.bx.only b Om,h.br.only b Om,h.bo.only b Om,by rw[<-Z6 e];exact h.bp.bu a _,h.bm.only b Om,h.ne,h.ex.only b Om⟩,b⟩
theorem j6.ary(h:j6 w0 sc xb rb ob pb mb n p rm w)(d:a<n):∃c,w.setCell (aC mb a) (.bool true)=c/\ah (j6 w0 sc xb rb ob pb mb n p (lz rm a) c)/\ah (Only mb w c):=by obtain⟨k,j,i,g,f⟩:=h.ne;have b:Only mb w (w.setCell (aC mb a) (.bool true)):=(ig mb w).bu a _;have e:(fG n rm).set a (.bool true)=fG n (lz rm a):=L5 d;exact⟨_,rfl,⟨h.bx.only b Om,h.br.only b Om,h.bo.only b Om,h.bp.only b Om,by rw[<-e];exact h.bm.bu a _,h.ne,h.ex.only b Om⟩,b⟩
end
def ami(v:Value)(x:aP)(n:Nat)(B:aR)(cB:Nat)(f:List Nat)(w:au)(h:dN w v x)(hN:x.ai=n)(hn:n<=12)(hp:IL w (.slice B f cB) (ints f))(G:f=n)(hnd:f.Nodup)(hpm:∀a,a∈f↔a<n):
 Calls prog 109 #[v,.slice B f cB] w fun e w'=>∃g,e= .returned (.agg #[aG g 0 n n])/\ar w' g aS (iu n (iL (iy x.ay) (g9 f) f fun _=>none))/\w.heap.size<=g/\Ext w w':=by
 have CC:=af (fun W a gr rest (hX:Ext w W)=>anv v x n a gr rest W (h.ext hX) hN hn);have HP:=af hp;have U:=af G;have DK:=af hnd;have O:=af hpm;obtain⟨q,hq⟩:∃q,(iL (iy x.ay) (g9 f) f fun _=>none)=q:=⟨_,rfl⟩;rw[hq,G];have Xe:ah (zG (iy x.ay) f q 0 fun _=>none):=by rw[ah,zG,lJ];exact hq.symm
 obtain⟨A,c,t,d,D,e,rfl,hat,oz,F0⟩:=h;subst hN;generalize x.ai.length=n at*;have kR:=Mc n Om;have Ov:=Hs n Om;have e0:List.replicate n (Value.bool false)=fG n fun _=>false:=(LU (n:=n) (v:= .bool false)).symm;rw[e0] at Ov;rw[G] at HP;have iB:=(bD HP).2;go_enter func109,ntmps109;go_upto_region 1 with fail
 refine fR fun W HX BX BR=> ?_;have hbr:=BR.lt;go_upto_region 2 with fail
 refine fR fun W2 M BP BO=> ?_;have wU:=BR.lt;have ke:=af (BX.ext M);have D5:=af (BR.ext M);have xL:=af (HX.trans M);have H:=BO.lt;generalize hpp:W.heap.size=pb at*;go_upto_region 3 with fail
 refine aT fun W3 s BM=> ?_;have P:=BM.lt;have T:ah (j6 w [.slice A n c,.slice t x.ay d,.slice D x.bf e,av x.label] w.heap.size (w.heap.size+1) (pb+1) pb W2.heap.size n (Fg 0) (fun _=>false) W3):=j6.congr ⟨ke.ext s,D5.ext s,BO.ext s,BP.ext s,BM,⟨aK _,by omega,by omega,by omega,H⟩,xL.trans s⟩ (fun b _=>by unfold Fg;rw[if_neg Om]) fun _ _=>rfl;generalize W2.heap.size=mb at*;generalize H:pb+1=ob at*;generalize uK:w.heap.size+1=rb at*;generalize FE:w.heap.size=xb at*;clear H uK FE P;have o0:=T.bo.aF 0;go_upto_region 4 with fail
 go_loopw [7,22] (fun _ E wr=>∃i:Nat,i<=n/\E=av i/\ah (j6 w [.slice A n c,.slice t x.ay d,.slice D x.bf e,av x.label] xb rb ob pb mb n (Fg i) (fun _=>false) wr)) (fun _ E _=>n - (RowKit.intOf E).toNat)
 exact⟨0,aV _,rfl,T⟩;obtain⟨i,hi,rfl,l⟩:=hrel;by_cases Q:i<n
 ·have o0:=l.bo.aF 0;have p0:=l.bp.cell (AP Q);have f0:=l.bp.frozen i;have hlp:=l.bp.lt;obtain⟨W6,S,m, -⟩:=l.aex (u:=none) (z:= -1) Q rfl;have N:=af (m.congr (q:=Fg (i+1)) (r:=fun _=>false) (fun b _=>by
   unfold iJ Fg;by_cases e:b=i
   ·rw[if_pos e,if_pos Om]
   ·rw[if_neg e];by_cases e2:b<i
    ·rw[if_pos e2,if_pos Om]
    ·rw[if_neg e2,if_neg Om]) fun _ _=>rfl)
  go_wp2_with fail
  go_roundw;exact⟨i+1,by omega,by go_num,N⟩;simp [RowKit.intOf];omega
 ·obtain rfl:i=n:=Om;have d1:=aY;have bB:ah (j6 w [.slice A i c,.slice t x.ay d,.slice D x.bf e,av x.label] xb rb ob pb mb i (fun _=>none) (fun b=> !g9 (f.drop 0) b) wr):=l.congr (fun b L=>by unfold Fg;rw[if_pos L]) fun b L=>by have:=ER.2 ((O b).2 L);rw[lJ,this];rfl
  go_upto_region 9 with fail
  go_loopw [9,10,11,32] (fun _ _ _ C wr=>∃(k:Nat) (p:Nat->Option Nat),k<=i/\C=av k/\ah (zG (iy x.ay) f q k p)/\ah (j6 w [.slice A i c,.slice t x.ay d,.slice D x.bf e,av x.label] xb rb ob pb mb i p (fun b=> !g9 (f.drop k) b) wr)) (fun _ _ _ C _=>i - (RowKit.intOf C).toNat)
  exact⟨0,fun _=>none,aV _,rfl,Xe,bB⟩;obtain⟨k,p,hk,rfl,HQ,l⟩:=hrel;by_cases Jx:k<i
  ·have I:k<f.length:=by rw[U.ae];exact Jx
   obtain⟨g1,o1,j5,q0⟩:=qb (HP.ext l.ex) I (kj aS _);have Y:=af (HQ.next I DK);have ha:=(O _).1 (a_ I);generalize f[k]=a at*;subst j5;obtain⟨s0,s1,s2,s3⟩:=l.bx.four;have CC1:=af (CC _ a mb (g9 (f.drop k)) l.ex ha (fun b L=>(O b).1 (Ha (ER.1 L))) l.bm);go_upto_region 11 with fail
   go_wp2_with fail
   refine CC1.mono ?_;rintro e5 w5 ⟨gi,F,rfl,R,lB,Ol,fM⟩;have kB:ah (j6 w [.slice A i c,.slice t x.ay d,.slice D x.bf e,av x.label] xb rb ob pb mb i (rz a F p 0) (fun b=> !g9 (f.drop k) b) w5):=(l.ext fM).congr (fun b _=>by unfold rz;rw[if_neg];rintro⟨h, -⟩;omega) fun _ _=>rfl;have V:=af Ol;have sB:=af R;have hgm:=cF l.bm.lt lB;have hne:=l.ne;go_upto_region 13 with fail
   go_loopw [11,42] (fun _ y wq=>∃j:Nat,j<=i/\y=av j/\ah (j6 w [.slice A i c,.slice t x.ay d,.slice D x.bf e,av x.label] xb rb ob pb mb i (rz a F p j) (fun b=> !g9 (f.drop k) b) wq)/\ah (ar wq gi fH (fG i F))) (fun _ y _=>i - (RowKit.intOf y).toNat)
   exact⟨0,aV _,rfl,kB,sB⟩;obtain⟨j,hj,rfl,l,Z⟩:=hrel;by_cases J:j<i
   ·have pj:=Z.cell (pX J);cases o:F j with
    |false=>
     rw[o] at pj;have ei:ah (j6 w [.slice A i c,.slice t x.ay d,.slice D x.bf e,av x.label] xb rb ob pb mb i (rz a F p (j+1)) (fun b=> !g9 (f.drop k) b) wr):=by rw[aa4 (.inl o)];exact l
     go_wp2_with fail
     go_roundw;exact⟨j+1,by omega,by go_num,ei,Z⟩;simp [RowKit.intOf];omega
    |true=>
     rw[o] at pj;by_cases K:j=a
     ·subst K;have ei:ah (j6 w [.slice A i c,.slice t x.ay d,.slice D x.bf e,av x.label] xb rb ob pb mb i (rz j F p (j+1)) (fun b=> !g9 (f.drop k) b) wr):=by rw[aa4 (.inr rfl)];exact l
      have d2:((j:Int) !=(j:Int))=false:=Ou;go_wp2_with fail;go_roundw;exact⟨j+1,by omega,by go_num,ei,Z⟩;simp [RowKit.intOf];omega
     ·have d2:((j:Int) !=(a:Int))=true:=(by rw[bne_iff_ne];omega);have o0:=l.bo.aF 0;have p0:=l.bp.cell (AP J);have f0:=l.bp.frozen j;have hlp:=l.bp.lt;obtain⟨W6,S,m,X⟩:=l.aex (u:=some a) (z:=(a:Int)) J rfl;rw[amo o K] at m;have xO:=af (Z.only X Om);clear o K;go_wp2_with fail
      go_roundw;exact⟨j+1,by omega,by go_num,m,xO⟩;simp [RowKit.intOf];omega
   ·obtain rfl:j=i:=Om;have d1:=aY;have m0:=l.bm.cell (pX ha);have f0:=l.bm.frozen a;have hlm:=l.bm.lt;obtain⟨W6,S,m,X⟩:=l.ary ha;have N:ah (j6 w [.slice A j c,.slice t x.ay d,.slice D x.bf e,av x.label] xb rb ob pb mb j (fun b=>if b≠a/\part (iy x.ay) (g9 (f.drop k)) a b=true then some a else p b) (fun b=> !g9 (f.drop (k+1)) b) W6):=m.congr (fun b L=>by
     unfold rz;by_cases h:F b=true/\b≠a
     ·rw[if_pos ⟨L,h⟩,if_pos ⟨h.2,eV.2 ((V b).1 h.1)⟩]
     ·rw[if_neg fun h'=>h h'.2,if_neg];rintro⟨h1,h2⟩;exact h ⟨(V b).2 (eV.1 h2),h1⟩) fun b _=>by
     have h2:=congrFun Y.2 b;rw[<-h2];unfold lz VS.less VS.one;by_cases e:b=a
     ·subst e;simp
     ·rw[if_neg e,beq_eq_false_iff_ne.2 e];simp
    have HQ2:=af Y.1;go_wp2_with fail;go_roundw;exact⟨k+1,_,by omega,by go_num,HQ2,N⟩;simp [RowKit.intOf];omega
  ·obtain rfl:k=i:=Om;have d1:=aY;have HQF:ah (q=p):=(by have h:=HQ.ae;have e:=Ai (by rw[U.ae];exact aK _);rw[zG,e] at h;exact h)
   have o0:=l.bo.aF 0;have r0:=l.br.aF 0;have f0:=l.br.frozen 0;obtain⟨W8,hW8,B8,K8,N8⟩:=gG l.br (aG pb 0 k k);obtain⟨n1,n2,n3,n4,n5⟩:=l.ne;have J8:=af hW8;have KZ:ah (ar W8 pb aS (iu k q)):=by rw[HQF.ae];exact l.bp.only N8 Om
   have j8:=af (l.ex.only N8 Om);go_wp2_with fail;rw[J8.ae];exact bodyPost_ret (results_cell_row rfl _ _ rb uB #[aG pb 0 k k] (0,0) _ rfl B8.ae underlying32 rfl Ok) rfl ⟨pb,rfl,KZ,by omega,j8⟩
def results_cell_tmp{P:Program}{j:Go.Func}{p q:Tmp}{b:TypeId}(h:j.results= #[.cell p b,.tmp q])(a:Array Value)(w:au)(g:Nat)(t:TypeId)(c:Array Value)(i:Nat×Nat)(d:TypeDesc)
 (m:a.getD p undef=aI g 0) (o:w.heap[g]? =some (.cells c t i))
 (k:P.underlying b=some d) (r:(match d with| .struct _| .array _ _=>true|_=>false)=true) (n:(P.info? b).map (·.size)=some c.size) {v:Value} (l:a.getD q undef=v):
 (results j a).run P w= .ok (.tuple #[.agg c,v]) w:=by
 have f:a[p]?.getD undef=aI g 0:=by simpa using m
 have e:a[q]?.getD undef=v:=by simpa using l
 simp [results,h,f,e,asAddr,run_loadVar_row w g t b c i d o k r n]
def aea(w:au):∀l:List Int,Ch (dO w) (eG l) l
 | []=>rfl
 |z::l=>⟨[av z],eG l,rfl,rfl,aea w l⟩
def aoG(h:IL m (.slice E a b) L){k:Nat}(i:k<=L):IL m (.slice E k b) (L.take k):=by
 obtain⟨g,f⟩:=ap' h;obtain⟨e,o,j⟩:=bD h;have d:(L.take k)=k:=avU;refine⟨E,b,eG (L.take k),by rw[d],by rw[d];omega,by unfold maxLen;omega,f,?_,aea m _⟩;have e:eG (L.take k)=(eG L).take k:=by unfold eG;rw[El]
 rw[e];exact g.take k
def R5(v:Value)(x:aP)(ok:bR x)(n:Nat)(B:aR)(H:Nat)(f:List Nat)(w:au)(h:dN w v x)(P:x.ai=n)(hp:IL w (.slice B f H) (ints f))(t:f=n)(u:f.Nodup)(E:∀a,a∈f↔a<n):
 Calls prog 50 #[v,.slice B f.length H] w fun e z=>∃g,e= .returned (.tuple #[.agg #[aG g 0 n n],av 0])/\ar z g aS (iu n (iL (iy x.ay) (g9 f) f fun _=>none))/\w.heap.size<=g/\Ext w z:=by
 have hn:n<=12:=by rw[<-P];exact ok.a12
 have CH:=af (fun z (hx:Ext w z)=>aiQ v x z (h.ext hx) ok);have CO:=af (fun W (hX:Ext w W)=>ami v x n B H f W (h.ext hX) P hn (kJ hp hX) t u E);have K:=af hp;have J:=af t;have R:=af E;have T:ah (∀k (N:k<f.length),(ints (f.take k)).contains (f[k]:Int)=false):=fun k N=>by
  rw[<-sQ,nN];intro hm;unfold ints at hm;obtain⟨b,hb,e⟩:=dU.1 hm;have e':b=f[k]:=Om;subst e';have e2:f=f.take k++f[k]::f.drop (k+1):=by rw[<-jR N,sJ]
  rw[e2,qP] at u;exact u.2.2 _ hb _ lH rfl
 generalize(iL (iy x.ay) (g9 f) f fun _=>none)=q at*;obtain⟨A,c,Br,d,D,e,rfl,hat,oz,F0⟩:=h;rw[t] at K CO⊢;subst P;generalize x.ai.length=n at*;have iB:=(bD K).2;go_enter func50,ntmps50;go_upto_region 1 with fail
 refine fR fun W HX BX BR=> ?_;have hbr:=BR.lt;have Z:=af (CH W HX);obtain⟨s0,s1,s2,s3⟩:=BX.four;go_wp2_with fail
 refine Z.mono ?_;rintro e1 w1 ⟨rfl,l⟩;obtain⟨t0,t1,t2,t3⟩:=(BX.ext l).four;have kZ:=af (BX.ext l);have tW:=af (BR.ext l);have j:=af (HX.trans l);go_upto_region 8 with fail
 go_loopw [9,28] (fun _ r wr=>∃i:Nat,i<=n/\r=av i/\wr=w1) (fun _ r _=>n - (RowKit.intOf r).toNat)
 exact⟨0,aV _,rfl,rfl⟩;obtain⟨i,hi,rfl,s⟩:=hrel;have s:=s.symm;subst s;by_cases O:i<n
 ·have G:i<f.length:=by rw[J.ae];exact O
  obtain⟨g1,o1,m,q0⟩:=qb (K.ext j) (k:=i) G (kj aS _);have ha:=(R _).1 (a_ G);generalize f[i]=a at*;subst m;have d1:decide ((a:Int)<0)=false:=aY;have d2:decide ((n:Int)<=(a:Int))=false:=aY;exact U4
 ·obtain rfl:i=n:=Om;have d1:decide ((i:Int)<(i:Int))=false:=aY;go_upto_region 14 with fail
  go_loopw [10,11,43] (fun _ _ p wq=>∃k:Nat,k<=i/\p=av k/\ah (Ext w1 wq)) (fun _ _ p _=>i - (RowKit.intOf p).toNat)
  exact⟨0,aV _,rfl,aB _⟩;obtain⟨k,N,rfl,y⟩:=hrel;by_cases M:k<i
  ·have F:k<f.length:=by rw[J.ae];exact M
   obtain⟨g1,o1,m,q0⟩:=qb (K.ext (j.trans y)) (k:=k) F (kj aS _);have U:ah (IL wr (aG g1 o1 k H) (ints (f.take k))):=(by have h:=aoG (K.ext (j.trans y)) (k:=k) (by unfold ints;rw[bW];omega);rw[m] at h;unfold ints at h⊢;rwa[El])
   have S:=af (T k F);generalize f[k]=a at*;generalize ints (f.take k)=pk at*;subst m;have CI:=af (R6 _ k H pk (a:Int) wr U);go_wp2_with fail
   refine CI.mono ?_;rintro e5 w5 ⟨rfl,nn,rfl⟩;rw[S.ae];have X:=af (y.drewN nn);generalize wr.drewN nn=w5 at*;go_wp2_with fail
   go_roundw;exact⟨k+1,by omega,by go_num,X⟩;simp [RowKit.intOf];omega
  ·obtain rfl:k=i:=Om;have d1:decide ((k:Int)<(k:Int))=false:=aY;have Y:=af (CO _ (j.trans y));have I:=af (j.trans y);have L:=af (tW.ext y);obtain⟨s0,s1,s2,s3⟩:=(kZ.ext y).four;go_wp2_with fail
   refine Y.mono ?_;rintro e5 w5 ⟨g,rfl,hg,hl,C⟩;have o:=af (L.ext C);have Ox:=o.lt;have r0:=o.aF 0;have f0:=o.frozen 0;obtain⟨W8,hW8,B8,K8,N8⟩:=gG (i:=0) o.ae (aG g 0 k k);have hsz:=I.size;have Db:=L.lt;have V:ah (ar W8 g aS (iu k q)):=hg.only N8 Om;have Q:ah (Ext w W8):=(I.trans C).only N8.ae Om;go_wp2_with fail
   exact bodyPost_ret (results_cell_tmp rfl _ _ (w.heap.size+1) uB #[aG g 0 k k] (0,0) _ rfl B8.ae underlying32 rfl Ok rfl) rfl ⟨g,rfl,V,by omega,Q⟩
def anV:rA a y=(List.range a).map (rH y):=by unfold rA;refine oZ fun b _=> ?_;unfold rH;cases y b<;>rfl
def adC{x:aP}(k:bR x)(o:i.length=x.ai.length)(l:i.Nodup)(j:∀a,a∈i↔a<x.ai.length):∃d,Ni x (iL (iy x.ay) (g9 i) i fun _=>none) d:=by
 have g:=an9 j o fun b e=>ac5 (abI x.ay) i (g9 i) (fun _=>none) (fun a=>ER.symm) l b e;refine⟨_,g,fun r c a m b e n=> ?_⟩;have q:=k.ri r c a m;have p:=k.ri r c b e;have t:((a.toNat:Nat):Int)=a:=Om;have s:((b.toNat:Nat):Int)=b:=Om;have f:iy x.ay a.toNat b.toNat:=(by unfold iy mX;rw[o9];exact⟨r,c,by rw[t,s,cZ];exact⟨nN.2 m,nN.2 e⟩⟩)
 rcases ac4 (abI x.ay) i (g9 i) (fun _=>none) (fun a=>ER.symm) l a.toNat ((j _).2 Om) b.toNat ((j _).2 Om) f Om with h|h
 ·exact .inl (adP g Om h)
 ·exact .inr (adP g Om h)
def Rc(n:Nat):upto n=ints (List.range n):=rfl
def ab8(h:L.Perm (upto a)):∃m:List Nat,L=ints m/\m=a/\m.Nodup/\∀c,c∈m↔c<a:=by
 refine⟨b9 L,(aai fun c g=> ?_).symm,?_,?_,?_⟩
 ·have f:=h.mem_iff.1 g;rw[Rc] at f;unfold ints at f;obtain⟨b, -,rfl⟩:=dU.1 f;omega
 ·unfold b9;rw[bW,h.length_eq,Zu]
 ·have d:(b9 L).Perm (b9 (upto a)):=h.map _;have e:b9 (upto a)=List.range a:=(by rw[Rc];unfold b9 ints;rw[Ep];exact(oZ fun c _=>rfl).trans (List.map_id _))
  rw[e] at d;exact d.nodup_iff.2 qQ
 ·have d:(b9 L).Perm (b9 (upto a)):=h.map _;have e:b9 (upto a)=List.range a:=(by rw[Rc];unfold b9 ints;rw[Ep];exact(oZ fun c _=>rfl).trans (List.map_id _))
  rw[e] at d;intro c;rw[d.mem_iff,dB]
def aqC.k59(h:aq:=by exact m9):=h
def aqB.k59(h:aq:=by exact m9):=h
def amQ(g:Nat)(v:Value)(x:aP)(w:au)(h:df w g)(P:dN w v x)(N:bR x):
 Calls prog 17 #[aI g 0,v] w fun e a=>∃q p d,e= .returned (.agg #[aG q 0 x.ai x.ai])/\ar a q aS (iu x.ai p)/\Ni x p d/\w.heap.size<=q/\df a g/\Only g w a:=by
 have HV:=af P;have HS:=af h;have X:=h.lt;have a12:=N.a12;have aN:=af N;obtain⟨A,c,B,d,D,e,rfl,Q,U,Y⟩:=P;obtain⟨-,ha1,ha2⟩:=bD Q;clear Q U Y h N;go_enter func17,ntmps17;go_upto_region 1 with fail
 refine fR fun W HX BX BR=> ?_;have Z:=BR.lt;have r:=af (HS.ext HX);have z:=af (HV.ext HX);have V:g<W.heap.size:=cF X HX.size;have t:ah (Only g W W.drew):=(ig g W).drew;have C:ah (df W.drew g):=r.ext (aB W).drew;obtain⟨I,y⟩:∃I:World->Prop,I=fun a=>Only g W a/\df a g:=⟨_,rfl⟩;have O:ah (∀a,I a->Only g W a/\df a g):=by rw[ah,y];exact fun _ h=>h
 have jQ:ah (∀a,Only g W a->df a g->I a):=by rw[ah,y];exact fun _ h1 h2=>⟨h1,h2⟩
 have bO:ah (∀a,I a->aA a w.heap.size 0 (.slice A x.ai c)/\aA a w.heap.size 1 (.slice B x.ay d)/\aA a w.heap.size 2 (.slice D x.bf e)/\aA a w.heap.size 3 (av x.label)):=fun a h=>(BX.only (O a h).1 Om).four;have aH:ah (I W.drew):=jQ _ (ig g W).drew (r.ext (aB W).drew);clear y;refine cD (S:=I) (T:=fun _=>false) Ok ?_;generalize W.drew=M at*;refine ax 0 8 ?_;refine ax 1 9 ?_;refine ax 2 10 ?_;refine ax 3 11 ?_;refine ax 4 12 ?_;refine Ip 5 10 Ok ?_ ?_
 ·skip
  refine zg ?_;intro K hK;go_simp;refine(Zw g x.ai M C Om).mono ?_;rintro e5 F ⟨L,J,R, -,j,rfl,o,f,s⟩;obtain⟨m,rfl,n,l,k⟩:=ab8 j;have rV:=af (t.trans s);have kB:=af f;have u:=af o;have nG:=af n;have gN:=af l;have lD:=af k;refine hK.ae _ _ (fun _=>jQ _ rV kB) ?_;clear hK o f j n l k;refine Ip 6 10 Ok ?_ ?_
  ·skip
   refine zg ?_;intro K hK;go_simp;have CP:=af (R5 _ x aN x.ai L J m F (z.past r rV) rfl (by rw[nG.ae];exact u) nG gN lD);rw[nG.ae] at CP;have hso:=rV.size;refine CP.mono ?_;rintro e6 E ⟨q,rfl,hq,Vx,gI⟩;obtain⟨dd,hdd⟩:=adC aN nG gN lD;have HQ:=af hq;have kC:=af hdd;clear hq hdd;generalize(iL (iy x.ay) (g9 m) m fun _=>none)=pp at*;have hqW:W.heap.size<=q:=Om;have nB:=af (rV.trans (ep gI));have oM:=af (kB.ext gI);refine hK.ae _ _ (fun _=>jQ _ nB oM) ?_;clear hK;have aH:=af (jQ _ nB oM);refine ax 7 7 ?_;refine ax 8 15 ?_;refine ax 9 16 ?_;refine aO 10 ?_;intro K hK;go_simp;refine hK.ae _ _ (fun _=>jQ _ (nB.trans (ep ((aB _).alloc _))) (oM.ext ((aB _).alloc _))) ?_;refine aT fun w7 b HB=> ?_;have xj:=af (nB.trans (ep b));have oL:=af (oM.ext b);have VC:W.heap.size<=(E).heap.size:=nB.size;have G:=HB.lt;generalize H:(E).heap.size=ob at*;clear hK;have aH:=af (jQ _ xj oL);have HQ:=af (HQ.ext b);exact m9
  ·skip
   refine zg ?_;intro K hK;go_simp;refine hK.ae _ _ (fun _=>jQ _ (rV.trans (ep ((aB _).alloc _))) (kB.ext ((aB _).alloc _))) ?_;refine aT fun E b HB=> ?_;have nB:=af (rV.trans (ep b));have oM:=af (kB.ext b);have VC:W.heap.size<=(F).heap.size:=rV.size;have G:=HB.lt;generalize H:(F).heap.size=ob at*;clear hK;have aH:=af (jQ _ nB oM);refine aO 6 ?_;intro K hK;go_simp;have CP:=af (R5 _ x aN x.ai L J m E (z.past r nB) rfl (by rw[nG.ae];exact kJ u b) nG gN lD);open aqC in exact m59
 ·skip
  refine zg ?_;intro K hK;go_simp;refine hK.ae _ _ (fun _=>jQ _ (t.trans (ep ((aB _).alloc _))) (C.ext ((aB _).alloc _))) ?_;refine aT fun F b HB=> ?_;have rV:=af (t.trans (ep b));have kB:=af (C.ext b);have VC:W.heap.size<=(M).heap.size:=t.size;have G:=HB.lt;generalize H:(M).heap.size=ob at*;clear hK;have aH:=af (jQ _ rV kB);refine aO 5 ?_;intro K hK;go_simp;refine(Zw g x.ai F kB Om).mono ?_;rintro e5 E ⟨L,J,R, -,j,rfl,o,f,s⟩;obtain⟨m,rfl,n,l,k⟩:=ab8 j;have nB:=af (rV.trans s);have oM:=af f;have u:=af o;have nG:=af n;have gN:=af l;have lD:=af k;refine hK.ae _ _ (fun _=>jQ _ nB oM) ?_;clear hK o f j n l k;have HB:=af (HB.only s Om);refine aO 6 ?_;intro K hK;go_simp;have CP:=af (R5 _ x aN x.ai L J m E (z.past r nB) rfl (by rw[nG.ae];exact u) nG gN lD);open aqB in exact m59
def ah6{P:Program}{y:Go.Func}{p q r:Tmp}{f b:TypeId}(h:y.results= #[.cell p f,.cell q b,.tmp r])(a:Array Value)(w:au)(g k:Nat)(t u:TypeId)(i c:Array Value)(x e:Nat×Nat)(d s:TypeDesc)
 (B:a.getD p undef=aI g 0) (D:w.heap[g]? =some (.cells i t x)) (z:P.underlying f=some d) (E:(match d with| .struct _| .array _ _=>true|_=>false)=true) (C:(P.info? f).map (·.size)=some i.size)
 (l:a.getD q undef=aI k 0) (n:w.heap[k]? =some (.cells c u e)) (j:P.underlying b=some s) (o:(match s with| .struct _| .array _ _=>true|_=>false)=true) (m:(P.info? b).map (·.size)=some c.size) {v:Value} (A:a.getD r undef=v):
 (results y a).run P w= .ok (.tuple #[.agg i,.agg c,v]) w:=by
 have H:a[p]?.getD undef=aI g 0:=by simpa using B
 have G:a[q]?.getD undef=aI k 0:=by simpa using l
 have F:a[r]?.getD undef=v:=by simpa using A
 simp [results,h,H,G,F,asAddr,run_loadVar_row w g t f i x d D z E C,run_loadVar_row w k u b c e s n j o m]
def ajP(g:Nat)(w:au)(h:df w g):
 Calls prog 6 #[aI g 0] w fun e a=>∃x v o D u,bR x/\x.ai.length<=5/\x.ay.length<=3/\e= .returned (.tuple #[v,o,u])/\dN a v x/\rG a o x/\bI kK 1 qC w.heap.size a u D/\GR x D x.ay/\df a g/\Only g w a:=by
 have HS:=af h;have hg:=h.lt;clear h;go_enter func6,ntmps6;go_upto_region 1 with fail
 refine fR fun W HX B1 B2=> ?_;have CS:=af (ahI g 5 W (HS.ext HX) Od Od);have hb2:=B2.lt;go_wp2_with fail
 refine CS.mono ?_;rintro e w2 ⟨x,v,y,h5, -,h3,rfl,hv,M,n⟩;have G:=af y;have HV:=af hv;obtain⟨A,c,B,d,E,R,rfl, -, -, -⟩:=hv;go_upto_region 2 with fail
 refine aT fun j r B5=> ?_;have xC:=af (M.ext r);have J_:=af (HV.ext r);have fX:ah (Only g w j):=((ep HX.ae:Only g w W).trans n).trans (ep r);have B13:ah (ar j w.heap.size kq _):=(B1.only n Om).ext r.ae;have B23:ah (ar j (w.heap.size+1) uB _):=(B2.only n Om).ext r.ae;have O:w2.heap.size<j.heap.size:=B5.lt;have hw2:W.heap.size<=w2.heap.size:=n.size;have af0:=y.a12;generalize w2.heap.size=s at*;clear M n B1 B2 y;obtain⟨S,z⟩:∃S:World->Prop,S=fun a=>aA a s 0 (.slice A x.ai c)/\aA a s 1 (.slice B x.ay d)/\aA a s 2 (.slice E x.bf R)/\aA a s 3 (av x.label):=⟨_,rfl⟩;have bO:ah (∀a,S a->aA a s 0 (.slice A x.ai c)/\aA a s 1 (.slice B x.ay d)/\aA a s 2 (.slice E x.bf R)/\aA a s 3 (av x.label)):=by rw[z];exact fun _ h=>h
 have m:ah (∀a,ar a s kq [.slice A x.ai c,.slice B x.ay d,.slice E x.bf R,av x.label]->S a):=by rw[z];exact fun a h=>h.four
 clear z;have aH:ah (S j.drew):=m _ (B5.ext (aB j).drew);refine cD (S:=S) (T:=fun _=>false) Ok ?_;have Y:=af (xC.ext (aB j).drew);have V:=af (J_.ext (aB j).drew);have ve:ah (Only g w j.drew):=fX.trans (ep (aB j).drew);have K_:=af (B13.ext (aB j).drew);have B24:=af (B23.ext (aB j).drew);have B54:=af (B5.ext (aB j).drew);have avD:s<j.drew.heap.size:=O;clear B5 O;generalize j.drew=wd at*;refine ax 0 8 ?_;refine ax 1 9 ?_;refine ax 2 10 ?_;refine ax 4 12 ?_;refine ax 5 13 ?_;refine aO 3 ?_;intro K k;go_simp;refine(amQ g _ x wd Y V G).mono ?_;rintro e w5 ⟨q,p,dd,rfl,hq,N,Vw,L,l⟩;have Xd:=af hq;have kC:=af N;have X:=af L;have U:=af (V.past Y l);have Kt:=af (ve.trans l);have B15:=af (K_.only l Om);have B25:=af (B24.only l Om);have B55:=af (B54.only l Om);have hq5:=hq.lt;refine k.ae _ _ (fun _=>m _ B55) ?_;clear k hq N L l;refine aO 6 ?_;intro K k;go_simp;refine(aot g _ x w5 X U G).mono ?_;rintro e w6 ⟨D,u,hD,rfl,t,J,f⟩;have HD:=af hD;have HU:=af t;have oM:=af J;have Dx:=af (U.past X f);have oO:=af (Kt.trans f);have Xc:=af (Xd.only f Om);have I:=af (B15.only f Om);have B26:=af (B25.only f Om);have B56:=af (B55.only f Om);refine k.ae _ _ (fun _=>m _ B56) ?_;clear k hD t J f;obtain⟨W7,Q,B17,K7,F⟩:=Cl I (.slice A x.ai c) (.slice B x.ay d) (.slice E x.bf R) (av x.label);obtain⟨j0,j1,j2,j3⟩:=I.four;obtain⟨f0,f1,f2,f3⟩:=I.eX;have H:=af (B26.only F Om);have B57:=af (B56.only F Om);have Xb:=af (Xc.only F Om);have oL:=af (oM.past F Om);have Dw:=af (Dx.kept K7 Od Od Od Od);have r_:=af (oO.fresh F (aK _));have Gr:=af (HU.only rh F Om (fun u t=>K7 _ (by simp only[aJ,bL,or_false] at t;rcases t with rfl|rfl<;>decide)))
 have kA:=af Q;clear Q F K7;refine aO 7 ?_;intro K k;go_simp;rw[kA.ae];refine k.ae _ _ (fun _=>m _ B57) ?_;clear k j0 j1 j2 j3 f0 f1 f2 f3;obtain⟨W8,P,G1,K8,C⟩:=gG (i:=0) H.ae (aG q 0 x.ai x.ai);have j0:=H.aF 0;have f0:=H.frozen 0;have B18:=af (B17.only C Om);have Z:=af (B57.only C Om);have HQ8:=af (Xb.only C Om);have fE:=af (oL.past C Om);have J9:=af (Dw.kept K8 Od Od Od Od);have nE:=af (r_.fresh C Om);have zL:=af (Gr.only rh C Om (fun u t=>K8 _ (by simp only[aJ,bL,or_false] at t;rcases t with rfl|rfl<;>decide)))
 have J8:=af P;clear P C K8 B17;refine aO 8 ?_;intro K k;go_simp;rw[J8.ae];refine k.ae _ _ (fun _=>m _ Z) ?_;clear k j0 f0;refine aO 9 ?_;intro K k;go_simp;refine k.ae _ _ (fun _=>m _ Z) ?_;refine b_ Ok ?_;clear k;go_wp2_with fail;have WS:=af (zL.weaken (b':=w5.heap.size) (b:=w.heap.size) Om);exact bodyPost_ret (ah6 rfl _ _ w.heap.size (w.heap.size+1) kq uB #[.slice A x.ai c,.slice B x.ay d,.slice E x.bf R,av x.label] #[aG q 0 x.ai x.ai] (0,0) (0,0) _ _ rfl B18.ae underlying30 rfl Ok rfl G1.ae underlying32 rfl Ok (v:=u) rfl) rfl
  ⟨x,_,_,D,_,G,h5,h3,rfl,J9,⟨_,_,p,dd,rfl,by rw[<-anV];exact abm HQ8 Om,kC⟩,WS,HD,fE,nE⟩
def alE:jG prog adZ n9 2 48:= .mk' (z:= .agg #[.slice none 0 0,.slice none 0 0]) Ok Ok rfl Od Od
def ako:jG prog 57 Nn 1 16:= .mk' (z:= .string ⟨#[]⟩) Ok Ok rfl Od Od
def aoh(h:ar m a w t)(e:t.length=b*c)(f:d<=a)(i:b<=1000):m.ownsRow d w c (aG a 0 b b) b t:=
 ⟨e,.inr ⟨a,b,t.toArray,rfl,f,h,aK _,by unfold maxLen;omega,by simpa using e,by rw[<-e];simp⟩⟩
def Ls.one{α:Type}{t:TypeId}{R:World->List Value->α->Prop}(z:∀m e x,R m e x->e.length=a){l:List α}(h:Ls t R m (aG b c d e) l){i:Nat}(E:i<l.length){c':Nat}(J:1<=c')(C:c'<=maxLen):Ls t R m (aG b (c+i*a) 1 c') [l[i]]:=by
 obtain⟨V,U,L,p,Q,P,O,I,H⟩:=h;injection p with v B T;subst v;obtain⟨f,A,D⟩:=H.get (z m) E;have N:=z _ _ _ A;refine⟨_,c',f,rfl,J,C,Oe,fun j u q=> ?_,⟨f,[],(i7 _).symm,A,rfl⟩⟩;have r:j<a:=by
  rcases cA j a with h|h
  ·exact h
  ·rw[fF Om] at q;cases q
 obtain⟨S,M,y,K,s,F,G⟩:=I (i*a+j) u (by rw[D j r];exact q);injection s with s;injection s with v B;subst v B;exact⟨b,_,y,K,rfl,F,by rw[yq];exact G⟩
def rG.kept{u:Value}{x:aP}(h:rG m u x)(k:Kept aS m n):rG n u x:=by obtain⟨A,c,p,d,e,f,b⟩:=h;exact⟨A,c,p,d,e,gm cK f fun t a=>by rw[bG.1 a];exact k,b⟩
abbrev jq:Value:= .slice none 0 0
abbrev wL(L:List (List Fu)):List Ag:=L.map fun fs=>(fs,[])
def aom{c:aD}(w:ar m b eO [av a,av 4,aL c])(v:ar m d eO [av a,av 4,aL c,av a,av 5,.string ⟨#[]⟩])(s:ar m e eO [av a,av 5,.string ⟨#[]⟩])(r:ar m f eO [av a,av 3,.string ⟨#[]⟩])(q:ar m g eO [av a,av 3,.string ⟨#[]⟩,av a,av 5,.string ⟨#[]⟩])
 (p:ar m h n9 [jq,jq,aG b 0 1 1,jq,aG d 0 2 2,jq,aG e 0 1 1,jq,aG f 0 1 1,jq,aG g 0 2 2,jq]):sH m (aG h 0 6 6) (wL (ww a c)):=by
 have one:∀{i k:Nat} {t:aD},ar m i eO [av a,av k,aL t]->Ls eO lF m (aG i 0 1 1) [(a,k,t)]:=fun n=>k9 (l:= [(a,_,_)]) n ⟨_,[],rfl,rfl,rfl⟩ Ou;have o:∀{i k j:Nat} {t u:aD},ar m i eO [av a,av k,aL t,av a,av j,aL u]->Ls eO lF m (aG i 0 2 2) [(a,k,t),(a,j,u)]:=fun {i k j t u} n=>k9 (l:= [(a,k,t),(a,j,u)]) n ⟨[av a,av k,aL t],_,rfl,rfl,_,[],rfl,rfl,rfl⟩ Ou;exact k9 (l:=wL (ww a c)) p ⟨[jq,jq],_,rfl,⟨none,0,none,0,rfl,mZ,mZ⟩,[aG b 0 1 1,jq],_,rfl,⟨_,1,none,0,rfl,one w,mZ⟩,[aG d 0 2 2,jq],_,rfl,⟨_,2,none,0,rfl,o v,mZ⟩,[aG e 0 1 1,jq],_,rfl,⟨_,1,none,0,rfl,one (t:= []) s,mZ⟩,[aG f 0 1 1,jq],_,rfl,⟨_,1,none,0,rfl,one (t:= []) r,mZ⟩,[aG g 0 2 2,jq],[],rfl,⟨_,2,none,0,rfl,o (t:= []) (u:= []) q,mZ⟩,rfl⟩ Ou
def apA{x:aP}{D:List (List Rw)}{d:Fo}(b:bR x)(h:gc x D)(w:Whole x.ai.length (bh x) (bM x) d)(g:a<x.ai.length)(f:kd x a=3):iV ((nj.map fun c=>jp x D d a [(a,3,c)]).flatten)=iV (jp x D d a []):=by rw[RY b w,an1 b w g (c1:= [114,101,100]) (c2:= [103,114,101,101,110]) (c3:= [98,108,117,101]) Od Od Od Od Od Od fun t e=>aoW b h f e];simp only[nj,nO,Hn,List.flatten_cons,List.flatten_nil,i7];rw[Zv,kD,vz,kD,vz,RY b w,L3 b w,L3 b w,L3 b w]
def alJ{f:Array Oper}{rest:List Oper}{o:Oper}{b:Exit->Act->World->Prop}{w:au}(j:o.guard=none)(s x:Operand)
 (q:o.op= .call {callee:= .builtin .append,args:= #[s,x],argTypes:= #[kM,kM]})
 {base:Nat} {i g:List Gp} (m:Q.eval s=p) (z:bI ew 2 pH base w p i) (k:Q.eval x= .slice E a c) (y:nJ w (.slice E a c) g)
 (l:i.length+g.length<=10000) (d:base<=w.heap.size)
 (h:∀v' w',bI ew 2 pH base w' v' (i++g)->w.grownBy w' p.ownBlock->wpList prog f b rest (Q.put o.dst v') w'):wpList prog f b (o::rest) Q w:=by
 obtain⟨xs,Jr,hc1⟩:=z;obtain⟨I,H,ys,e,G,F,t,r,h7⟩:=y;injection e with D C B;subst D C B;refine AO j s x kM q base abp p _ xs m Jr _ _ _ ys k t (Ch.length (pH.two w) h7) r (Ch.all (fun c x ⟨_,_,e,_⟩ u hu=>by rw[e] at hu;simp only[aJ,bL,or_false] at hu;rcases hu with rfl|rfl<;>rfl) h7) Om d fun v' w' h8 h9 _=> ?_;exact m85
noncomputable abbrev Fq(x:aP)(D:List (List Rw))(fo:Fo)(a:Nat)(fs:List Fu):Rat:=fS x D fo a (iU a fs)
def apj{x:aP}{D:List (List Rw)}{b:Fo}{c:aD}(d:bR x)(i:gc x D)(w:Whole x.ai.length (bh x) (bM x) b)(e:a<x.ai.length){ST:List Rat}(g:ST=(ww a c).map (Fq x D b a))(l:ST.length=6):
 ST[3]+ST[4]=ST[0]/\ST[1]=ST[2]/\((ST[1] - ST[3]).num.sign<=0)/\ST[5]=0:=by
 subst g;simp only[ww,nO,Hn,Le,YK];refine⟨(aj_ d w e).symm,al3 d w e c,?_,al4 d w e⟩;have h:=ao9 d i w e c;have k:Fq x D b a [(a,4,c)] - Fq x D b a [(a,5,[])]<=0:=by grind
 rcases AJ (Fq x D b a [(a,4,c)] - Fq x D b a [(a,5,[])]).num 0 with f|f
 ·rw[G5 f];decide
 ·have j:=Rat.num_nonneg.1 f;rw[Rat.le_antisymm k j];decide
def ah1(ad8:∀w,dW w->Calls prog 4 #[] w fun e b=>e= .returned (.bool true)/\Ext w b)(t:TypeId)(A:aR)(zs:List Int)(c:Nat)(kk:Nat)(w:au)(hc:zs<=c)(hm:c<=9223372036854775807)(hs:Sl w t A (eG zs))(hz:∀z∈zs, -9223372036854775808<=z/\z<=9223372036854775807)(hk:kk<256)(ht:dW w):
 Calls prog 3 #[.slice A zs c,.int .u8 kk] w fun e b=>e= .returned (.bool true)/\Ext w b:=by
 have HS:=af hs;have HZ:=af hz;have HT:=af ht;have xB:=af ad8;clear hs hz ht ad8;go_enter func3,ntmps3;by_cases hl:zs.length<=400
 ·have hd:decide ((zs.length:Int)>400)=false:=aY;have CM:=af (amR t A zs c w hc hm Om HS HZ);go_wp2_with fail
  refine CM.mono ?_;rintro e w1 ⟨rfl,ad7,hx1⟩;clear hd;generalize hgd:w.heap.size=g at*;go_wp2_with fail;refine(ajP g w1 ad7).mono ?_;rintro e w2 ⟨x,v,o,D,u,pM,h5,h3,rfl,hv,ho,hu,hD,hs2,ho2⟩;have N:=af pM;have HV:=af hv;have kC:=af ho;have DW:=af (aqh hD);have HDl:ah (D.length=x.ay.length):=hD.1;obtain⟨Aa,ca,Ba,da,Ea,ea,rfl,hat, -, -⟩:=hv;obtain⟨Ao,co,p,dd,rfl, -, -⟩:=ho;have HDL:=af hu.ls;obtain⟨Au,cu,xs,rfl,hun,hum, -, -⟩:=hu.parts;have xQ:=af hat;have aZ:ah (Ext w w2):=hx1.only ho2 Om;have ha1:=pM.a1;have asr:=pM.a12;obtain⟨-,hac,hcm⟩:=bD hat;clear hu pM ad7 hD hx1 hat ho2;go_upto_region 5 with fail
  refine fR fun W3 J B6 B7=> ?_;have CN:=af (ru g x.ai.length W3 (hs2.ext J) Om Om);have s0:=B6.aF 0;have oD:=hs2.lt;have hb7:=B7.lt;go_wp2_with fail
  refine CN.mono ?_;rintro e O ⟨a,ha,rfl,N_,uL⟩;have Vv:df W3 g:=hs2.ext J;have FQ:∀u,Fb≠u->Kept u W3 O:=Src.Nd Vv uL;have HV4:=af ((HV.ext J).past Vv uL);have ve:=af ((kC.ext J).kept (FQ _ Od));have HD4:ah (iP O (.slice Au D cu) D):=gm rh (bU rh HDL J) fun u hu=>FQ u (by simp only[aJ,bL,or_false] at hu;rcases hu with rfl|rfl|rfl<;>decide)
  have ag4:ah (AL O (.slice Aa x.ai ca) x.ai):=gm mq (bU mq xQ J) fun u hu=>FQ u (by rw[bG.1 hu];decide);have GY:=af (B6.only uL Om);have GX:=af (B7.only uL Om);have dD:ah (Ext w O):=(aZ.trans J).only uL Om;have V':w2.heap.size<O.heap.size:=GY.lt;have avB:w2.heap.size+1<O.heap.size:=GX.lt;obtain⟨ga,oa,rfl,OH, -,k2⟩:=pz ag4 ha;have zT:ah (kd x a=x.ai[a].2):=Tt ha;generalize x.ai[a].2=kc at*;obtain⟨fo,kQ⟩:=aan x N;have xt:=af kQ;have RUN:ah (∀(W:au) (L:List (List Fu)) (A0:aR) (m c0:Nat),Ext O W->L.length=m->m<=40->sH W (.slice A0 m c0) (wL L)->(∀fs∈L,ql x fs []/\nW a fs)->Calls prog 8 #[.agg #[.slice (dC ga oa) x.ai ca,.slice Ba x.ay da,.slice Ea x.bf ea,av x.label],.agg #[.slice Ao x.ai co],.slice Au D cu,.slice A0 m c0] W fun e b=>∃A c,e= .returned (.tuple #[.slice A m c,av 0])/\tT b (.slice A m c) (L.map (jp x D fo a))/\Ext W b):=fun W L A0 m c0 hX hm h40 hA hL=>
   an2 (HV4.ext hX) N (ve.ext hX) DW rfl (iP.ext HD4 hX) h5 h3 xt hm hA h40 hL (HT.ext (dD.trans hX))
  have WF:ah (∀(W:au) (A:aR) (n c:Nat) (G:List Gp),Ext O W->nJ W (.slice A n c) G->G.length<=4->(∀y∈G,bF 42 y.2)->Calls prog 9 #[.slice A n c] W fun e b=>e= .returned (.tuple #[aL (bS (iV G)),av 0])/\Ext W b):=fun W A n c G hX hL hl hf=>aj3 hL hl hf (HT.ext (dD.trans hX));have SAN:ah (∀W,Ext O W->Calls prog 4 #[] W fun e b=>e= .returned (.bool true)/\Ext W b):=fun W hX=>xB W (HT.ext (dD.trans hX));have FIT:ah (∀fs:List Fu,nW a fs->∀y∈jp x D fo a fs,bF 42 y.2):=fun fs hb=>al6 (SD N h5 h3 DW xt hb);generalize w2.heap.size+1=b7 at*;generalize w2.heap.size=b6 at*;clear HV kC HDL xQ HV4 ve HD4 FQ Vv hs2 N_ uL B6 B7 CN s0 xB aZ J ag4 oD hb7 CM HDl;obtain⟨s0,s1,s2,s3⟩:=GY.four;have r0:=GX.aF 0;by_cases hk3:kc=3
  ·subst hk3;have KE:=af (apA N DW.1 xt ha zT);have M:=af (apz ha zT);go_upto_region 8 with fail
   refine aT fun W5 dX BM=> ?_;have HM:ah (bI n9 2 tZ O.heap.size W5 (aG O.heap.size 0 1 1) [([],[])]):=⟨_,aoh BM rfl (aK _) Od,⟨[jq,jq],[],rfl,⟨none,0,none,0,rfl,mZ,mZ⟩,rfl⟩⟩;have agS:ah (([([],[])]:List Ag)=wL ([]::(nj.take 0).map fun c=> [(a,3,c)])):=rfl;clear BM;go_upto_region 9 with fail
   refine aT fun W6 B BT=> ?_;have C:ah (TL W6 (aG W5.heap.size 0 4 4) nj):=k9 (l:=nj) BT ⟨[aL []],_,rfl,rfl,[aL [114,101,100]],_,rfl,rfl,[aL [103,114,101,101,110]],_,rfl,rfl,[aL [98,108,117,101]],[],rfl,rfl,rfl⟩ Od;have DL:=af (HM.ext yO B);have B:=af (dX.trans B);generalize W5.heap.size=tb at*;clear HM dX BT;go_loopw [10,12,64] (fun v10 _ v64 wr=>∃(i:Nat) (ls:List Ag),i<=4/\v64=av i/\ah (ls=wL ([]::(nj.take i).map fun c=> [(a,3,c)]))/\ah (bI n9 2 tZ O.heap.size wr v10 ls)/\ah (TL wr (aG tb 0 4 4) nj)/\ah (Ext O wr)) (fun _ _ v64 _=>4 - (RowKit.intOf v64).toNat)
   exact⟨0,_,by omega,rfl,agS,DL,C,B⟩;clear agS DL C B;obtain⟨i,ls,hi,rfl,sf,X,C,HX⟩:=hrel;have Xt:ah (ls.length=i+1):=by rw[ah,sf.ae,bW,cP,bW,cJ];show min i 4+1=i+1;omega
   obtain⟨Am,cm,xm,rfl, -, -,HRm,HCm⟩:=X.parts;have hwr:=HX.size;by_cases hi4:i<4
   ·obtain⟨g',o',e',oF,q0⟩:=s6 C (i:=i) hi4;injection e' with e';injection e' with e1 e2;subst e1 e2;rw[ja] at q0;have atf:ah (ls++ [([(a,3,nj[i])],[])]=wL ([]::(nj.take (i+1)).map fun c=> [(a,3,c)])):=(by rw[ah,sf.ae,show nj.take (i+1)=nj.take i++ [nj[i]] from fg hi4];simp only[wL,nO,kD,Hn,sO])
    generalize nj[i]=cT at*;have cM:(ls.length+1)*48<=140737488355328:=by rw[Xt.ae];omega
    have GK:ah (ar ((wr.alloc (.cells #[av (a:Int),av 3,aL cT] eO)).alloc (.cells #[aG wr.heap.size 0 1 1,jq] n9)) wr.heap.size eO [av (a:Int),av 3,aL cT]):=(iT wr eO [av (a:Int),av 3,aL cT]).alloc _;have E:ah (Ext wr ((wr.alloc (.cells #[av (a:Int),av 3,aL cT] eO)).alloc (.cells #[aG wr.heap.size 0 1 1,jq] n9))):=((aB wr).alloc _).alloc _;have Km:=af ((HRm.alloc (.cells #[av (a:Int),av 3,aL cT] eO)).alloc (.cells #[aG wr.heap.size 0 1 1,jq] n9));have Kj:ah (Sl ((wr.alloc (.cells #[av (a:Int),av 3,aL cT] eO)).alloc (.cells #[aG wr.heap.size 0 1 1,jq] n9)) n9 (dC (wr.heap.size+1) 0) [aG wr.heap.size 0 1 1,jq]):=Sl.TR _ _ _ _ Ou;have hw:O.heap.size<=((wr.alloc (.cells #[av (a:Int),av 3,aL cT] eO)).alloc (.cells #[aG wr.heap.size 0 1 1,jq] n9)).heap.size:=a7 hwr E.size;go_wp2_with (at_builtin;refine AO rfl _ _ adZ rfl O.heap.size alE _ _ _ rfl Km.ae _ 1 1 [aG wr.heap.size 0 1 1,jq] rfl Oe rfl Kj.ae (by simp [Value.oneCell']) cM hw ?_)
    intro v' b ho hg _;clear Kj;generalize(wr.alloc (.cells #[av (a:Int),av 3,aL cT] eO)).alloc (.cells #[aG wr.heap.size 0 1 1,jq] n9)=wf at*;have tS:ah (Ch (tZ wf) xm ls):=HCm.mono fun c x hc=>yO _ _ _ _ (fun u _=> .je E) hc;have qG:=af (jc (R:=tZ) (x:=([(a,3,cT)],[])) yO (fun u hu=>by simp only[aJ,bL,or_false] at hu;rcases hu with rfl|rfl<;>decide) Km tS ⟨_,1,none,0,rfl,k9 (l:= [(a,3,cT)]) GK ⟨_,[],rfl,rfl,rfl⟩ Ou,mZ⟩ ho hg)
    have J6:=af ((HX.trans E).M5 Km hg);have asP:=af ((C.ext E).Ts (pZ Km hg Od));clear ho hg cM q0 GK Km tS E C X;go_wp2_with fail
    go_roundw;exact⟨i+1,_,by omega,by go_num,atf,qG,asP,J6⟩;simp [RowKit.intOf];omega
   ·obtain rfl:i=4:=Om;have agR:ah (ls=wL (TJ a)):=sf.ae;have Ju:ls.length=5:=Xt.ae;have Z:=af X.ls;rw[Ju] at Z⊢;have CR:=af (RUN wr (TJ a) Am 5 cm HX rfl Od (by rw[<-agR.ae];exact Z) M);obtain⟨s0,s1,s2,s3⟩:=(GY.ext HX).four;have r0:=(GX.ext HX).aF 0;clear sf agR X HRm HCm Z C Xt Ju;go_wp2_with fail
    refine CR.mono ?_;rintro e w7 ⟨Ag,cg,rfl,hG,uH⟩;have F:=af (HX.trans uH);obtain⟨G0,OX⟩:∃G0,G0=jp x D fo a []:=⟨_,rfl⟩;obtain⟨GT,JT⟩:∃GT,GT=nj.map fun c=>jp x D fo a [(a,3,c)]:=⟨_,rfl⟩;have HG:ah (tT w7 (.slice Ag 5 cg) (G0::GT)):=by rw[OX,JT];exact hG
    have atB:ah (iV GT.flatten=iV G0):=by rw[OX,JT];exact KE
    have hT4:GT.length=4:=by rw[JT];rfl
    have xJ:ah ((G0.length<=1/\∀y∈G0,bF 42 y.2)/\∀G∈GT,G.length<=1/\∀y∈G,bF 42 y.2):=(by rw[OX,JT];refine⟨⟨RZ,FIT.ae _ fun f hf=>by cases hf⟩,fun G hG=> ?_⟩;obtain⟨c, -,rfl⟩:=dU.1 hG;exact⟨RZ,FIT.ae _ fun f hf=>by rw[bG.1 hf];exact⟨rfl,aK 3⟩⟩);clear CR KE OX JT hG uH s0 s1 s2 s3 r0;obtain⟨gg,og,P0,p0,rfl,FZ,zX,qa⟩:=yN HG (i:=0) Ou;simp only[Le,iq] at zX qa;have V3:5<=cg/\cg<=9223372036854775807:=(bD HG).2;have hc1:¬cg=1:=Om;have hc2:¬1=cg:=Om;go_upto_region 18 with fail
    go_loopw [15,17,95] (fun v15 _ UT wr=>∃(j:Nat) (lr:List Gp),j<=4/\UT=av j/\lr.length<=j/\ah (lr=(GT.take j).flatten)/\ah (bI ew 2 pH w7.heap.size wr v15 lr)/\ah (Ext w7 wr)) (fun _ _ UT _=>4 - (RowKit.intOf UT).toNat)
    exact⟨0,[],by omega,rfl,aK _,rfl,jf,aB _⟩;obtain⟨j,lr,hj,rfl,Ox,zS,X,d⟩:=hrel;obtain⟨Ar,cr,xr,rfl, -, -,W_, -⟩:=X.parts;have hwr:=d.size;by_cases hj4:j<4
    ·obtain⟨g',o',P1,p1,e',oF,kY,q1⟩:=yN (bU vV HG d) (i:=j+1) (by rw[cP];omega);injection e' with e';injection e' with e1 e2;subst e1 e2;simp only[YK] at kY q1;have q2:aA wr gg (og+1+j) (.slice P1 (GT[j]'Om).length p1):=by rw[show og+1+j=og+(j+1) by omega];exact q1
     have hGj:=(xJ.2 _ (a_ (by omega:j<GT.length))).1;have atg:ah (lr++GT[j]'Om=(GT.take (j+1)).flatten):=by rw[ah,zS.ae,fg Om,List.flatten_append,List.flatten_singleton]
     generalize GT[j]'Om=Gj at*;have hsz:lr.length+Gj.length<=10000:=Om;clear q1;go_wp2_with (at_builtin;refine alJ rfl _ _ rfl (base:=w7.heap.size) rfl X.ae rfl kY.ae hsz hwr ?_)
     intro v' b ho hg;have qG:=af ho;have J6:=af (d.M5 W_ hg);have ar5:(lr++Gj).length<=j+1:=awZ;generalize lr++Gj=ln at*;obtain⟨An,cn,xn,rfl, -, -, -, -⟩:=qG.parts;clear ho hg hsz X d W_ zS q2 kY;go_wp2_with fail
     go_roundw;exact⟨j+1,ln,by omega,by go_num,ar5,atg,qG,J6⟩;simp [RowKit.intOf];omega
    ·obtain rfl:j=4:=Om;have HLF:ah (lr=GT.flatten):=by rw[ah,zS.ae,dz Om]
     have r:=af (F.trans d);have C0:=af (WF wr P0 G0.length p0 G0 r (bU km zX d) (by have:=xJ.1.1;omega) xJ.1.2);have HLr:=af X.ls;have HFr:ah (∀y∈lr,bF 42 y.2):=fun y hy=>by rw[HLF.ae] at hy;obtain⟨G,hG,hy⟩:=List.mem_flatten.1 hy;exact(xJ.2 G hG).2 y hy
     have C1:=af (fun W (hX:Ext wr W)=>WF W Ar lr.length cr lr (r.trans hX) (bU km HLr hX) Ox HFr);have HT0:ah (iV lr=iV G0):=by rw[ah,HLF.ae];exact atB
     rw[HT0.ae] at C1;have q0:=(d.cell (p:=aC gg og) FZ).trans qa;generalize bS (iV G0)=tt at*;have d2:(tt.toArray==tt.toArray)=true:=beq_self_eq_true _;clear zS X W_ qa;go_wp2_with fail
     refine C0.mono ?_;rintro e w8 ⟨rfl,Q⟩;go_wp2_with fail;refine(C1 w8 Q).mono ?_;rintro e w9 ⟨rfl,jJ⟩;have s:=af (r.trans (Q.trans jJ));clear Q jJ q0;go_wp2_with fail
     refine(SAN w9 s).mono ?_;rintro e wz ⟨rfl,Ji⟩;have Pd:=af (dD.trans (s.trans Ji));clear Ji;go_wp2_with fail
     exact bodyPost_ret (v:= .bool true) awB rfl ⟨rfl,Pd⟩
  ·have hkb:(kc==3)=false:=beq_eq_false_iff_ne.2 hk3;obtain⟨z,hz⟩:∃z:Nat,z=kk%5:=⟨_,rfl⟩;have hze:(kk:Int)%5=(z:Int):=Om;have Vh:z<5:=Om;have Yf:=af (fun W=>aki (z:Int) W Om Om);have tQ:=af (ank N ha (by rw[zT.ae];exact hk3) Vh);obtain⟨ct,Dh⟩:∃ct:aD,ct=aQ z:=⟨_,rfl⟩;rw[<-Dh] at Yf tQ;have M:=af (api ha tQ);clear Dh hz tQ;go_wp2_with fail
   refine(Yf _).mono ?_;rintro e w5 ⟨rfl,fM⟩;have dX:=af fM;clear fM Yf;go_upto_region 28 with fail
   refine qq fun W6 B BL BP BG=> ?_;have B:=af (dX.trans B);have hbg:=BG.lt;generalize w5.heap.size+1+1=bg at*;generalize w5.heap.size+1=bp at*;generalize w5.heap.size=bl at*;have l0:=BL.aF 0;have l1:=BL.aF 1;have l2:=BL.aF 2;have p0:=BP.aF 0;have p1:=BP.aF 1;have p2:=BP.aF 2;have g0:=BG.aF 0;have g1:=BG.aF 1;have g2:=BG.aF 2;have hbl:=BL.lt;have V8:=BP.lt;have hg1:bg<W6.heap.size+1+1:=Om;have hg2:bg<W6.heap.size+1+1+1:=Om;have et:bp<W6.heap.size+1+1:=Om;have gz:bp<W6.heap.size+1+1+1:=Om;have hg3:bg<W6.heap.size+1+1+1+1:=Om;have hp3:bp<W6.heap.size+1+1+1+1:=Om;clear BL BP BG;go_upto_region 29 with fail
   refine asA fun W7 F N1 N2 N3 N4 N5 N6=> ?_;have Z:=af (aom (a:=a) (c:=ct) N1 N2 N3 N4 N5 N6);have F:=af (B.trans F);clear N1 N2 N3 N4 N5 N6 l0 l1 l2 p0 p1 p2 g0 g1 g2 hbl V8 hbg B hg1 hg2 hg3 et gz hp3;generalize W6.heap.size+1+1+1+1+1=bm at*;have CR:=af (RUN W7 (ww a ct) _ 6 6 F rfl Od Z M);obtain⟨s0,s1,s2,s3⟩:=(GY.ext F).four;have r0:=(GX.ext F).aF 0;go_wp2_with fail
   refine CR.mono ?_;rintro e w8 ⟨Ag,cg,rfl,hG,Q⟩;obtain⟨LL,Gb⟩:∃LL,LL=ww a ct:=⟨_,rfl⟩;have hL6:LL.length=6:=by rw[Gb];rfl
   obtain⟨ST,OV⟩:∃ST,ST=(ww a ct).map (Fq x D fo a):=⟨_,rfl⟩;have hS6:ST.length=6:=by rw[OV];rfl
   have zP:=af (apj N DW.1 xt ha OV hS6);have XZ:ah (∀fs∈LL,ql x fs []/\nW a fs):=by rw[Gb];exact M
   have HG:ah (tT w8 (.slice Ag 6 cg) (LL.map (jp x D fo a))):=by rw[Gb];exact hG
   have ag5:ah (sH w8 (aG bm 0 6 6) (wL LL)):=by rw[Gb];exact bU yO Z Q
   have zN:ah (∀i (h:i<LL.length) (h':i<ST.length),iV (jp x D fo a LL[i])=ST[i]/\bF 42 ST[i]):=fun i h h'=>by subst OV Gb;rw[vD];exact⟨RY N xt,SD N h5 h3 DW xt (XZ _ (a_ h)).2⟩
   have j8:=af (F.trans Q);clear CR hG Q Gb OV M Z s0 s1 s2 s3 r0;obtain⟨gg,og,_,_,rfl,FZ, -, -⟩:=yN HG (i:=0) avZ;go_upto_region 34 with fail
   go_loopw [28,29,30,31,32,33,177] (fun v28 _ _ _ _ _ TE wr=>∃(i:Nat) (lq:List Rat),i<=6/\TE=av i/\ah (lq.length=i)/\ah (lq=ST.take i)/\ah (bI Nn 1 wM w8.heap.size wr v28 lq)/\ah (Ext w8 wr)) (fun _ _ _ _ _ _ TE _=>6 - (RowKit.intOf TE).toNat)
   exact⟨0,[],by omega,rfl,rfl,rfl,jf,aB _⟩;obtain⟨i,lq,hi,rfl,l_,GA,X,d⟩:=hrel;obtain⟨Aq,cq,xq,rfl, -, -,Xa,HCq⟩:=X.parts;have hwr:=d.size;have r:=af (j8.trans d);by_cases hi6:i<6
   ·have OD:i<ST.length:=Om;have VR:i<LL.length:=Om;obtain⟨s0,s1,s2,s3⟩:=(GY.ext r).four;have r0:=(GX.ext r).aF 0;have UA:=af (Ls.one tZ.two (bU yO ag5 d) (i:=i) avZ (c':=6 - i) Om avW);obtain⟨g',o',P1,p1,e',oF,kY,q1⟩:=yN (bU vV HG d) (i:=i) avZ;injection e' with e';injection e' with e1 e2;subst e1 e2;simp only[vD,ja] at kY q1 UA;have HBi:=af (XZ _ (a_ VR));obtain⟨Pg,HFi⟩:=zN i VR OD;have HFG:=af (FIT _ HBi.2);have ath:ah (lq++ [ST[i]'OD]=ST.take (i+1)):=by rw[ah,GA.ae,fg OD]
    generalize ST[i]'OD=Si at*;generalize LL[i]'VR=Li at*;have CR:=af (fun W (hX:Ext wr W)=>RUN W [Li] (dC bm (i*2)) 1 (6 - i) (r.trans hX) rfl Od (bU yO UA hX) fun fs hf=>by rw[bG.1 hf];exact HBi);go_upto_region 36 with fail
    obtain⟨S,U⟩:∃S:World->Prop,S=fun b=>Ext wr b:=⟨_,rfl⟩;have bO:ah (∀b,S b->aA b b6 0 (.slice (dC ga oa) x.ai.length ca)/\aA b b6 1 (.slice Ba x.ay.length da)/\aA b b6 2 (.slice Ea x.bf.length ea)/\aA b b6 3 (av x.label)/\aA b b7 0 (.slice Ao x.ai.length co)):=(by rw[U];exact fun b h=>by obtain⟨a0,a1,a2,a3⟩:=(GY.ext (r.trans h)).four;exact⟨a0,a1,a2,a3,(GX.ext (r.trans h)).aF 0⟩)
    have H:ah (∀b,Ext wr b->S b):=by rw[U];exact fun _ h=>h
    clear U s0 s1 s2 s3 r0;have V:ah (Ext wr wr.drew):=(aB wr).drew;have aH:=af (H _ V);have CX:IntKind.i64.wrap ((i:Int)+1)=(i:Int)+1:=awe;have hb1:(0:Int)<=(i:Int)+1/\(i:Int)+1<=6:=Om;have hb2:i<=((i:Int)+1).toNat:=Om;have hb3:¬6=i:=Om;have hb4:((i:Int)+1).toNat - i=1:=Om;refine cD (S:=S) (T:=fun _=>false) Ok ?_;generalize wr.drew=wd at*;refine ax 0 181 ?_;refine ax 1 182 ?_;refine ax 2 183 ?_;refine ax 3 184 ?_;refine ax 4 185 ?_;refine ax 5 186 ?_;refine ax 6 187 (v:=av ((i:Int)+1)) ?_;refine ax 7 188 (v:= .slice (dC bm (i*2)) 1 (6 - i)) ?_
    refine aO 8 ?_;intro K k;go_simp;refine(CR wd V).mono ?_;rintro e w9 ⟨A1,c1,rfl,hg1,jJ⟩;have xK:ah (tT w9 (.slice A1 1 c1) [jp x D fo a Li]):=hg1;have s:=af (V.trans jJ);have aH:=af (H _ s);refine k.ae _ _ (fun _=>aH.ae) ?_;clear k hg1 jJ;refine ax 9 180 ?_;refine ax 10 190 ?_;refine ax 11 191 ?_;refine aO 12 ?_;intro K k;go_simp;refine k.ae _ _ (fun _=>aH.ae) ?_;clear k;refine aO 13 ?_;intro K k;go_simp;refine k.ae _ _ (fun _=>aH.ae) ?_;clear k;refine b_ Ok ?_;have kV:=af (r.trans s);have q2:aA w9 gg (og+i) (.slice P1 (jp x D fo a Li).length p1):=(s.cell (p:=aC gg (og+i)) oF).trans q1;have hle:(jp x D fo a Li).length<=1:=RZ;have sF:=af (bU km kY s);generalize jp x D fo a Li=Gi at*;have CT:=af (WF w9 P1 Gi.length p1 Gi kV sF Om HFG);rw[Pg] at CT;clear q1 CX hb1 hb2 hb3 hb4 bO H aH V CR UA kY oF;go_wp2_with fail
    refine CT.mono ?_;rintro e P ⟨rfl,I⟩;have agX:=af (bU vV xK I);have atW:=af (bU km sF I);have q3:aA P gg (og+i) (.slice P1 Gi.length p1):=(I.cell (p:=aC gg (og+i)) (cF FZ (a7 hwr s.size))).trans q2;obtain⟨g1,o1,P2,p2,rfl,hg1,D1,q4⟩:=yN agX (i:=0) Ou;simp only[Le,iq] at D1 q4;have Nz:=af (s.trans I);clear q2 I CT xK sF s kV agX;have C:ah (∀n,Calls prog 11 #[.slice P2 Gi.length p2,.slice P1 Gi.length p1] (P.drewN n) fun e b=>e= .returned (.bool true)/\∃m,b=P.drewN m):=fun n=>by refine(Zz (bU km D1 ((aB P).drewN n)) (bU km atW ((aB P).drewN n))).mono ?_;rintro e b ⟨h1,m,rfl⟩;exact⟨h1,_,Bb _ _ _⟩
    go_upto_region 38 with fail
    go_quiet ((go_at_call 11;exact C _));have Ph:ah (∀n,(P.drewN n).ownsRow w8.heap.size Nn 1 (.slice Aq lq cq) lq xq):=fun n=>yQ Xa (Nz.drewN n);have cM:(lq.length+1)*16<=140737488355328:=awQ;have afP:w8.heap.size<=P.heap.size:=a7 hwr Nz.size;clear C X Xa q3 q4;go_wp2_with (at_builtin;refine gQ rfl _ _ 57 rfl w8.heap.size ako _ _ _ rfl (Ph _) #[aL (bS Si)] 1 1 rfl rfl rfl cM afP ?_)
    intro v' b ho hg _;have qG:=af (jc (R:=wM) (x:=Si) wM.iI Oe (Ph _) (HCq.mono fun c x hc=>hc) rfl ho hg);have J6:=af ((d.trans (Nz.drewN _)).M5 (Ph _) hg);have ati:ah ((lq++ [Si]).length=i+1):=by rw[ah,bC,l_.ae];rfl
    clear ho hg cM afP Ph Nz GA d l_;go_wp2_with fail;go_roundw;exact⟨i+1,_,by omega,by go_num,ati,ath,qG,J6⟩;simp [RowKit.intOf];omega
   ·obtain rfl:i=6:=Om;have si:ah (lq=ST):=by rw[ah,GA.ae,dz Om]
    have gL:=af X.ls;have hl6:=l_.ae;rw[hl6] at gL⊢;rw[si.ae] at gL;have Y:ah (∀i (h:i<ST.length),bF 42 ST[i]):=fun i h=>(zN i Om h).2;obtain⟨E1,E2,E3,E4⟩:=zP.ae;have DC:ah (∃g o,Aq=dC g o/\g<wr.heap.size/\∀i (h:i<ST.length),aA wr g (o+i) (aL (bS ST[i]))):=(by obtain⟨gq,oq,rfl,iX, -⟩:=RL.get gL (i:=0) Om;refine⟨gq,oq,rfl,iX,fun i h=> ?_⟩;obtain⟨g',o',e, -,q⟩:=RL.get gL h;injection e with e;injection e with e1 e2;rw[e1,e2];exact q)
    have CA:=af (fun W=>aks ST[3] ST[4] W ((Y 3 Om).mono Od) ((Y 4 Om).mono Od) (((Y 3 Om).add (Y 4 Om)).mono Od));have CC:=af (fun W=>ahp ST[1] ST[3] W ((Y 1 Om).mono Od) ((Y 3 Om).mono Od));obtain⟨gq,oq,rfl,iX,HQ⟩:=DC.ae;have Q0:=HQ 0 Om;have Q1:=HQ 1 Om;have Q2:=HQ 2 Om;have Q3:=HQ 3 Om;have Q4:=HQ 4 Om;have Q5:=HQ 5 Om;rw[E1] at CA;rw[E2] at Q1;rw[E4,aqq] at Q5;rw[E2] at CC E3;generalize bS ST[0]=t0 at*;generalize bS ST[2]=t2 at*;generalize bS ST[3]=t3 at*;generalize bS ST[4]=t4 at*;generalize(ST[2] - ST[3]).num.sign=sg at*;have HC:=af (And.intro Q0 (And.intro Q1 (And.intro Q2 (And.intro Q3 (And.intro Q4 Q5)))));clear HQ DC gL zP E1 E2 E4 Y zN X Xa HCq GA hl6 l_ si Q0 Q1 Q2 Q3 Q4 Q5 HG ag5 XZ F;go_upto_region 42 with fail
    obtain⟨S,U⟩:∃S:World->Prop,S=fun b=>Ext wr b:=⟨_,rfl⟩;have bO:ah (∀b,S b->aA b gq oq (aL t0)/\aA b gq (oq+1) (aL t2)/\aA b gq (oq+2) (aL t2)/\aA b gq (oq+3) (aL t3)/\aA b gq (oq+4) (aL t4)/\aA b gq (oq+5) (aL [48])):=(by rw[U];exact fun b h=>by obtain⟨a0,a1,a2,a3,a4,a5⟩:=HC.ae;have hk:∀{j:Nat} {u:Value},aA wr gq j u->aA b gq j u:=fun {j u} hq=>(h.cell (p:=aC gq j) iX).trans hq;exact⟨hk a0,hk a1,hk a2,hk a3,hk a4,hk a5⟩)
    have H:ah (∀b,Ext wr b->S b):=by rw[U];exact fun _ h=>h
    clear U HC;have V:ah (Ext wr wr.drew):=(aB wr).drew;have aH:=af (H _ V);refine cD (S:=S) (T:=fun _=>false) Ok ?_;generalize wr.drew=wd at*;refine ax 0 228 ?_;refine ax 1 229 ?_;refine ax 2 230 ?_;refine ax 3 231 ?_;refine ax 4 232 ?_;refine ax 5 233 ?_;refine aO 6 ?_;intro K k;go_simp;refine(CA wd).mono ?_;rintro e wa ⟨rfl,hxa⟩;have zI:=af (V.trans hxa);have aH:=af (H _ zI);refine k.ae _ _ (fun _=>aH.ae) ?_;clear k hxa;refine ax 7 227 ?_;refine ax 8 235 ?_;refine ax 9 236 ?_;refine aO 10 ?_;intro K k;go_simp;refine k.ae _ _ (fun _=>aH.ae) ?_;clear k;refine aO 11 ?_;intro K k;go_simp;refine k.ae _ _ (fun _=>aH.ae) ?_;clear k;refine b_ Ok ?_;have d0:(t0.toArray==t0.toArray)=true:=beq_self_eq_true _;have d2:(t2.toArray==t2.toArray)=true:=beq_self_eq_true _;have d3:decide (sg<=0)=true:=decide_eq_true E3;go_upto_region 43 with fail
    have Gm:ah (Ext wr wa.drew):=zI.drew;have aH:=af (H _ Gm);refine cD (S:=S) (T:=fun _=>false) Ok ?_;generalize wa.drew=we at*;refine ax 0 237 ?_;refine ax 1 238 ?_;refine ax 2 239 ?_;refine ax 3 240 ?_;refine ax 4 241 (v:= .bool true) ?_;refine ax 5 242 ?_;refine ax 6 243 ?_;refine ax 7 244 ?_;refine ax 8 245 ?_;refine ax 9 246 ?_;refine ax 10 247 ?_;refine ax 11 248 ?_;refine ax 12 249 (v:= .bool true) ?_;refine ax 13 250 ?_;refine ax 14 251 ?_;refine ax 15 252 ?_;refine ax 16 253 ?_;refine ax 17 254 ?_;refine ax 18 255 ?_;refine ax 19 256 ?_;refine ax 20 257 ?_;refine aO 21 ?_;intro K k;go_simp;refine(CC we).mono ?_;rintro e wf ⟨rfl,hxf⟩;have E:=af (Gm.trans hxf);have aH:=af (H _ E);refine k.ae _ _ (fun _=>aH.ae) ?_;clear k hxf;refine ax 22 259 (v:= .bool true) ?_;refine ax 23 260 ?_;refine ax 24 261 ?_;refine ax 25 262 ?_;refine ax 26 263 ?_;refine ax 27 264 ?_;refine ax 28 265 (v:= .bool true) ?_;refine ax 29 266 ?_;refine ax 30 267 ?_;refine aO 31 ?_;intro K k;go_simp;refine(SAN wf (r.trans E)).mono ?_;rintro e wz ⟨rfl,Ji⟩;have Pd:=af (E.trans Ji);have aH:=af (H _ Pd);refine k.ae _ _ (fun _=>aH.ae) ?_;clear k Ji;refine ax 32 269 ?_;refine aO 33 ?_;intro K k;go_simp;refine k.ae _ _ (fun _=>aH.ae) ?_;clear k;refine b_ Ok ?_;have HXq:=af (dD.trans (r.trans Pd));go_wp2_with fail
    exact bodyPost_ret (v:= .bool true) awB rfl ⟨rfl,HXq⟩
 ·have hd:decide ((zs.length:Int)>400)=true:=fU;go_wp2_with fail;refine(xB w HT).mono ?_;rintro e w1 ⟨rfl,hx1⟩;go_wp2_with fail;exact bodyPost_ret (v:= .bool true) awB rfl ⟨rfl,hx1⟩
def sx:aP:=⟨[([97],2)],[([114],[0])],[], -1⟩
def sD:List (List Rw):= [[([[49,47,50]],3),([[50]],1)]]
def IM:bR sx:=by
 have e:∀c:UInt8,EQ c->pE [c]:=fun c h=>⟨by simp,by simp,fun d i=>by
  injection i with i;subst i;exact h,fun d i=>by
  rw[bG.1 i];exact .inl h⟩
 refine⟨by decide,by decide,by decide,by decide,by decide,?_,by simp [sx],?_,?_,by simp [sx],?_,?_,?_,?_,?_,by simp [sx],?_,by decide,?_⟩
 ·intro a b;rw[bG.1 b];exact e 97 Od
 ·intro a b;rw[bG.1 b];decide
 ·intro a b;rw[bG.1 b];exact e 114 Od
 ·intro r g;rw[bG.1 g];decide
 ·intro r g a b;rw[bG.1 g] at b;rw[bG.1 b];decide
 ·intro r g;rw[bG.1 g];decide
 ·intro a b;have k:a=0:=by have:a<1:=b;omega
  subst k;exact⟨_,bG.2 rfl,by decide⟩
 ·intro f j;cases j
 ·intro f j;cases j
 ·intro h;exact absurd h Od
def Cz: [49,47,50]=bS (1/2:Rat):=Zn.symm
def ad2:gc sx sD:=by
 refine⟨rfl,fun k t r d e=> ?_⟩;rcases k with _|k
 ·injection d with d;injection e with e;subst d e;have g:∀t:aD,(∃q:Rat,t=bS q/\lC q)->nU sx [0] [t]:=fun t h=>⟨rfl,fun i a u f c=>by
   rcases i with _|i
   ·injection f with f;injection c with c;subst f c;exact .inr (.inr (.inr ⟨rfl,h⟩))
   ·simp at c⟩
  refine⟨by decide,?_,?_,?_⟩
  ·intro y b;simp only[aJ,bL,or_false] at b;rcases b with rfl|rfl
   ·exact g _ ⟨1/2,Cz,by unfold lC gJ;decide+kernel⟩
   ·exact g _ ⟨2,TF.symm,by unfold lC gJ;decide+kernel⟩
  ·intro y b;simp only[aJ,bL,or_false] at b;rcases b with rfl|rfl<;>decide
  ·refine mP.2 ⟨fun y b=> ?_,Ld _ _⟩;rw[bG.1 b];decide+kernel
 ·simp [sD] at d
def aet:xU sx sD:=⟨ad2,fun l a=>by rw[bG.1 a];decide⟩
def adK{f:Fo}(h:f.vars= []):f= .nil:=by
 cases f with
 |nil=>rfl
 |cons v a b n=>simp [Fo.vars] at h
def amb{f:Fo}(w:Whole sx.ai.length (bh sx) (bM sx) f):f= .cons 0 [0] .nil .nil:=by
 have c:f.vars= [0]:=by
  have a:=vK w.vd (qQ (n:=1)) fun v=>by rw[w.vm,dB];rfl
  exact List.perm_singleton.1 a
 have d:f.homes= [0]:=(by have a:=vK w.hd (qQ (n:=1)) w.hm;exact List.perm_singleton.1 a);cases f with
 |nil=>cases c
 |cons v h b n=>simp only[Fo.vars,Lz,List.append_eq_nil_iff] at c;obtain⟨rfl,g,e⟩:=c;obtain rfl:=adK g;obtain rfl:=adK e;simp only[Fo.homes,i7] at d;rw[d]
def ady:univ (aU sx sD)= [[],[49,47,50],[50]]:=av4
def ad0(d:List Fu):ou sx sD (.cons 0 [0] .nil .nil) (d,[]) []=eL 0 (fun f=>gf f [49,47,50]) d*3+eL 0 (fun f=>gf f [50]) d:=by
 unfold ou;rw[ady];have h:jI (bh sx) (bY (aU sx sD)) 0 (put (fun _=> []) 0 [])=0:=by unfold jI fC;rw[show lO (bh sx 0) (bY (aU sx sD) 0) (put (fun _=> []) 0 [])=none by decide+kernel];rfl
 have g:jI (bh sx) (bY (aU sx sD)) 0 (put (fun _=> []) 0 [49,47,50])=3:=(by unfold jI fC;rw[show lO (bh sx 0) (bY (aU sx sD) 0) (put (fun _=> []) 0 [49,47,50])=some ([[49,47,50]],3) by decide+kernel];rfl);have e:jI (bh sx) (bY (aU sx sD)) 0 (put (fun _=> []) 0 [50])=1:=(by unfold jI fC;rw[show lO (bh sx 0) (bY (aU sx sD) 0) (put (fun _=> []) 0 [50])=some ([[50]],1) by decide+kernel];rfl);simp only[lj,Fo.val,SR.sum,SR.prod,List.foldr,cL,eY,if_true];simp only[dQ];rw[h,g,e];generalize eL 0 (fun f=>gf f [49,47,50]) d=a;generalize eL 0 (fun f=>gf f [50]) d=b;generalize eL 0 (fun f=>gf f []) d=c;grind
def apd:lm [49,47,50]=1/2:=by have h:=SK (t:= [49,47,50]) ⟨1/2,by unfold lC gJ;decide+kernel,Cz⟩;exact(ZA (Cz.symm.trans h)).symm
def apN:lm [50]=2:=by have h:=SK (t:= [50]) ⟨2,by unfold lC gJ;decide+kernel,TF.symm⟩;exact(ZA (TF.trans h)).symm
def apb:ou sx sD (.cons 0 [0] .nil .nil) ([],[]) []=4:=by rw[ad0,aa2,aa2];decide+kernel
def apa:ou sx sD (.cons 0 [0] .nil .nil) ([(0,2,[])],[]) []=19/4:=by rw[ad0,Hz,Hz,if_pos rfl,if_pos rfl];unfold gf;rw[if_neg Od,if_pos rfl,if_neg Od,if_pos rfl,apd,apN];decide+kernel
def ao6:bS (19/4:Rat)= [49,57,47,52]:=by rw[o_ av4,show(19/4:Rat).num=((19:Nat):Int) by decide+kernel,show(19/4:Rat).den=4 by decide+kernel,p6,Bx Od,k8 Od,k8 Od];rfl
def apO:jY sx sD fun _=>none:=by
 refine⟨fun _=> [50],fun v c=>⟨?_,rfl⟩,fun h a=> ?_⟩
 ·rw[ady];show([50]:aD)∈_;decide
 ·have b:h=0:=by have:=dB.1 a;have:h<1:=this;omega
  subst b;decide+kernel
def ad1{b:Fo}{a:List Fu}{G:List Gp}(w:Whole sx.ai.length (bh sx) (bM sx) b)(h:Fh sx sD (ou sx sD b) (a,[]) G):G= [([],ou sx sD (.cons 0 [0] .nil .nil) (a,[]) [])]:=by rw[h.1 apO,amb w];rfl
def apW:ql sx [] []:=⟨by decide,by decide,Oe,Oe,rfl⟩
def apV:ql sx [(0,2,[])] []:=⟨by decide,by decide,(fun f h=>by rw[bG.1 h];exact⟨by decide,.inr (.inl ⟨rfl,by decide,rfl⟩)⟩),Oe,rfl⟩
def apQ:Ni sx (fun _=>none) fun _=>0:=by
 refine⟨?_,fun r f a d b e c=> ?_⟩
 ·exact⟨fun a d=>Ay (aV a) d,fun a _ _=>rfl,fun a b _ h=>by cases h⟩
 ·rw[bG.1 f] at d e;rw[bG.1 d,bG.1 e] at c;exact absurd rfl c
def Nw(h:ar m a w [p,q,r]):aA m a 0 p/\aA m a 1 q/\aA m a 2 r:=⟨h.cell rfl,h.cell rfl,h.cell rfl⟩
def alD(v:Value)(x:aP)(f:Fu)(t:aD)(z:Rat)(w:au)(h:dN w v x)(q:bR x)(hf:qi x f)(ht:fL (kd x f.1) t)(hz:xS f.2.1 t f.2.2 z)(hq:bF 400 z)(C:dW w):
 Calls prog 14 #[v,.agg #[av (f.1:Int),av (f.2.1:Int),aL f.2.2],aL t] w fun e a=>e= .returned (.tuple #[aL (bS z),av 0])/\Ext w a:=by
 have aN:=af q;have zM:=af h;have HZ:=af hz;have HQ:=af hq;have HT:=af C;have i:=hf.1;have asr:=q.a12;have C2:=af (fun(W:au) (hX:Ext w W)=>aaz v x f W (h.ext hX) q hf);have C1:=af (fun(W:au) (hX:Ext w W)=>Ia v x W (h.ext hX) q);have hk:=q.ak _ (a_ i);obtain⟨k,fk,ft⟩:=f;simp only at*;have ek:kd x (k:Int)=(x.ai[k]).2:=(by unfold kd;rw[kg,aX i];rfl)
 have CV:=af (fun W=>RU (x.ai[k]).1 t (x.ai[k]).2 W hk (by rw[<-ek];exact ht));obtain⟨A,c,B,d,D,e,rfl,F,oz,F0⟩:=h;obtain⟨-,hcA,hmA⟩:=bD F;have HA:=af F;have E:x.ai.length<=maxLen:=avW;have CE:=af (fun W=>aap A B D x.ai.length c x.ay.length d x.bf.length e k x.label i E W);have CF:=af (fun W=>adf HZ W);go_enter func14,ntmps14;go_upto_region 1 with fail
 refine fR fun W HX BS BF=> ?_;have CY:=BS.lt;have hfb:=BF.lt;generalize w.heap.size=sb at*;generalize sb+1=H at*;obtain⟨s0,Z,Y,X⟩:=BS.four;go_wp2_with fail
 refine(C1 W HX).mono ?_;rintro e1 w1 ⟨rfl,n⟩;have bQ:=af (HX.trans n);have N:=af (BS.ext n);have V:=af (BF.ext n);obtain⟨s0,Z,Y,X⟩:=N.four;obtain⟨f0,f1,f2⟩:=(Nw V);go_wp2_with fail
 refine(CE w1).mono ?_;rintro e2 w2 ⟨rfl,m⟩;have L:=af (bQ.trans m);have M:=af (N.ext m);have U:=af (V.ext m);obtain⟨s0,Z,Y,X⟩:=M.four;obtain⟨f0,f1,f2⟩:=(Nw U);go_wp2_with fail
 refine(C2 w2 L).mono ?_;rintro e3 w3 ⟨rfl,l⟩;have J:=af (L.trans l);have BS3:=af (M.ext l);have R:=af (U.ext l);obtain⟨s0,Z,Y,X⟩:=BS3.four;obtain⟨f0,f1,f2⟩:=(Nw R);obtain⟨g,o,rfl,hg,a0,a1⟩:=pz (bU mq HA J) i;generalize x.ai[k]=at_ at*;obtain⟨nm,kn⟩:=at_;simp only at a0 a1 CV;go_wp2_with fail
 refine(CV w3).mono ?_;rintro e4 w4 ⟨rfl,y⟩;have dD:=af (J.trans y);have BF4:=af (R.ext y);go_upto_region 7 with fail
 obtain⟨S,G⟩:∃S:World->Prop,S=fun a=>ar a H eO [av (k:Int),av (fk:Int),aL ft]:=⟨_,rfl⟩;have bO:ah (∀a,S a->aA a H 0 (av (k:Int))/\aA a H 1 (av (fk:Int))/\aA a H 2 (aL ft)):=by rw[G];exact fun a h=>Nw h
 have b:ah (∀a,ar a H eO [av (k:Int),av (fk:Int),aL ft]->S a):=by rw[G];exact fun a h=>h
 have O:=af BF4.drew;have aH:ah (S w4.drew):=b _ O;have xk:=af dD.drew;refine cD (S:=S) (T:=fun _=>false) Ok ?_;generalize w4.drew=wd at*;refine ax 0 36 ?_;refine ax 1 37 ?_;refine ax 3 39 ?_;refine ax 4 40 ?_;refine ax 5 41 ?_;refine aO 2 ?_;intro K j;go_simp;refine(CF wd).mono ?_;rintro e5 w5 ⟨fid,asx,rfl,JC,HC,u⟩;have hif:=JC.ae;have dX:=af (xk.trans u);have Q:=af (O.ext u);have C4:=af (HC w5 (aB w5));refine j.ae _ _ (fun _=>b _ Q) ?_;refine aO 6 ?_;intro K j;go_simp;refine C4.mono ?_;rintro e6 w6 ⟨u6,rfl,hu6,s⟩;have I:=af (dX.trans s);have P:=af (Q.ext s);have CR:=af (Sq u6 z w6 hu6 HQ Od (HT.ext I));refine j.ae _ _ (fun _=>b _ P) ?_;refine aO 7 ?_;intro K j;go_simp;refine CR.mono ?_;rintro e7 w7 ⟨rfl,r⟩;have gK:=af (I.trans r);have p:=af (P.ext r);refine j.ae _ _ (fun _=>b _ p) ?_;refine aO 8 ?_;intro K j;go_simp;refine j.ae _ _ (fun _=>b _ p) ?_;refine aO 9 ?_;intro K j;go_simp;refine j.ae _ _ (fun _=>b _ p) ?_;refine b_ Ok ?_;go_wp2_with fail
 exact bodyPost_ret (v:= .tuple #[aL (bS z),av 0]) (by simp [results,results14,go_sem]) rfl ⟨rfl,gK⟩
end Go.Proofs.YtadbchhdjbghkaaGreatDoor
