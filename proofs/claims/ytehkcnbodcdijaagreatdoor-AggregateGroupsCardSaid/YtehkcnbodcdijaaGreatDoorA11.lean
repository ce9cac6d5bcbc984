/- Texts of the proof, part 11. -/
import Derived.Test.YtehkcnbodcdijaaGreatDoorA10
namespace Go.Proofs.YtehkcnbodcdijaaGreatDoor
set_option maxHeartbeats 8000000
set_option linter.all false
set_option maxRecDepth 100000
variable{ar:Prop}
open Go.RowKit Go.Lib Go.Maps Go.ChangeShapes Go.WideShapes Go.ChangeAt Go.Proofs.Tryz
variable{a b c d e f g h:Nat}{i j k l:List Nat}{m n o:World}{p q r s:Value}{t u v:List Value}{w x:TypeId}{y z:Nat→Option Nat}{A:Nat→List Nat}{B C:Int}{E F:Option Addr}{H I:Rat}{J:Nat→Nat}{K:Nat→Bool}{L:List Int}{N:Array Bool}{O:Option Nat}{Q:Act}{R S:Bool}{T:List UInt8}
def nt(l:List Int):Nat:=l.foldl (fun m a=>m|||2^a.toNat) 0
def ni(b:Nat)(g:List Nat)(l:List Int):List Nat:=l.foldl (fun g a=>g.set a.toNat (g.getD a.toNat 0|||dY b (2^a.toNat))) g
def gX(n:Nat)(a:List Rl):List Nat:=a.foldl (fun g r=>ni (nt r.2) g r.2) (List.replicate n 0)
def fold_succ{α β:Type}(f:β->α->β)(b:β){l:List α}(h:a<l):(l.take (a+1)).foldl f b=f ((l.take a).foldl f b) l[a]:=by rw[fR h,wS];rfl
def acF(l:List Int)(a:Int):nt (l++ [a])=nt l|||2^a.toNat:=by unfold nt;rw[wS];rfl
def adV:∀{k:Nat} {l:List Int} {y:Nat},l=k->(∀a∈l,0<=a)->((nt l).testBit y=true↔(y:Int)∈l)
 |0,l,y,b,_=>by rw[lU b];simp [nt]
 |k+1,l,y,b,h=>by
  obtain⟨d,a,rfl⟩:∃d a,l=d++ [a]:=⟨l.dropLast,l.getLast (by intro e;rw[e] at b;cases b),(aid _).symm⟩;have g:=h a Ou;rw[acF,Iw,kF,adV (k:=k) axG (fun x f=>h x (by simp [f])),qH,VS.one,beq_iff_eq,bO,bE];constructor
  ·rintro(c|c)
   ·exact .inl c
   ·exact .inr Om
  ·rintro(c|c)
   ·exact .inl c
   ·exact .inr Om
def Jn{n:Nat}:∀{k:Nat} {l:List Int},l=k->(∀a∈l,0<=a/\a<n)->nt l<2^n
 |0,l,b,_=>by rw[lU b];exact y4 _
 |k+1,l,b,h=>by obtain⟨c,a,rfl⟩:∃c a,l=c++ [a]:=⟨l.dropLast,l.getLast (by intro e;rw[e] at b;cases b),(aid _).symm⟩;have f:=h a Ou;rw[acF];exact Im (Jn (k:=k) axG (fun x d=>h x ayi)) (M9 Om)
structure uP(n:Nat)(P:Nat->Nat->Prop)(g:List Nat):Prop where
 len:g.length=n
 lt:∀x,g.getD x 0<2^n
 bit:∀x y,(g.getD x 0).testBit y=true↔P x y
def adI(d:a<i):(i.set a c).getD b 0=if b=a then c else i.getD b 0:=by
 rw[eG,eG,pN];by_cases h:a=b
 ·subst h;simp [d]
 ·rw[if_neg h,if_neg (gU h)]
def Ti{n c:Nat}(d:c<2^n):∀(l:List Int) {P:Nat->Nat->Prop} {g:List Nat},uP n P g->(∀a∈l,0<=a/\a<n)->uP n (fun x y=>P x y\/((x:Int)∈l/\c.testBit y=true/\y≠x)) (ni c g l)
 | [],P,g,h,_=>⟨h.len,h.lt,fun x y=>by rw[show ni c g []=g from rfl,h.bit];simp⟩
 |a::l,P,g,h,m=>by
  have p:=m a Ou;have k:a.toNat<g.length:=by rw[h.len];omega
  have o:uP n (fun x y=>P x y\/(x=a.toNat/\c.testBit y=true/\y≠x)) (g.set a.toNat (g.getD a.toNat 0|||dY c (2^a.toNat))):=by
   refine⟨by rw[tM,h.len],fun x=> ?_,fun x y=> ?_⟩
   ·rw[adI k];split
    ·exact Im (h.lt _) (yZ d ayD)
    ·exact h.lt x
   ·rw[adI k];by_cases f:x=a.toNat
    ·rw[if_pos f,Iw,kF,Fz,qH,VS.one,h.bit,f];simp
    ·rw[if_neg f,h.bit];simp [f]
  have j:=Ti d l o fun x f=>m x (by simp [f]);refine⟨j.len,j.lt,fun x y=> ?_⟩;rw[show ni c g (a::l)=ni c (g.set a.toNat (g.getD a.toNat 0|||dY c (2^a.toNat))) l from rfl,j.bit,or_assoc];have e:(x:Int)=a↔x=a.toNat:=Om;rw[aK,e];constructor
  ·rintro(b|⟨b,i⟩|⟨b,i⟩)
   ·exact .inl b
   ·exact .inr ⟨.inl b,i⟩
   ·exact .inr ⟨.inr b,i⟩
  ·rintro(b|⟨b|b,i⟩)
   ·exact .inl b
   ·exact .inr (.inl ⟨b,i⟩)
   ·exact .inr (.inr ⟨b,i⟩)
def abb{n:Nat}:∀(b:List Rl) {P:Nat->Nat->Prop} {g:List Nat},uP n P g->(∀r∈b,∀a∈r.2,0<=a/\a<n)->uP n (fun x y=>P x y\/∃r∈b,(x:Int)∈r.2/\(y:Int)∈r.2/\y≠x) (b.foldl (fun g r=>ni (nt r.2) g r.2) g)
 | [],P,g,h,_=>⟨h.len,h.lt,fun x y=>by rw[List.foldl_nil,h.bit];simp⟩
 |r::b,P,g,h,e=>by have c:=e r Ou;have j:=Ti (Jn rfl c) r.2 h c;have d:=abb b j fun x f=>e x (by simp [f]);refine⟨d.len,d.lt,fun x y=> ?_⟩;rw[y5,d.bit,or_assoc,adV rfl fun a i=>(c a i).1];simp
def zn{c:List Rl}(e:∀r∈c,∀b∈r.2,0<=b/\b<a):uP a (fun x y=>∃r∈c,(x:Int)∈r.2/\(y:Int)∈r.2/\y≠x) (gX a c):=by have f:uP a (fun _ _=>False) (List.replicate a 0):=⟨QU,fun x=>by rw[eG,Bu];split<;>exact y4 _,fun x y=>by rw[eG,Bu];split<;>simp⟩;have d:=abb c f e;exact⟨d.len,d.lt,fun x y=>by rw[gX,d.bit,false_or]⟩
def uP.ok{n:Nat}{a:List Rl}{g:List Nat}(h:uP n (fun x y=>∃r∈a,(x:Int)∈r.2/\(y:Int)∈r.2/\y≠x) g)(d:n<=12):k7 g:=
 ⟨by rw[h.len];exact d,fun x=>by rw[h.len];exact h.lt x,fun x y b=>by
  obtain⟨r,i,f,e,c⟩:=(h.bit x y).1 b;exact(h.bit y x).2 ⟨r,i,e,f,c.symm⟩,fun x b=>by
  obtain⟨_,_,_,_,c⟩:=(h.bit x x).1 b;exact c rfl⟩
def qQ(g:List Nat):List Value:=g.map fun m:Nat=>Value.int .u64 (m:Int)
def apf(g:List Nat)(i m:Nat):(qQ g).set i (.int .u64 (m:Int))=qQ (g.set i m):=by simp [qQ,E7]
def apg(h:a<i):(qQ i)[a]? =some (.int .u64 ((i.getD a 0:Nat):Int)):=by unfold qQ;rw[dK,eG,aX h];rfl
def aeB{w:au}:∀(g:List Nat),Ch (wm w) (qQ g) g
 | []=>rfl
 |m::g=>⟨[.int .u64 (m:Int)],qQ g,rfl,rfl,aeB g⟩
def anz:(prog.info? mh).map (fun i=>(i.zero,i.size,i.bytes))=some (some (.int .u64 0),1,8):=Ok
def aks(n:Nat)(h:n<=1000)(w:au):
 (Instr.makeSlice 237 (av (n:Int)) (av (n:Int))).run prog w= .ok (aG w.heap.size 0 n n) (w.alloc (.cells (qQ (List.replicate n 0)).toArray mh)):=by
 obtain⟨e,f,c,b,a⟩:=info_parts anz;have d:=run_make (P:=prog) w 237 mh e (.int .u64 0) underlying237 f c .i64 .i64 (n:Int) (n:Int) Om (xd _) aye Om;simp only[kX,b,lF,Value.cells,Cf] at d;rw[d];simp [qQ]
def Tp(v:Value)(x:aP)(w:au)(h:dP w v x)(ok:bV x):
 Calls prog 164 #[v] w fun e H=>∃A,e= .returned (.slice A x.ai x.ai)/\fO H (.slice A x.ai x.ai) (gX x.ai x.ay)/\Ext w H:=by
 obtain⟨A,c,B,d,D,e,rfl,I,y,hf⟩:=h;obtain⟨-,jf,lw⟩:=bl y;have HR:=af y;have r6:=ok.r6;have a12:=ok.a12;have gC:=af ok.ri;have mC:=aks x.ai Om;have jH:ah (∀r∈x.ay,r.2.length<=12):=fun r y=>by
  have h1:=FR (k:=0) (n:=x.ai) (ok.ra r y) (ok.ri r y);rcases h1 with h1|h1
  ·rw[h1];simp
  ·omega
 have Z:ah (∀l:List Rl,(∀r∈l,r∈x.ay)->∃P,uP x.ai P (gX x.ai l)):=fun l hl=>⟨_,zn fun r y=>ok.ri r (hl r y)⟩;have Qp:ah (gX x.ai (x.ay.take 0)=List.replicate x.ai 0):=rfl;obtain⟨RN,qi⟩:∃RN,x.ay.length=RN:=⟨_,rfl⟩;have jW:=af qi;obtain⟨N,hN⟩:∃N,x.ai.length=N:=⟨_,rfl⟩;rw[qi] at jf HR r6⊢;rw[hN] at a12 gC mC Z Qp⊢;go_enter func164,ntmps164;go_upto_region 1 with fail
 refine aR fun W HX BX=> ?_;obtain⟨s0,s1,s2,s3⟩:=BX.four;go_upto_region 2 with fail
 refine aR fun W2 bk BG=> ?_;have mO:=af (BX.ext bk);have yG:=af (HX.trans bk);have hbg:=BX.lt;have hgb:=BG.lt;obtain⟨s0,s1,s2,s3⟩:=mO.four;generalize W.heap.size=L at*;have BG0:ah (aq W2 L mh (qQ (gX N (x.ay.take 0)))):=by rw[Qp.ae];exact BG
 go_upto_region 3 with fail
 go_loopw [18] (fun U wr=>∃i:Nat,i<=RN/\U=av i/\ah (aq wr L mh (qQ (gX N (x.ay.take i))))/\ah (Ext w wr)) (fun U _=>RN - (RowKit.intOf U).toNat)
 exact⟨0,aU _,rfl,BG0,yG⟩;obtain⟨i,hi,rfl,F,HE⟩:=hrel;by_cases AA:i<RN
 ·have E:i<x.ay.length:=ayG;obtain⟨g,o,Bi,mi,di,rfl,_,dZ,eY,s⟩:=rV (bU oJ HR HE) E;have hm:=(bl s).1;subst hm;have s:=af s;have f:=af (gC _ (a8 E));have LK:ah (gX N (x.ay.take (i+1))=ni (nt x.ay[i].2) (gX N (x.ay.take i)) x.ay[i].2):=fold_succ _ _ E;have HGP:=af (Z (x.ay.take i) fun r y=>nJ y);have KO:=jH _ (a8 E);generalize gX N (x.ay.take i)=t at*;generalize x.ay[i]=r at*;obtain⟨rn,ra⟩:=r;simp only at dZ eY s f LK KO;obtain⟨M,hM⟩:∃M,ra.length=M:=⟨_,rfl⟩;have HM:=af hM;rw[hM] at eY s KO;go_upto_region 5 with fail
  refine aR fun W3 V BR=> ?_;have X:=af (iU s V);have gP:=af (F.ext V);have LO:=af (HE.trans V);obtain⟨b0,b1⟩:=BR.two;go_upto_region 7 with fail
  go_loopw [6,25] (fun v6 Q wq=>∃j:Nat,j<=M/\Q=av j/\v6= .int .u64 (nt (ra.take j):Nat)/\wq=W3) (fun _ Q _=>M - (RowKit.intOf Q).toNat)
  exact⟨0,aU _,rfl,rfl,rfl⟩;obtain⟨j,hj,rfl,rfl,rfl⟩:=hrel;by_cases qW:j<M
  ·have C:j<ra.length:=by rw[HM.ae];exact qW
   obtain⟨g2,o2,rfl,_,hc⟩:=ij X C;obtain⟨q,hq⟩:∃q:Nat,ra[j]=(q:Int):=⟨ra[j].toNat,by have:=(f _ (a8 C)).1;omega⟩;have sO:q<N:=by have:=(f _ (a8 C)).2;omega
   have HA:ah (nt (ra.take (j+1))=nt (ra.take j)|||2^q):=(by have h:=fold_succ (fun m a=>m|||2^a.toNat) 0 C;rw[hq] at h;exact h);have G:ah (nt (ra.take j)<4096):=cy (Jn rfl fun a I=>f a (nJ I)) (fK (j:=12) Om a12);have HO:=af (xD q wr Om);have HQ:=af (Df (show q<12 by omega));rw[hq] at hc;generalize nt (ra.take j)=p at*;go_wp2_with fail
   refine HO.mono ?_;rintro e1 w1 ⟨rfl,rfl⟩;generalize 2^q=pq at*;have HW:=af (F9 G HQ);go_wp2;go_roundw;exact⟨j+1,by omega,by go_num,by rw[HW.ae,HA.ae],trivial⟩;simp [RowKit.intOf];omega
  ·obtain rfl:j=M:=Om;have HT:ah (ra.take j=ra):=by rw[ah,<-HM.ae];exact fB
   rw[HT.ae];have d1:decide (j<j)=false:=Ou;have G:ah (nt ra<4096):=cy (Jn rfl fun a I=>f a I) (fK (j:=12) Om a12);have yC:ah (ra=j):=(bl X).1.symm;have HAP:ah (nt ra<2^N):=Jn rfl fun a I=>f a I;generalize nt ra=p at*;have Hd:ah (ni p t (ra.take 0)=t):=rfl;have kV:ah (aq wr L mh (qQ (ni p t (ra.take 0)))):=by rw[Hd.ae];exact gP
   go_upto_region 12 with fail
   go_loopw [37] (fun O wq=>∃j':Nat,j'<=j/\O=av j'/\ah (aq wq L mh (qQ (ni p t (ra.take j'))))/\ah (Ext w wq)/\ah (IL wq (.slice Bi j di) ra)) (fun O _=>j - (RowKit.intOf O).toNat)
   exact⟨0,aU _,rfl,kV,LO,X⟩;obtain⟨k,hk,rfl,F,HE,HI⟩:=hrel;by_cases hkM:k<j
   ·have z:k<ra.length:=by rw[yC.ae];exact hkM
    obtain⟨g2,o2,rfl,_,hc⟩:=ij HI z;obtain⟨q,hq⟩:∃q:Nat,ra[k]=(q:Int):=⟨ra[k].toNat,by have:=(f _ (a8 z)).1;omega⟩;have sO:q<N:=by have:=(f _ (a8 z)).2;omega
    have HS:ah (ni p t (ra.take (k+1))=(ni p t (ra.take k)).set q ((ni p t (ra.take k)).getD q 0|||dY p (2^q))):=(by have h:=fold_succ (fun g (a:Int)=>g.set a.toNat (g.getD a.toNat 0|||dY p (2^a.toNat))) t z;rw[hq] at h;exact h);have Be:ah (∃P,uP N P (ni p t (ra.take k))):=(by obtain⟨P,J⟩:=HGP.ae;exact⟨_,Ti HAP _ J fun a I=>f a (nJ I)⟩);have Y:ah ((ni p t (ra.take k)).getD q 0<4096):=(by obtain⟨P,J⟩:=Be.ae;exact cy (J.lt q) (fK (j:=12) Om a12));have hcg:aA wr L q (.int .u64 (((ni p t (ra.take k)).getD q 0:Nat):Int)):=(by obtain⟨P,J⟩:=Be.ae;exact F.cell (apg (by rw[J.len];exact sO)));have HO:=af (xD q wr.drew Om);have HQ:=af (Df (show q<12 by omega));have KA:=F.frozen q;rw[hq] at hc;generalize ni p t (ra.take k)=gk at*;generalize gk.getD q 0=gq at*;generalize 2^q=pq at*;have wn:=af (zE G HQ);have pu:=af (F9 Y (Ud (b:=pq) G));go_upto_region 14 with fail
    have bK:ah (∀H,H=wr.drew->aA H L q (.int .u64 (gq:Int))):=fun H h=>by rw[h];exact hcg
    have aJ:ah (wr.drew=wr.drew):=rfl;have HBd:=af F.drew;have HEd:=af HE.drew;have Ym:=af (bU cJ HI (aB wr).drew);have aw2:aA wr.drew L q (.int .u64 (gq:Int)):=hcg;have awX:wr.drew.frozen? (aD L q)=false:=KA;refine cG (S:=fun H=>H=wr.drew) (T:=fun j=>decide (10<=j)) Ok ?_;generalize wr.drew=wd at*;refine ax 0 41 ?_;refine ax 1 42 ?_;refine ax 2 43 ?_;refine ax 3 44 ?_;refine ax 4 45 ?_;refine ax 5 46 ?_;refine aO 6 ?_;intro K hK;go_simp;refine HO.mono ?_;rintro e1 w1 ⟨rfl,rfl⟩;refine hK.ae _ _ (fun _=>rfl) ?_;refine ax 7 48 ?_;refine ax 8 49 ?_;refine ax 9 50 ?_;obtain⟨W',hW',B7,K7,N7⟩:=fM (i:=q) HBd (.int .u64 ((gq|||dY p pq:Nat):Int));rw[apf,<-HS.ae] at B7;have yE:=af (Ls.kept cJ Ym K7 ⟨by decide,fun u hu=>by cases hu⟩);have Ho:=af (Ext.only HEd N7 (rJ hbg));refine aO 10 ?_;intro K hK;go_simp;rw[wn.ae,pu.ae,hW'];refine hK.ae _ _ Oe ?_;refine bY Ok ?_;go_wp2;go_roundw;exact⟨k+1,by omega,by go_num,B7,Ho,yE⟩;simp [RowKit.intOf];omega
   ·obtain rfl:k=j:=Om;have HT:ah (ra.take k=ra):=by rw[ah,<-yC.ae];exact fB
    rw[HT.ae,<-LK.ae] at F;have d2:decide (k<k)=false:=Ou;go_wp2;go_roundw;exact⟨i+1,by omega,by go_num,F,HE⟩;simp [RowKit.intOf];omega
 ·obtain rfl:i=RN:=Om;have HT:ah (x.ay.take i=x.ay):=by rw[ah,<-jW.ae];exact fB
  rw[HT.ae] at F;have Y:=af (Z x.ay fun _ h=>h);have d1:decide (i<i)=false:=Ou;go_wp2;go_ret;refine⟨_,rfl,?_,HE⟩;obtain⟨P,J⟩:=Y.ae;have h:=mY (R:=wm) F (aeB _) (by rw[J.len];omega);rwa[J.len] at h
def se(v:Value):Option (DataW Value×List MemPlace):=some (.held v,[])
def dt(w:au)(k:TypeId)(b n:Nat)(f:Lit->Option Value):Prop:=
 ∃D:DataW Value,w.ownsMap prog k se b n D/\∀l,WideAt.IsKeyLit l->has D l=(f l).isSome/\∀v,f l=some v->∀z,D.atKey l z= .held v
noncomputable def mr(f:Lit->Option Value)(a:Lit)(v:Value):Lit->Option Value:=fun l=> @ite _ (l=a) (Classical.propDecidable _) (some v) (f l)
def xg(f:Lit->Option Value)(a:Lit)(v:Value):mr f a v a=some v:=by unfold mr;rw[if_pos rfl]
def pR{f:Lit->Option Value}{a l:Lit}(h:l≠a):mr f a p l=f l:=by unfold mr;rw[if_neg h]
section
variable{w w':au}{k b n:Nat}{f:Lit->Option Value}
theorem dt.made(w:au)(k:TypeId):dt (w.alloc (.map #[] 0)) k w.heap.size 0 fun _=>none:=
 ⟨_,World.ownsMap_made w _ _ _,fun _ _=>⟨rfl,fun v h=>by cases h⟩⟩
def Ct:=@dt.made
theorem dt.lt(h:dt w k b n f):b<w.heap.size:=by obtain⟨D,h,_⟩:=h;exact h.lt
theorem dt.kept(h:dt w k b n f)(c:w.grownBy w' O)(a:some b≠O):dt w' k b n f:=by obtain⟨D,h,d⟩:=h;exact⟨D,h.kept c a,d⟩
theorem dt.ext(h:dt w k b n f)(a:Ext w w'):dt w' k b n f:=h.kept (Nc a) Ou
theorem dt.put{e:TypeId}(h:dt w k b n f)(K:Keyed prog k)(j:prog.underlying x=some (.map k e))(m:n<maxLen){key:Value}{g:Lit}(c:keyOf prog k key=some g)(val:Value):
 ∃w',(Instr.mapUpdate x (.map (some b)) key val).run prog w= .ok () w'/\dt w' k b (n+1) (mr f g val)/\Only b w w':=by
 obtain⟨D,h,u⟩:=h;obtain⟨w',s,r,q⟩:=h.update K j m c (show se val=some (.held val,[]) from rfl);refine⟨w',s,⟨_,r,fun l i=> ?_⟩,q⟩;by_cases d:l=g
 ·subst d;rw[xg];refine⟨has_put_same h.isMap i _,fun v a z=> ?_⟩;injection a with a;rw[<-a];exact atKey_put_same h.isMap i _ z
 ·rw[pR d];obtain⟨p,o⟩:=u l i;exact⟨by rw[has_put_other d,p],fun v a z=>by rw[atKey_put_other d,o v a z]⟩
theorem dt.look{e:TypeId}(h:dt w k b n f)(K:Keyed prog k)(l:prog.underlying x=some (.map k e))(j:(zeroValue e).run prog w= .ok p w){key:Value}{d:Lit}(c:keyOf prog k key=some d):
 (Instr.lookup x (.map (some b)) key true).run prog w= .ok (.tuple #[(f d).getD p,.bool (f d).isSome]) w:=by
 obtain⟨D,h,q⟩:=h;obtain⟨g,m⟩:=q d (K.key c);obtain⟨v,s,o,a⟩:=h.look_ok K l j (show se p=some (.held p,[]) from rfl) c;have r:v=(f d).getD p:=by
  unfold se at a;injection a with a;injection a with a _;cases i:f d with
  |some u=>rw[m u i] at a;injection a with a
  |none=>rw[i] at g;rw[atKey_of_not_has g] at a;injection a with a
 rw[o,g,r]
theorem dt.get{e:TypeId}(h:dt w k b n f)(K:Keyed prog k)(l:prog.underlying x=some (.map k e)){z:Value}(j:(zeroValue e).run prog w= .ok z w){key:Value}{d:Lit}(c:keyOf prog k key=some d):
 (Instr.lookup x (.map (some b)) key false).run prog w= .ok ((f d).getD z) w:=by
 obtain⟨D,h,p⟩:=h;obtain⟨i,m⟩:=p d (K.key c);obtain⟨v,r,o,a⟩:=h.lookup K l j (show se z=some (.held z,[]) from rfl) c;have q:v=(f d).getD z:=by
  unfold se at a;injection a with a;injection a with a _;cases g:f d with
  |some u=>rw[m u g] at a;injection a with a
  |none=>rw[g] at i;rw[atKey_of_not_has i] at a;injection a with a
 rw[o,q]
theorem ab6{α:Type}:∀{l L:List α},l.Pairwise (·≠·)->(∀x∈l,x∈L)->l.length<=L.length
 | [],_,_,_=>aU _
 |x::l,L,d,h=>by
  obtain⟨j,i⟩:=iP.1 d;obtain⟨A,B,rfl⟩:=ZF (h x Ou);have g:=ab6 (L:=A++B) i fun y c=>by
   have a:=h y ax3;have e:=j y c;simp only[bO,aK] at a⊢;rcases a with a|a|a
   ·exact .inl a
   ·exact absurd a.symm e
   ·exact .inr a
  simp only[cT,bD] at g⊢;omega
theorem dt.bound(h:dt w k b n f)(K:Keyed prog k)(L:List Lit)(t:∀l,(f l).isSome=true->l∈L):dt w k b L.length f:=by
 obtain⟨D,h,i⟩:=h;refine⟨D,?_,i⟩;have q:=h.tidy K;obtain⟨j,c,u,F,_,rfl⟩:=h;refine⟨j,c,u,F,?_,rfl⟩;obtain⟨e,d,r⟩:=q;injection d with d;have s:e.length=j.size:=by rw[<-d,length_sorted];simp
 rw[<-s,<-bP (f:=Prod.fst)];refine ab6 (rD.2 r) fun x m=> ?_;obtain⟨p,a,rfl⟩:=b_.1 m;have g:WideAt.IsKeyLit p.1:=by rw[<-d] at a;obtain⟨v,o⟩:=fit_keys F p ((Go.WideShapes.sorted_perm _).mem_iff.1 a);exact K.key o
 refine t _ ?_;rw[<-(i _ g).1,d,has_eq];exact mU.2 ⟨p,a,Zw g⟩
end
def aio(w:au){g:Array Oper}{rest:List Oper}{o:Oper}{c:Exit->Act->World->Prop}
 (D:o.guard=none) (m d v:Operand) (t:TypeId) (p:o.op=Op.mapUpdate t m d v) {k:TypeId} (K:Keyed prog k) (A:prog.underlying t=some (.map k x)) {b n:Nat} {f:Lit->Option Value}
 (C:Q.eval m= .map (some b)) (h:dt w k b n f) (B:n<maxLen) (i val:Value) (r:Lit) (y:Q.eval d=i) (z:Q.eval v=val) (l:keyOf prog k i=some r)
 (E:∀w',dt w' k b (n+1) (mr f r val)->Only b w w'->wpList prog g c rest (Q.put o.dst undef) w'):
 wpList prog g c (o::rest) Q w:=by
 refine wpList_plain D fun F q=> ?_;obtain⟨w',j,u,s⟩:=h.put K A B l val;unfold Oper.wp;simp [execOp,p,C,y,z,j,Result.andThen];exact q _ _ (E w' u s)
abbrev zN:TypeId:=241
noncomputable def lJ(g:List Nat)(m:Nat):Nat:=Dj g.length (fF g) (p_ g) g.length m.testBit
noncomputable def j8(g:List Nat)(m:Nat):Nat:=nP g.length (fF g) (p_ g) (g.length+1) m.testBit
def arA:List Lit:=(List.range 4096).map fun m:Nat=>Lit.int .u64 (m:Int)
def iD(g:List Nat)(w:au)(b:Nat):Prop:=∃f,dt w mh b 4096 f/\∀l v,f l=some v->∃m:Nat,l= .int .u64 (m:Int)/\m<4096/\v=av (lJ g m:Nat)
def Sq:Keyed prog mh:=int_keyed (q:= .u64) Ok
def aq1(h:a<4096):(Lit.int .u64 (a:Int)).wf=true:=by have c:IntKind.min .u64=0:=Od;have b:IntKind.max .u64=18446744073709551615:=Od;simp only[Lit.wf,c,b,cV,decide_eq_true_eq];omega
def aeA(h:a<4096):keyOf prog mh (.int .u64 (a:Int))=some (.int .u64 (a:Int)):=keyOf_int_mk Ok (aq1 h)
def aow(w:au):(zeroValue aS).run prog w= .ok (av 0) w:=Ok
def adq:prog.underlying 239=some (.map mh aS):=Ok
def Sy{f:Lit->Option Value}(h:dt m a b c f)(j:Only b m n)(t:TypeId):Kept t m n:=fun g o p d=>(j.block g (ie d) fun e=>by injection e with e;subst e;obtain⟨D,⟨q,i,l,_⟩,_⟩:=h;rw[l] at d;injection d with d;cases d).trans d
def iD.step{f:Lit->Option Value}(s:∀l v,f l=some v->∃b:Nat,l= .int .u64 (b:Int)/\b<4096/\v=av (lJ i b:Nat))(p:b<4096)(r:dt m mh a c (mr f (.int .u64 (b:Int)) (av (lJ i b:Nat)))):iD i m a:=by
 have j:∀l v,mr f (.int .u64 (b:Int)) (av (lJ i b:Nat)) l=some v->∃b:Nat,l= .int .u64 (b:Int)/\b<4096/\v=av (lJ i b:Nat):=fun l v d=>by
  by_cases h:l= .int .u64 (b:Int)
  ·rw[h,xg] at d;injection d with d;exact⟨b,h,p,d.symm⟩
  ·rw[pR h] at d;exact s l v d
 refine⟨_,r.bound Sq arA fun l d=> ?_,j⟩;obtain⟨v,o⟩:=Ib.1 d;obtain⟨k,e,q,_⟩:=j l v o;rw[e];exact b_.2 ⟨k,dL.2 q,rfl⟩
def iD.ext{g:List Nat}{w':au}(h:iD g m b)(a:Ext m w'):iD g w' b:=by obtain⟨f,d,c⟩:=h;exact⟨f,d.ext a,c⟩
def iD.wd(h:iD i m a)(c:Only a m n)(d:fO m p j):fO n p j:=by obtain⟨f,e,_⟩:=h;exact d.keep qF fun u _=>Sy e c u
def iD.lt(h:iD i m a):a<m.heap.size:=by obtain⟨f,c,_⟩:=h;exact c.lt
def Oo(g:List Nat)(A:aQ)(c b:Nat)(m:Nat):Prop:=∀w,fO w (.slice A g.length c) g->iD g w b->
 Calls prog 226 #[.agg #[.slice A g.length c,.map (some b)],.int .u64 (m:Int)] w fun e a=>e= .returned (av (lJ g m:Nat))/\iD g a b/\Only b w a
def Jy(g:List Nat)(A:aQ)(c b:Nat)(m:Nat):Prop:=∀w,fO w (.slice A g.length c) g->iD g w b->
 Calls prog 166 #[.agg #[.slice A g.length c,.map (some b)],.int .u64 (m:Int)] w fun e a=>e= .returned (av (j8 g m:Nat))/\iD g a b/\Only b w a
def amq(l:List Nat)(x:Nat):qM (l++ [x])=max (qM l) x:=by unfold qM;rw[wS];rfl
def ala(h:j.map Nat.testBit=parts (fF i) (List.range i) a.testBit):j8 i a=qM (j.map (lJ i)):=by unfold j8;rw[Ck,<-h,rK];rfl
def anf{g:List Nat}(y:k7 g){rest:Nat}(Y:rest<2^g.length)(c:∀m,m<2^g.length->(∀x,m.testBit x=true->rest.testBit x=true)->m≠0->Oo g E a b m):Jy g E a b rest:=by
 intro w h O;have N:=bl h;have HC:=af (fun W (f:Ext w W)=>aaW E g a g rest W (h.ext f) y Y);go_enter func166,ntmps166;go_upto_region 1 with fail
 refine aR fun W p n=> ?_;obtain⟨V,U⟩:=n.two;go_wp2_with fail;refine(HC W p).mono ?_;rintro e1 w1 ⟨v,e,rfl,X,M,t,f⟩;obtain⟨A',c',rfl,Z,z,q⟩:=X.parts;unfold maxLen at z;have A:b<w.heap.size:=O.lt;have C:ah (∀m∈e,Oo g E a b m):=fun m L=>by
  have h1:m.testBit∈parts (fF g) (List.range g) rest.testBit:=by rw[<-M];exact b_.2 ⟨m,L,rfl⟩
  obtain⟨_,d,_,h2,Q⟩:=(Fg y.symm (List.range g.length) rest.testBit (rest0:=rest.testBit) fun _ f=>⟨f,rfl⟩).1 _ h1;refine c m (t m L) (fun x f=>qE y.symm h2 (by rw[<-Q];exact f)) fun e0=> ?_;have P:m.testBit d=true:=by rw[Q];exact fD.2 .refl
  rw[e0,ES] at P;cases P
 have F:ah (∀i,i<e.length->qM ((e.take (i+1)).map (lJ g))=max (qM ((e.take i).map (lJ g))) (lJ g (e.getD i 0))):=fun i u=>by rw[fR u,kE,Il,amq,eG,aX u];rfl
 go_upto_region 3 with fail
 go_loopw [5,13] (fun T l wr=>∃i:Nat,i<=e/\l=av i/\T=av (qM ((e.take i).map (lJ g)):Nat)/\ah (iD g wr b)/\ah (Only b w wr)/\ah (aq wr w.heap.size zN [.slice E g a,.map (some b)])/\ah (fO wr (.slice A' e c') e)/\ah (fO wr (.slice E g a) g)) (fun _ l _=>e - (RowKit.intOf l).toNat)
 exact⟨0,aU _,rfl,rfl,(af (O.ext (p.trans f))),(af (dM (g:=b) (p.trans f))),(af (n.ext f)),q,(af (h.ext (p.trans f)))⟩;obtain⟨i,u,rfl,rfl,r,R,n,q,S⟩:=hrel;by_cases k:i<e.length
 ·obtain⟨gg,o,rfl,_,hc⟩:=fO.get q k;have HI:=af (F i k);have HQ:ah (Oo g E a b (e.getD i 0)):=C _ (by rw[eG,aX k];exact a8 k);generalize e.getD i 0=m at*;generalize qM ((e.take i).map (lJ g))=mx at*;have J:=af (HQ wr S r);generalize lJ g m=pm at*;obtain⟨V,U⟩:=n.two;go_wp2_with fail
  refine J.mono ?_;rintro e2 w2 ⟨rfl,s,j⟩;have G:=af s;have D:=af (R.trans j);have K:=af (n.only j Om);have B:=af (r.wd j q);have H:=af (r.wd j S);go_wp2;go_roundw;exact⟨i+1,by omega,by go_num,by rw[HI.ae];exact congrArg _ Om,G,D,K,B,H⟩;simp [RowKit.intOf];omega
 ·obtain rfl:i=e.length:=Om;have I:ah (qM ((e.take e).map (lJ g))=j8 g rest):=by rw[fB];exact(ala M).symm
  rw[I.ae];have d1:decide (e<e)=false:=Ou;go_wp2;go_ret;exact⟨rfl,r,R⟩
def akr{c:VS}(m:Nat)(_hi:b<a):iB c J (List.range (b+1)) m=if c b=true then min (iB c J (List.range b) m) (J b) else iB c J (List.range b) m:=by unfold iB;rw[EW,wS];rfl
def adO{n:Nat}(c:a<2^n)(h:a.testBit b=true)(k:Nat)(d:VS.count n a.testBit<=k+1):VS.count n (dY a (2^b)).testBit<=k:=by rw[zu,qH];have:=tO (n:=n) h (rW c h);omega
def anR{g:List Nat}(f:k7 g)(d:a<2^g.length):lJ g a=max (iB a.testBit (fun b=>j8 g (dY a (2^b))) (List.range g.length) (g.length+1)) (p_ g a.testBit+1):=by
 unfold lJ Dj;rw[RG (g:=fun b=>j8 g (dY a (2^b))) fun b e=> ?_];unfold j8;rw[zu,qH];have i:=tO (n:=g) e (rW d e);have h:VS.count g a.testBit<=g.length:=by have:=Mj (p:=a.testBit) (l:=List.range g);rwa[i7] at this
 exact MI f.symm _ _ _ (fun x c=>by unfold VS.less at c;rw[cV] at c;exact rW d c.1) Om Om
def apF{g:List Nat}(t:k7 g)(J:c<2^g.length)(h0:∃d,d<g.length/\c.testBit d=true)(hW:∀d,c.testBit d=true->Jy g E a b (dY c (2^d))):Oo g E a b c:=by
 intro w h hM;have xO:=bl h;have F:=af h;have l:=af hM;have A:=af hW;have hle:=t.le;have yC:=af (t.jC J);have e:=t.jC J;have hky:=aeS t c.testBit h0;have z:ah (lJ g c=max (iB c.testBit (fun d=>j8 g (dY c (2^d))) (List.range g) (g.length+1)) (p_ g c.testBit+1)):=anR t J;have B:ah (∀i,i<g.length->∀k,iB c.testBit (fun d=>j8 g (dY c (2^d))) (List.range (i+1)) k=if c.testBit i=true then min (iB c.testBit (fun d=>j8 g (dY c (2^d))) (List.range i) k) (j8 g (dY c (2^i))) else iB c.testBit (fun d=>j8 g (dY c (2^d))) (List.range i) k):=fun i hi k=>akr k hi;have C:ah (iB c.testBit (fun d=>j8 g (dY c (2^d))) (List.range 0) (g.length+1)=g.length+1):=rfl;have r:ah (∀i,iB c.testBit (fun d=>j8 g (dY c (2^d))) (List.range i) (g.length+1)<=g.length+1):=fun i=>(IQ _ _).1;generalize(fun d=>j8 g (dY c (2^d)))=I at z B C r;have wH:ah (∀W,iD g W b->∃v:Option Value,(Instr.lookup 239 (.map (some b)) (.int .u64 (c:Int)) true).run prog W= .ok (.tuple #[v.getD (av 0),.bool v.isSome]) W/\(v=none\/v=some (av (lJ g c:Nat)))):=fun W ⟨f,h1,h2⟩=>by
  refine⟨f (.int .u64 (c:Int)),h1.look Sq adq (aow W) (aeA e),?_⟩;cases hf:f (.int .u64 (c:Int)) with
  |none=>exact .inl rfl
  |some v=>obtain⟨m',h3,_,h4⟩:=h2 _ _ hf;injection h3 with _ h3;have h5:m'=c:=Om;rw[h5] at h4;exact .inr (by rw[h4])
 go_enter func226,ntmps226;go_upto_region 1 with fail
 refine aR fun W u n=> ?_;obtain⟨v,hlk,hv⟩:=wH W (l.ext u);obtain⟨s0,s1⟩:=n.two;have sU:b<w.heap.size:=l.lt;rcases hv with rfl|rfl
 ·have HM1:=af (l.ext u);have nz:=n.lt;go_upto_region 6 with fail
  go_loopw [7,25] (fun v7 o wr=>∃i:Nat,i<=g/\o=av i/\v7=av (iB c.testBit I (List.range i) (g.length+1):Nat)/\ah (iD g wr b)/\ah (Only b w wr)/\ah (aq wr w.heap.size zN [.slice E g a,.map (some b)])/\ah (fO wr (.slice E g a) g)) (fun _ o _=>g - (RowKit.intOf o).toNat)
  exact⟨0,aU _,rfl,by rw[C.ae];rfl,HM1,(af (dM (g:=b) u)),n,(af (F.ext u))⟩;obtain⟨i,hi,rfl,rfl,l,HO,n,F⟩:=hrel;by_cases V:i<g
  ·have HH:=af (Cv c i wr e Om);have L:=af (B i V (g.length+1));have R:=r i;generalize iB c.testBit I (List.range i) (g.length+1)=N at*;obtain⟨s0,s1⟩:=n.two;go_wp2_with fail
   refine HH.mono ?_;rintro e1 x ⟨rfl,rfl⟩;cases Z:c.testBit i with
   |true=>
    rw[Z,if_pos rfl] at L;have HQ:ah (Jy g E a b (dY c (2^i))):=A i Z;have HP:=af (Df (show i<12 by omega));go_upto_region 9 with fail
    have yx:=af (xD i x.drew Om);have H:=af n.drew;have j:=af (l.ext (aB x).drew);have D:=af (F.ext (aB x).drew);have q:=af HO.drew;refine cG (S:=fun s=>aq s w.heap.size zN [.slice E g a,.map (some b)]) (T:=fun _=>false) Ok ?_;generalize x.drew=wd at*;have bK:ah (∀s,aq s w.heap.size zN [.slice E g a,.map (some b)]->aA s w.heap.size 0 (.slice E g a)/\aA s w.heap.size 1 (.map (some b))):=fun s h=>h.two;have aJ:=H;refine ax 0 31 ?_;refine ax 1 32 ?_;refine ax 2 33 ?_;refine ax 3 34 ?_;refine aO 4 ?_;intro K y;go_simp;refine yx.mono ?_;rintro e2 M ⟨rfl,rfl⟩;refine y.ae _ _ (fun _=>aJ.ae) ?_;have HW:=af (zE yC HP);have m:=af (HQ M D j);generalize 2^i=pi at*;generalize j8 g (dY c pi)=wv at*;refine ax 5 36 ?_;rw[HW.ae];refine aO 6 ?_;intro K y;go_simp;refine m.mono ?_;rintro e3 w3 ⟨rfl,U,p⟩;have Hh:=af U;have fJ:=af (q.trans p);have G:=af (H.only p Om);have Hk:=af (j.wd p D);have aJ:=G;refine y.ae _ _ (fun _=>aJ.ae) ?_;refine ax 7 38 ?_;refine aO 8 ?_;intro K y;go_simp;refine y.ae _ _ (fun _=>aJ.ae) ?_;refine bY Ok ?_;go_wp2;go_roundw;exact⟨i+1,by omega,by go_num,by rw[L.ae];exact congrArg _ Om,Hh,fJ,G,Hk⟩;simp [RowKit.intOf];omega
   |false=>rw[Z] at L;have en:ah (iB c.testBit I (List.range (i+1)) (g.length+1)=N):=L.ae;go_wp2;go_roundw;exact⟨i+1,by omega,by go_num,by rw[en.ae],l,HO,n,F⟩;simp [RowKit.intOf];omega
  ·obtain rfl:i=g.length:=Om;have R:=r g;generalize iB c.testBit I (List.range g.length) (g.length+1)=N at*;have HK:=af (an3 E g a g c wr F t J);generalize p_ g c.testBit=ky at*;obtain⟨s0,s1⟩:=n.two;have d1:decide (g<g)=false:=Ou;go_wp2_with fail
   refine HK.mono ?_;rintro e1 x ⟨rfl,rfl⟩;have HV:ah (max (N:Int) ((ky:Int)+1)=(lJ g c:Nat)):=by rw[ah,z.ae];omega
   go_upto_region 12 with fail
   rw[HV.ae];obtain⟨f,Y,X⟩:=l.ae;have Q:4096<maxLen:=axu;go_wp2_with (at_mapUpdate;refine aio _ rfl _ _ _ 239 rfl Sq adq rfl Y Q _ _ (.int .u64 (c:Int)) rfl rfl (aeA e) ?_)
   intro M O P;have j:ah (iD g M b):=iD.step X e O;have q:=af (HO.trans P);go_wp2;go_ret;exact⟨rfl,j,q⟩
 ·go_wp2;go_ret;exact⟨rfl,l.ext u,dM u⟩
def abr{g:List Nat}(p:k7 g)(A:aQ)(c b:Nat):∀(k m:Nat),m<2^g.length->VS.count g.length m.testBit<=k->Jy g A c b m
 |k,m,s,t=>anf p s fun h d e o=>by
  have f:VS.count g h.testBit<=VS.count g m.testBit:=wY e;obtain⟨a,r⟩:∃a,h.testBit a=true:=by
   rcases Classical.em (∃y,h.testBit y=true) with f|f
   ·exact f
   ·exact absurd (QW fun i=>by rw[ES];simpa using fun q=>f ⟨i,q⟩) o
  refine apF p d ⟨a,rW d r,r⟩ fun x j=> ?_;have q:=tO (n:=g.length) j (rW d j);match k with
  |0=>exact absurd q Om
  |k+1=>exact abr p A c b k _ (yZ d ayD) (adO d j k Om)
def abt{g:List Nat}(e:k7 g)(A:aQ)(c b:Nat)(d:a<2^g.length):Jy g A c b a:=abr e A c b _ a d (aL _)
def ints(l:List Nat):List Int:=l.map fun a:Nat=>(a:Int)
structure t_(g:List Nat)(most:Nat)(l:List Nat)(rest:Nat):Prop where
 lt:rest<2^g.length
 bit:∀x,rest.testBit x=true↔x<g.length/\x∉l
 nd:l.Nodup
 mem:∀x∈l,x<g.length
 wd:j8 g rest<=most
 sz:l.length+VS.count g.length rest.testBit<=g.length
noncomputable def xF(g:List Nat)(rest a:Nat):Nat:=nP g.length (fF g) (p_ g) (g.length+1) (VS.less (part (fF g) rest.testBit a) (VS.one a))
section
variable{g:List Nat}{most rest:Nat}{l:List Nat}
theorem t_.step(j:k7 g)(h:t_ g most l rest)(d:rest.testBit a=true)(i:xF g rest a<=most):t_ g most (l++ [a]) (dY rest (2^a)):=by
 have c:=(h.bit a).1 d;have m:=tO (n:=g) d c.1;refine⟨yZ h.lt (by rw[y_];exact rA _ h.lt),fun x=> ?_,?_,fun x b=> ?_,?_,?_⟩
 ·rw[Fz,qH,cV,h.bit,rG,VS.one];simp only[bO,bE,beq_eq_false_iff_ne,not_or,and_assoc]
 ·refine rE.2 ⟨h.nd,by simp,fun x b y f=> ?_⟩;rw[bE.1 f];intro e;exact c.2 (e▸b)
 ·rcases bO.1 b with b|b
  ·exact h.mem x b
  ·rw[bE.1 b];exact c.1
 ·have:=aip (n:=g) (ky:=p_ g) j.symm (k:=g) d h.wd i;unfold j8;rwa[zu,qH]
 ·rw[zu,qH,bD,gc];have:=h.sz;omega
theorem t_.some(e:k7 g)(h:t_ g most l rest)(o:rest≠0):∃a,a<g.length/\rest.testBit a=true/\xF g rest a<=most:=by
 obtain⟨x,d⟩:∃y,rest.testBit y=true:=by
  rcases Classical.em (∃y,rest.testBit y=true) with b|b
  ·exact b
  ·exact absurd (QW fun i=>by rw[ES];simpa using fun f=>b ⟨i,f⟩) o
 have j:VS.count g.length rest.testBit<=g.length:=(by have:=Mj (p:=rest.testBit) (l:=List.range g.length);rwa[i7] at this);obtain⟨a,b,f⟩:=ajR (n:=g.length) (ky:=p_ g) e.symm (fun c j=>aeS e c j) (k:=g.length) (s:=rest.testBit) (fun x d=>rW h.lt d) Om d;have m:=qE e.symm d b;exact⟨a,rW h.lt m,m,aV f h.wd⟩
theorem t_.done(h:t_ g most l 0):l.Nodup/\∀x,x∈l↔x<g:=
 ⟨h.nd,fun x=>⟨h.mem x,fun a=>Mg fun b=>by have:=(h.bit x).2 ⟨a,b⟩;rw[ES] at this;cases this⟩⟩
end
def at'{P:World->Prop}{k:TypeId}{l:List Value}(h:∀W,ah (Ext m W)->ah (dt W k m.heap.size 0 fun _=>none)->ah (aq W (m.heap.size+1) w l)->P W):P ((m.alloc (.map #[] 0)).alloc (.cells l.toArray w)):=
 h _ (((aB m).alloc _).alloc _) ((Ct m k).ext ((aB _).alloc _)) (l6 (m.alloc (.map #[] 0)) w l _ Ou)
def iD.new{g:List Nat}(h:dt m mh a 0 fun _=>none):iD g m a:=by obtain⟨D,d,c⟩:=h;exact⟨_,⟨D,d.mono Om,c⟩,fun l v h=>by cases h⟩
def iD.grown{g:List Nat}{w:au}{n:Nat}(h:iD g w b)(d:w.ownsRow a x c p n t)(e:w.grownBy m p.ownBlock)(q:b<a):iD g m b:=by obtain⟨f,o,j⟩:=h;exact⟨f,o.kept e (fun i=>by have:=(d.lt b i.symm).1;omega),j⟩
def t_.start{g:List Nat}:t_ g (j8 g (2^g.length - 1)) [] (2^g.length - 1):=by
 have a:(2^g.length - 1).testBit=iX g.length:=by
  funext x
  rw[aie];rfl
 refine⟨by have:=y4 g;omega,fun x=> ?_,Ix,(fun x b=>nomatch b),aL _,?_⟩
 ·rw[a,iX,decide_eq_true_eq];simp
 ·rw[a,Fi];simp
def q53.agK(h:ar:=by
 have jU:l.length<=12:=(by have:=O.sz;omega);have d_:ah (ints (l++ [i])=ints l++ [(i:Int)]):=by unfold ints;rw[ah,kE];rfl
 have awI:(ints l).length<=12:=by unfold ints;rw[bP];exact jU
 obtain⟨A',c',xs,rfl,_,Vf,o,YI⟩:=fJ.parts;have dC:((ints l).length+1)*8<=140737488355328:=Om;go_wp2_with (at_builtin;refine gf rfl _ _ 22 rfl bs jo _ _ _ rfl o.ae #[av (i:Int)] 1 1 rfl rfl rfl dC hs3 ?_)
 intro v' w6 Gz j _;have O6:=af (iF (R:=dw) (x:=(i:Int)) cJ Oe o YI rfl Gz j);rw[<-d_.ae] at O6;have pG:=af (gK gP o j sU);have HL6:ah (fO w6 (.slice p g.length g.length) g):=Hk.keep qF fun u hu=>tP o j (by simp only[bE] at hu;rw[hu];decide);have Hp:=af (kI t o j hws);have Qe:ah (iD g w6 b):=r.grown o j Om;have xX:bs<=w6.heap.size:=aV hs3 j.size;go_wp2_with fail
 refine(auH w6).mono ?_;rintro e7 w7 ⟨rfl,rfl⟩;go_wp2;go_roundw;exact⟨dY rest pi,l++ [i],by rw[pu.ae],td,O6,Qe,pG,HL6,Hp,xX⟩;rw[pu.ae];simp only[RowKit.intOf,kX];exact LU):=h
def q54.agK(h:ar:=by go_wp2;go_roundw;exact⟨i+1,by omega,by go_num,rfl,I,fJ,r,gP,Hk,t,hs3⟩;simp [RowKit.intOf];omega):=h
def akf(v:Value)(x:aP)(w:au)(h:dP w v x)(ok:bV x):
 Calls prog 94 #[v] w fun e f=>∃u l,e= .returned u/\IL f u (ints l)/\l.Nodup/\(∀a,a∈l↔a<x.ai.length)/\Ext w f:=by
 have CN:=af (fun W (hx:Ext w W)=>Tp v x W (h.ext hx) ok);have hgr:=zn ok.ri;have hg:=hgr.ok ok.a12;have GH:=hgr.len;generalize gX x.ai.length x.ay=g at*;have P:=af hg;have hle:=hg.le;obtain⟨A,c,B,d,D,e,rfl,ha,L,hf⟩:=h;obtain⟨N,hN⟩:∃N,x.ai.length=N:=⟨_,rfl⟩;rw[hN] at CN GH⊢;subst GH;have P_:=af (t_.start (g:=g));have eY:2^g.length - 1<2^g.length:=ayP;have HWA:=af (fun A b=>abt hg A g.length b eY);have YR:=af (fun A f (h:fO f (.slice A g g) g)=>adb A g g g f h hle);generalize 2^g.length - 1=all at*;obtain⟨most,Z⟩:∃most,j8 g all=most:=⟨_,rfl⟩;have HMO:=af Z;rw[Z] at P_;have hmm:= @run_makeMap prog;go_enter func94,ntmps94;go_upto_region 1 with fail
 refine aR fun W HX BX=> ?_;have YX:=af (CN W HX);obtain⟨s0,s1,s2,s3⟩:=BX.four;go_wp2_with fail
 refine YX.mono ?_;rintro e1 w1 ⟨p,rfl,hv,hx⟩;have cD:=af (HX.trans hx);have th:=af hv;go_upto_region 2 with fail
 refine at' (k:=mh) fun W2 bk Eu E=> ?_;have lC:ah (iD g W2 w1.heap.size):=iD.new Eu;have lT:=af (th.ext bk);have y:=af (cD.trans bk);have H:=cD.size;have hb2:=E.lt;have Bg:=af (YR p W2 lT);have aud:=af (HWA p _ W2 lT lC);generalize w1.heap.size=b at*;obtain⟨s0,s1⟩:=E.two;go_wp2_with fail
 refine Bg.mono ?_;rintro e1 w2 ⟨rfl,rfl⟩;go_wp2_with fail;refine aud.mono ?_;rintro e1 Q ⟨rfl,q,fu⟩;rw[HMO.ae];have r:=af q;have hb4:b<w2.heap.size:=lC.lt;have BF3:=af (E.only fu Om);have Hk:=af (lC.wd fu lT);have t:=af (y.only fu H);have hz3:w2.heap.size<=Q.heap.size:=fu.size;obtain⟨bs,AD⟩:∃bs,Q.heap.size=bs:=⟨_,rfl⟩;have sU:b+1<bs:=Om;have hws:w.heap.size<=bs:=Om;have X:bs<=Q.heap.size:=E6 AD.symm;have K_:=af (fun(m:Nat) (hm:m<2^g.length)=>abt P p g.length b hm);go_upto_region 5 with fail
 go_loopw [4,6,7] (fun U v6 _ wr=>∃(rest:Nat) (l:List Nat),U= .int .u64 rest/\ah (t_ g most l rest)/\ah (bG aS 1 dw bs wr v6 (ints l))/\ah (iD g wr b)/\ah (aq wr (b+1) zN [.slice p g g,.map (some b)])/\ah (fO wr (.slice p g g) g)/\ah (Ext w wr)/\bs<=wr.heap.size) (fun U _ _ _=>cnt (RowKit.intOf U).toNat)
 exact⟨all,[],rfl,P_,ii,r,BF3,Hk,t,X⟩;obtain⟨rest,l,rfl,O,HO,HM,E,HL,HE,hsz⟩:=hrel;by_cases h0:rest=0
 ·subst h0;have HD:=af O.done;go_wp2;go_ret;exact⟨_,l,rfl,HO.ls,HD.1,HD.2,HE⟩
 ·have hne:((rest:Int) !=0)=true:=Oc;have yt:=af (O.some P h0);have jX:=af (P.jC O.lt);have lx:=wY (n:=12) (c:=rest.testBit) (s:=rest.testBit) fun _ h=>h;obtain⟨s0,s1⟩:=E.two;obtain⟨wo,rfl⟩:∃wo:World,wo=wr:=⟨_,rfl⟩;have A_:ah (∀a,a<0->rest.testBit a=true->¬xF g rest a<=most):=fun a ha=>by omega
  go_upto_region 7 with fail
  go_loopw [4,6,7,23] (fun U v6 _ F J=>∃i:Nat,i<=g/\F=av i/\U= .int .u64 rest/\ah (∀a,a<i->rest.testBit a=true->¬xF g rest a<=most)/\ah (bG aS 1 dw bs J v6 (ints l))/\ah (iD g J b)/\ah (aq J (b+1) zN [.slice p g g,.map (some b)])/\ah (fO J (.slice p g g) g)/\ah (Ext w J)/\bs<=J.heap.size) (fun _ _ _ F _=>g - (RowKit.intOf F).toNat)
  exact⟨0,aU _,rfl,rfl,A_,HO,HM,E,HL,HE,hsz⟩;obtain⟨i,hi,rfl,rfl,HN,HO,HM,E,HL,HE,Pf⟩:=hrel;by_cases gp:i<g
  ·go_upto_region 9 with fail
   have HH:=af (Cv rest i wr.drew jX Om);have iN:=af E.drew;have lC:=af (HM.ext (aB wr).drew);have lT:=af (bU qF HL (aB wr).drew);have y:=af HE.drew;have ey:=af (HO.ext cJ (aB wr).drew);have Wx:bs<=wr.drew.heap.size:=Pf;refine cG (S:=fun f=>aq f (b+1) zN [.slice p g g,.map (some b)]) (T:=fun _=>false) Ok ?_;generalize wr.drew=wd at*;have bK:ah (∀f,aq f (b+1) zN [.slice p g g,.map (some b)]->aA f (b+1) 0 (.slice p g g.length)/\aA f (b+1) 1 (.map (some b))):=fun f h=>h.two;have aJ:=iN;refine ax 0 26 ?_;refine ax 1 27 ?_;refine aO 2 ?_;intro K hK;go_simp;refine HH.mono ?_;rintro e2 w2 ⟨rfl,rfl⟩;refine hK.ae _ _ (fun _=>aJ.ae) ?_;cases hb:rest.testBit i with
   |true=>
    have HB:=af hb;refine ax 3 29 ?_;refine ax 4 30 ?_;refine ax 5 31 ?_;refine ax 6 32 ?_;refine ax 7 33 ?_;refine ax 8 34 ?_;refine ax 10 36 ?_;refine ax 14 40 ?_;have HC:=af (ab4 p _ g.length g rest i w2 lT P O.lt gp);refine aO 9 ?_;intro K hK;go_simp;refine HC.mono ?_;rintro e3 Q ⟨m,rfl,jT,G,rfl⟩;refine hK.ae _ _ (fun _=>aJ.ae) ?_;have yx:=af (xD i Q Om);refine aO 11 ?_;intro K hK;go_simp;refine yx.mono ?_;rintro e4 w4 ⟨rfl,rfl⟩;refine hK.ae _ _ (fun _=>aJ.ae) ?_;have HW:=af (zE (P.jC G) (Df (show i<12 by omega)));have yC:=af (show dY m (2^i)<2^g.length from yZ G (by rw[y_];exact rA _ G));have HQ:=af (K_ _ yC w4 lT lC);have z:ah (j8 g (dY m (2^i))=xF g rest i):=(by unfold j8 xF;rw[ah,zu,qH,jT])
    rw[z.ae] at HQ;obtain⟨V,C⟩:∃V,xF g rest i=V:=⟨_,rfl⟩;have z:=af C;rw[C] at HQ;by_cases Y:V<=most
    ·have td:=af (O.step P HB (by rw[z.ae];exact Y));have d1:decide ((V:Int)<=(most:Int))=true:=fN;have auH:=af (fun f=>xD i f (show i<32 by omega));have pu:=af (zE jX (Df (show i<12 by omega)));have LU:ah (cnt (dY rest (2^i))<cnt rest):=(by have h:=tO (n:=12) (c:=rest.testBit) HB (show i<12 by omega);unfold cnt;rwa[zu,qH])
     generalize 2^i=pi at*;refine ax 12 38 ?_;rw[HW.ae];refine aO 13 ?_;intro K hK;go_simp;refine HQ.mono ?_;rintro e5 w5 ⟨rfl,q,fu⟩;have r:=af q;have PJ:w.heap.size<=b:=H;have t:=af (y.only fu PJ);open q53 in exact agi
    ·have d1:decide ((V:Int)<=(most:Int))=false:=aW;have I:ah (∀a,a<i+1->rest.testBit a=true->¬xF g rest a<=most):=fun a ha L=>by
      rcases cA a i with M|M
      ·exact HN a M L
      ·obtain rfl:a=i:=Om;rw[z.ae];exact Y
     generalize 2^i=pi at*;refine ax 12 38 ?_;rw[HW.ae];refine aO 13 ?_;intro K hK;go_simp;refine HQ.mono ?_;rintro e5 w5 ⟨rfl,q,fu⟩;have r:=af q;have t:=af (y.only fu H);open q54 in exact agi
   |false=>
    refine ax 3 29 ?_;refine lH 4 30 ?_;refine lH 5 31 ?_;refine lH 6 32 ?_;refine lH 7 33 ?_;refine lH 8 34 ?_;refine lH 9 35 ?_;refine lH 10 36 ?_;refine lH 11 37 ?_;refine lH 12 38 ?_;refine lH 13 39 ?_;refine lH 14 40 ?_;refine lH 15 41 ?_;refine ax 16 42 ?_;refine bY Ok ?_;have I:ah (∀a,a<i+1->rest.testBit a=true->¬xF g rest a<=most):=fun a ha L=>by
     rcases cA a i with M|M
     ·exact HN a M L
     ·obtain rfl:a=i:=Om;rw[hb] at L;cases L
    go_wp2;go_roundw;exact⟨i+1,by omega,by go_num,rfl,I,ey,lC,iN,lT,y,Wx⟩;simp [RowKit.intOf];omega
  ·have Qb:=af yt.ae;exfalso;obtain⟨a,M,h2,h3⟩:=yt.ae;exact HN a Om h2 h3
abbrev Gp:=List (List UInt8)×Rat
abbrev lO(a b:Gp):Prop:=dU a.1 b.1=true
def kO(x:Gp):List Gp->List Gp
 | []=> [x]
 |y::l=>if dU y.1 x.1=true then y::kO x l else if (y.1==x.1)=true then (y.1,y.2+x.2)::l else x::y::l
def cM(k:List (List UInt8)):List Gp->Rat
 | []=>0
 |y::l=>(if y.1=k then y.2 else 0)+cM k l
def adz(x:Gp)(k:List (List UInt8)):∀l,cM k (kO x l)=(if x.1=k then x.2 else 0)+cM k l
 | []=>rfl
 |y::l=>by
  unfold kO;split
  ·simp only[cM];rw[adz x k l];rw[<-uZ,<-uZ,E4 (if y.1=k then y.2 else 0)]
  ·split
   ·rename_i b;have b:=beq_iff_eq.1 b;simp only[cM,<-b];by_cases a:y.1=k
    ·rw[if_pos a,if_pos a,if_pos a,E4 y.2 x.2,uZ]
    ·rw[if_neg a,if_neg a,if_neg a,pO,pO]
   ·rfl
def Ty(x:Gp)(k:List (List UInt8)):∀l,(∃y∈kO x l,y.1=k)↔x.1=k\/∃y∈l,y.1=k
 | []=>by simp [kO]
 |y::l=>by
  unfold kO;split
  ·have d:=Ty x k l;constructor
   ·rintro⟨z,a,b⟩;rcases aK.1 a with rfl|a
    ·exact .inr ⟨z,by simp,b⟩
    ·rcases d.1 ⟨z,a,b⟩ with h|⟨w,c,h⟩
     ·exact .inl h
     ·exact .inr ⟨w,by simp [c],h⟩
   ·rintro(h|⟨z,a,b⟩)
    ·obtain⟨w,c,h⟩:=d.2 (.inl h);exact⟨w,by simp [c],h⟩
    ·rcases aK.1 a with rfl|a
     ·exact⟨z,by simp,b⟩
     ·obtain⟨w,c,h⟩:=d.2 (.inr ⟨z,a,b⟩);exact⟨w,by simp [c],h⟩
  ·split
   ·rename_i e;have e:=beq_iff_eq.1 e;constructor
    ·rintro⟨z,a,b⟩;rcases aK.1 a with rfl|a
     ·exact .inr ⟨y,by simp,b⟩
     ·exact .inr ⟨z,by simp [a],b⟩
    ·rintro(h|⟨z,a,b⟩)
     ·exact⟨_,eH,e.trans h⟩
     ·rcases aK.1 a with rfl|a
      ·exact⟨_,eH,b⟩
      ·exact⟨z,by simp [a],b⟩
   ·constructor
    ·rintro⟨z,a,b⟩;rcases aK.1 a with rfl|a
     ·exact .inl b
     ·exact .inr ⟨z,a,b⟩
    ·rintro(h|⟨z,a,b⟩)
     ·exact⟨x,by simp,h⟩
     ·exact⟨z,by simp only[aK] at a⊢;exact .inr a,b⟩
def aoA{x:Gp}{Q:List (List UInt8)->Prop}(c:Q x.1):∀{l:List Gp},(∀y∈l,Q y.1)->∀y∈kO x l,Q y.1:=fun {l} h y b=>by
 rcases(Ty x y.1 l).1 ⟨y,b,rfl⟩ with e|⟨z,a,e⟩
 ·rw[<-e];exact c
 ·rw[<-e];exact h z a
def adB{x:Gp}:∀{l:List Gp},l.Pairwise lO->(kO x l).Pairwise lO
 | [],_=>by simp [kO]
 |z::l,h=>by
  obtain⟨d,g⟩:=iP.1 h;unfold kO;split
  ·rename_i b;exact iP.2 ⟨aoA (Q:=fun t=>dU z.1 t=true) b d,adB g⟩
  ·rename_i b;split
   ·exact iP.2 ⟨d,g⟩
   ·rename_i f;have a:dU x.1 z.1=true:=by
     cases i:dU x.1 z.1 with
     |true=>rfl
     |false=>have e:=iR.vI x.1 z.1 i axG;rw[e] at f;simp at f
    refine iP.2 ⟨fun y c=> ?_,h⟩;rcases aK.1 c with rfl|c
    ·exact a
    ·exact iR.tr _ _ _ a (d y c)
def dH(l:List Gp):List Gp:=l.foldl (fun o x=>kO x o) []
def za:∀(l o:List Gp),o.Pairwise lO->(l.foldl (fun o x=>kO x o) o).Pairwise lO/\(∀k,cM k (l.foldl (fun o x=>kO x o) o)=cM k l+cM k o)/\∀k,(∃y∈l.foldl (fun o x=>kO x o) o,y.1=k)↔(∃y∈l,y.1=k)\/∃y∈o,y.1=k
 | [],o,h=>⟨h,fun k=>by simp [cM,pO],fun k=>by simp⟩
 |x::l,o,h=>by
  obtain⟨d,c,b⟩:=za l (kO x o) (adB h);refine⟨d,fun k=> ?_,fun k=> ?_⟩
  ·rw[y5,c,adz];simp only[cM];rw[<-uZ,E4 (cM k l)]
  ·rw[y5,b,Ty];constructor
   ·rintro(⟨y,a,e⟩|e|⟨y,a,e⟩)
    ·exact .inl ⟨y,by simp [a],e⟩
    ·exact .inl ⟨x,by simp,e⟩
    ·exact .inr ⟨y,a,e⟩
   ·rintro(⟨y,a,e⟩|⟨y,a,e⟩)
    ·rcases aK.1 a with rfl|a
     ·exact .inr (.inl e)
     ·exact .inl ⟨y,a,e⟩
    ·exact .inr (.inr ⟨y,a,e⟩)
def zk{k:List (List UInt8)}:∀{l:List Gp},(∀y∈l,y.1≠k)->cM k l=0
 | [],_=>rfl
 |y::l,h=>by unfold cM;rw[if_neg (h y Ou),zk fun z a=>h z axx,pO]
def aaq(k:List (List UInt8))(m:List Gp):∀l,cM k (l++m)=cM k l+cM k m
 | []=>by simp [cM,pO]
 |y::l=>by rw[nK];simp only[cM];rw[aaq k m l,uZ]
def Sb:∀{l m:List Gp},l.Pairwise lO->m.Pairwise lO->(∀k,(∃y∈l,y.1=k)↔∃y∈m,y.1=k)->(∀k,cM k l=cM k m)->l=m
 | [],[],_,_,_,_=>rfl
 | [],y::m,_,_,h,_=>by obtain⟨z,a,_⟩:=(h y.1).2 ⟨y,by simp,rfl⟩;cases a
 |x::l,[],_,_,h,_=>by obtain⟨z,a,_⟩:=(h x.1).1 ⟨x,by simp,rfl⟩;cases a
 |x::l,y::m,A,v,h,q=>by
  obtain⟨p,u⟩:=iP.1 A;obtain⟨m1,m2⟩:=iP.1 v;have c:x.1=y.1:=by
   obtain⟨z,a,s⟩:=(h x.1).1 ⟨x,by simp,rfl⟩;obtain⟨w,b,d⟩:=(h y.1).2 ⟨y,by simp,rfl⟩;rcases aK.1 a with rfl|a
   ·exact s.symm
   ·rcases aK.1 b with rfl|b
    ·exact d
    ·have r:=m1 z a;have f:=p w b;rw[lO,s] at r;rw[lO,d] at f;have:=iR.asym r;rw[this] at f;cases f
  have n:∀z∈l,z.1≠x.1:=fun z a e=>by have g:=p z a;rw[lO,e,iR.jD] at g;cases g
  have j:∀z∈m,z.1≠y.1:=fun z a e=>by have g:=m1 z a;rw[lO,e,iR.jD] at g;cases g
  have i:x.2=y.2:=(by have g:=q x.1;simp only[cM] at g;rw[if_pos trivial,if_pos c.symm,zk n,c,zk j,xc,xc] at g;exact g);have o:x=y:=Prod.ext c i;subst o;rw[Sb u m2 (fun k=> ?_) (fun k=> ?_)]
  ·constructor
   ·rintro⟨z,a,e⟩;obtain⟨w,b,d⟩:=(h k).1 ⟨z,by simp [a],e⟩;rcases aK.1 b with rfl|b
    ·exact absurd (e.trans d.symm) (n z a)
    ·exact⟨w,b,d⟩
   ·rintro⟨z,a,e⟩;obtain⟨w,b,d⟩:=(h k).2 ⟨z,by simp [a],e⟩;rcases aK.1 b with rfl|b
    ·exact absurd (e.trans d.symm) (j z a)
    ·exact⟨w,b,d⟩
  ·have g:=q k;simp only[cM] at g;have f:=congrArg (fun t=> -(if x.1=k then x.2 else 0)+t) g;simp only[<-uZ,Rat.neg_add_cancel,pO] at f;exact f
def Fo.By(H:Nat->List Nat):Fo->Prop
 | .nil=>True
 | .cons v a b n=>a=H v/\b.By H/\n.By H
def ab'{H:Nat->List Nat}{f:Nat->Fo}(a:∀c,(f c).By H):∀l:List Nat,(ei H f l).By H
 | []=>trivial
 |_::l=>⟨rfl,a _,ab' a l⟩
def ze{n:Nat}{p:Nat->Option Nat}{H:Nat->List Nat}:∀(k:Nat) (u:Option Nat),(et n p H k u).By H
 |0,_=>trivial
 |k+1,_=>ab' (fun c=>ze k (some c)) _
def Fo.By.mem{H:Nat->List Nat}:∀{f:Fo},f.By H->∀h,h∈f.homes↔∃v∈f.vars,h∈H v
 | .nil,_,h=>by simp [Fo.homes,Fo.vars]
 | .cons v g b n,⟨e,d,c⟩,h=>by
   simp only[Fo.homes,Fo.vars,bO,aK,d.mem h,c.mem h,e];constructor
   ·rintro(h|⟨w,a,h⟩|⟨w,a,h⟩)
    ·exact⟨v,.inl rfl,h⟩
    ·exact⟨w,.inr (.inl a),h⟩
    ·exact⟨w,.inr (.inr a),h⟩
   ·rintro⟨w,rfl|a|a,h⟩
    ·exact .inl h
    ·exact .inr (.inl ⟨w,a,h⟩)
    ·exact .inr (.inr ⟨w,a,h⟩)
def Fo.By.nodup{H:Nat->List Nat}(k:∀v,(H v).Nodup)(j:∀v w h,h∈H v->h∈H w->v=w):∀{f:Fo},f.By H->f.vars.Nodup->f.homes.Nodup
 | .nil,_,_=>Ix
 | .cons v s b n,⟨e,m,l⟩,p=>by
   obtain⟨d1,d2⟩:=ic.1 p;obtain⟨d3,d4,d5⟩:=rE.1 d2;refine rE.2 ⟨by rw[e];exact k v,rE.2 ⟨m.nodup k j d3,l.nodup k j d4,fun x d y a c=> ?_⟩,fun x d y a c=> ?_⟩
   ·subst c;obtain⟨w,i,r⟩:=(m.mem x).1 d;obtain⟨z,o,q⟩:=(l.mem x).1 a;exact d5 w i z o (j w z x r q)
   ·subst c;rw[e] at d;rcases bO.1 a with a|a
    ·obtain⟨w,i,g⟩:=(m.mem x).1 a;exact d1 (bO.2 (.inl (j v w x d g▸i)))
    ·obtain⟨w,i,g⟩:=(l.mem x).1 a;exact d1 (bO.2 (.inr (j v w x d g▸i)))
def RR:=@Fo.By.nodup
section
variable{α β:Type} [DecidableEq β]{R:SR α}
def Func(l:List (List β×Int)):Prop:=∀y∈l,∀z∈l,y.1=z.1->y=z
theorem ajd{a:List (List β×Int)}(f:Func a){e:Nat->β}{y:List β×Int}:fE i a e=some y↔y∈a/\y.1=i.map e:=by
 constructor
 ·intro h;exact⟨yV h,beq_iff_eq.1 (wT (p:=fun y:List β×Int=>y.1==i.map e) h)⟩
 ·rintro⟨d,c⟩;cases b:fE i a e with
  |none=>have:=wR.1 b y d;rw[beq_iff_eq] at this;exact absurd c this
  |some z=>have j:=yV b;have g:=beq_iff_eq.1 (wT (p:=fun y:List β×Int=>y.1==i.map e) b);rw[f y d z j (c.trans g.symm)]
theorem aje{a:List (List β×Int)}{e:Nat->β}:fE i a e=none↔∀y∈a,y.1≠i.map e:=by unfold fE;rw[wR];exact⟨fun h y b e=>h y b (beq_iff_eq.2 e),fun h y b e=>h y b (beq_iff_eq.1 e)⟩
end
abbrev aH:=List UInt8
def ew(c:Nat->Option aH)(a:Nat)(x:aH):Nat->Option aH:=fun b=>if b=a then some x else c b
def dO(fx:Nat->Option aH):List Nat->List aH->Nat->Option aH
 |a::l,x::k=>dO (ew fx a x) l k
 |_,_=>fx
def ik(zU:(Nat->Option aH)->Nat->List aH):List Nat->(Nat->Option aH)->List (List aH)
 | [],_=> [[]]
 |a::l,b=>(zU b a).flatMap fun x=>(ik zU l (ew b a x)).map fun k=>x::k
def abA:∀{k:List aH} {c:Nat->Option aH} {a:Nat},a∉i->c a=none->dO c i k a=none:=by
 induction i with
 |nil=>intro k c a _ h;cases k<;>exact h
 |cons b i f=>
  intro k c a d h;cases k with
  |nil=>exact h
  |cons x k=>refine f (fun g=>d ayw) ?_;unfold ew;rw[if_neg (fun e=>d ayF)];exact h
section
variable{zU:(Nat->Option aH)->Nat->List aH}{T:(Nat->Option aH)->Prop}
theorem R_(c:∀d b y,d b=none->T (ew d b y)->T d):∀{l:List Nat} {k:List aH} {d:Nat->Option aH},l.Nodup->(∀a∈l,d a=none)->k.length=l.length->T (dO d l k)->T d
 | [],[],_,_,_,_,h=>h
 |a::l,x::k,d,j,f,i,h=>by obtain⟨d1,d2⟩:=ic.1 j;refine c d a x (f a Ou) (R_ c d2 (fun b g=> ?_) ayA h);unfold ew;rw[if_neg (show b≠a from fun e=>d1 (e▸g))];exact f b ayw
theorem SJ{P:Nat->Prop}(f:∀c a x,P a->c a=none->(x∈zU c a↔T (ew c a x)))(d:∀c b y,c b=none->T (ew c b y)->T c):
 ∀{l:List Nat} {c:Nat->Option aH},(∀a∈l,P a)->l.Nodup->(∀a∈l,c a=none)->T c->∀k,k∈ik zU l c↔k.length=l.length/\T (dO c l k)
 | [],c,_,_,_,hT,k=>by
   constructor
   ·intro h;rw[bE.1 h];exact⟨rfl,hT⟩
   ·rintro⟨h,_⟩;have:k= []:=lU axF;rw[this];exact bE.2 rfl
 |a::l,c,u,A,t,_,k=>by
  have n:=u a Ou;have m:∀b∈l,P b:=fun b p=>u b (by simp [p]);obtain⟨d1,d2⟩:=ic.1 A;have j:=t a Ou;have i:∀x,∀b∈l,ew c a x b=none:=fun x b p=>by unfold ew;rw[if_neg (show b≠a from fun e=>d1 (e▸p))];exact t b (by simp [p])
  unfold ik;rw[mS];constructor
  ·rintro⟨x,w,z⟩;obtain⟨v,s,rfl⟩:=b_.1 z;have g:=(f c a x n j).1 w;obtain⟨r,q⟩:=(SJ f d m d2 (i x) g v).1 s;exact⟨by simp [r],q⟩
  ·rintro⟨r,q⟩;cases k with
   |nil=>simp at r
   |cons x k=>
    have o:k.length=l.length:=by simpa using r
    have g:T (ew c a x):=R_ d d2 (i x) o q;exact⟨x,(f c a x n j).2 g,b_.2 ⟨k,(SJ f d m d2 (i x) g k).2 ⟨o,q⟩,rfl⟩⟩
theorem acf{P:Nat->Prop}(f:∀c a,P a->(zU c a).Pairwise fun x y=>Op.bytesLess x y=true):∀(l:List Nat) (c:Nat->Option aH),(∀a∈l,P a)->(ik zU l c).Pairwise fun j k=>dU j k=true
 | [],_,_=>EM _ _
 |a::l,c,g=>by
  unfold ik;have h:=f c a (g a Ou);generalize zU c a=o at h;induction o with
  |nil=>exact List.Pairwise.nil
  |cons x o n=>
   obtain⟨t,s⟩:=iP.1 h;rw[uV];refine Zu.2 ⟨?_,n s,fun j q k d=> ?_⟩
   ·refine rD.2 ((acf f l (ew c a x) fun b r=>g b (by simp [r])).imp fun {j k} e=> ?_);show(Op.bytesLess x x||(x==x&&dU j k))=true
    rw[e];simp
   ·obtain⟨m,_,rfl⟩:=b_.1 q;obtain⟨y,p,d⟩:=mS.1 d;obtain⟨i,_,rfl⟩:=b_.1 d;show(Op.bytesLess x y||(x==y&&dU m i))=true
    rw[t y p];rfl
end
def cH(fx:Nat->Option aH)(v:Nat)(y:aH):Bool:=match fx v with
 |none=>true
 |some z=>z==y
def om(n:Nat)(b:List Nat)(U:List aH)(W:Nat->(Nat->aH)->Bool)(c:Nat->Option aH):Prop:=∃a,(∀v,v<n->a v∈U/\cH c v (a v)=true)/\∀h∈b,W h a=true
def NI{d:Nat->Option aH}{x:aH}{y:aH}(c:b≠a):cH (ew d a x) b y=cH d b y:=by unfold cH ew;rw[if_neg c]
def Jt{b:Nat->Option aH}{x y:aH}:cH (ew b a x) a y=(x==y):=by unfold cH ew;rw[if_pos rfl]
def om.mono{U:List aH}{W:Nat->(Nat->aH)->Bool}:∀(d:Nat->Option aH) (b:Nat) (y:aH),d b=none->om a i U W (ew d b y)->om a i U W d:=by
 rintro d b y g ⟨j,f,h⟩;refine⟨j,fun v e=>⟨(f v e).1,?_⟩,h⟩;by_cases c:v=b
 ·unfold cH;rw[c,g]
 ·rw[<-NI (x:=y) c];exact(f v e).2
def Fo.Ok.back{c:Nat->List Nat}{i:List Nat}:∀{f:Fo} {S:List Nat},f.Ok c i S->∀v∈f.vars,∀h∈i,v∈c h->h∈f.homes
 | .nil,_,_,v,a,_,_,_=>by cases a
 | .cons w m b n,S,⟨_,l,k,j⟩,v,a,h,d,e=>by
   simp only[Fo.vars,aK,bO] at a;simp only[Fo.homes,bO];rcases a with rfl|a|a
   ·rcases bO.1 (l h d e) with g|g
    ·exact .inl g
    ·exact .inr (.inl g)
   ·exact .inr (.inl (k.back v a h d e))
   ·exact .inr (.inr (j.back v a h d e))
def abE{U:List aH}{W:Nat->(Nat->aH)->Bool}{f:Fo}{env:Nat->aH}{fx:Nat->Option aH}(hW:∀h e c,(∀b∈A h,c b=e b)->W h c=W h e)
 (j:f.Wf A) (s:f.vars.Nodup) (k:∀v,v∈f.vars↔v<a) (q:∀h,h∈f.homes↔h∈i) (l:∀h∈i,∀b∈A h,b<a):f.val dN U (cH fx) W env=true↔om a i U W fx:=by
 rw[E_ hW f env j s];constructor
 ·rintro⟨c,_,p,o⟩;exact⟨c,fun v h=>p v ((k v).2 h),fun h g=>o h ((q h).2 g)⟩
 ·rintro⟨c,p,o⟩;refine⟨fun b=>if b<a then c b else env b,fun b m=> ?_,fun v h=> ?_,fun h g=> ?_⟩
  ·simp only;rw[if_neg (fun h=>m ((k b).2 h))]
  ·have d:=(k v).1 h;simp only;rw[if_pos d];exact p v d
  ·have r:=(q h).1 g;rw[hW h c _ fun b m=>by rw[if_pos (l h r b m)]];exact o h r
def apL{U:List aH}{W:Nat->(Nat->aH)->Bool}{c:Fo}{env:Nat->aH}{fx:Nat->Option aH}(hW:∀h e t,(∀b∈A h,t b=e b)->W h t=W h e)
 (z:(Fo.cons b j c .nil).Ok A i []) (M:(Fo.cons b j c .nil).vars.Nodup) (I:∀v∈(Fo.cons b j c .nil).vars,v<a) (p:∀h∈(Fo.cons b j c .nil).homes,h∈i) (L:fx b=none) (x:aH):
 (om a i U W fx/\x∈U/\(∀h∈j,W h (put env b x)=true)/\c.val dN U (cH fx) W (put env b x)=true)↔om a i U W (ew fx b x):=by
 have m:(Fo.cons b j c .nil).vars=b::c.vars:=ayf;have k:(Fo.cons b j c .nil).homes=j++c.homes:=by simp [Fo.homes]
 have H:=z.wf M Oe;obtain⟨O,_,_,N,_⟩:=H;have l:∀h∈j++c.homes,∀v∈A h,v=b\/v∈c.vars:=fun h o v d=>by
  rcases z.cover h (by rw[k];exact o) v d with g|g
  ·cases g
  ·rw[m] at g;exact aK.1 g
 have B:∀h∈i,∀v∈A h,(v=b\/v∈c.vars)->h∈j++c.homes:=fun h o v d f=>by have g:=z.back v (by rw[m];exact aK.2 f) h o d;rwa[k] at g
 rw[m] at M I;rw[k] at p;obtain⟨d1,d2⟩:=ic.1 M;constructor
 ·rintro⟨⟨G,t1,t2⟩,S,T,X⟩;obtain⟨C,Q,R,Z⟩:=(E_ hW c (put env b x) N d2).1 X;have F:C b=x:=by rw[Q b d1];unfold put;rw[if_pos rfl]
  have E:∀v,(v=b\/v∈c.vars)->(fun v=>if v=b\/v∈c.vars then C v else G v) v=C v:=fun v h=>if_pos h;have r:∀v,¬(v=b\/v∈c.vars)->(fun v=>if v=b\/v∈c.vars then C v else G v) v=G v:=fun v h=>if_neg h;refine⟨fun v=>if v=b\/v∈c.vars then C v else G v,fun v u=> ?_,fun h o=> ?_⟩
  ·by_cases f:v=b\/v∈c.vars
   ·rw[E v f];rcases f with rfl|f
    ·rw[F,Jt];exact⟨S,beq_self_eq_true _⟩
    ·rw[NI (show v≠b from fun e=>d1 (e▸f))];exact R v f
   ·rw[r v f,NI (fun e=>f (.inl e))];exact t1 v u
  ·by_cases f:h∈j++c.homes
   ·rw[hW h C _ fun v d=>E v (l h f v d)];rcases bO.1 f with f|f
    ·rw[hW h (put env b x) C fun v d=>Q v (O h f v d)];exact T h f
    ·exact Z h f
   ·rw[hW h G _ fun v d=>r v fun V=>f (B h o v d V)];exact t2 h o
 ·intro P;have J:=om.mono fx b x L P;obtain⟨t,t1,t2⟩:=P;obtain⟨Y,s⟩:=t1 b (I b Ou);rw[Jt] at s;have D:x=t b:=beq_iff_eq.1 s;have q:∀v,v∉c.vars->(v=b\/v∈c.vars)->put env b x v=t v:=fun v K f=>by
   rcases f with rfl|f
   ·unfold put;rw[if_pos rfl,D]
   ·exact absurd f K
  refine⟨J,D▸Y,fun h o=> ?_,(E_ hW c (put env b x) N d2).2 ⟨fun v=>if v∈c.vars then t v else put env b x v,fun v u=> ?_,fun v w=> ?_,fun h o=> ?_⟩⟩
  ·rw[hW h t _ fun v d=>q v (O h o v d) (l h (by simp [o]) v d)];exact t2 h (p h (by simp [o]))
  ·simp only;rw[if_neg u]
  ·simp only;rw[if_pos w];have g:=t1 v (I v (by simp [w]));rw[NI (show v≠b from fun e=>d1 (e▸w))] at g;exact g
  ·rw[hW h t _ fun v d=> ?_]
   ·exact t2 h (p h (by simp [o]))
   ·by_cases y:v∈c.vars
    ·rw[if_pos y]
    ·rw[if_neg y];exact q v y (l h (by simp [o]) v d)
section
variable{α β:Type}{R:SR α}
def Fo.v_(U:List β):Fo->(Nat->β)->List (Nat->β)
 | .nil,a=> [a]
 | .cons v _ b n,a=>U.flatMap fun x=>(b.v_ U (put a v x)).flatMap fun e=>n.v_ U e
theorem Fo.avQ{U:List β}:∀(f:Fo) (c e:Nat->β),e∈f.v_ U c->Alike f.vars c e
 | .nil,c,e,h=>by rw[bE.1 h];exact fun _ _=>rfl
 | .cons v m b n,c,e,h=>by obtain⟨x,_,h⟩:=mS.1 h;obtain⟨g,j,i⟩:=mS.1 h;have l:=Fo.avQ b _ g j;have k:=Fo.avQ n g e i;intro a d;simp only[Fo.vars,aK,bO,not_or] at d;rw[k a d.2.2,l a d.2.1];unfold put;rw[if_neg d.1]
def qA:=@Fo.avQ
theorem SR.sum_append{l m:List β}{f:β->α}:R.sum (l++m) f=R.add (R.sum l f) (R.sum m f):=by
 induction l with
 |nil=>exact(R.az _).symm
 |cons x l a=>rw[nK,iQ,iQ,a,R.aa]
theorem SR.acU{γ:Type}{l:List β}{k:β->List γ}{f:γ->α}:R.sum (l.flatMap k) f=R.sum l fun x=>R.sum (k x) f:=by
 induction l with
 |nil=>rfl
 |cons x l a=>rw[uV,SR.sum_append,iQ,a]
theorem SR.prod_append{γ:Type}{l m:List γ}{f:γ->α}:R.prod (l++m) f=R.mul (R.prod l f) (R.prod m f):=by
 induction l with
 |nil=>exact(R.mo _).symm
 |cons x l a=>rw[nK,kY,kY,a,R.ma]
def Fo.term(R:SR α)(g:Nat->β->α)(W:Nat->(Nat->β)->α)(f:Fo)(e:Nat->β):α:=R.mul (R.prod f.vars fun v=>g v (e v)) (R.prod f.homes fun h=>W h e)
theorem apR(a b c d e f:α):R.mul (R.mul (R.mul a b) (R.mul c d)) (R.mul e f)=R.mul (R.mul a (R.mul c e)) (R.mul b (R.mul d f)):=by have:Std.Associative R.mul:=⟨R.ma⟩;have:Std.Commutative R.mul:=⟨R.mc⟩;ac_rfl
theorem Fo.avT{U:List β}{g:Nat->β->α}{W:Nat->(Nat->β)->α}{m:Nat->List Nat}(hW:∀h e B,(∀a∈m h,B a=e a)->W h B=W h e):
 ∀(f:Fo) (c:Nat->β),f.Wf m->f.vars.Nodup->f.val R U g W c=R.sum (f.v_ U c) (f.term R g W)
 | .nil,c,_,_=>by
   show R.one=R.add (R.mul R.one R.one) R.zero
   rw[R.ac,R.az,R.mo]
 | .cons v k b n,c,⟨E,z,D,C,y⟩,M=>by
   obtain⟨d1,d2⟩:=ic.1 M;obtain⟨d3,d4,d5⟩:=rE.1 d2;have t:v∉b.vars:=fun h=>d1 (bO.2 (.inl h));have s:v∉n.vars:=fun h=>d1 (bO.2 (.inr h));have p:∀x,∀d∈b.v_ U (put c v x),R.mul (R.mul (R.mul (g v x) (R.prod k fun h=>W h (put c v x))) (b.term R g W d)) (n.val R U g W c)=R.sum (n.v_ U d) ((Fo.cons v k b n).term R g W):=by
    intro x d i;have u:=qA b _ d i;have r:d v=x:=by rw[u v t];unfold put;rw[if_pos rfl]
    have q:n.val R U g W d=n.val R U g W c:=Rx hW n c d y (fun h l a j K=>by have A:=D h l a j;rw[u a (fun N=>A (by simp [N]))];unfold put;rw[if_neg (fun e=>A ayF)]);rw[<-q,Fo.avT hW n d y d4,<-SR.NC];refine u_ fun e L=> ?_;have o:=qA n d e L;have I:R.prod k (fun h=>W h (put c v x))=R.prod k fun h=>W h e:=wZ fun h l=>by rw[hW h d e fun a j=>o a (z h (bO.2 (.inl l)) a j),hW h (put c v x) d fun a j=>u a (E h l a j)]
    have H:R.prod b.homes (fun h=>W h d)=R.prod b.homes fun h=>W h e:=wZ fun h l=>by rw[hW h d e fun a j=>o a (z h (bO.2 (.inr l)) a j)]
    have G:R.prod b.vars (fun w=>g w (d w))=R.prod b.vars fun w=>g w (e w):=wZ fun w J=>by rw[o w (fun q=>d5 w J w q rfl)]
    have F:g v x=g v (e v):=by rw[o v s,r]
    unfold Fo.term;rw[I,H,G,F,apR];show _=R.mul (R.prod (v::(b.vars++n.vars)) fun w=>g w (e w)) (R.prod (k++(b.homes++n.homes)) fun h=>W h e)
    rw[kY,SR.prod_append,SR.prod_append,SR.prod_append]
   show R.mul (R.sum U fun x=>R.mul (R.mul (g v x) (R.prod k fun h=>W h (put c v x))) (b.val R U g W (put c v x))) (n.val R U g W c)=R.sum (U.flatMap fun x=>(b.v_ U (put c v x)).flatMap fun e=>n.v_ U e) _
   rw[SR.acU,R.mc,<-SR.NC];refine u_ fun x _=> ?_;rw[Fo.avT hW b (put c v x) C d3,SR.acU,<-SR.NC,<-SR.NC];refine u_ fun d i=> ?_;rw[<-p x d i,R.mc]
def M5:=@Fo.avT
end
end Go.Proofs.YtehkcnbodcdijaaGreatDoor
