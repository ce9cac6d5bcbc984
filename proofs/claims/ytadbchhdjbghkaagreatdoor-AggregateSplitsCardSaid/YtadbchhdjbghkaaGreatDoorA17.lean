/- Texts of the proof, part 17. -/
import Derived.Test.YtadbchhdjbghkaaGreatDoorA16
namespace Go.Proofs.YtadbchhdjbghkaaGreatDoor
set_option maxHeartbeats 8000000
set_option linter.all false
set_option maxRecDepth 100000
variable{aq:Prop}
open Go.RowKit Go.Lib Go.Maps Go.ChangeShapes Go.WideShapes Go.ChangeAt Go.Proofs.Tryz
variable{a b c d e f g h:Nat}{i j k l:List Nat}{m n o:World}{p q r s:Value}{t u v:List Value}{w x:TypeId}{y z:Nat→Option Nat}{A:Nat→List Nat}{B C:Int}{E F:Option Addr}{H I:Rat}{J:Nat→Nat}{K:Nat→Bool}{L:List Int}{N:Array Bool}{O:Option Nat}{Q:Act}{R S:Bool}{T:List UInt8}
def fJ(x:Rw):List Rw->List Rw
 | []=> [x]
 |y::l=>if g7 y.1 x.1=true then y::fJ x l else if (y.1==x.1)=true then (y.1,y.2+x.2)::l else x::y::l
def jo(l:List Rw)(i:Nat):List Rw:=(l.take i).foldl (fun o x=>fJ x o) []
def Q9{l:List Rw}(h:a<l):jo l (a+1)=fJ l[a] (jo l a):=by unfold jo;rw[ya,aX h,vz];rfl
def qg(l:List Rw)(i:Nat):List Rw:=(l.take i).filter fun x=>x.2 !=0
def ajm{l:List Rw}(h:a<l):qg l (a+1)=if (l[a].2 !=0)=true then qg l a++ [l[a]] else qg l a:=by unfold qg;rw[ya,aX h,qO];simp only[Option.toList,qR,Lx];split<;>simp
def yY(l:List Rw):List Rw:=qg (jo l l.length) (jo l l.length).length
def alc{x:Rw}{o:List Rw}(b:a<o)(h:fJ x o=o.take a++fJ x (o.drop a))(c:g7 o[a].1 x.1=true):fJ x o=o.take (a+1)++fJ x (o.drop (a+1)):=by
 rw[h,jR b];show o.take a++(if g7 o[a].1 x.1=true then o[a]::fJ x (o.drop (a+1)) else _)=_
 rw[if_pos c,ya,aX b,ie];rfl
def am'{x:Rw}{o:List Rw}{k:Nat}(a:k<o)(h:fJ x o=o.take k++fJ x (o.drop k))(hl:g7 o[k].1 x.1=false)(he:(o[k].1==x.1)=false):fJ x o=o.take k++x::o.drop k:=by rw[h,jR a];exact aeJ
def am9{x:Rw}{o:List Rw}{k:Nat}(a:k<o)(h:fJ x o=o.take k++fJ x (o.drop k))(hl:g7 o[k].1 x.1=false)(he:(o[k].1==x.1)=true):fJ x o=o.set k (o[k].1,o[k].2+x.2):=by rw[h,ag7,if_pos a,jR a];exact aeJ
def am_{x:Rw}{o:List Rw}(h:fJ x o=o.take o++fJ x (o.drop o)):fJ x o=o.take o++x::o.drop o.length:=by rw[h,Y6];rfl
def Sn(x:Rw):∀o:List Rw,(fJ x o)<=o.length+1
 | []=>aK _
 |y::l=>by
  unfold fJ;have h:=Sn x l;split
  ·simp only[cP];omega
  ·split<;>simp only[cP]<;>omega
def adI{x:Rw}{m:Nat}(b:x.2.natAbs<=1000000):∀{o:List Rw},(∀y∈o,y.2.natAbs<=m)->∀y∈fJ x o,y.2.natAbs<=m+1000000
 | [],_,y,a=>by rw[bG.1 a];omega
 |z::l,h,y,a=>by
  have d:=h z Ou;have c:=adI (o:=l) b (fun y a=>h y avS);unfold fJ at a;split at a
  ·rcases aJ.1 a with rfl|a
   ·omega
   ·exact c y a
  ·split at a
   ·rcases aJ.1 a with rfl|a
    ·simp only;omega
    ·have:=h y avS;omega
   ·rcases aJ.1 a with rfl|a
    ·omega
    ·have:=h y a;omega
def ade{l:List Rw}(a:∀y∈l,y.2.natAbs<=1000000):∀i,i<=l.length->(jo l i).length<=i/\∀y∈jo l i,y.2.natAbs<=i*1000000
 |0,_=>⟨by simp [jo],fun y b=>by simp [jo] at b⟩
 |i+1,h=>by obtain⟨d,c⟩:=ade a i Om;rw[Q9 Om];refine⟨a7 (Sn _ _) Om,?_⟩;rw[qT];exact adI (a _ (a_ _)) c
def adB(h:m.ownsRow a w b (aG c 0 d e) d t):c<m.heap.size:=(h.lt c rfl).2
def Ro(h:m.ownsRow a w b (aG c 0 d e) d t)(p:f<=d):m.ownsRow a w b (aG c 0 f e) f (t.take (f*b)):=by
 obtain⟨y,x|⟨C,A,l,o,r,q,B,v,u,s⟩⟩:=h
 ·cases x.1
 ·injection o with i D z;injection i with i;injection i with i;subst i z;have j:f*b<=d*b:=eT _ p;refine⟨by rw[cJ,y];omega,.inr ⟨c,e,l,rfl,r,q,by omega,v,u,?_⟩⟩;rw[<-s,LB,iR j]
def akG(h:m.ownsRow a w b (aG c 0 d e) d t):Sl m w (dC c f) (t.drop f):=by intro j u p;obtain⟨y,o,l,s,i,q,r⟩:=Ib h (f+j) u (by rw[<-p,D8]);injection i with i;injection i with x v;subst x v;exact⟨c,f,l,s,rfl,q,by rw[<-r,ja]⟩
def ME{P:Program}{o:Oper}{K:Act->World->Prop}{b:Exit->Act->World->Prop}(s f:Operand)(t:TypeId)
 (ho:o.op= .call {callee:= .builtin .append,args:= #[s,f],argTypes:= #[t,t]})
 (l:Nat) {size bytes:Nat} (T:jG P t w size bytes)
 (v:Value) (n:Nat) (B:List Value) (hs:Q.eval s=v) (y:m.ownsRow l w size v n B)
 (A:Addr) (d c:Nat) (k:List Value) (hx:Q.eval f= .slice (some A) d c) (M:k.length=d*size) (q:Sl m x (some A) k) (S:∀u∈k,u.oneCell'=true)
 (p:(n+d)*bytes<=140737488355328) (r:l<=m.heap.size)
 (h:∀v' w',w'.ownsRow l w size v' (n+d) (B++k)->m.grownBy w' v.ownBlock->(v'.ownBlock=v.ownBlock\/v'.ownBlock=some m.heap.size)->K (Q.put o.dst v') w'):o.wp P Q m K b:=by
 obtain⟨i,z,N,I,E,D,C⟩:=T.inf;have G:n+d<=maxLen:=(by have L:=T.Uq;have:=G7 (n+d) L;unfold maxLen;omega)
 have F:∀j u,k[j]? =some u->m.cell? (A.add j)=some u:=(by intro j u J;obtain⟨g,V,U,W,H,O,R⟩:=q j u J;injection H with H;subst H;rw[LO];simp [World.cell?,O,R]);obtain⟨v',w',hr,h2,h3,_,h5⟩:=run_append_own_at (P:=P) m l t o.type w i z size bytes T.ht N I E D C T.pos v n B y A d c k M F S G p r;exact ae5
def Ch.drop{α:Type}{R:List Value->α->Prop}{k:Nat}(b:∀c x,R c x->c=k):∀{a:List Value} {l:List α} (_:Ch R a l) (n:Nat),Ch R (a.drop (n*k)) (l.drop n)
 |a,l,h,0=>by simpa using h
 |a,[],h,n+1=>by rw[show a= [] from h];simp [Ch]
 |a,x::l,⟨c,r,e,g,f⟩,n+1=>by
  subst e;have d:=b _ _ g;have e:(n+1)*k=c+n*k:=by rw[d,qT];omega
  rw[e,<-yi,List.drop_left];exact Ch.drop b f n
def ac1(h:ar m a w t)(e:t.length=d*c)(f:b<=a)(i:d<=1000):m.ownsRow b w c (aG a 0 d d) d t:=
 ⟨e,.inr ⟨a,d,t.toArray,rfl,f,h,aK _,by unfold maxLen;omega,by simp [e],by simp [<-e]⟩⟩
def amu{o:List Rw}(h:n.ownsRow a eM 2 (aG b 0 c d) c t)(D:Ch (eI n) t o)(C:o.length=c)(r:e<o.length)(z:Int):
 bI eM 2 eI a (n.setCell (aC b (e*2+1)) (av z)) (aG b 0 c d) (o.set e (o[e].1,z))/\n.grownBy (n.setCell (aC b (e*2+1)) (av z)) (some b):=by
 obtain⟨H,s⟩:=h.stored (e*2+1) (av z);refine⟨⟨_,by rw[sR,C];exact H,?_⟩,s⟩;have E:Kept bJ n (n.setCell (aC b (e*2+1)) (av z)):=pZ h s Od;have p:Ch (eI (n.setCell (aC b (e*2+1)) (av z))) t o:=D.mono fun d x y=>kH _ _ _ _ (fun u A=>by rw[bG.1 A];exact E) y;obtain⟨j,J,q,rfl,v,G,⟨B,f,rfl,hT⟩,F⟩:=Ch.split (eI.two _) p r;have I:(j++([Value.slice B o[e].1.length f,av o[e].2]++q)).set (e*2+1) (av z)=j++([Value.slice B o[e].1.length f,av z]++q):=(by rw[PU _ _ Om];have i:e*2+1 - j.length=1:=Om;rw[i];rfl)
 rw[I,ag7,if_pos r];exact Ch.append (l:=o.take e) (m:=(o[e].1,z)::o.drop (e+1)) ⟨_,_,rfl,⟨B,f,rfl,hT⟩,F⟩ G
def acR{P:Program}{o:Oper}{w:au}{K:Act->World->Prop}{b:Exit->Act->World->Prop}(s c:Operand)(t:TypeId)
 (r:o.op= .call {callee:= .builtin .append,args:= #[s,c],argTypes:= #[t,t]})
 {size bytes:Nat} (T:jG P t x size bytes)
 (d n:Nat) (v:Value) (j:List Value) (q:Q.eval s=v) (g:w.ownsRow d x size v n j) (p:Q.eval c= .slice none 0 0)
 (h:K (Q.put o.dst v) w):o.wp P Q w K b:=by
 obtain⟨i,z,u,y,m,l,k⟩:=T.inf;have f:=run_append_owned_none (P:=P) (w:=w) d t o.type x i size T.ht u v n j g;unfold Oper.wp;simp [execOp,r,resolve,invoke,builtin,q,p,f,Result.andThen];exact h
def akK(h:m.ownsRow a w b (.slice E c d) c t):(E=none/\c=0/\d=0)\/∃g,E=dC g 0/\a<=g/\g<m.heap.size:=by
 rcases h.2 with⟨f,o⟩|⟨g,r,q,f,l,j,_⟩
 ·injection f with f p i;exact .inl ⟨f,o,i⟩
 ·injection f with f p i;exact .inr ⟨g,f,l,gS j⟩
def abY{l:List Rw}(h:Ch (eI m) t l):∀u∈t,u.oneCell'=true:=
 Ch.all (fun c x b u a=>by
  obtain⟨B,d,rfl,_⟩:=b;rcases aJ.1 a with rfl|a
  ·rfl
  ·rw[bG.1 a];rfl) h
def apy{o:List Rw}{k:Nat}{x:Rw}(h:Ch (eI n) t o)(b:TL n (.slice E x.1.length a) x.1):
 Ch (eI n) (t.take (k*2)++([.slice E x.1.length a,av x.2]++t.drop (k*2))) (o.take k++x::o.drop k):=
 Ch.append (l:=o.take k) (m:=x::o.drop k) ⟨_,_,rfl,⟨E,a,rfl,b⟩,Ch.drop (eI.two _) h k⟩ (Ch.take (eI.two _) h k)
def Ch.MH{l:List Rw}(h:Ch (eI m) t l)(b:Kept bJ m n):Ch (eI n) t l:=h.mono fun c x d=>kH _ _ _ _ (fun u a=>by rw[bG.1 a];exact b) d
def TL.Ts{l:List aD}(h:TL m p l)(b:Kept bJ m n):TL n p l:=gm jS h (fun u a=>by rw[bG.1 a];exact b)
def bI.weaken{α:Type}{b':Nat}{R:World->List Value->α->Prop}{l:List α}(h:bI w a R b' m p l)(r:b<=b'):bI w a R b m p l:=by
 obtain⟨f,⟨n,c⟩,j⟩:=h;refine⟨f,⟨n,?_⟩,j⟩;rcases c with c|⟨g,e,d,o,q,i⟩
 ·exact .inl c
 ·exact .inr ⟨g,e,d,o,by omega,i⟩
def am5(l:List Rw)(i:Nat):(qg l i)<=i:=by unfold qg;have h:=mm (fun x:Rw=>x.2 !=0) (l.take i);rw[cJ] at h;omega
def own_rw{o:List Rw}(h:bI eM 2 eI a m (aG b 0 c d) o)(p:e<o):
 ∃B f,b<m.heap.size/\aA m b (e*2) (.slice B o[e].1 f)/\aA m b (e*2+1) (av o[e].2)/\ah (TL m (.slice B o[e].1 f) o[e].1):=by
 obtain⟨t,s,B,f,i,r,l,j,q⟩:=yS h.ls p;injection i with i;cases i;rw[ja] at l j;exact⟨B,f,r,l,j,q⟩
def q92.k34(h:aq:=by
 refine bZ.ld 7 63 (.slice (if co=k then dC go' 0 else dC go' (k*2)) (o - k) (co - k)) _ rfl rfl Ok (fun _ _ _ h=>h) aH rfl ?_ ?_;focus (intro w' O;go_simp)
 exact m4):=h
def q91.k92(h:aq:=by
 have asO:=af (fu H bP);have s:=(bP.cell (p:=aC go' (k*2)) G).trans s;have a:=(bP.cell (p:=aC go' (k*2+1)) G).trans a;have B:=cF G bP.size;obtain⟨b0,b1⟩:=ke.two;have r:ah (∀n,Calls prog 34 #[.slice Bk y.1 dk,.slice Bi xv di] (W2.drewN n) fun e w'=>e= .returned (.bool (y.1==xv))/\∃m,w'=W2.drewN m):=fun n=>by refine(QW _ _ _ _ _ _ y.1 xv _ (fu asO ((aB W2).drewN n)) (fu mI ((aB W2).drewN n))).mono ?_;rintro e w' ⟨h1,m,rfl⟩;exact⟨h1,_,Bb _ _ _⟩
 clear BX G;cases g:y.1==xv with
 |true=>
  rw[g] at r;have HN:=af (Pm g);clear g;go_quiet ((go_at_call 34;exact r _));go_upto_region 9 with fail
  have bP:ah (Ext W2 (W2.drewN nq).drew):=((aB W2).drewN nq).drew;generalize hW3:W2.drewN nq=W3 at*;clear hW3;have fX:=af (dY.ext kH bP);have qL:=af (ke.ext bP);have cH:=af (aZ.trans bP);have jw:=af (vO iD bP);have jy:ah (Ch (eI W3.drew) xs o):=EW (fun c x hc=>kH _ _ _ _ (fun _ _=>Hl bP) hc) gD;have a:=(bP.cell (p:=aC go' (k*2+1)) B).trans a;have WL:ah (IntKind.i64.wrap (y.2+xw)=y.2+xw):=by have:=HWk.ae;have:=HWi.ae;rw[ah,ye];omega
  clear s B b0 b1;have bO:ah (∀w',Ext W3.drew w'->aA w' bx 1 (av xw)/\aA w' go' (k*2+1) (av y.2)):=fun w' hx=>⟨(qL.ext hx).aF 1,(hx.cell (p:=aC go' (k*2+1)) (by have:=hgb.2;have:=hx.size;exact adB jw)).trans a⟩;have aH:ah (Ext W3.drew W3.drew):=aB _;refine cD (S:=fun w'=>Ext W3.drew w') (T:=fun j=>decide (10<=j)) Ok ?_;generalize W3.drew=wd at*;refine ax 0 46 ?_;refine ax 1 47 ?_;refine ax 2 48 ?_;refine ax 3 49 ?_;refine ax 4 50 ?_;refine ax 5 51 ?_;refine ax 6 52 ?_;refine bZ.ld 7 53 (av (y.2+xw)) _ rfl rfl Ok (fun _ _ _ h=>h) aH rfl ?_ ?_;focus (intro w' O;have hs:=bO w' O;go_split_ands;go_simp;exact WL)
  simp only[Act.put,d8,dP,d9];refine ax 8 54 ?_;refine ax 9 55 ?_;obtain⟨P,hG9⟩:=amu jw jy rfl d (y.2+xw);have VY:wd.frozen? (aC go' (k*2+1))=false:=jw.frozenAt _;have XO:=af (mn cH jw hG9 (aK _));rw[<-HY.ae] at P;have uZ:=af P;clear P hG9;refine aO 10 ?_;intro K hK;go_simp;refine hK.ae _ _ Oe ?_;generalize wd.setCell (aC go' (k*2+1)) (av (y.2+xw))=W9 at*;refine b_ Ok ?_;clear a VY hK;go_wp2_with fail
  go_roundw;exact⟨i+1,by omega,by go_num,by rw[mf.ae,HN.ae];exact uZ,XO⟩;simp [RowKit.intOf];omega
 |false=>
  rw[g] at r;have HN:=af (HNN g);clear g;go_quiet ((go_at_call 34;exact r _));go_upto_region 10 with fail
  clear s a B b0 b1;open q92 in exact m34):=h
def q94.k34(h:aq:=by
 refine bZ.ld 7 63 (.slice (if co=k then dC go' 0 else dC go' (k*2)) (o - k) (co - k)) _ rfl rfl Ok (fun _ _ _ h=>h) aH rfl ?_ ?_;focus (intro w' O;go_simp)
 exact m4):=h
def q93.k92(h:aq:=by
 clear BX b0 b1;go_quiet (fail);go_upto_region 10 with fail
 clear d1;rcases akK iD with⟨rfl,h0,rfl⟩|⟨go',rfl,hgb⟩
 ·have h0:o= []:=mh h0;subst h0;have zu:k=0:=by simpa using hk
  subst zu;have bP:ah (Ext W2 (W2.drewN nq).drew):=((aB W2).drewN nq).drew;generalize hW3:W2.drewN nq=W3 at*;clear hW3;have fX:=af (dY.ext kH bP);have qL:=af (ke.ext bP);have cH:=af (aZ.trans bP);have Ki:=af (fu mI bP);have jw:=af (vO iD bP);have jy:ah (Ch (eI W3.drew) xs []):=EW (fun c x hc=>kH _ _ _ _ (fun _ _=>Hl bP) hc) gD;have bO:ah (∀w',Ext W3.drew w'->aA w' bx 0 (.slice Bi xv di)/\aA w' bx 1 (av xw)):=fun w' hx=>(qL.ext hx).two;have aH:ah (Ext W3.drew W3.drew):=aB _;have hzw:w.heap.size<=W3.drew.heap.size:=cH.size;refine cD (S:=fun w'=>Ext W3.drew w') (T:=fun j=>decide (9<=j)) Ok ?_;generalize W3.drew=wd at*;refine ax 0 56 ?_;refine ax 1 57 ?_;refine ax 2 58 ?_;refine ax 3 59 ?_;refine ax 5 61 ?_;refine ax 6 62 ?_;refine ax 7 63 ?_;refine aO 4 ?_;intro K hK;go_simp;refine hK.ae _ _ (fun _=>aH.alloc _) ?_;refine aT fun WZ cG BZ=> ?_;have Pk:=af (vO jw cG);have oQ:=af (jy.MH (.je cG.ae));have WX:=af (fu Ki cG);have dD:=af (cH.trans cG);have Dq:ah (WZ.ownsRow wd.heap.size eM 2 (aG wd.heap.size 0 1 1) 1 [.slice Bi xv di,av xw]):=ac1 BZ rfl (aK _) Od;have hzz:wd.heap.size<=WZ.heap.size:=cG.size;clear hK;refine jF 8 Ok ?_;intro oo mE K hK;simp only[eR,dS,dy,cY] at mE;subst mE;refine nh rfl ?_;refine acR _ _ kK rfl AY wd.heap.size 1 _ _ rfl Dq.ae rfl ?_;simp only[Act.put,d8,dP,d9];refine hK.ae _ _ (fun _=>cG.ae) ?_;clear hK;refine jF 9 Ok ?_;intro oo mE K hK;simp only[eR,dS,dy,cY] at mE;subst mE;refine nh rfl ?_;have zi:w.heap.size<=WZ.heap.size:=dD.size;refine ME _ _ kK rfl w.heap.size AY _ 0 [] rfl (mQ _ _ _ _) ⟨wd.heap.size,0,none⟩ 1 1 [.slice Bi xv di,av xw] rfl rfl (Ib Dq) ?_ Od zi ?_
  ·intro u hu;rcases aJ.1 hu with rfl|hu
   ·rfl
   ·rw[bG.1 hu];rfl
  intro v9 w9 C_ I4 _;have De:Ext WZ w9:=RH I4;clear I4;have eE:=af (dD.trans De);have kX:ah (bI eM 2 eI w.heap.size w9 v9 [(xv,xw)]):=⟨_,C_,⟨_,[],rfl,⟨Bi,di,rfl,fu WX De⟩,rfl⟩⟩;obtain⟨A9,c9,rfl,_,_,_⟩:=ej C_;clear C_ De BZ;simp only[Act.put,d8,dP,d9];refine hK.ae _ _ Oe ?_;clear hK;refine aO 10 ?_;intro K hK;go_simp;refine hK.ae _ _ Oe ?_;refine b_ Ok ?_;clear hK;go_wp2_with fail
  go_roundw;exact⟨i+1,by omega,by go_num,by rw[mf.ae,HN.ae];exact kX,eE⟩;simp [RowKit.intOf];omega
 ·clear Js;open q94 in exact m34):=h
def ake(A:aR)(n c:Nat)(l:List Rw)(w:au)(h:mH w (.slice A n c) l)(hl:l.length<=1000)(Y:∀y∈l,y.2.natAbs<=1000000):
 Calls prog 111 #[.slice A n c] w fun e w'=>∃v,e= .returned v/\bI eM 2 eI w.heap.size w' v (yY l)/\Ext w w':=by
 obtain⟨hn,Ot,hcm⟩:=bD h;subst hn;have HL:=af h;have HF:=af (ade Y);have HWt:=af Y;clear h Y;go_enter func111,ntmps111;go_upto_region 3 with fail
 go_loopw [3,5,6,12] (fun v3 _ _ L wr=>∃i:Nat,i<=l/\L=av i/\ah (bI eM 2 eI w.heap.size wr v3 (jo l i))/\ah (Ext w wr)) (fun _ _ _ L _=>l - (RowKit.intOf L).toNat)
 exact⟨0,aV _,rfl,jf,aB _⟩;obtain⟨i,hi,rfl,U,HX⟩:=hrel;by_cases M:i<l
 ·obtain⟨gi,oi,Bi,di,rfl,lB,z,t,Pg⟩:=yS (yT HL HX) M;have mf:=af (Q9 M);have HWi:=af (HWt _ (a_ M));obtain⟨hf1,hf2⟩:=HF i hi;have sw:=af hf2;clear hf2;generalize l[i]=x at*;generalize jo l i=o at*;obtain⟨xv,xw⟩:=x;simp only at z t Pg HWi;obtain⟨Ao,co,xs,rfl,hoc,asb,HR,HC⟩:=U.parts;go_upto_region 5 with fail
  refine aT fun W f BX=> ?_;have gM:=af (U.ext kH f);have bQ:=af (HX.trans f);have uY:=af (fu Pg f);have Dj:=BX.lt;have FJ:w.heap.size<=wr.heap.size:=HX.size;generalize wr.heap.size=bx at*;clear z t;have atp:ah (fJ (xv,xw) o=o.take 0++fJ (xv,xw) (o.drop 0)):=rfl;go_upto_region 6 with fail
  go_loopw [6] (fun v6 wr=>∃k:Nat,k<=o/\v6=av k/\ah (fJ (xv,xw) o=o.take k++fJ (xv,xw) (o.drop k))/\ah (bI eM 2 eI w.heap.size wr (.slice Ao o co) o)/\ah (ar wr bx eM [.slice Bi xv di,av xw])/\ah (TL wr (.slice Bi xv di) xv)/\ah (Ext w wr)) (fun v6 _=>o - (RowKit.intOf v6).toNat)
  exact⟨0,aV _,rfl,atp,gM,BX,uY,bQ⟩;clear BX Dj;obtain⟨k,hk,rfl,I,gM,BX,uY,bQ⟩:=hrel;obtain⟨b0,b1⟩:=BX.two;have Dj:=BX.lt;generalize wr=W at*;by_cases d:k<o
  ·obtain⟨_,_,xs,e,_,_,HR,HC⟩:=gM.parts;cases e;obtain⟨go',rfl,hgb⟩:=Sa HR Om;obtain⟨Bk,dk,G,s,a,H⟩:=own_rw gM d;have D:ah (∀n,Calls prog 175 #[.slice Bk o[k].1 dk,.slice Bi xv di] (W.drewN n) fun e w'=>e= .returned (.bool (g7 o[k].1 xv))/\∃m,w'=W.drewN m):=fun n=>by refine(akj _ _ _ _ _ _ o[k].1 xv _ (fu H ((aB W).drewN n)) (fu uY ((aB W).drewN n))).mono ?_;rintro e w' ⟨h1,m,rfl⟩;exact⟨h1,_,Bb _ _ _⟩
   have r:ah (∀n,Calls prog 34 #[.slice Bk o[k].1 dk,.slice Bi xv di] (W.drewN n) fun e w'=>e= .returned (.bool (o[k].1==xv))/\∃m,w'=W.drewN m):=fun n=>by refine(QW _ _ _ _ _ _ o[k].1 xv _ (fu H ((aB W).drewN n)) (fu uY ((aB W).drewN n))).mono ?_;rintro e w' ⟨h1,m,rfl⟩;exact⟨h1,_,Bb _ _ _⟩
   have bB:=af (fun h=>alc d I h);have ei:=af (fun h h'=>am' d I h h');have Q:=af (fun h h'=>am9 d I h h');have HWk:=af (sw _ (a_ d));simp only at bB ei Q;obtain⟨y,hy⟩:∃y,y=o[k]:=⟨_,rfl⟩;have HY:=af hy;rw[<-hy] at D r bB ei Q HWk s a H;clear hy;cases b:g7 y.1 xv with
   |true=>
    rw[b] at D;have HN:=af (bB b);clear b;go_wp2_with fail
    go_quiet ((go_at_call 175;exact D _));go_wp2;go_roundw;exact⟨k+1,by omega,by go_num,HN,gM.ext kH ((aB W).drewN _),BX.drewN _,fu uY ((aB W).drewN _),bQ.drewN _⟩;simp [RowKit.intOf];omega
   |false=>
    rw[b] at D;have HNN:=af (ei b);have Pm:=af (Q b);clear b;go_wp2_with fail
    go_quiet ((go_at_call 175;exact D _));open q91 in exact m92
  ·have Js:o<=k:=Om;obtain⟨_,_,xs,e,_,_,HR,HC⟩:=gM.parts;cases e;have HN:ah (fJ (xv,xw) o=o.take k++(xv,xw)::o.drop k):=(by have e:k=o.length:=Om;rw[ah,e];exact am_ (by rw[<-e];exact I))
   have d1:decide ((k:Int)<(o.length:Int))=false:=aY;go_wp2_with fail;go_quiet (fail);open q93 in exact m92
 ·obtain rfl:i=l.length:=Om;have hFL:=(HF l (aK _)).1;have Kl:ah (yY l=qg (jo l l) (jo l l)):=rfl;have d1:decide (l.length<l.length)=false:=Ou;generalize jo l l.length=F at*;have HFo:ah (mH wr u3 F):=U.ls;obtain⟨Ao,co,xs,rfl,hoc,asb,_,_⟩:=U.parts;have hwr:w.heap.size<=wr.heap.size:=HX.size;go_upto_region 14 with fail
  clear d1;go_loopw [7,9,69] (fun v7 _ J w2=>∃j:Nat,j<=F/\J=av j/\ah (bI eM 2 eI wr.heap.size w2 v7 (qg F j))/\ah (Ext wr w2)) (fun _ _ J _=>F - (RowKit.intOf J).toNat);exact⟨0,aV _,rfl,jf,aB _⟩;generalize wr=wF at*;obtain⟨j,hj,rfl,U,HE⟩:=hrel;by_cases dI:j<F
  ·obtain⟨gj,oj,Bj,dj,rfl,hgj,z,t,HTj⟩:=yS (yT HFo HE) dI;have E:=af (ajm dI);have d:=am5 F j;generalize F[j]=x at*;generalize qg F j=o at*;obtain⟨xv,xw⟩:=x;simp only at z t HTj E;go_upto_region 16 with fail
   refine aT fun W f BX=> ?_;have gM:=af (U.ext kH f);have V:=af (HE.trans f);have uY:=af (fu HTj f);obtain⟨b0,b1⟩:=BX.two;have l6:=BX.lt;clear z t BX;cases hc:xw !=0 with
   |false=>rw[hc] at E;have HU:ah (qg F (j+1)=o):=E.ae;go_wp2;go_roundw;exact⟨j+1,by omega,by go_num,by rw[HU.ae];exact gM,V⟩;simp [RowKit.intOf];omega
   |true=>
    rw[hc] at E;have HU:ah (qg F (j+1)=o++ [(xv,xw)]):=E.ae;obtain⟨A7,c7,xs7,rfl,_,_,C,X⟩:=gM.parts;have Y:=V.size;have cM:(o.length+1)*32<=140737488355328:=Om;go_wp2_with (at_builtin;refine gQ rfl _ _ kK rfl _ AY _ _ _ rfl C.ae #[.slice Bj xv dj,av xw] 1 1 rfl rfl rfl cM Y ?_)
    intro v' w3 Z N _;have O3:=af (jc (R:=eI) (x:=(xv,xw)) kH (fun u hu=>by rw[bG.1 hu];decide) C X ⟨Bj,dj,rfl,uY⟩ Z N);have E3:=af (mn V C N (aK _));clear Z N;go_wp2;go_roundw;exact⟨j+1,by omega,by go_num,by rw[HU.ae];exact O3,E3⟩;simp [RowKit.intOf];omega
  ·obtain rfl:j=F.length:=Om;have d1:decide (F.length<F.length)=false:=Ou;obtain⟨A7,c7,xs7,rfl,_,_,C,X⟩:=U.parts;go_wp2;go_ret;exact⟨_,rfl,by rw[Kl.ae];exact(bI.of C X).weaken hwr,HX.trans HE⟩
def kd(x:aP)(a:Int):Int:=(x.ai[a.toNat]?.getD ([],1)).2
def nU(x:aP)(c:List Int)(b:List aD):Prop:=b.length=c.length/\∀(i:Nat) (a:Int) (t:aD),c[i]? =some a->b[i]? =some t->fL (kd x a) t
def nU.nil{x:aP}:nU x [] []:=⟨rfl,fun i a t h=>by simp at h⟩
def nU.snoc{x:aP}{f:List aD}{t:aD}(h:nU x L f)(l:fL (kd x B) t):nU x (L++ [B]) (f++ [t]):=by
 refine⟨by rw[bC,bC,h.1];rfl,fun i b u c d=> ?_⟩;rcases cA i L with e|e
 ·rw[nM e] at c;rw[nM (by rw[h.1];exact e)] at d;exact h.2 i b u c d
 ·rw[x4 e] at c;rw[x4 (by rw[h.1];exact e),h.1] at d;rcases k:i - L with _|j
  ·rw[k] at c d;simp only[dy,cY] at c d;subst c d;exact l
  ·rw[k] at c;simp at c
def Cf(x:aP)(a:List Int)(m:Int)(l:List Rw):Prop:=∀y∈l,nU x a y.1/\1<=y.2/\y.2<=m
def Cf.snoc{x:aP}{m:Int}{l:List Rw}{y:Rw}(h:Cf x L m l)(d:nU x L y.1)(c:1<=y.2)(b:y.2<=m):Cf x L m (l++ [y]):=by
 intro z a;rcases bV.1 a with a|a
 ·exact h z a
 ·rw[bG.1 a];exact⟨d,c,b⟩
section
variable{w w':au}{g:Nat}{v:Value}
theorem dN.past{x:aP}(h:dN w v x)(a:df w g)(b:Only g w w'):dN w' v x:=h.kept (Src.Nd a b) Od Od Od Od
theorem AL.past{l:List kf}(h:AL w v l)(b:df w g)(c:Only g w w'):AL w' v l:=Ls.kept mq h (Src.Nd b c) ⟨by decide,fun u a=>by cases a⟩
theorem IL.past(h:IL w v L)(b:df w g)(c:Only g w w'):IL w' v L:=Ls.kept cK h (Src.Nd b c) ⟨by decide,fun u a=>by cases a⟩
theorem akJ{l:List Rw}(h:bI eM 2 eI a w v l)(e:df w g)(c:Only g w w')(f:g<a):bI eM 2 eI a w' v l:=h.only kH c f (fun u d=>by rw[bG.1 d];exact Im e c Od)
theorem akI{l:List (List Rw)}(h:bI kK 1 qC a w v l)(e:df w g)(d:Only g w w')(f:g<a):bI kK 1 qC a w' v l:=h.only rh d f (fun u c=>by
 rcases aJ.1 c with rfl|c
 ·exact Im e d Od
 ·rw[bG.1 c];exact Im e d Od)
theorem akH{l:List aD}(h:bI bJ 1 jM a w v l)(d:Only g w w')(e:g<a):bI bJ 1 jM a w' v l:=h.only jS d e Oe
end
abbrev NP(a b:Rw):Prop:=g7 a.1 b.1=true
structure wn(x:aP)(cs:List Int)(l:List Rw):Prop where
 len:l.length<=60
 val:∀y∈l,nU x cs y.1
 wt:∀y∈l,1<=y.2/\y.2<=100
 ord:l.Pairwise NP
def gc(x:aP)(D:List (List Rw)):Prop:=D.length=x.ay.length/\∀(k:Nat) (t:List Rw) (r:Rl),D[k]? =some t->x.ay[k]? =some r->wn x r.2 t
def Sm{x:Rw}{Q:List aD->Prop}(b:Q x.1):∀{o:List Rw},(∀y∈o,Q y.1)->∀y∈fJ x o,Q y.1
 | [],_,y,a=>by rw[bG.1 a];exact b
 |z::l,h,y,a=>by
  have c:=h z Ou;have d:=Sm (o:=l) b (fun y a=>h y avS);unfold fJ at a;split at a
  ·rcases aJ.1 a with rfl|a
   ·exact c
   ·exact d y a
  ·split at a
   ·rcases aJ.1 a with rfl|a
    ·exact c
    ·exact h y avS
   ·rcases aJ.1 a with rfl|a
    ·exact b
    ·exact h y a
def ada{x:Rw}{m k:Int}(b:1<=x.2/\x.2<=k)(c:0<=m):∀{o:List Rw},(∀y∈o,1<=y.2/\y.2<=m)->∀y∈fJ x o,1<=y.2/\y.2<=m+k
 | [],_,y,a=>by rw[bG.1 a];omega
 |z::l,h,y,a=>by
  have e:=h z Ou;have d:=ada (o:=l) b c (fun y a=>h y avS);unfold fJ at a;split at a
  ·rcases aJ.1 a with rfl|a
   ·omega
   ·exact d y a
  ·split at a
   ·rcases aJ.1 a with rfl|a
    ·simp only;omega
    ·have:=h y avS;omega
   ·rcases aJ.1 a with rfl|a
    ·omega
    ·have:=h y a;omega
def acq{x:Rw}:∀{o:List Rw},o.Pairwise NP->(fJ x o).Pairwise NP
 | [],_=>by simp [fJ]
 |z::l,h=>by
  obtain⟨d,g⟩:=mP.1 h;unfold fJ;split
  ·rename_i b;exact mP.2 ⟨Sm (Q:=fun t=>g7 z.1 t=true) b d,acq g⟩
  ·rename_i b;split
   ·exact mP.2 ⟨d,g⟩
   ·rename_i f;have a:g7 x.1 z.1=true:=by
     cases i:g7 x.1 z.1 with
     |true=>rfl
     |false=>have e:=MO.Fp x.1 z.1 i awr;rw[e] at f;simp at f
    refine mP.2 ⟨fun y c=> ?_,h⟩;rcases aJ.1 c with rfl|c
    ·exact a
    ·exact MO.tr _ _ _ a (d y c)
def acz{x:aP}{b:List Int}{m:Int}{l:List Rw}(c:0<=m)(h:Cf x b m l):∀i:Nat,i<=l->(jo l i)<=i/\(∀y∈jo l i,nU x b y.1)/\(∀y∈jo l i,1<=y.2/\y.2<=(i:Int)*m)/\(jo l i).Pairwise NP
 |0,_=>⟨by simp [jo],fun y a=>by simp [jo] at a,fun y a=>by simp [jo] at a,by simp [jo]⟩
 |i+1,j=>by
  obtain⟨k,g,f,d⟩:=acz c h i Om;have a:=h _ (a_ (show i<l by omega));rw[Q9 Om];refine⟨a7 (Sn _ _) Om,Sm (Q:=fun t=>nU x b t) a.1 g,?_,acq d⟩;have e:((i+1:Nat):Int)*m=(i:Int)*m+m:=(by rw[LA,Int.add_mul];omega)
  rw[e];exact ada a.2 (Eh Om c) f
def aU(x:aP)(D:List (List Rw)):List (List Rw):=(List.range x.ay.length).map fun i=>kL x.ay ((x.ay[i]?.map (·.2)).getD []) (D[i]?.getD [])
def qY(x:aP)(D:List (List Rw)):(aU x D).length=x.ay.length:=by unfold aU;simp
def Mj{x:aP}{D:List (List Rw)}(b:a<x.ay)(c:a<D):(aU x D)[a]? =some (kL x.ay x.ay[a].2 D[a]):=by unfold aU;rw[dL,lG b];simp only[Option.map_some,aX b,aX c,Option.getD_some]
def yJ{a:List Rl}{l:List Rw}{y:Rw}(h:y∈kL a L l):y∈l:=(fp.1 h).1
section
variable{x:aP}{D:List (List Rw)}
theorem IC(d:gc x D)(e:a∈bM x):∃(b:a<x.ay) (c:a<D),bY (aU x D) a=kL x.ay x.ay[a].2 D[a]/\wn x x.ay[a].2 D[a]:=by
 have b:=lN.1 e;have c:a<D.length:=by rw[d.1];exact b
 refine⟨b,c,?_,d.2 a _ _ (aX c) (aX b)⟩;unfold bY;rw[Mj b c];rfl
theorem abe(i:bR x)(m:gc x D):yV (bh x) (bY (aU x D)) (bM x):=by
 refine⟨fun h c=> ?_,fun h c y j=> ?_,fun h c=> ?_⟩
 ·have f:=lN.1 c;rw[sY f];unfold b9;have k:=a_ f;have l:=i.ri _ k;refine Lq.2 ((i.ra _ k).imp_of_mem fun {a b} q p d=> ?_);have:=l a q;have:=l b p;omega
 ·obtain⟨f,r,e,g⟩:=IC m c;rw[e] at j;rw[sY f];unfold b9;rw[bW];exact(g.val y (yJ j)).1
 ·obtain⟨f,r,e,g⟩:=IC m c;rw[e];refine x7 x8 (g.ord.imp fun {a b} d o=> ?_);have n:g7 a.1 b.1=true:=d;rw[o,MO.pK] at n;cases n
theorem amU(g:bR x)(f:gc x D):Pa x (aU x D):=by
 refine⟨qY x D,fun i r hr a j=>g.ri r (sK hr) a j,fun i r l hr b y c=> ?_⟩;have d:i<x.ay.length:=by exact Nr
 have e:i<D.length:=by rw[f.1];exact d
 rw[Mj d e] at b;injection b with b;rw[<-b] at c;exact((f.2 i _ r (aX e) hr).val y (yJ c)).1
theorem an8(d:bR x)(f:a<x.ai.length):f6 (bh x) (bM x) a≠ []:=by obtain⟨r,g,i⟩:=d.used a f;obtain⟨t,c,rfl⟩:=iQ g;intro e;have h:t∈f6 (bh x) (bM x) a:=yB.2 ⟨lN.2 c,(uo c fun b j=>(d.ri _ (a_ c) b j).1).2 i⟩;rw[e] at h;cases h
end
def Zr{homes:Nat->List Nat}{α β:Type}{R:SR α}{U:List β}{g:Nat->β->α}{W:Nat->(Nat->β)->α}(r:cX a y J)(env:Nat->β):
 (d_ a y homes a none).val R U g W env=R.prod (kids a y none) fun c=>(eH a y homes c).val R U g W env:=by
 rw[sS r (Lt _ _),Md];rfl
structure wN{α:Type}(R:SR α)(G:Nat->Nat->α->Prop):Prop where
 add:∀{s j j':Nat} {a b:α},G s j a->G s j' b->G s (j+j') (R.add a b)
 mul:∀{s s' j j':Nat} {a b:α},G s j a->G s' j' b->G (s+s') (j*j') (R.mul a b)
 mono:∀{s s' j j':Nat} {a:α},G s j a->s<=s'->j<=j'->G s' j' a
 zero:G 0 0 R.zero
 one:G 0 1 R.one
section
variable{α:Type}{R:SR α}{G:Nat->Nat->α->Prop}
theorem wN.sum{β:Type}{s j:Nat}{f:β->α}(g:wN R G):∀{l:List β},(∀x∈l,G s j (f x))->G s (l*j) (R.sum l f)
 | [],_=>g.mono g.zero (aV _) (aV _)
 |x::l,h=>by rw[jD];refine g.mono (g.add (h x Ou) (g.sum fun y a=>h y avS)) (aK _) ?_;rw[cP,ki,nQ,mS];exact aK _
theorem wN.prod{β:Type}{K:Nat}{s e:β->Nat}{f:β->α}(g:wN R G):∀{l:List β},(∀x∈l,G (s x) (K^e x) (f x))->G (l.map s).sum (K^(l.map e).sum) (R.prod l f)
 | [],_=>g.one
 |x::l,h=>by rw[k7,nO,nO,Ek,Ek,pW];exact g.mul (h x Ou) (g.prod fun y a=>h y avS)
end
def abk(t:aM):∀l:List aM,(oc t l)<=l.length+1
 | []=>by simp [oc]
 |y::l=>by
  have:=abk t l;unfold oc;split
  ·simp only[cP];omega
  ·split<;>simp
def QT:∀l:List aM,(jH l)<=l.length
 | []=>by simp [jH]
 |t::l=>a7 (abk t (jH l)) (by have:=QT l;simp only[cP];omega)
def abz{at_:Nat->List Nat}{tab:jZ}{hl:List Nat}{fx:Nat->Option aM}{c:Nat->Bool}{b:Nat->aM}{K:Nat}(i:∀h∈hl,(tab h)<=K):(gZ at_ tab hl fx c b a).length<=K:=by
 unfold gZ;refine a7 (mm _ _) (a7 (QT _) ?_);unfold wm;rcases e:f6 at_ hl a with _|⟨h,l⟩
 ·simp
 ·have f:=(yB.1 (show h∈f6 at_ hl a by rw[e];simp)).1;simp only[bW];exact a7 (mm _ _) (i h f)
def Qm{homes:Nat->List Nat}{f:Nat->Fo}:∀(l:List Nat),(dZ homes f l).vars.length=(l.map fun a=>(Fo.cons a (homes a) (f a) .nil).vars.length).sum
 | []=>rfl
 |a::l=>by
  rw[nO,Ek,<-Qm l];show(a::((f a).vars++(dZ homes f l).vars)).length=(a::((f a).vars++ [])).length+_
  simp only[cP,bC,yg];omega
def Qg{homes:Nat->List Nat}{f:Nat->Fo}:∀(l:List Nat),(dZ homes f l).homes.length=(l.map fun a=>(Fo.cons a (homes a) (f a) .nil).homes.length).sum
 | []=>rfl
 |a::l=>by
  rw[nO,Ek,<-Qg l];show(homes a++((f a).homes++(dZ homes f l).homes)).length=(homes a++((f a).homes++ [])).length+_
  simp only[bC,yg];omega
section
variable{n:Nat}{p:Nat->Option Nat}{d:Nat->Nat}{homes:Nat->List Nat}{at_:Nat->List Nat}{hl:List Nat}{tab:jZ}{fx:Nat->Option aM}{α:Type}{R:SR α}{g:Nat->aM->α}{U:List aM}{G:Nat->Nat->α->Prop}{K:Nat}{wt:Int->α}
def nT(n:Nat)(p:Nat->Option Nat)(homes:Nat->List Nat)(v:Nat):Nat:=(eH n p homes v).vars.length
def hT(n:Nat)(p:Nat->Option Nat)(homes:Nat->List Nat)(v:Nat):Nat:=(eH n p homes v).homes.length
def dT(n:Nat)(p:Nat->Option Nat)(homes:Nat->List Nat)(v:Nat):Nat:=nT n p homes v+hT n p homes v
theorem RX{f h:Nat->Nat}:∀l:List Nat,(l.map fun a=>f a+h a).sum=(l.map f).sum+(l.map h).sum
 | []=>rfl
 |a::l=>by simp only[nO,Ek,RX l];omega
theorem SL(r:cX n p d)(v:Nat):nT n p homes v=1+((kids n p (some v)).map (nT n p homes)).sum:=by have h:ji n p homes v=dZ homes (ji n p homes) (kids n p (some v)):=sS r Om;have e:nT n p homes v=(v::((ji n p homes v).vars++ [])).length:=rfl;rw[e,h,cP,i7,Qm,mS];rfl
theorem aoI(r:cX n p d)(v:Nat):hT n p homes v=(homes v)+((kids n p (some v)).map (hT n p homes)).sum:=by have h:ji n p homes v=dZ homes (ji n p homes) (kids n p (some v)):=sS r Om;have e:hT n p homes v=(homes v++((ji n p homes v).homes++ [])).length:=rfl;rw[e,h,i7,bC,Qg];rfl
theorem adh(r:cX n p d)(v:Nat):dT n p homes v=1+(homes v)+((kids n p (some v)).map (dT n p homes)).sum:=by have e:((kids n p (some v)).map (dT n p homes)).sum=((kids n p (some v)).map (nT n p homes)).sum+((kids n p (some v)).map (hT n p homes)).sum:=RX _;unfold dT at e⊢;rw[e,SL r v,aoI r v];omega
theorem aaE(c:wN R G)(e:∀a∈hl,∀y∈tab a,G 1 1 (wt y.2))(i:a∈hl)(b:Nat->aM):G 1 1 (fC R at_ tab wt a b):=by
 unfold fC;cases f:lO (at_ a) (tab a) b with
 |none=>exact c.mono c.zero Om Om
 |some y=>exact e a i y (z_ f)
theorem QQ{β:Type}:∀l:List β,(l.map fun _=>(1:Nat)).sum=l
 | []=>rfl
 |a::l=>by rw[nO,Ek,QQ l,cP,mS]
theorem QR{β:Type}:∀l:List β,(l.map fun _=>(0:Nat)).sum=0
 | []=>rfl
 |a::l=>by rw[nO,Ek,QR l]
theorem ZU(i:wN R G)(r:cX n p d)(z:yV at_ tab hl)(A:∀v x,cL fx v x=false->g v x=R.zero)(w:U.Nodup)(B:∀h∈hl,∀y∈tab h,∀t∈y.1,t∈U)(j:∀v,v<n->f6 at_ hl v≠ [])
 (u:∀v t,v<n->t∈U->G 1 1 (g v t)) (H:∀h∈hl,∀y∈tab h,G 1 1 (wt y.2)) (q:∀v h,h∈homes v->h∈hl) (J:∀h∈hl,(tab h).length<=K):
 ∀(m v:Nat) (S:List Nat) (b:Nat->aM),v<n->n<=d v+m->(eH n p homes v).Ok at_ hl S->(∀a,a∈S↔bE p v a=true)->G (dT n p homes v) (K^nT n p homes v) ((eH n p homes v).val R U g (fC R at_ tab wt) b)
 |0,v,S,b,k,O,_,_=>by have:=r.lt v k;omega
 |m+1,v,S,b,k,O,o,C=>by
  rw[aaI r z A w B j k o C b];obtain⟨W,T,_⟩:=Ml (fx:=fx) r k z A B (j v k) C b;have Q:∀x∈y5 at_ tab hl fx p v b,G (dT n p homes v) (K^((kids n p (some v)).map (nT n p homes)).sum) (R.mul (R.mul (g v x) (R.prod (homes v) fun h=>fC R at_ tab wt h (put b v x))) (R.prod (kids n p (some v)) fun c=>(eH n p homes c).val R U g (fC R at_ tab wt) (put b v x))):=fun x N=>by
   have M:=u v x k (T x N);have D:=i.prod (K:=K) (s:=fun _=>1) (e:=fun _=>0) (l:=homes v) (f:=fun h=>fC R at_ tab wt h (put b v x)) fun h P=>aaE i H (q v h P) _;have L:=i.prod (K:=K) (s:=dT n p homes) (e:=nT n p homes) (l:=kids n p (some v)) (f:=fun c=>(eH n p homes c).val R U g (fC R at_ tab wt) (put b v x)) fun c I=>by obtain⟨F,E⟩:=gU.1 I;have V:=(r.up c v F E).2;refine ZU i r z A w B j u H q J m c (v::S) _ F Om (Rg r o c I) fun a=> ?_;rw[aJ,C a,yM E,kE];unfold VS.one;rw[beq_iff_eq];exact Or.comm
   rw[QQ,QR] at D;refine i.mono (i.mul (i.mul M D) L) ?_ ?_
   ·rw[adh r v];exact aK _
   ·simp only[yr,nQ];exact aK _
  refine i.mono (i.sum Q) (aK _) ?_;rw[SL r v,pW,po];exact eT _ (abz J)
end
abbrev kO:Nat:=60^12
structure Gg{α:Type}(R:SR α)(V:World->Value->α->Prop)(G:Nat->Nat->α->Prop)(wt:Int->α)(wR:α->Bool)(fa fm fz fw:FuncId):Prop where
 ia:∀args w,(callFunc fa args).run prog w= .ok (.enter fa args) w
 im:∀args w,(callFunc fm args).run prog w= .ok (.enter fm args) w
 iz:∀args w,(callFunc fz args).run prog w= .ok (.enter fz args) w
 iw:∀args w,(callFunc fw args).run prog w= .ok (.enter fw args) w
 vk:∀{w w':au} {u:Value} {a:α},V w u a->Kept qm w w'->V w' u a
 add:∀(w:au) (u1 u2:Value) (a b:α) (s j j':Nat),V w u1 a->V w u2 b->G s j a->G s j' b->s<=40->j+j'<=kO->Calls prog fa #[u1,u2] w fun e w'=>∃u,e= .returned u/\V w' u (R.add a b)/\Ext w w'
 mul:∀(w:au) (u1 u2:Value) (a b:α) (s s' j j':Nat),V w u1 a->V w u2 b->G s j a->G s' j' b->s+s'<=40->j<=kO->j'<=kO->Calls prog fm #[u1,u2] w fun e w'=>∃u,e= .returned u/\V w' u (R.mul a b)/\Ext w w'
 NS:∀(w:au) (u:Value) (a:α) (s j:Nat),V w u a->G s j a->s<=40->j<=kO->Calls prog fz #[u] w fun e w'=>e= .returned (.bool (wR a))/\Ext w w'
 UO:∀(w:au) (k:Int),1<=k->k<=1000000->Calls prog fw #[av k] w fun e w'=>∃u,e= .returned u/\V w' u (wt k)/\Ext w w'
 gw:∀k:Int,1<=k->k<=1000000->G 1 1 (wt k)
 Um:∀{s j j':Nat} {a b:α},G s j a->G s j' b->G s (j+j') (R.add a b)
 Ul:∀{s s' j j':Nat} {a b:α},G s j a->G s' j' b->G (s+s') (j*j') (R.mul a b)
 Tw:∀{s s' j j':Nat} {a:α},G s j a->s<=s'->j<=j'->G s' j' a
 Tv:G 0 0 R.zero
 gone:G 0 1 R.one
 z0:∀a,wR a=true->a=R.zero
def aqj:Gg dE (fun _ u a=>u= .bool a) (fun _ _ _=>True) (fun _=>true) (fun a=> !a) 221 222 223 186 where
 ia:=fun _ _=>by rfl
 im:=fun _ _=>by rfl
 iz:=fun _ _=>by rfl
 iw:=fun _ _=>by rfl
 vk:=fun h _=>h
 add:=fun w u1 u2 a b _ _ _ f d _ _ _ _=>by subst f d;refine(ao0 a b w).mono ?_;rintro e c ⟨rfl,rfl⟩;exact⟨_,rfl,rfl,aB _⟩
 mul:=fun w u1 u2 a b _ _ _ _ f d _ _ _ _ _=>by subst f d;refine(anK a b w).mono ?_;rintro e c ⟨rfl,rfl⟩;exact⟨_,rfl,rfl,aB _⟩
 NS:=fun w u a _ _ h _ _ _=>by subst h;refine(anI a w).mono ?_;rintro e c ⟨rfl,rfl⟩;exact⟨rfl,aB _⟩
 UO:=fun w k _ _=>by refine(aoZ k w).mono ?_;rintro e c ⟨rfl,rfl⟩;exact⟨_,rfl,rfl,aB _⟩
 gw:=fun _ _ _=>trivial
 Um:=fun _ _=>trivial
 Ul:=fun _ _=>trivial
 Tw:=fun _ _ _=>trivial
 Tv:=trivial
 gone:=trivial
 z0:=fun a h=>by
  cases a with
  |false=>rfl
  |true=>cases h
def dt(B N:Nat)(q:Rat):Prop:=∃z:Int,q*(B:Int)=(z:Rat)/\z.natAbs<=N
def dt.add(h:dt a b H)(k:dt a c I):dt a (b+c) (H+I):=by obtain⟨x,e,g⟩:=h;obtain⟨y,d,f⟩:=k;exact⟨x+y,by rw[Rat.intCast_add,<-e,<-d];grind,by omega⟩
def dt.mul(h:dt a c H)(k:dt b d I):dt (a*b) (c*d) (H*I):=by
 obtain⟨x,i,g⟩:=h;obtain⟨y,f,e⟩:=k;refine⟨x*y,?_,?_⟩
 ·rw[He,<-i,<-f,k6,He];grind
 ·rw[yj];exact vF g e
def dt.mono{B M:Nat}(h:dt B M H)(c:M<=a):dt B a H:=by obtain⟨x,b,d⟩:=h;exact⟨x,b,by omega⟩
def dt.fit(h:dt a b H)(j:0<a)(k:b<10^e)(d:a<10^e):bF e H:=by
 obtain⟨x,i,l⟩:=h;have c:¬(((a:Int):Rat))=0:=fun f=>by have:=Rat.intCast_inj.1 (show(((a:Int)):Rat)=((0:Int):Rat) from f);omega
 have g:H=Rat.divInt x (a:Int):=(by rw[YZ,<-i,Rat.mul_div_cancel c]);rw[g];exact aaq Om Om (by rw[fY];exact d)
def gP(D M s j:Nat)(q:Rat):Prop:=dt (D^s) (j*M^s) q
def gP.add(h:gP a b c d H)(k:gP a b c e I):gP a b c (d+e) (H+I):=by have f:=dt.add h k;unfold gP;rwa[ki]
def gP.mul{s:Nat}(h:gP a b s d H)(k:gP a b c e I):gP a b (s+c) (d*e) (H*I):=by have f:=dt.mul h k;unfold gP;rw[pW,pW];rwa[Nat.mul_mul_mul_comm] at f
def gP.mono{M:Nat}(f:a<=M)(h:gP a M b d H)(i:b<=c)(k:d<=e):gP a M c e H:=by obtain⟨t,rfl⟩:=Nat.le.dest i;have l:dt (a^t) (a^t) 1:=⟨((a^t:Nat):Int),by rw[LX],by simp⟩;have g:=dt.mul h l;rw[Et,<-pW] at g;refine g.mono ?_;rw[pW,<-fO];exact vF (eT _ k) (Nat.pow_le_pow_left f t)
def gP.fit(f:0<a)(h:gP a b c d H)(i:d*b^c<10^e)(g:a^c<10^e):bF e H:=dt.fit h (Nat.pow_pos f) i g
def gP.zero:gP a b 0 0 0:=⟨0,by rw[Qr];rfl,by simp⟩
def gP.one:gP a b 0 1 1:=⟨1,by rw[yr];decide+kernel,by simp⟩
def anm(v:Value)(q:Rat)(w:au)(h:bX w v q)(k:bF a q)(s:a<=1000000):
 Calls prog 62 #[v] w fun a g=>a= .returned (.bool (q==0))/\Ext w g:=by
 have y:=af (fun W (t:Ext w W)=>alj v q W (h.ext t) k s);have i:(q.num.sign==0)=(q==0):=(by rw[lI,beq_iff_eq,beq_iff_eq,YD,Rat.num_eq_zero])
 have u:=af i;obtain⟨b,A,n,c,D,E,B,C,rfl,_,_⟩:=h.parts;generalize q.num.sign=z at*;clear i k;go_enter func62,ntmps62;go_upto_region 1 with fail
 refine aT fun W d l=> ?_;obtain⟨r,p,o,m⟩:=l.four;have f:=af (y W d);go_wp2_with fail
 refine f.mono ?_;rintro a g ⟨rfl,j⟩;have x:=af (d.trans j);clear j r p o m l;go_wp2;exact bodyPost_ret (v:= .bool (z==0)) (by simp [results,results62,go_sem]) rfl ⟨by rw[u.ae],x⟩
def Ix(p:0<a)(f:a<=b)(i:b<10^e)(n:kO<10^e)(h:gP a b c d H)(m:c<=40)(o:d<=kO):bF (e+e*40) H:=by
 have t:gP a b 40 kO H:=h.mono f m o;have g:∀{x:Nat},x<10^e->x^40<10^(e*40):=fun {x} l=>by have r:=Nat.pow_lt_pow_left l (show(40:Nat)≠0 by decide);rwa[<-Nat.pow_mul] at r
 refine t.fit p ?_ ?_
 ·have q:kO*b^40<10^e*10^(e*40):=Nat.mul_lt_mul'' n (g i);rwa[<-pW] at q
 ·exact cF (g (Ay f i)) (fN Od (Qd _ _))
def arD:kO<10^100:=av4
def aqe(m:0<a)(q:1000000*a<=b)(l:b<10^100)(i:kO<10^100):Gg dQ bX (gP a b) (fun k=>(k:Rat)) (fun c=>c==0) 29 61 62 28 where
 ia:=fun _ _=>by rfl
 im:=fun _ _=>by rfl
 iz:=fun _ _=>by rfl
 iw:=fun _ _=>by rfl
 vk:=fun h k=>h.keep k
 add:=fun w u1 u2 c d s j v o n t r e f=>acC u1 u2 c d w o n (Ix m Om l i t e Om) (Ix m Om l i r e Om) Om
 mul:=fun w u1 u2 c d s x j v o n t r e f p=>Sr u1 u2 c d w o n (Ix m Om l i t Om f) (Ix m Om l i r Om p) Om
 NS:=fun w u c s j h g e f=>anm u c w h (Ix m Om l i g e f) Om
 UO:=fun w k o n=>yR k w Om Om
 gw:=fun k o n=>⟨k*(a:Int),by rw[po,He],by rw[yj,fY,nQ,po];exact a7 (eT _ Om) q⟩
 Um:=fun h k=>h.add k
 Ul:=fun h k=>h.mul k
 Tw:=fun h e f=>h.mono Om e f
 Tv:=gP.zero
 gone:=gP.one
 z0:=fun c h=>beq_iff_eq.1 h
def Iq:prog.underlying IK=some (.map aS bJ):=underlying141
def abT(w:au):(zeroValue bJ).run prog w= .ok (.string ⟨#[]⟩) w:=Ok
def lL:Keyed prog aS:=int_keyed (q:= .i64) Ok
def apq(h:a<100):(Lit.int .i64 (a:Int)).wf=true:=by have c:IntKind.min .i64= -9223372036854775808:=Od;have b:IntKind.max .i64=9223372036854775807:=Od;simp only[Lit.wf,c,b,cZ,decide_eq_true_eq];omega
def ES{v:Nat}(h:v<100):keyOf prog aS (.int .i64 (v:Int))=some (.int .i64 (v:Int)):=keyOf_int_mk Ok (apq h)
def tV.nil(w:au):tV w (.map none) fun _=>none:=fun W _ _ a=>Maps.look_nil true lL Iq (abT W) (ES a)
def KR(w:au)(b:Nat)(a:Nat->Option aD):Prop:=∃n f,dH w aS b n f/\∀v:Nat,v<100->f (.int .i64 (v:Int))=(a v).map fun t=> .string ⟨t.toArray⟩
def KR.look{w:au}{b:Nat}{a:Nat->Option aD}(h:KR w b a):tV w (.map (some b)) a:=fun W g v c=>by
 obtain⟨n,f,d,e⟩:=h;have i:=(d.ext g).look lL Iq (abT W) (ES c);rw[i,e v c];cases a v with
 |none=>rfl
 |some t=>rfl
def mv(v:Nat)(a:List Nat)(e:Nat->aD):aD:=UInt8.ofNat v::jW (a.map e)
def akU{e g:Nat->aD}(x:a<256)(l:b<256)(m:a=b->i=j)(s:∀c∈i,(0:UInt8)∉e c)(r:∀c∈j,(0:UInt8)∉g c)(h:mv a i e=mv b j g):a=b/\∀c∈i,e c=g c:=by
 unfold mv at h;injection h with q p;have k:a=b:=by have:=congrArg UInt8.toNat q;simp at this;omega
 have u:=m k;subst u;have o:=acm Ou (fun t f=>by
  obtain⟨c,d,rfl⟩:=dU.1 f;exact s c d) (fun t f=>by
  obtain⟨c,d,rfl⟩:=dU.1 f;exact r c d) p
 exact⟨k,fun c d=>List.map_inj_left.1 o c d⟩
def Mf:Keyed prog bJ:=string_keyed Ok
def y9(U:List aD):Nat->List (List aD)
 |0=> [[]]
 |k+1=>U.flatMap fun t=>(y9 U k).map fun l=>t::l
def abW{U:List aD}:∀{l:List aD},(∀t∈l,t∈U)->l∈y9 U l.length
 | [],_=>by simp [y9]
 |t::l,h=>by unfold y9;exact o7.2 ⟨t,h t Ou,dU.2 ⟨l,abW fun s a=>h s avS,rfl⟩⟩
def abX(U:List aD):∀k,(y9 U k).length=U.length^k
 |0=>rfl
 |k+1=>by unfold y9;rw[List.length_flatMap];simp only[bW,abX U k,List.map_const',List.sum_replicate_nat];rw[eU,ed]
def lx{α:Type}(V:World->Value->α->Prop)(n:Nat)(keys:Nat->List Nat)(U:List aD)(val:Nat->(Nat->aD)->α)(w:au)(kb:Nat):Prop:=
 ∃m f,dH w bJ kb m f/\∀l u,f l=some u->∃v e,v<n/\l= .string (mv v (keys v) e)/\(∀a∈keys v,(0:UInt8)∉e a/\e a∈U)/\V w u (val v e)
section
variable{α:Type}{V:World->Value->α->Prop}{n:Nat}{keys:Nat->List Nat}{U:List aD}{val:Nat->(Nat->aD)->α}{w w':au}{kb:Nat}
theorem lx.new(h:dH w bJ kb 0 fun _=>none):lx V n keys U val w kb:=⟨0,_,h,fun l u a=>by cases a⟩
theorem lx.hit{f:Lit->Option Value}(o:∀l p,f l=some p->∃a e,a<n/\l= .string (mv a (keys a) e)/\(∀b∈keys a,(0:UInt8)∉e b/\e b∈U)/\V w p (val a e))(z:n<=256)
 (c:∀e d,(∀b∈keys a,d b=e b)->val a d=val a e) (y:a<n) {e:Nat->aD} (q:∀b∈keys a,(0:UInt8)∉e b) (m:f (.string (mv a (keys a) e))=some p):V w p (val a e):=by
 obtain⟨x,d,k,g,t,j⟩:=o _ _ m;injection g with g;obtain⟨s,r⟩:=akU Om Om (fun h=>by rw[h]) q (fun b i=>(t b i).1) g;subst s;rw[c e d fun b i=>(r b i).symm] at j;exact j
theorem lx.bound{m:Nat}{f:Lit->Option Value}(h:dH w bJ kb m f)(q:∀l u,f l=some u->∃v e,v<n/\l= .string (mv v (keys v) e)/\(∀b∈keys v,(0:UInt8)∉e b/\e b∈U)/\V w u (val v e))(p:∀v,v<n->(keys v).length<=a)(s:1<=U.length):
 ∃g,g<=n*U.length^a/\dH w bJ kb g f:=by
 refine⟨_,?_,h.bound Mf ((List.range n).flatMap fun v=>(y9 U (keys v).length).map fun l=>Lit.string (UInt8.ofNat v::jW l)) fun l o=> ?_⟩
 ·have d:=SS (l:=List.range n) (f:=fun v=>(y9 U (keys v).length).map fun l=>Lit.string (UInt8.ofNat v::jW l)) (m:=U.length^a) fun v c=>by rw[bW,abX];exact fN s (p v (dB.1 c))
  rwa[iG] at d
 ·obtain⟨u,i⟩:=G6.1 o;obtain⟨v,e,c,rfl,d,_⟩:=q l u i;refine o7.2 ⟨v,dB.2 c,dU.2 ⟨(keys v).map e,?_,rfl⟩⟩;have x:=abW (U:=U) (l:=(keys v).map e) fun t j=>by obtain⟨b,r,rfl⟩:=dU.1 j;exact(d b r).2
  rwa[bW] at x
theorem SC(t:aD)(h:t.length<=100000):keyOf prog bJ (aL t)=some (.string t):=by
 have a:(⟨t.toArray⟩:ByteArray).size<=maxLen:=by
  show t.toArray.size<=maxLen
  rw[List.size_toArray];unfold maxLen;omega
 have b:prog.underlying bJ=some .string:=Ok;simp [keyOf,b,mapKey,a]
theorem lx.put{I:TypeId}(h:lx V n keys U val w kb)(z:prog.underlying x=some (.map bJ I))(D:∀v,v<n->(keys v).length<=a)(F:1<=U.length)(P:n*U.length^a<maxLen)(j:∀{p b w'},V w p b->Only kb w w'->V w' p b)
 {v:Nat} (s:v<n) {e:Nat->aD} (E:∀b∈keys v,(0:UInt8)∉e b/\e b∈U) (C:(mv v (keys v) e).length<=100000) (y:V w p (val v e)):
 ∃w',(Instr.mapUpdate x (.map (some kb)) (aL (mv v (keys v) e)) p).run prog w= .ok () w'/\lx V n keys U val w' kb/\Only kb w w':=by
 obtain⟨m,f,B,i⟩:=h;obtain⟨O,A,d⟩:=lx.bound B i D F;obtain⟨w',H,G,g⟩:=d.put Mf z Om (SC _ C) p;refine⟨w',H,⟨_,_,G,fun l r c=> ?_⟩,g⟩;by_cases o:l= .string (mv v (keys v) e)
 ·subst o;rw[AZ] at c;injection c with c;subst c;exact⟨v,e,s,rfl,E,j y g⟩
 ·rw[ue o] at c;obtain⟨q,J,N,M,L,K⟩:=i l r c;exact⟨q,J,N,M,L,j K g⟩
end
section
variable{α:Type}
def vT(R:SR α)(x:aP)(T:List (List Rw))(p:Nat->Option Nat)(homes:Nat->List Nat)(g:Nat->aM->α)(wt:Int->α)(U:List aM)(v:Nat)(e:Nat->aM):α:=(eH x.ai.length p homes v).val R U g (fC R (bh x) (bY T) wt) e
def hW(R:SR α)(x:aP)(T:List (List Rw))(wt:Int->α)(h:Nat)(e:Nat->aM):α:=fC R (bh x) (bY T) wt h e
def bT(R:SR α)(x:aP)(T:List (List Rw))(p:Nat->Option Nat)(homes:Nat->List Nat)(g:Nat->aM->α)(wt:Int->α)(U:List aM)(v:Nat)(t:aM)(e:Nat->aM):α:=
 R.mul (R.mul (g v t) (R.prod (homes v) fun h=>hW R x T wt h (put e v t))) (R.prod (kids x.ai.length p (some v)) fun c=>vT R x T p homes g wt U c (put e v t))
structure Wk(R:SR α)(G:Nat->Nat->α->Prop)(wt:Int->α)(g:Nat->aM->α)(fx:Nat->Option aM)(U:List aM)(x:aP)(T:List (List Rw))(p:Nat->Option Nat)(d:Nat->Nat)(homes:Nat->List Nat):Prop where
 gr:wN R G
 r:cX x.ai.length p d
 sc:bR x
 tb:yV (bh x) (bY T) (bM x)
 hg:∀v t,cL fx v t=false->g v t=R.zero
 un:U.Nodup
 hU:∀h∈bM x,∀y∈bY T h,∀t∈y.1,t∈U
 gg:∀v t,v<x.ai.length->t∈U->G 1 1 (g v t)
 hw:∀h∈bM x,∀y∈bY T h,G 1 1 (wt y.2)
 hK:∀h∈bM x,(bY T h).length<=60
 whole:(d_ x.ai.length p homes x.ai.length none).Ok (bh x) (bM x) []
 hh:∀v h,h∈homes v->h∈bM x
 nd:∀v,(homes v).Nodup
 ap:∀v w h,h∈homes v->h∈homes w->v=w
variable{R:SR α}{G:Nat->Nat->α->Prop}{wt:Int->α}{g:Nat->aM->α}{fx:Nat->Option aM}{U:List aM}{x:aP}{T:List (List Rw)}{p:Nat->Option Nat}{d:Nat->Nat}{homes:Nat->List Nat}{v:Nat}{e:Nat->aM}{t:aM}
theorem Ik{p:Nat->Option Nat}{v:Nat}(h:p v=none):bE p v a=false:=by
 cases f:bE p v a with
 |false=>rfl
 |true=>
  rcases(qZ.1 f).inv with c|⟨b,c,_⟩
  ·rw[h] at c;cases c
  ·rw[h] at c;cases c
theorem anN(j:∀f,f∈i↔bE p a f=true)(h:p b=some a)(f:Nat):f∈a::i↔bE p b f=true:=by rw[aJ,j f,yM h,kE];unfold VS.one;rw[beq_iff_eq];exact Or.comm
theorem vW(f:p a=some v):cQ (bE p v) v=bE p a:=by rw[yM f];funext b;unfold cQ VS.one;exact Bool.or_comm _ _
theorem Wk.CJ(k:Wk R G wt g fx U x T p d homes):∀(m v:Nat),v<x.ai->d v<=m->∃S,(eH x.ai p homes v).Ok (bh x) (bM x) S/\∀a,a∈S↔bE p v a=true
 |m,v,f,l=>by
  cases c:p v with
  |none=>exact⟨[],ZT k.r k.whole v (gU.2 ⟨f,c⟩),fun a=>by rw[Ik c];simp⟩
  |some b=>
   obtain⟨j,n⟩:=k.r.up v b f c;match m with
   |0=>omega
   |m+1=>obtain⟨S,i,h⟩:=k.CJ m b j Om;exact⟨b::S,Rg k.r i v (gU.2 ⟨f,c⟩),anN h c⟩
theorem Wk.ne(k:Wk R G wt g fx U x T p d homes):∀v,v<x.ai.length->f6 (bh x) (bM x) v≠ []:=fun _ a=>an8 k.sc a
theorem Wk.step(k:Wk R G wt g fx U x T p d homes)(a:v<x.ai)(e:Nat->aM):vT R x T p homes g wt U v e=R.sum (gZ (bh x) (bY T) (bM x) fx (bE p v) e v) fun t=>bT R x T p homes g wt U v t e:=by obtain⟨S,c,b⟩:=k.CJ (d v) v a (aK _);exact aaI k.r k.tb k.hg k.un k.hU k.ne a c b e
theorem Wk.Nf(k:Wk R G wt g fx U x T p d homes)(a:v<x.ai)(e:Nat->aM):G (dT x.ai p homes v) (60^nT x.ai p homes v) (vT R x T p homes g wt U v e):=by obtain⟨S,c,b⟩:=k.CJ (d v) v a (aK _);exact ZU k.gr k.r k.tb k.hg k.un k.hU k.ne k.gg k.hw k.hh k.hK (x.ai - d v) v S e a Om c b
theorem Wk.Vf(k:Wk R G wt g fx U x T p d homes)(a:v<x.ai.length)(c:t∈gZ (bh x) (bY T) (bM x) fx (bE p v) e v):t∈U:=by obtain⟨S,f,b⟩:=k.CJ (d v) v a (aK _);exact(Ml k.r a k.tb k.hg k.hU (k.ne v a) b e).2.1 t c
theorem Wk.home(k:Wk R G wt g fx U x T p d homes)(c:v<x.ai.length)(n:t∈gZ (bh x) (bY T) (bM x) fx (bE p v) e v)(hh:a∈homes v):
 a<x.ay.length/\∃y,y∈bY T a/\(bY T a).filter (fun y=>dV (cQ (bE p v) v) (put e v t) (bh x a) y.1)= [y]/\hW R x T wt a (put e v t)=wt y.2:=by
 obtain⟨S,m,l⟩:=k.CJ (d v) v c (aK _);have i:=k.hh v a hh;have f:bE p v v=false:=by
  cases a:bE p v v with
  |false=>rfl
  |true=>have:=(qZ.1 a).lQ k.r v rfl c;omega
 have j:=m.1 a hh;have hit:=((Mm k.tb f (k.ne v c)).1 n).2 a (yB.2 ⟨i,j.1⟩);refine⟨lN.1 i,anh k.tb i (fun b o=> ?_) hit R wt⟩;unfold cQ;rw[kE,beq_iff_eq,<-l b];rcases j.2 b o with a|a
 ·exact .inl a
 ·exact .inr a
theorem Wk.adJ(k:Wk R G wt g fx U x T p d homes)(b:v<x.ai)(c:t∈U)(e:Nat->aM)(i:Nat):G (1+i) 1 (R.mul (g v t) (R.prod ((homes v).take i) fun h=>hW R x T wt h e)):=by have a:=k.gr.prod (K:=60) (s:=fun _=>1) (e:=fun _=>0) (l:=(homes v).take i) (f:=fun h=>hW R x T wt h e) fun h hh=>aaE k.gr k.hw (k.hh v h (oW hh)) _;rw[QQ,QR] at a;refine k.gr.mono (k.gr.mul (k.gg v t b c) a) ?_ Ou;rw[cJ];omega
theorem EG{f:Nat->Nat}(l:List Nat)(i:Nat):((l.take i).map f).sum<=(l.map f).sum:=by have h:=congrArg (fun l=>(l.map f).sum) (sJ i l);simp only[kD,Y_] at h;omega
theorem Wk.ad6(k:Wk R G wt g fx U x T p d homes)(m:v<x.ai)(n:t∈U)(e:Nat->aM)(i:Nat):
 G (1+(homes v)+(((kids x.ai p (some v)).take i).map (dT x.ai p homes)).sum) (60^(((kids x.ai p (some v)).take i).map (nT x.ai p homes)).sum)
  (R.mul (R.mul (g v t) (R.prod (homes v) fun h=>hW R x T wt h e)) (R.prod ((kids x.ai p (some v)).take i) fun c=>vT R x T p homes g wt U c e)):=by
 have a:=k.adJ m n e (homes v);rw[fj] at a;have j:=k.gr.prod (K:=60) (s:=dT x.ai p homes) (e:=nT x.ai p homes) (l:=(kids x.ai p (some v)).take i) (f:=fun c=>vT R x T p homes g wt U c e) fun c o=>k.Nf (gU.1 (oW o)).1 e;have b:=k.gr.mul a j;rwa[nQ] at b
theorem Wk.IQ(k:Wk R G wt g fx U x T p d homes)(i:Nat):1+(homes v)+(((kids x.ai p (some v)).take i).map (dT x.ai p homes)).sum<=dT x.ai p homes v/\(((kids x.ai p (some v)).take i).map (nT x.ai p homes)).sum+1<=nT x.ai p homes v:=by have b:=EG (f:=dT x.ai p homes) (kids x.ai p (some v)) i;have a:=EG (f:=nT x.ai p homes) (kids x.ai p (some v)) i;rw[adh k.r v,SL k.r v];omega
theorem EA(f:i.Nodup)(c:∀b∈i,b<a):i<=a:=by have h:=f.length_le_of_subset fun b j=>dB.2 (c b j);rwa[iG] at h
theorem Wk.JZ(k:Wk R G wt g fx U x T p d homes)(c:v<x.ai.length):nT x.ai.length p homes v<=x.ai.length/\dT x.ai.length p homes v<=x.ai.length+x.ay.length:=by
 have i:=LS (homes:=homes) k.r c;have l:nT x.ai.length p homes v<=x.ai.length:=EA i fun a f=>by
  rcases(L1 k.r c).1 f with rfl|h
  ·exact c
  ·exact h.1
 have b:(eH x.ai.length p homes v).By homes:=⟨rfl,yx _ _,trivial⟩;have m:hT x.ai.length p homes v<=x.ay.length:=EA (QP k.nd k.ap b i) fun a f=>by obtain⟨w,_,j⟩:=(b.mem a).1 f;exact lN.1 (k.hh w a j)
 exact⟨l,by unfold dT;omega⟩
theorem Wk.adi(k:Wk R G wt g fx U x T p d homes)(b:v<x.ai)(c:t∈U)(e:Nat->aM):G (dT x.ai p homes v) (60^(nT x.ai p homes v - 1)) (bT R x T p homes g wt U v t e):=by have h:=k.ad6 b c (put e v t) (kids x.ai p (some v));have a:=k.IQ (v:=v) (kids x.ai p (some v));rw[fj] at h a;exact k.gr.mono h a.1 (fN Od Om)
theorem Wk.aqu(k:Wk R G wt g fx U x T p d homes)(a:v<x.ai){l:List aM}(c:∀t∈l,t∈U)(e:Nat->aM)(i:Nat):G (dT x.ai p homes v) (i*60^(nT x.ai p homes v - 1)) (R.sum (l.take i) fun t=>bT R x T p homes g wt U v t e):=
 k.gr.mono (k.gr.sum fun t b=>k.adi a (c t (oW b)) e) (aK _) (eT _ avU)
theorem Wk.aqv(k:Wk R G wt g fx U x T p d homes)(b:v<x.ai)(h:x.ai.length<=12)(j:a<60):a*60^(nT x.ai p homes v - 1)+60^(nT x.ai p homes v - 1)<=kO:=by
 have o:=(k.JZ b).1;have n:=(k.IQ (v:=v) 0).2;have f:(60:Nat)^(nT x.ai p homes v - 1)<=60^11:=fN Od Om;have m:a*60^(nT x.ai p homes v - 1)<=59*60^11:=vF Om f;have c:kO=60^12:=rfl;rw[c];have l:(60:Nat)^12=60^11*60:=show(60:Nat)^(11+1)=_ from eU 60 11
 omega
theorem Wk.TM(k:Wk R G wt g fx U x T p d homes)(a:v<x.ai)(b:x.ai.length<=12){i:Nat}(c:i<=nT x.ai p homes v):60^i<=kO:=by have f:=(k.JZ a).1;exact fN Od Om
theorem Wk.ap5(k:Wk R G wt g fx U x T p d homes)(b:v<x.ai.length)(r:t∈U)(e:Nat->aM)(a:x.ai.length<=12)(z:x.ay.length<=6)(i:Nat):
 (∃s j,s<=40/\j<=kO/\G s j (R.mul (R.mul (g v t) (R.prod (homes v) fun h=>hW R x T wt h e)) (R.prod ((kids x.ai.length p (some v)).take i) fun c=>vT R x T p homes g wt U c e)))/\
 ∀f:i<(kids x.ai.length p (some v)).length,∃s j l m,s+l<=40/\j<=kO/\m<=kO/\G s j (R.mul (R.mul (g v t) (R.prod (homes v) fun h=>hW R x T wt h e)) (R.prod ((kids x.ai.length p (some v)).take i) fun c=>vT R x T p homes g wt U c e))/\G l m (vT R x T p homes g wt U (kids x.ai.length p (some v))[i] e):=by
 have q:=k.ad6 b r e i;have B:=k.IQ (v:=v) i;have A:=(k.JZ b).2;have o:=k.TM b a (i:=(((kids x.ai.length p (some v)).take i).map (nT x.ai.length p homes)).sum) Om;refine⟨⟨_,_,by omega,o,q⟩,fun f=> ?_⟩;have n:=(gU.1 (a_ f)).1;have y:=k.Nf n e;have w:=k.TM n a (aK _);have u:=(k.IQ (v:=v) (i+1)).1;rw[fg f,kD,Y_,Ll,List.sum_singleton] at u;exact⟨_,_,_,_,by omega,o,w,q,y⟩
theorem SR.R9{β:Type}{f:β->α}:∀(l m:List β),R.prod (l++m) f=R.mul (R.prod l f) (R.prod m f)
 | [],m=>(R.mo _).symm
 |a::l,m=>by rw[sO,k7,k7,SR.R9 l m,R.ma]
theorem SR.aa0{β:Type}{f:β->α}(l:List β)(a:β):R.prod (l++ [a]) f=R.mul (R.prod l f) (f a):=by rw[SR.R9,k7];congr 1;exact SR.zh _
theorem SR.acX{β:Type}{f:β->α}:∀(l m:List β),R.sum (l++m) f=R.add (R.sum l f) (R.sum m f)
 | [],m=>(R.az _).symm
 |a::l,m=>by rw[sO,jD,jD,SR.acX l m,R.aa]
theorem SR.alZ{β:Type}{f:β->α}(l:List β)(a:β):R.sum (l++ [a]) f=R.add (R.sum l f) (f a):=by rw[SR.acX,jD];congr 1;rw[R.ac];exact R.az _
theorem SR.aaZ{β:Type}{f:β->α}{l:List β}(h:a<l)(b:α):R.mul b (R.prod (l.take (a+1)) f)=R.mul (R.mul b (R.prod (l.take a) f)) (f l[a]):=by rw[fg h,SR.aa0,R.ma]
theorem SR.EG{β:Type}{f:β->α}{l:List β}(h:a<l):R.sum (l.take (a+1)) f=R.add (R.sum (l.take a) f) (f l[a]):=by rw[fg h,SR.alZ]
theorem SR.akv{β:Type}{f:β->α}{l:List β}{i:Nat}{b:α}(h:R.mul b (R.prod (l.take i) f)=R.zero):R.mul b (R.prod l f)=R.zero:=by
 have e:R.prod l f=R.mul (R.prod (l.take i) f) (R.prod (l.drop i) f):=by rw[<-SR.R9,sJ]
 rw[e,<-R.ma,h,R.mz]
end
def ac2{β:Type}{q:β->Bool}{y:β}:∀{l:List β},l.filter q= [y]->∀{i:Nat} (m:i<l.length),q l[i]=true->l[i]=y/\(l.take i).any q=false
 |a::l,h,i,m,c=>by
  by_cases b:q a=true
  ·rw[List.filter_cons_of_pos b] at h;injection h with j f;match i with
   |0=>exact⟨j,rfl⟩
   |i+1=>have k:=fp.2 ⟨a_ _,by simpa using c⟩;rw[f] at k;cases k
  ·rw[List.filter_cons_of_neg b] at h;match i with
   |0=>exact absurd avT b
   |i+1=>obtain⟨j,f⟩:=ac2 h (by simpa using m) avT;refine⟨by simpa using j,?_⟩;rw[PY,Qh,f,vI];simpa using b
def adp{β:Type}{q:β->Bool}{y:β}{l:List β}(h:l.filter q= [y]):l.any q=true:=by
 have a:y∈l.filter q:=by rw[h];simp
 exact o9.2 ⟨y,fp.1 a⟩
def anM{β:Type}{q:β->Bool}{l:List β}(b:a<l):(l.take (a+1)).any q=((l.take a).any q||q l[a]):=by rw[fg b,Za,Qh,Qw,vI]
def QM{c:jZ}{fx:Nat->Option aM}{e e':Nat->aM}{v:Nat}(h:∀a,K a=true->e a=e' a):gZ A c i fx K e v=gZ A c i fx K e' v:=by
 have j:wm A c i fx K e v=wm A c i fx K e' v:=by
  unfold wm;rcases f6 A i v with _|⟨q,l⟩
  ·rfl
  ·simp only;congr 1;refine D_ fun y _=> ?_;rw[Ra (NI:=K) (Nv:=e') fun a _=>⟨rfl,h a⟩]
 unfold gZ;rw[j];refine D_ fun t _=> ?_;congr 1;funext q;unfold rD;congr 1;funext y;refine Ra fun a _=>⟨rfl,fun f=> ?_⟩;unfold put;by_cases b:a=v
 ·rw[if_pos b,if_pos b]
 ·rw[if_neg b,if_neg b];refine h a ?_;unfold cQ at f;rw[kE,beq_iff_eq] at f;exact f.resolve_left b
def alr(b:Nat)(w:au)(d:aA w b 0 (.pointer none))(Vt:w.shape? b=some (tB,2))(c:w.frozen? (aC b 0)=false):
 Calls prog 212 #[aI b 0] w fun e a=>e= .returned (.tuple #[])/\a=w.setCell (aC b 0) (aI b 0):=by
 exact m35
def abx(B b:Nat)(c:List Value)(w:au)(h:Lib.IsBuilder tB t8 B b c w):
 Calls prog 212 #[aI b 0] w fun e a=>e= .returned (.tuple #[])/\(Lib.BuilderAt tB t8 B b (aI b 0) c a/\Below B w a):=by
 rcases h with h|h
 ·refine(alr b w h.cell0 h.shape h.frozen0).mono ?_;rintro e a ⟨rfl,rfl⟩;exact⟨rfl,h.used _,(yE B w).setCell h.1 _⟩
 ·refine(Zb b w h.cell0).mono ?_;rintro e a ⟨rfl,rfl⟩;exact⟨rfl,h,yE B _⟩
def alI(B b:Nat)(bs:List Value)(s:ByteArray)(w:au)(h:Lib.IsBuilder tB t8 B b bs w)(c:bs.length+s.size<=140737488355328)(d:B<=w.heap.size):
 Calls prog 170 #[aI b 0,.string s] w fun e a=>e= .returned (.tuple #[av s.size,.nilIface])/\(Lib.BuilderAt tB t8 B b (aI b 0) (bs++Lib.strCells s) a/\Below B w a):=by
 obtain⟨i0,hi,hz0,hz1,hz2⟩:=info_parts Tryz.AA.infoByte;go_enter func170,ntmps170;go_wp2_with (go_at_call 212;refine(abx B b bs _ h).mono ?_);exact m21
def ajH:jG prog 156 t8 1 1:= .mk' (z:= .int .u8 0) Ok Ok rfl Od Od
def ajU(B b:Nat)(n:List Value)(c:Int)(w:au)(h:Lib.IsBuilder tB t8 B b n w)(A:n.length+1<=140737488355328)(G:B<=w.heap.size):
 Calls prog 224 #[aI b 0,.int .u8 c] w fun e y=>e= .returned .nilIface/\(Lib.BuilderAt tB t8 B b (aI b 0) (n++ [.int .u8 c]) y/\Below B w y):=by
 go_enter func224,ntmps224;go_wp2_with (go_at_call 212;refine(abx B b n _ h).mono ?_);rintro e o ⟨rfl,H,l⟩;obtain⟨C,v,f,j,s⟩:=H;have K:o.cell? (aC b 0)=some (aI b 0):=by rw[AC f];rfl
 have J:o.cell? (aC b 1)=some v:=by rw[AC f];rfl
 have u:(n.length+1)*1<=140737488355328:=Om;have q:B<=o.heap.size:=by have:=l.size;omega
 go_wp2_with (at_builtin;refine gQ rfl _ _ 156 rfl B ajH _ _ _ rfl j #[.int .u8 c] 1 1 rfl rfl rfl u q ?_)
 intro E p a d _;have t:b<o.heap.size:=by
  rcases cA b o.heap.size with x|x
  ·exact x
  ·simp [x6 x] at f
 have i:p.heap[b]? =some (.cells #[aI b 0,v] tB (0,0)):=(by rw[d.block b t (fun e=>s e.symm)];exact f);have d0:p.cell? (aC b 0)=some (aI b 0):=by rw[AC i];rfl
 have d1:p.cell? (aC b 1)=some v:=by rw[AC i];rfl
 have f1:=Lib.frozen_of_heap i 1;obtain⟨D,z,m,rfl⟩:∃D z m,E= .slice D z m:=by
  rcases a.2 with⟨r,_⟩|⟨g,m,I,r,_⟩
  ·exact⟨_,_,_,r⟩
  ·exact⟨_,_,_,r⟩
 go_wp2;go_ret;refine⟨rfl,?_,?_⟩
 ·exact Lib.BuilderAt.put C i (bs':=n++ [.int .u8 c]) avY Od
 ·exact(l.grown d (by have:=l.size;omega) (fun k F=>(j.lt k F).1)).setCell C _
end Go.Proofs.YtadbchhdjbghkaaGreatDoor
