/- Texts of the proof, part 15. -/
import Derived.Test.YtadbchhdjbghkaaGreatDoorA14
namespace Go.Proofs.YtadbchhdjbghkaaGreatDoor
set_option maxHeartbeats 8000000
set_option linter.all false
set_option maxRecDepth 100000
variable{aq:Prop}
open Go.RowKit Go.Lib Go.Maps Go.ChangeShapes Go.WideShapes Go.ChangeAt Go.Proofs.Tryz
variable{a b c d e f g h:Nat}{i j k l:List Nat}{m n o:World}{p q r s:Value}{t u v:List Value}{w x:TypeId}{y z:Nat→Option Nat}{A:Nat→List Nat}{B C:Int}{E F:Option Addr}{H I:Rat}{J:Nat→Nat}{K:Nat→Bool}{L:List Int}{N:Array Bool}{O:Option Nat}{Q:Act}{R S:Bool}{T:List UInt8}
def iW(P:Nat->Bool)(n:Nat):Int:=match (List.range n).find? P with
 |some k=>(k:Int)
 |none=> -1
def ajy(e:b<a)(c:K b=true)(f:∀k,k<b->K k=false):(List.range a).find? K=some b:=by rw[YG];exact⟨c,by simpa using e,fun k d=>by rw[f k d];rfl⟩
def aoR(c:∀k,k<a->K k=false):(List.range a).find? K=none:=by rw[Az];intro k b;rw[c k awr];simp
def H7(d:b<a)(c:K b=true)(e:∀k,k<b->K k=false):iW K a=(b:Int):=by unfold iW;rw[ajy d c e]
def H8(b:∀k,k<a->K k=false):iW K a= -1:=by unfold iW;rw[aoR b]
def Mw{P:Nat->Bool}{n:Nat}:decide (iW P n≥0)=(List.range n).any P:=by
 unfold iW;cases h:(List.range n).find? P with
 |some k=>have a:=z_ h;have b:=yh h;rw[o9.2 ⟨k,a,b⟩];exact decide_eq_true (Int.natCast_nonneg k)
 |none=>have a:=Az.1 h;rw[show(List.range n).any P=false from P8.2 a];rfl
def acu(a:FuncId)(hid:∀d w,(callFunc a d).run prog w= .ok (.enter a d) w)(i f:Value)(b:Nat->Value)(P:Nat->Bool)(I:World->Prop)(A:aR)(n c:Nat)(w:au)(h0:I w)(l:n<=c)(hm:c<=maxLen)
 (hV:∀W k,I W->k<n->∃g o,A=some ⟨g,o,none⟩/\W.cell? ⟨g,o+k,none⟩=some (b k))
 (hF:∀W k,I W->k<n->Calls prog a #[b k,i,f] W fun e w'=>e= .returned (.bool (P k))/\I w'):
 Calls prog 225 #[.slice A n c,.func (.func a) #[] #[i,f]] w fun e w'=>e= .returned (.int .i64 (iW P n))/\I w':=by
 exact m15
def acs(a:FuncId)(hid:∀d w,(callFunc a d).run prog w= .ok (.enter a d) w)(l i f:Value)(b:Nat->Value)(P:Nat->Bool)(I:World->Prop)(A:aR)(n c:Nat)(w:au)(h0:I w)(m:n<=c)(hm:c<=maxLen)
 (hV:∀W k,I W->k<n->∃g o,A=some ⟨g,o,none⟩/\W.cell? ⟨g,o+k,none⟩=some (b k))
 (hF:∀W k,I W->k<n->Calls prog a #[b k,l,i,f] W fun e w'=>e= .returned (.bool (P k))/\I w'):
 Calls prog 225 #[.slice A n c,.func (.func a) #[] #[l,i,f]] w fun e w'=>e= .returned (.int .i64 (iW P n))/\I w':=by
 exact m15
def acv(d:FuncId)(hid:∀i w,(callFunc d i).run prog w= .ok (.enter d i) w)(x:Value)(f:Nat->Value)(P:Nat->Bool)(I:World->Prop)(A:aR)(n c:Nat)(w:au)(B:I w)(K:n<=c)(E:c<=maxLen)
 (y:∀W k,I W->k<n->∃g o,A=some ⟨g,o,none⟩/\W.cell? ⟨g,o+k,none⟩=some (f k))
 (hF:∀W k,I W->k<n->Calls prog d #[f k,x] W fun e p=>e= .returned (.bool (P k))/\I p):
 Calls prog 180 #[.slice A n c,.func (.func d) #[] #[x]] w fun e p=>e= .returned (.int .i64 (iW P n))/\I p:=by
 have G:=af y;have H:=af hF;have D:c<=9223372036854775807:=E;have s:=af B;clear y hF B;go_enter func180,ntmps180;go_upto_region 2 with fail
 have u:ah (∀k,k<0->P k=false):=fun k hk=>by omega
 go_loopw [5,8] (fun _ r wr=>∃j:Nat,j<=n/\r= .int .i64 j/\ah (I wr)/\ah (∀k,k<j->P k=false)) (fun _ r _=>n - (RowKit.intOf r).toNat)
 exact⟨0,aV _,rfl,s,u⟩;obtain⟨j,J,rfl,t,HB⟩:=hrel;by_cases l:j<n
 ·obtain⟨g,o,F,a⟩:=G _ _ t l;try obtain⟨a,q⟩:=a
  have C:=H _ _ t l;subst F;go_wp2_with fail;refine C.mono ?_;rintro e p ⟨rfl,z⟩;have mL:=af z;clear z C a;cases hp:P j with
  |true=>have b:=H7 l hp HB;go_wp2;exact bodyPost_ret (v:= .int .i64 j) (by simp [results,results180,go_sem]) rfl ⟨by rw[b],mL⟩
  |false=>clear hid;exact NN
 ·have d1:decide ((j:Int)<(n:Int))=false:=aY;have m:j=n:=Om;subst m;have b:=H8 HB;go_wp2;exact bodyPost_ret (v:= .int .i64 (-1)) (by simp [results,results180,go_sem]) rfl ⟨by rw[b],t⟩
def anb(d:FuncId)(hid:∀f w,(callFunc d f).run prog w= .ok (.enter d f) w)(x u:Value)(D C:Nat->Value)(P:Nat->Bool)(I:World->Prop)(A:aR)(n c:Nat)(w:au)(B:I w)(M:n<=c)(G:c<=maxLen)
 (y:∀W k,I W->k<n->∃g o,A=some ⟨g,o,none⟩/\(W.cell? ⟨g,o+k*2,none⟩=some (D k)/\W.cell? ⟨g,o+k*2+1,none⟩=some (C k)))
 (hF:∀W k,I W->k<n->Calls prog d #[.agg #[D k,C k],x,u] W fun e m=>e= .returned (.bool (P k))/\I m):
 Calls prog 296 #[.slice A n c,.func (.func d) #[] #[x,u]] w fun e m=>e= .returned (.int .i64 (iW P n))/\I m:=by
 have J:=af y;have K:=af hF;have F:c<=9223372036854775807:=G;have r:=af B;clear y hF B;go_enter func296,ntmps296;go_upto_region 2 with fail
 have t:ah (∀k,k<0->P k=false):=fun k hk=>by omega
 go_loopw [5,8] (fun _ q wr=>∃j:Nat,j<=n/\q= .int .i64 j/\ah (I wr)/\ah (∀k,k<j->P k=false)) (fun _ q _=>n - (RowKit.intOf q).toNat)
 exact⟨0,aV _,rfl,r,t⟩;obtain⟨j,L,rfl,s,HB⟩:=hrel;by_cases i:j<n
 ·obtain⟨g,o,H,a⟩:=J _ _ s i;try obtain⟨a,p⟩:=a
  have E:=K _ _ s i;subst H;go_wp2_with fail;refine E.mono ?_;rintro e m ⟨rfl,z⟩;have mL:=af z;clear z E a;cases hp:P j with
  |true=>have b:=H7 i hp HB;go_wp2;exact bodyPost_ret (v:= .int .i64 j) (by simp [results,results296,go_sem]) rfl ⟨by rw[b],mL⟩
  |false=>clear hid;exact NN
 ·have d1:decide ((j:Int)<(n:Int))=false:=aY;have l:j=n:=Om;subst l;have b:=H8 HB;go_wp2;exact bodyPost_ret (v:= .int .i64 (-1)) (by simp [results,results296,go_sem]) rfl ⟨by rw[b],s⟩
def anB(a:FuncId)(hid:∀d w,(callFunc a d).run prog w= .ok (.enter a d) w)(i h:Value)(l j:Nat->Value)(P:Nat->Bool)(I:World->Prop)(A:aR)(n c:Nat)(w:au)(r:I w)(t:n<=c)(s:c<=maxLen)
 (p:∀W k,I W->k<n->∃g o,A=some ⟨g,o,none⟩/\(W.cell? ⟨g,o+k*2,none⟩=some (l k)/\W.cell? ⟨g,o+k*2+1,none⟩=some (j k)))
 (hF:∀W k,I W->k<n->Calls prog a #[.agg #[l k,j k],i,h] W fun e f=>e= .returned (.bool (P k))/\I f):
 Calls prog 265 #[.slice A n c,.func (.func a) #[] #[i,h]] w fun e f=>e= .returned (.bool ((List.range n).any P))/\I f:=by
 have x:=af (anb a hid i h l j P I A n c w r t s p hF);clear p hF r hid;have m:=Mw (P:=P) (n:=n);generalize(List.range n).any P=b at*;generalize iW P n=z at*;go_enter func265,ntmps265;go_wp2_with fail
 refine x.mono ?_;rintro e f ⟨rfl,q⟩;have u:=af q;clear q;go_wp2;exact bodyPost_ret (v:= .bool b) (by simp [results,results265,go_sem]) rfl ⟨rfl,u⟩
def RJ{g:Nat}{t:TypeId}:∀(b:List Value) {w:au} {o:Nat} {l:List Value},ar w g t l->∃a,ar (w.setCells g o b) g t a/\a.length=l/\a.take o=l.take o/\Only g w (w.setCells g o b)
 | [],w,o,l,h=>⟨l,h,rfl,rfl,ig g w⟩
 |v::r,w,o,l,h=>by obtain⟨a,i,f,e,d⟩:=RJ r (o:=o+1) (h.bu o v);refine⟨a,i,by rw[f,sR],?_,((ig g w).bu o v).trans d⟩;have c:=congrArg (List.take o) e;rw[LB,LB,iR (lK o),List.take_set_of_le (aK _)] at c;exact c
def aaM{v:Value}(b:a<t):(t.set a v).take (a+1)=t.take a++ [v]:=by rw[fg (by rw[sR];exact b),List.getElem_set_self,List.take_set_of_le (aK _)]
def aj'(w:au)(a:TypeId)(b o n c:Nat)(d:0<n)(f:∀j,j<n->(w.cell? ⟨b,o+j,none⟩).isSome=true)(e:∀j,j<n->w.frozen? ⟨b,o+j,none⟩=false):
 (Builtin.clear_ #[rr] a #[.slice (some ⟨b,o,none⟩) n c]).run prog w= .ok (.tuple #[]) (w.setCells b o (List.replicate n (.string ⟨#[]⟩))):=
 Lib.run_clear_slice w rr bJ a (.string ⟨#[]⟩) underlying44 (fun w=>by kernel_rfl) rfl rfl b o n c d f e
def q85.k66(h:aq:=by
 have CI:=acs a hid n m f (fun k=>((l.map (fun v:aD=>Value.string ⟨v.toArray⟩))[k]?).getD undef) pr (fun W=>I W/\ar W g bJ (l.map (fun v:aD=>Value.string ⟨v.toArray⟩)++rest)) (some ⟨g,0,none⟩) l.length c w ⟨h0,hB⟩ q hm
  (fun W k h hk=>⟨g,0,rfl,by rw[ja,F6 W k h.2 hk,dL,aX hk];rfl⟩)
  (fun W k h hk=>by have h1:=hF W l[k] _ h.1 (a_ hk) h.2;rw[dL,aX hk,C9 k hk];exact h1.mono fun e w' p=>⟨p.1,p.2.1,p.2.2⟩)
 exact m2):=h
def anq(a:FuncId)(hid:∀b w,(callFunc a b).run prog w= .ok (.enter a b) w)(n m f:Value)(Q:aD->Bool)(I:World->Prop)(g c:Nat)(l:List aD)(rest:List Value)(w:au)(h0:I w)(hB:ar w g bJ (l.map (fun v:aD=>Value.string ⟨v.toArray⟩)++rest))(q:l<=c)(hm:c<=maxLen)
 (hC:∀W W',I W->Only g W W'->I W')
 (hF:∀W v ys,I W->v∈l->ar W g bJ ys->Calls prog a #[(fun v:aD=>Value.string ⟨v.toArray⟩) v,n,m,f] W fun e w'=>e= .returned (.bool (Q v))/\I w'/\ar w' g bJ ys):
 Calls prog 189 #[.slice (some ⟨g,0,none⟩) l c,.func (.func a) #[] #[n,m,f]] w fun e w'=>e= .returned (.slice (some ⟨g,0,none⟩) (l.filter fun v=> !Q v) c)/\I w'/\∃d,ar w' g bJ ((l.filter fun v=> !Q v).map (fun v:aD=>Value.string ⟨v.toArray⟩)++d):=by
 open q85 in exact m66
def acH(d:FuncId)(hid:∀f w,(callFunc d f).run prog w= .ok (.enter d f) w)(i:Value)(a:Nat->Value)(P:Nat->Bool)(I:World->Prop)(A:aR)(n c:Nat)(w:au)(p:I w)(r:n<=c)(q:c<=maxLen)
 (l:∀W k,I W->k<n->∃g o,A=some ⟨g,o,none⟩/\W.cell? ⟨g,o+k,none⟩=some (a k))
 (hF:∀W k,I W->k<n->Calls prog d #[a k,i] W fun e h=>e= .returned (.bool (P k))/\I h):
 Calls prog 118 #[.slice A n c,.func (.func d) #[] #[i]] w fun e h=>e= .returned (.bool ((List.range n).any P))/\I h:=by
 have t:=af (acv d hid i a P I A n c w p r q l hF);clear l hF p hid;have j:=Mw (P:=P) (n:=n);generalize(List.range n).any P=b at*;generalize iW P n=z at*;go_enter func118,ntmps118;go_wp2_with fail
 refine t.mono ?_;rintro e h ⟨rfl,m⟩;have s:=af m;clear m;go_wp2;exact bodyPost_ret (v:= .bool b) (by simp [results,results118,go_sem]) rfl ⟨rfl,s⟩
def q86.k66(h:aq:=by
 have CI:=acu a hid m f (fun k=>((l.map (fun v:aD=>Value.string ⟨v.toArray⟩))[k]?).getD undef) pr (fun W=>I W/\ar W g bJ (l.map (fun v:aD=>Value.string ⟨v.toArray⟩)++rest)) (some ⟨g,0,none⟩) l.length c w ⟨h0,hB⟩ p hm
  (fun W k h hk=>⟨g,0,rfl,by rw[ja,F6 W k h.2 hk,dL,aX hk];rfl⟩)
  (fun W k h hk=>by have h1:=hF W l[k] _ h.1 (a_ hk) h.2;rw[dL,aX hk,C9 k hk];exact h1.mono fun e w' n=>⟨n.1,n.2.1,n.2.2⟩)
 exact m2):=h
def ans(a:FuncId)(hid:∀b w,(callFunc a b).run prog w= .ok (.enter a b) w)(m f:Value)(Q:aD->Bool)(I:World->Prop)(g c:Nat)(l:List aD)(rest:List Value)(w:au)(h0:I w)(hB:ar w g bJ (l.map (fun v:aD=>Value.string ⟨v.toArray⟩)++rest))(p:l<=c)(hm:c<=maxLen)
 (hC:∀W W',I W->Only g W W'->I W')
 (hF:∀W v ys,I W->v∈l->ar W g bJ ys->Calls prog a #[(fun v:aD=>Value.string ⟨v.toArray⟩) v,m,f] W fun e w'=>e= .returned (.bool (Q v))/\I w'/\ar w' g bJ ys):
 Calls prog 189 #[.slice (some ⟨g,0,none⟩) l c,.func (.func a) #[] #[m,f]] w fun e w'=>e= .returned (.slice (some ⟨g,0,none⟩) (l.filter fun v=> !Q v) c)/\I w'/\∃d,ar w' g bJ ((l.filter fun v=> !Q v).map (fun v:aD=>Value.string ⟨v.toArray⟩)++d):=by
 open q86 in exact m66
def alb(w:au)(a:TypeId)(b o n c:Nat)(d:0<n)(f:∀j,j<n->(w.cell? ⟨b,o+j,none⟩).isSome=true)(e:∀j,j<n->w.frozen? ⟨b,o+j,none⟩=false):
 (Builtin.clear_ #[cI] a #[.slice (some ⟨b,o,none⟩) n c]).run prog w= .ok (.tuple #[]) (w.setCells b o (List.replicate n (.int .i64 0))):=
 Lib.run_clear_slice w cI aS a (.int .i64 0) underlying22 (fun w=>by kernel_rfl) rfl rfl b o n c d f e
def ant(r:FuncId)(hid:∀A w,(callFunc r A).run prog w= .ok (.enter r A) w)(p1:Value)(Q:Int->Bool)(I:World->Prop)(g c:Nat)(l:List Int)(rest:List Value)(w:au)(h0:I w)(hB:ar w g aS (l.map (fun v:Int=>Value.int .i64 v)++rest))(hc:l<=c)(hm:c<=maxLen)
 (hC:∀W W',I W->Only g W W'->I W')
 (hF:∀W v J,I W->v∈l->ar W g aS J->Calls prog r #[(fun v:Int=>Value.int .i64 v) v,p1] W fun e z=>e= .returned (.bool (Q v))/\I z/\ar z g aS J):
 Calls prog 233 #[.slice (some ⟨g,0,none⟩) l c,.func (.func r) #[] #[p1]] w fun e z=>e= .returned (.slice (some ⟨g,0,none⟩) (l.filter fun v=> !Q v) c)/\I z/\∃B,ar z g aS ((l.filter fun v=> !Q v).map (fun v:Int=>Value.int .i64 v)++B):=by
 obtain⟨C,E⟩:∃C:Nat->Bool,C=fun k=>(l[k]?.map Q).getD false:=⟨_,rfl⟩;have p:∀k (a:k<l.length),C k=Q l[k]:=fun k a=>by rw[E];simp only[aX a];rfl
 have U:∀W k,ar W g aS (l.map (fun v:Int=>Value.int .i64 v)++rest)->(a:k<l.length)->W.cell? ⟨g,k,none⟩=some ((fun v:Int=>Value.int .i64 v) l[k]):=fun W k h a=>h.cell (by rw[nM (by rw[bW];exact a),dL,aX a];rfl);have CI:=acv r hid p1 (fun k=>((l.map (fun v:Int=>Value.int .i64 v))[k]?).getD undef) C (fun W=>I W/\ar W g aS (l.map (fun v:Int=>Value.int .i64 v)++rest)) (some ⟨g,0,none⟩) l.length c w ⟨h0,hB⟩ hc hm
  (fun W k h a=>⟨g,0,rfl,by rw[ja,U W k h.2 a,dL,aX a];rfl⟩)
  (fun W k h a=>by have x:=hF W l[k] _ h.1 (a_ a) h.2;rw[dL,aX a,p k a];exact x.mono fun e z hh=>⟨hh.1,hh.2.1,hh.2.2⟩)
 have H:=af CI;have HF:=af hF;have HW:=af hC;have nu:c<=9223372036854775807:=hm;have JQ:(l.map (fun v:Int=>Value.int .i64 v)++rest).length=(l.map (fun v:Int=>Value.int .i64 v)++rest).length:=rfl;clear CI hF hC U;generalize D:l.map (fun v:Int=>Value.int .i64 v)++rest=b at*;have G:=af D;have hL0:l<=b.length:=by rw[<-D,bC,bW];omega
 clear D JQ;rcases d:(List.range l).find? C with _|n
 ·have N:iW C l= -1:=by unfold iW;rw[d]
  have S:l.filter (fun v=> !Q v)=l:=Lj.2 fun v hv=>by obtain⟨k,a,rfl⟩:=iQ hv;have x:=Az.1 d k avY;rw[p k a] at x;simpa using x
  rw[N] at H;have tQ:=af S;clear d N E p S;go_enter func233,ntmps233;go_wp2_with fail
  refine H.mono ?_;rintro e z ⟨rfl,Z,f⟩;have s:=af Z;have u:=af f;clear Z f;go_wp2;exact bodyPost_ret (v:= .slice (some ⟨g,0,none⟩) l c) (by simp [results,results233,go_sem]) rfl ⟨by rw[tQ.ae],s,rest,by rw[tQ.ae,G.ae];exact u.ae⟩
 ·have P:n<l.length:=by simpa using z_ d
  have N:iW C l.length=(n:Int):=by unfold iW;rw[d]
  have O:Q l[n]=true:=by rw[<-p n P];exact yh d
  have V:∀k (a:k<l.length),k<n->Q l[k]=false:=fun k a q=>by have x:=(YG.1 d).2.2 k q;rw[p k a] at x;simpa using x
  have T:(l.take (n+1)).filter (fun v=> !Q v)=l.take n:=(by rw[fg P,qO,qR,O];simp only[Em,Bool.false_eq_true,if_false,Lx,i7];refine Lj.2 fun v hv=> ?_;obtain⟨k,a,rfl⟩:=iQ hv;rw[cJ] at a;rw[D9,V k Om Om];rfl);have hne:((n:Int)== -1)=false:=beq_eq_false_iff_ne.2 Om;rw[N] at H;have KD:=af T;clear d N E p O V T h0 hB;go_enter func233,ntmps233;go_wp2_with fail
  refine H.mono ?_;rintro e z ⟨rfl,Z,f⟩;have s:=af Z;have u:=af f;clear Z f;go_upto_region 5 with fail
  have zX:ah (b.take n=((l.take (n+1)).filter fun v=> !Q v).map (fun v:Int=>Value.int .i64 v)):=(by rw[ah,KD.ae,<-G.ae,Lb avZ,El]);have Ky:ah (((l.take (n+1)).filter fun v=> !Q v)=n):=by rw[ah,KD.ae,cJ];omega
  go_loopw [5,6,7] (fun v5 v6 _ wr=>∃(i j:Nat) (m:List Value),i<j/\j<=l/\v5= .int .i64 i/\v6= .int .i64 j/\m.length=b/\ah (m.take i=((l.take j).filter fun v=> !Q v).map (fun v:Int=>Value.int .i64 v))/\ah (((l.take j).filter fun v=> !Q v)=i)/\ah (m.drop j=b.drop j)/\ah (ar wr g aS m)/\ah (I wr)) (fun _ v6 _ _=>l - (RowKit.intOf v6).toNat)
  exact⟨n,n+1,b,by omega,by omega,rfl,by go_num,rfl,zX,Ky,rfl,u,s⟩;obtain⟨i,j,m,VP,kt,rfl,rfl,L,HA,HL,HD,HB,H⟩:=hrel;by_cases q:j<l
  ·have M:m[j]? =some ((fun v:Int=>Value.int .i64 v) l[j]):=by
    have x:(m.drop j)[0]? =(b.drop j)[0]?:=by rw[HD.ae]
    rw[D8,D8] at x;rw[show m[j]? =b[j]? from x,<-G.ae,nM (by rw[bW];exact q),dL,aX q];rfl
   have CF:=af (HF _ _ _ H (a_ q) HB);have Di:=HB.cell M;have HT:ah (l.take (j+1)=l.take j++ [l[j]]):=fg q;have DX:ah (∀J:List Value,J.drop j=b.drop j->J.drop (j+1)=b.drop (j+1)):=fun J h=>by have:=congrArg (List.drop 1) h;rwa[yi,yi] at this
   generalize l[j]=v at*;have hji:(0:Int)<=(j:Int):=Om;clear M;go_wp2_with fail
   refine CF.mono ?_;rintro e w2 ⟨rfl,Y,zB⟩;have qH:=af Y;have y:=af zB;clear Y zB Di;cases hq:Q v with
   |true=>have t:ah ((l.take (j+1)).filter (fun v=> !Q v)=(l.take j).filter fun v=> !Q v):=awf;go_wp2;go_roundw;exact⟨i,j+1,m,by omega,by omega,rfl,by go_num,L,by rw[t.ae];exact HA,by rw[t.ae];exact HL,DX.ae _ HD,y,qH⟩;simp [RowKit.intOf];omega
   |false=>
    have t:ah ((l.take (j+1)).filter (fun v=> !Q v)=((l.take j).filter fun v=> !Q v)++ [v]):=awf;have R:i<m.length:=Om;have zy:=y.cell (aX R);have d:=y.frozen i;obtain⟨W',X,B7,K7,N7⟩:=gG (i:=i) y ((fun v:Int=>Value.int .i64 v) v);have xH:=af (HW _ _ qH N7);have Dv:=af X;have Kf:=af (aaM (v:=(fun v:Int=>Value.int .i64 v) v) R);have mM:ah ((m.set i ((fun v:Int=>Value.int .i64 v) v)).drop j=m.drop j):=List.drop_set_of_lt VP;generalize m[i]=old at*;clear X K7 N7;go_upto_region 10 with fail
    rw[Dv.ae];go_wp2;go_roundw;exact⟨i+1,j+1,_,by omega,by omega,by go_num,by go_num,by rw[sR];exact L,by rw[ah,Kf.ae,HA.ae,t.ae,kD];rfl,by rw[ah,t.ae,bC,HL.ae];rfl,DX.ae _ (mM.trans HD),B7,xH⟩;simp [RowKit.intOf];omega
  ·have JB:j=l.length:=Om;subst JB;have d1:decide ((l.length:Int)<(l.length:Int))=false:=aY;have kY:ah (m.take i=(l.filter fun v=> !Q v).map (fun v:Int=>Value.int .i64 v)):=by have h:=HA.ae;rw[fj] at h;exact h
   have sj:ah ((l.filter fun v=> !Q v)=i):=by have h:=HL.ae;rw[fj] at h;exact h
   obtain⟨zs',f,arG,K,F⟩:=RJ (List.replicate (l - i) (.int .i64 0:Value)) (o:=i) HB;have jv:∀ty,(Builtin.clear_ #[cI] ty #[.slice (some ⟨g,i,none⟩) (l - i) (c - i)]).run prog wr= .ok (.tuple #[]) (wr.setCells g i (List.replicate (l - i) (.int .i64 0:Value))):=fun ty=>alb wr ty g i (l - i) (c - i) Om (fun k a=>by rw[HB.cell (aX (show i+k<m.length by omega))];rfl) (fun k a=>HB.frozen _);have u:=af f;have qG:=af F;have s:=af (HW _ _ H F);clear f F;go_wp2_with (simp only[jv])
   exact bodyPost_ret (v:= .slice (some ⟨g,0,none⟩) i c) (by simp [results,results233,go_sem]) rfl ⟨by rw[sj.ae],s,zs'.drop i,by rw[<-kY.ae,<-K,sJ];exact u.ae⟩
structure J1(oN oS:Nat)(w:au)(xb jb nb sb:Nat)(x:aP)(T:List (List Rw))(cur:Nat->aD)(on:Nat->Bool):Prop where
 st:xe oN oS w xb jb nb sb x cur on
 tb:∃A c,aA w jb 4 (.slice A T.length c)/\ah (iP w (.slice A T.length c) T)
def Z3{α:Type}{f:α->Bool}{l:List α}(h:∀k (a:k<l.length),K k=f l[k]):(List.range l.length).any K=l.any f:=by
 rw[lI,o9,o9];constructor
 ·rintro⟨k,a,b⟩;have a:=dB.1 a;exact⟨_,a_ a,by rw[<-h k a];exact b⟩
 ·rintro⟨y,c,b⟩;obtain⟨k,a,rfl⟩:=iQ c;exact⟨k,dB.2 a,by rw[h k a];exact b⟩
def Je(w:au)(A:aR)(k:Nat):Value:=match A with
 |some a=>(w.cell? (aC a.block (a.off+k*2))).getD undef
 |none=>undef
def Jd(w:au)(A:aR)(k:Nat):Value:=match A with
 |some a=>(w.cell? (aC a.block (a.off+k*2+1))).getD undef
 |none=>undef
def mH.rc{l:List Rw}(h:mH m (.slice E a b) l)(p:c<l):
 ∃g o B d,E=dC g o/\g<m.heap.size/\aA m g (o+c*2) (Je m E c)/\aA m g (o+c*2+1) (Jd m E c)/\Je m E c= .slice B l[c].1 d/\Jd m E c=av l[c].2/\TL m (.slice B l[c].1 d) l[c].1:=by
 obtain⟨g,o,B,d,rfl,q,f,e,r⟩:=yS h p;have j:Je m (dC g o) c= .slice B l[c].1 d:=by unfold Je;simp only[f];rfl
 have i:Jd m (dC g o) c=av l[c].2:=by unfold Jd;simp only[e];rfl
 exact⟨g,o,B,d,rfl,q,by rw[j];exact f,by rw[i];exact e,j,i,r⟩
def adx(h:aq:=by
 have CA:=af (fun W (hX:Ext w W)=>Jc xb jb nb sb i x cur on r Bk dk vs wt W (h.ext hX) hr oB hv (fu hT hX));have hdk:=bD hT;clear h hr oB hv hT;go_enter aen,ael;go_upto_region 1 with fail
 refine aT fun W HX BY=> ?_;have KT:=af (CA W HX);obtain⟨q0,q1⟩:=BY.two;have c1:=(HX.cell (p:=aC bx 0) l6).trans hx;have c2:=(HX.cell (p:=aC bi 0) hbi).trans hi;clear hx hi;go_wp2_with fail
 refine KT.mono ?_;rintro e w2 ⟨rfl,JO⟩;have aZ:=af (HX.trans JO);clear JO q0 q1 c1 c2 BY;go_wp2;exact bodyPost_ret (v:= .bool (dV on cur (b9 r.2) vs)) (by simp [results,aek,go_sem]) rfl ⟨rfl,aZ⟩):=h
def adw(h:aq:=by
 have iM:i<T.length:=by
  rcases cA i T with h|h
  ·exact h
  ·rw[fF h] at hl;cases hl
 have hle:T[i]=l:=by rw[aX iM] at hl;injection hl
 have HST:=af h.st;obtain⟨At,ct,rM,HT⟩:=h.tb;have kt:=h.st.jn;have rL:=h.st.xl;have dI:=h.st.jl;obtain⟨gi,oi,A1,c1,hA,lB,OW,lY⟩:=iP.get HT iM;rw[hle] at lY OW;obtain⟨-,ht2,ht3⟩:=bD HT;obtain⟨-,hl2,hl3⟩:=bD OW;subst hA;have sj:=af OW.ae;have HV:=af hv;clear h hle OW hv hl;generalize T.length=TN at*;have jA:=af (fun(bx bi:Nat) (Bk:aR) (dk:Nat) (vs:List aD) (wt:Int) (w:au) (h:xe om oh w xb jb nb sb x cur on)=>aej xb jb nb sb i bx bi x cur on r Bk dk vs wt w h hr oB);clear hr oB;go_enter y7,y6;go_upto_region 1 with fail
 refine fR fun W HX B2 B3=> ?_;have HJ:=af ((HX.cell (p:=aC xb 0) rL).trans kt);have HTb:=af ((HX.cell (p:=aC jb 4) dI).trans rM);have vh:=af ((HX.cell (p:=aC gi (oi+i)) lB).trans lY);have HSW:=af (HST.ext HX);have HLW:=af (yT sj HX);have hb0:=B2.lt;have hb1:=B3.lt;have rZ:=af (B2.aF 0);have u_:=af (B3.aF 0);have avg:=cF lB HX.size;have auI:=cF rL HX.size;have au9:=cF dI HX.size;clear kt rM lY B2 B3 lB rL dI;generalize w.heap.size=bb at*;obtain⟨S,eQ⟩:∃S:World->Prop,S=fun w'=>aA w' bb 0 (aI xb 0)/\aA w' (bb+1) 0 (av i)/\aA w' xb 0 (aI jb 0)/\aA w' jb 4 (aG gi oi TN ct)/\aA w' gi (oi+i) (.slice A1 l c1):=⟨_,rfl⟩;have bO:ah (∀w',S w'->aA w' bb 0 (aI xb 0)/\aA w' (bb+1) 0 (av i)/\aA w' xb 0 (aI jb 0)/\aA w' jb 4 (aG gi oi TN ct)/\aA w' gi (oi+i) (.slice A1 l c1)):=avQ;have xk:ah (Ext W W.drew):=(aB W).drew;have aH:ah (S W.drew):=by rw[ah,eQ];exact⟨rZ,u_,HJ,HTb,vh⟩
 clear eQ;have GJ:=af (anB aem (fun _ _=>by rfl) (aI bb 0) (aI (bb+1) 0) (Je W A1) (Jd W A1) (fun k=>dV on cur (b9 r.2) (l[k]?.getD ([],0)).1) (fun W'=>Ext W W') A1 l c1 W.drew xk hl2 hl3
  (fun W' k hX hk=>by obtain⟨g,o,B,d,hA,hg,h1,h2,_⟩:=mH.rc HLW hk;exact⟨g,o,hA,(hX.cell (p:=aC g (o+k*2)) hg).trans h1,(hX.cell (p:=aC g (o+k*2+1)) hg).trans h2⟩)
  (fun W' k hX hk=>by obtain⟨g,o,B,d,hA,hg,h1,h2,e0,e1,h3⟩:=mH.rc HLW hk;rw[e0,e1,aX hk];exact(jA bb (bb+1) B d l[k].1 l[k].2 W' (HSW.ext hX) (HV _ (a_ hk)) (fu h3 hX) (cF hb0 hX.size) (cF hb1 hX.size) ((hX.cell (p:=aC bb 0) hb0).trans rZ.ae) ((hX.cell (p:=aC (bb+1) 0) hb1).trans u_.ae)).mono fun e w' hh=>⟨hh.1,hX.trans hh.2⟩))
 rw[Z3 (f:=fun y:Rw=>dV on cur (b9 r.2) y.1) (fun k hk=>by rw[aX hk];rfl)] at GJ;refine cD (S:=S) (T:=fun j=>decide (11<=j)) Ok ?_;generalize W.drew=wd at*;refine ax 0 5 ?_;refine ax 1 6 ?_;refine ax 2 7 ?_;refine ax 3 8 ?_;refine ax 4 9 ?_;refine ax 5 10 ?_;refine ax 6 11 ?_;refine ax 7 12 ?_;refine ax 8 13 ?_;refine ax 9 14 ?_;refine ax 10 15 ?_;refine aO 11 ?_;intro K hK;go_simp;refine GJ.mono ?_;rintro e8 w8 ⟨rfl,fV⟩;have j8:=af (HX.trans fV);refine hK.ae _ _ Oe ?_;clear hK fV;refine aO 12 ?_;intro K hK;go_simp;refine hK.ae _ _ Oe ?_;refine b_ Ok ?_;clear hK;go_wp2_with fail
 exact bodyPost_ret (v:= .bool (rD on cur (b9 r.2) l)) (by simp [results,rD,uz,go_sem]) rfl ⟨rfl,j8⟩):=h
abbrev MJ.aen:= @func266
abbrev MJ.ael:= @ntmps266
abbrev MJ.aek:= @results266
abbrev MJ.Jc:= @Sy
open MJ in
def ajK(xb jb nb sb i bx bi:Nat)(x:aP)(cur:Nat->aD)(on:Nat->Bool)(r:Rl)(Bk:aR)(dk:Nat)(vs:List aD)(wt:Int)(w:au)(h:xe 13 14 w xb jb nb sb x cur on)(hr:x.ay[i]? =some r)(oB:∀a∈r.2,0<=a/\a<(x.ai.length:Int))(hv:vs.length=r.2)(hT:TL w (.slice Bk vs dk) vs)
 (l6:bx<w.heap.size) (hbi:bi<w.heap.size) (hx:aA w bx 0 (aI xb 0)) (hi:aA w bi 0 (av i)):
 Calls prog 266 #[.agg #[.slice Bk vs dk,av wt],aI bx 0,aI bi 0] w fun e w'=>e= .returned (.bool (dV on cur (b9 r.2) vs))/\Ext w w':=adx
abbrev Bv.y7:= @func231
abbrev Bv.y6:= @ntmps231
abbrev Bv.uz:= @results231
abbrev Bv.aem:=(266:Nat)
abbrev Bv.aej:= @ajK
abbrev Bv.om:=(13:Nat)
abbrev Bv.oh:=(14:Nat)
open Bv in
def alx(xb jb nb sb i:Nat)(x:aP)(T:List (List Rw))(cur:Nat->aD)(on:Nat->Bool)(r:Rl)(l:List Rw)(w:au)(h:J1 13 14 w xb jb nb sb x T cur on)(hr:x.ay[i]? =some r)(hl:T[i]? =some l)(oB:∀a∈r.2,0<=a/\a<(x.ai.length:Int))(hv:∀y∈l,y.1.length=r.2.length):
 Calls prog 231 #[aI xb 0,av i] w fun e w'=>e= .returned (.bool (rD on cur (b9 r.2) l))/\Ext w w':=adw
abbrev MI.aen:= @func297
abbrev MI.ael:= @ntmps297
abbrev MI.aek:= @results297
abbrev MI.Jc:= @Su
open MI in
def ajv(xb jb nb sb i bx bi:Nat)(x:aP)(cur:Nat->aD)(on:Nat->Bool)(r:Rl)(Bk:aR)(dk:Nat)(vs:List aD)(wt:Int)(w:au)(h:xe 19 20 w xb jb nb sb x cur on)(hr:x.ay[i]? =some r)(oB:∀a∈r.2,0<=a/\a<(x.ai.length:Int))(hv:vs.length=r.2)(hT:TL w (.slice Bk vs dk) vs)
 (l6:bx<w.heap.size) (hbi:bi<w.heap.size) (hx:aA w bx 0 (aI xb 0)) (hi:aA w bi 0 (av i)):
 Calls prog 297 #[.agg #[.slice Bk vs dk,av wt],aI bx 0,aI bi 0] w fun e w'=>e= .returned (.bool (dV on cur (b9 r.2) vs))/\Ext w w':=adx
abbrev Bu.y7:= @func273
abbrev Bu.y6:= @ntmps273
abbrev Bu.uz:= @results273
abbrev Bu.aem:=(297:Nat)
abbrev Bu.aej:= @ajv
abbrev Bu.om:=(19:Nat)
abbrev Bu.oh:=(20:Nat)
open Bu in
def ali(xb jb nb sb i:Nat)(x:aP)(T:List (List Rw))(cur:Nat->aD)(on:Nat->Bool)(r:Rl)(l:List Rw)(w:au)(h:J1 19 20 w xb jb nb sb x T cur on)(hr:x.ay[i]? =some r)(hl:T[i]? =some l)(oB:∀a∈r.2,0<=a/\a<(x.ai.length:Int))(hv:∀y∈l,y.1.length=r.2.length):
 Calls prog 273 #[aI xb 0,av i] w fun e w'=>e= .returned (.bool (rD on cur (b9 r.2) l))/\Ext w w':=adw
def alv{α:Type} [Inhabited α](a:α->Value)(l b:List α)(rest:List Value)(c:b.length=l):Sort.putCells a 0 b.toArray (l.map a++rest).toArray=(b.map a++rest).toArray:=by
 apply Array.ext_getElem?
 intro i;unfold Sort.putCells;simp only[eR,Array.getElem?_mapIdx,List.size_toArray,aV,true_and,ja,Qt];rcases cA i b.length with h|h
 ·rw[nM avZ,nM avZ,dL,dL,aX (l:=l) (i:=i) Om];simp [h]
 ·rw[x4 avZ,x4 avZ,bW,bW,c];cases rest[i - l]? with
  |none=>rfl
  |some x=>simp [Nat.not_lt.2 (c▸h:l.length<=i)]
def abH{α:Type} [Inhabited α](b:α->Value){l zs:List α}{rest:List Value}(h:ar m a w (l.map b++rest))(k:zs.length=l)(n:Nat)(j:Array Obj):
 Only a m (Sort.grow (Sort.putRow b (Sort.ahead m n) a 0 zs.toArray) j)/\ar (Sort.grow (Sort.putRow b (Sort.ahead m n) a 0 zs.toArray) j) a w (zs.map b++rest):=by
 have c:(Sort.putRow b (Sort.ahead m n) a 0 zs.toArray).heap.size=m.heap.size:=(by unfold Sort.putRow Sort.mapBlock Sort.ahead;simp);have f:=h.lt;refine⟨⟨rfl,rfl,rfl,?_,fun i o d=> ?_⟩,?_⟩
 ·rw[Sort.size_grow,c];omega
 ·rw[Sort.heap_grow_old _ _ (by rw[c];exact o)];unfold Sort.putRow Sort.mapBlock Sort.ahead;simp only[YN];rw[if_neg (fun e=>d (by rw[e]))]
 ·unfold ar;rw[Sort.heap_grow_old _ _ (by rw[c];exact f)];unfold ar at h;unfold Sort.putRow Sort.mapBlock Sort.ahead;simp only[YN,if_true,h,Option.map_some,Sort.onCells,alv b l zs rest k]
def abn{α:Type} [Inhabited α](c:α->Value){l:List α}{rest:List Value}(e:ar m a w (l.map c++rest)):Sort.Holds c m a 0 l.toArray:=by intro j d;have b:j<l.length:=awq;refine⟨?_,e.frozen _⟩;rw[ja,e.cell (by rw[nM (by rw[bW];exact b),dL,aX b];rfl),getElem!_pos _ j d];simp
def aiu(l:List aD):Lib.compact (l.mergeSort fun x y=>decide (x<=y))=jH l:=by
 have B:∀x y:aD,(x<=y)↔¬y<x:=fun x y=>List.not_lt.symm;obtain⟨d,t⟩:∃d,d=(l.mergeSort fun x y=>decide (x<=y)):=⟨_,rfl⟩;have k:∀x y:aD,Op.bytesLess x y=decide (x<y):=Go.Proofs.bytesLess_eq;have m:d.Pairwise (fun x y=>x<=y):=by
  have h:=List.pairwise_mergeSort (le:=fun x y:aD=>decide (x<=y)) (fun a b c v u=>by
   simp only[decide_eq_true_eq] at*;exact List.le_trans v u) (fun a b=>by
   simp only[kE,decide_eq_true_eq];exact List.le_total a b) l
  rw[<-t] at h;exact h.imp fun h=>by simpa using h
 rw[<-t];have n:∀x,x∈d↔x∈l:=fun x=>by rw[t];exact List.mem_mergeSort
 have f:∀j (g:j<d.length),d.toArray[j]! =d[j]:=fun j g=>by rw[getElem!_pos d.toArray j (by simpa using g)];simp
 refine SN ?_ (Hw l) fun x=> ?_
 ·unfold Lib.compact Lib.compactUpTo;rw[Lq,List.pairwise_filter];refine List.Pairwise.imp_of_mem ?_ (List.pairwise_lt_range);intro i j q g C _ o;have q:=dB.1 q;have g:=dB.1 g;unfold Lib.keeps at o;have p:=of_decide_eq_true o;show Op.bytesLess _ _=true
  rw[f i q,f j g,k,decide_eq_true_eq];have s:d[j]≠d[j - 1]:=by
   rcases p with p|p
   ·omega
   ·rwa[f j g,f (j - 1) Om] at p
  have v:d[i]<=d[j - 1]:=by
   rcases cA i (j - 1) with h|h
   ·exact pT.1 m i (j - 1) q Om h
   ·have e:i=j - 1:=Om;subst e;exact List.le_refl _
  have u:d[j - 1]<=d[j]:=pT.1 m (j - 1) j Om g Om;have E:d[j - 1]<d[j]:=by
   by_cases h:d[j - 1]<d[j]
   ·exact h
   ·have G:Op.bytesLess d[j - 1] d[j]=false:=by rw[k];exact decide_eq_false h
    have F:Op.bytesLess d[j] d[j - 1]=false:=by rw[k];exact decide_eq_false (List.not_lt.2 u)
    exact absurd (vN.Fp _ _ F G) s
  exact List.lt_of_le_of_lt v E
 ·rw[yF,<-n];unfold Lib.compact Lib.compactUpTo;rw[dU];constructor
  ·rintro⟨j,g,rfl⟩;have g:=dB.1 (fp.1 g).1;rw[f j g];exact a_ g
  ·intro A;obtain⟨j,g,rfl⟩:=iQ A;have r:∀j (g:j<d.length),∃a∈(List.range d.length).filter (Lib.keeps d.toArray),d.toArray[a]! =d[j]:=by
    intro j;induction j with
    |zero=>exact fun g=>⟨0,fp.2 ⟨dB.2 g,by simp [Lib.keeps]⟩,f 0 g⟩
    |succ j z=>
     intro g;by_cases w:d[j+1]=d[j]
     ·obtain⟨a,D,e⟩:=z Om;exact⟨a,D,e.trans w.symm⟩
     ·refine⟨j+1,fp.2 ⟨dB.2 g,?_⟩,f _ g⟩;unfold Lib.keeps;refine decide_eq_true (.inr ?_);rw[f _ g,show j+1 - 1=j by omega,f j Om];exact w
   exact r j g
def aii:Go.Shelf.Ren:=⟨fun|194=>228|n=>n,fun|31=>rr|9=>bJ|4=>fH|3=>aS|0=>0|n=>n,fun|n=>n⟩
def ac7:Go.Proofs.Lays.n194 prog aii:={
 mixed:=Ok
 f194:=func228.trans (congrArg some Ok)
 t0:=underlying0
 a0:=Tryz.isAgg0
 z0:=Tryz.sizeOf0
 v0:=Tryz.zeroValue0
 t3:=underlying3
 a3:=Tryz.isAgg3
 z3:=Tryz.sizeOf3
 v3:=Tryz.zeroValue3
 t4:=underlying4
 a4:=Tryz.isAgg4
 z4:=Tryz.sizeOf4
 v4:=Tryz.zeroValue4
 t9:=underlying9
 a9:=Tryz.isAgg9
 z9:=Tryz.sizeOf9
 v9:=Tryz.zeroValue9
 t31:=underlying44
 a31:=Tryz.isAgg44
 z31:=Tryz.sizeOf44
 v31:=Tryz.zeroValue44}
def aka{l:List aD}{rest:List Value}(d:ar m a bJ (l.map encStr++rest))(h:l.length<=1000):
 Calls prog 227 #[aG a 0 l.length c] m fun e b=>e= .returned (.tuple #[])/\Only a m b/\ar b a bJ ((l.mergeSort fun x y=>decide (x<=y)).map encStr++rest):=by
 refine(Tryz.slices_Sort_string a 0 c l m (abn encStr d) d.lt Om).mono ?_;rintro e b ⟨rfl,n,f,rfl⟩;exact⟨rfl,abH encStr d (List.length_mergeSort _) n f⟩
def als{l:List aD}{rest:List Value}(k:ar m a bJ ((l.mergeSort fun x y=>decide (x<=y)).map encStr++rest))(s:l.length<=1000)(t:l.length<=c):
 Calls prog 228 #[aG a 0 l.length c] m fun e j=>e= .returned (aG a 0 (jH l).length c)/\Only a m j/\∃b,ar j a bJ ((jH l).map encStr++b):=by
 obtain⟨d,o⟩:∃d,d=(l.mergeSort fun x y=>decide (x<=y)):=⟨_,rfl⟩;have i:d.length=l.length:=by rw[o];exact List.length_mergeSort _
 have f:=aiu l;rw[<-o] at f k;have h:=Any.slices_Compact_string ac7 a 0 c d m (abn encStr k) Om Om;rw[i,f] at h;refine h.mono ?_;rintro e j ⟨rfl,q,rfl⟩;have r:(jH l).length<=l.length:=(by rw[<-f];unfold Lib.compact Lib.compactUpTo;rw[bW,<-i];exact a7 (mm _ _) (by rw[iG];exact aK _))
 have n:=abH encStr k (zs:=jH l++List.replicate (l.length - (jH l).length) []) (by rw[bC,Lg];omega) q #[];rw[Sort.grow_empty] at n;refine⟨rfl,n.1,(List.replicate (l.length - (jH l).length) []).map encStr++rest,?_⟩;have p:=n.2;rw[kD,ie] at p;exact p
structure Pa(x:aP)(T:List (List Rw)):Prop where
 len:T.length=x.ay.length
 ra:∀(i:Nat) (r:Rl),x.ay[i]? =some r->∀a∈r.2,0<=a/\a<(x.ai.length:Int)
 rl:∀(i:Nat) (r:Rl) (l:List Rw),x.ay[i]? =some r->T[i]? =some l->∀y∈l,y.1.length=r.2.length
def rC(x:aP)(T:List (List Rw))(cur:Nat->aD)(on:Nat->Bool)(i:Nat):Bool:=rD on cur (b9 ((x.ay[i]?.map (·.2)).getD [])) (T[i]?.getD [])
structure Yi(w0:au)(jb:Nat)(x:aP)(T:List (List Rw)):Prop where
 jl:jb<w0.heap.size
 jr:∃B d,w0.cell? ⟨jb,1,none⟩=some (.slice B x.ay.length d)/\ah (xh w0 (.slice B x.ay.length d) x.ay)
 tb:∃A c,w0.cell? ⟨jb,4,none⟩=some (.slice A T.length c)/\ah (iP w0 (.slice A T.length c) T)
 ok:Pa x T
structure en(oN oS:Nat)(tX:TypeId)(cs:List Value)(w0 w:au)(xb jb nb sb:Nat)(x:aP)(T:List (List Rw))(cur:Nat->aD)(on:Nat->Bool):Prop where
 kU:Yi w0 jb x T
 ex:Ext w0 w
 nl:w0.heap.size<=nb
 sl:w0.heap.size<=sb
 ne:nb≠sb
 xn:xb≠nb
 xs:xb≠sb
 sx:ar w xb tX cs
 c0:cs[0]? =some (.pointer (some ⟨jb,0,none⟩))
 cN:cs[oN]? =some (.slice (some ⟨nb,0,none⟩) x.ai.length x.ai.length)
 cS:cs[oS]? =some (.slice (some ⟨sb,0,none⟩) x.ai.length x.ai.length)
 nc:ar w nb bJ (s5 x.ai.length cur)
 sc:ar w sb fH (fG x.ai.length on)
section
variable{oN oS xb jb nb sb:Nat}{tX:TypeId}{cs:List Value}{w0 w w':au}{x:aP}{T:List (List Rw)}{cur:Nat->aD}{on:Nat->Bool}
theorem en.xl(h:en oN oS tX cs w0 w xb jb nb sb x T cur on):xb<w.heap.size:=h.sx.lt
theorem en.jn(h:en oN oS tX cs w0 w xb jb nb sb x T cur on):w.cell? ⟨xb,0,none⟩=some (.pointer (some ⟨jb,0,none⟩)):=h.sx.cell h.c0
theorem en.nw(h:en oN oS tX cs w0 w xb jb nb sb x T cur on):w.cell? ⟨xb,oN,none⟩=some (.slice (some ⟨nb,0,none⟩) x.ai x.ai):=h.sx.cell h.cN
theorem en.st(h:en oN oS tX cs w0 w xb jb nb sb x T cur on):w.cell? ⟨xb,oS,none⟩=some (.slice (some ⟨sb,0,none⟩) x.ai x.ai):=h.sx.cell h.cS
theorem en.tJ(h:en oN oS tX cs w0 w xb jb nb sb x T cur on):J1 oN oS w xb jb nb sb x T cur on:=by obtain⟨B,d,f,e⟩:=h.kU.jr;obtain⟨A,c,b,a⟩:=h.kU.tb;exact⟨⟨h.xl,cF h.kU.jl h.ex.size,h.jn,h.nw,h.st,h.nc,h.sc,B,d,(h.ex.cell h.kU.jl).trans f,bU nS e h.ex⟩,A,c,(h.ex.cell h.kU.jl).trans b,iP.ext a h.ex⟩
theorem en.drew(h:en oN oS tX cs w0 w xb jb nb sb x T cur on):en oN oS tX cs w0 w.drew xb jb nb sb x T cur on:=⟨h.kU,h.ex.drew,h.nl,h.sl,h.ne,h.xn,h.xs,h.sx,h.c0,h.cN,h.cS,h.nc,h.sc⟩
theorem en.ext(h:en oN oS tX cs w0 w xb jb nb sb x T cur on)(k:Ext w w'):en oN oS tX cs w0 w' xb jb nb sb x T cur on:=
 ⟨h.kU,h.ex.trans k,h.nl,h.sl,h.ne,h.xn,h.xs,h.sx.ext k,h.c0,h.cN,h.cS,h.nc.ext k,h.sc.ext k⟩
theorem en.past(h:en oN oS tX cs w0 w xb jb nb sb x T cur on)(k:Only a w w')(b:w0.heap.size<=a)(e:a≠xb)(d:a≠nb)(c:a≠sb):en oN oS tX cs w0 w' xb jb nb sb x T cur on:=
 ⟨h.kU,h.ex.only k b,h.nl,h.sl,h.ne,h.xn,h.xs,(k.block xb h.xl (by simpa using fP e)).trans h.sx,h.c0,h.cN,h.cS,
  (k.block nb h.nc.lt (by simpa using fP d)).trans h.nc,(k.block sb h.sc.lt (by simpa using fP c)).trans h.sc⟩
theorem en.Np(h:en oN oS tX cs w0 w xb jb nb sb x T cur on)(d:a<x.ai)(t:aD):∃b,w.setCell ⟨nb,a,none⟩ (.string ⟨t.toArray⟩)=b/\ah (en oN oS tX cs w0 b xb jb nb sb x T (put cur a t) on)/\ah (Only nb w b):=by
 obtain⟨b,e,c,_,f⟩:=gG (i:=a) h.nc (.string ⟨t.toArray⟩);rw[ai7 d] at c;have k:=f.ae;exact⟨b,e,⟨h.kU,h.ex.only k h.nl,h.nl,h.sl,h.ne,h.xn,h.xs,(k.block xb h.xl (by simpa using h.xn)).trans h.sx,h.c0,h.cN,h.cS,
  c,(k.block sb h.sc.lt (by simpa using fP h.ne)).trans h.sc⟩,k⟩
theorem en.Ck(h:en oN oS tX cs w0 w xb jb nb sb x T cur on)(g:a<x.ai)(b:Bool):∃d,w.setCell ⟨sb,a,none⟩ (.bool b)=d/\ah (en oN oS tX cs w0 d xb jb nb sb x T cur (fun c=>if c=a then b else on c))/\ah (Only sb w d):=by
 obtain⟨d,e,f,_,j⟩:=gG (i:=a) h.sc (.bool b);rw[L5 g] at f;have k:=j.ae;exact⟨d,e,⟨h.kU,h.ex.only k h.sl,h.nl,h.sl,h.ne,h.xn,h.xs,(k.block xb h.xl (by simpa using h.xs)).trans h.sx,h.c0,h.cN,h.cS,
  (k.block nb h.nc.lt (by simpa using h.ne)).trans h.nc,f⟩,k⟩
end
def acT{on:Nat->Bool}:(fun b=>if b=a then true else on b)=cQ on a:=by
 funext b
 unfold cQ;by_cases h:b=a<;>simp [h]
def RS{on:Nat->Bool}:(fun b=>if b=a then false else cQ on a b)=fun b=>if b=a then false else on b:=by
 funext b
 unfold cQ;by_cases h:b=a<;>simp [h]
def ao2{f:Nat->Bool}:((List.range i).any fun k=> !f (i[k]?.getD 0))= !i.all f:=by rw[Z3 (f:=fun a=> !f a) (fun k b=>by rw[aX b];rfl),lI];simp
def ad_(h:aq:=by
 have hit:i<T.length:=by rw[hT.len];exact hi
 have CS:=af (zsm xb jb nb sb i x T cur on x.ay[i] T[i] w h (aX hi) (aX hit) (hT.ra i _ (aX hi)) (hT.rl i _ _ (aX hi) (aX hit)));have he:rD on cur (b9 x.ay[i].2) T[i]=rC x T cur on i:=by unfold rC;rw[aX hi,aX hit];rfl
 rw[he] at CS;generalize rC x T cur on i=b at*;clear he h hT;go_enter adU,adS;go_wp2_with fail;refine CS.mono ?_;rintro e w2 ⟨rfl,JO⟩;have aZ:=af JO;clear JO hx;go_wp2;exact bodyPost_ret (v:= .bool (!b)) (by simp [results,adR,go_sem]) rfl ⟨rfl,aZ⟩):=h
def ad'(h:aq:=by
 obtain⟨n1,n2,n3,n4,n5,n6⟩:=hn;obtain⟨W1,hW1,bQ,gM⟩:=h.drew.Np hv t;obtain⟨W2,hW2,aZ,dY⟩:=bQ.Ck hv true;have kT:=(h.drew.nc.cell (Mb (cur:=cur) hv));have hfn:=h.drew.nc.frozen v;have hcs:=(bQ.sc.cell (pX (on:=on) hv));have uN:=bQ.sc.frozen v;rw[acT] at aZ;have jA:=af (((gT (S:= [nb,sb]) (aB w)).drew).only gM.ae (.inl Ou));have gD:=af (jA.only dY (.inl Ou));obtain⟨S,eQ⟩:∃S:World->Prop,S=fun w'=>w'.cell? ⟨bx,0,none⟩=some (.pointer (some ⟨xb,0,none⟩))/\w'.cell? ⟨bv,0,none⟩=some (.int .i64 v)/\w'.cell? ⟨xb,om,none⟩=some (.slice (some ⟨nb,0,none⟩) x.ai x.ai)/\w'.cell? ⟨xb,oh,none⟩=some (.slice (some ⟨sb,0,none⟩) x.ai x.ai):=⟨_,rfl⟩;have bO:ah (∀w',S w'->w'.cell? ⟨bx,0,none⟩=some (.pointer (some ⟨xb,0,none⟩))/\w'.cell? ⟨bv,0,none⟩=some (.int .i64 v)/\w'.cell? ⟨xb,om,none⟩=some (.slice (some ⟨nb,0,none⟩) x.ai x.ai)/\w'.cell? ⟨xb,oh,none⟩=some (.slice (some ⟨sb,0,none⟩) x.ai x.ai)):=avQ;have cC:ah (∀w' cur' Jf,a8 [nb,sb] w w'->en om oh tX cs w0 w' xb jb nb sb x T cur' Jf->S w'):=by
  rw[ah,eQ];intro w' cur' Jf hc hs;refine⟨?_,?_,hs.nw,hs.st⟩
  ·rw[<-hx];unfold World.cell?;simp only;rw[hc.block bx l6 (by simp [n1,n2])]
  ·rw[<-Vo];unfold World.cell?;simp only;rw[hc.block bv JK (by simp [n3,n4])]
 have HRC:ah (∀w',a8 [nb,sb] w w'->w'.cell? ⟨br,0,none⟩=some (.slice Ar rl cr)/\w'.cell? ⟨bx,0,none⟩=some (.pointer (some ⟨xb,0,none⟩))):=by
  intro w' hc;refine⟨?_,?_⟩
  ·rw[<-hr];unfold World.cell?;simp only;rw[hc.block br hbr (by simp [n5,n6])]
  ·rw[<-hx];unfold World.cell?;simp only;rw[hc.block bx l6 (by simp [n1,n2])]
 have aH:ah (S w.drew):=cC _ _ _ ((gT (aB w)).drew) h.drew;have bB:ah (S W1):=cC _ _ _ jA bQ;have Du:=af hW1;have qE:=af hW2;have dA:=af iM;have gL:=af ju;have aso:bx<W2.heap.size:=cF l6 gD.size;have pM:=h.kU.ok;have aN:=af pM;clear eQ hW1 hW2 hx Vo hr iM ju h pM;go_enter aeq,aep;go_upto_region 1 with fail
 refine cD (S:=S) (T:=fun j=>decide (14<=j)) Ok ?_;generalize w.drew=wd at*;refine ax 0 7 ?_;refine ax 1 8 ?_;refine ax 2 9 ?_;refine ax 3 10 ?_;refine ax 4 11 ?_;refine ax 5 12 ?_;refine ax 6 13 ?_;refine ax 7 14 ?_;refine ax 8 15 ?_;refine ax 9 16 ?_;refine ax 10 17 ?_;refine ax 11 18 ?_;refine aO 12 ?_;intro K hK;go_simp;rw[Du.ae];refine hK.ae _ _ (fun _=>bB.ae) ?_;clear hK kT hfn;have aH:=bB;refine ax 13 19 ?_;refine aO 14 ?_;intro K hK;go_simp;rw[qE.ae];refine hK.ae _ _ Oe ?_;refine b_ Ok ?_;clear hK hcs uN;obtain⟨r0,r1⟩:=HRC W2 gD;have asn:=r1;have avs:=OM.1;have GJ:=af (acH adT (fun _ _=>by rfl) (.pointer (some ⟨bx,0,none⟩)) (fun k=> .int .i64 ((rl[k]?.getD 0:Nat):Int)) (fun k=> !rC x T (put cur v t) (cQ on v) (rl[k]?.getD 0)) (fun W'=>Ext W2 W') Ar rl cr W2 (aB W2) OM.1 OM.2
  (fun W' k hX hk=>by obtain⟨g,o,hA,hc⟩:=dA W' (gD.ext hX) k hk;exact⟨g,o,hA,by rw[hc,aX hk];rfl⟩)
  (fun W' k hX hk=>by rw[aX hk];exact(adQ xb jb nb sb rl[k] bx x T _ _ W' (aZ.ext hX).tJ aN (gL _ (a_ hk)) ((HRC W' (gD.ext hX)).2)).mono fun e w' hh=>⟨hh.1,hX.trans hh.2⟩))
 rw[ao2 (f:=fun i=>rC x T (put cur v t) (cQ on v) i)] at GJ;have hb:∃b,b= !rl.all fun i=>rC x T (put cur v t) (cQ on v) i:=⟨_,rfl⟩;obtain⟨b,hb⟩:=hb;rw[<-hb] at GJ;have PD:=af hb;clear hb;go_wp2_with fail
 refine GJ.mono ?_;rintro e8 w8 ⟨rfl,fV⟩;have j8:=af (aZ.ext fV);have xN:=af (gD.ext fV);clear fV r0 r1 asn;go_upto_region 3 with fail
 obtain⟨W9,Dl,eE,kX⟩:=j8.drew.Ck hv false;rw[RS] at eE;have hcs:=(j8.drew.sc.cell (pX (on:=cQ on v) hv));have uN:=j8.drew.sc.frozen v;have aH:ah (S w8.drew):=cC _ _ _ xN.drew j8.drew;have iY:=af (xN.drew.only kX (.inl Ou));have WM:=af Dl;clear Dl;refine cD (S:=S) (T:=fun j=>decide (6<=j)) Ok ?_;generalize w8.drew=wd at*;refine ax 0 23 ?_;refine ax 1 24 ?_;refine ax 2 25 ?_;refine ax 3 26 ?_;refine ax 4 27 ?_;refine ax 5 28 ?_;refine aO 6 ?_;intro K hK;go_simp;rw[WM.ae];refine hK.ae _ _ Oe ?_;refine b_ Ok ?_;clear hK hcs uN;go_wp2_with fail
 exact bodyPost_ret (v:= .bool b) (by simp [results,aeo,go_sem]) rfl ⟨by rw[PD.ae],eE,iY⟩):=h
abbrev M3.adU:= @func230
abbrev M3.adS:= @ntmps230
abbrev M3.adR:= @results230
abbrev M3.zsm:= @alx
open M3 in
def apB(xb jb nb sb i bx:Nat)(x:aP)(T:List (List Rw))(cur:Nat->aD)(on:Nat->Bool)(w:au)(h:J1 13 14 w xb jb nb sb x T cur on)(hT:Pa x T)(hi:i<x.ay)(hx:w.cell? ⟨bx,0,none⟩=some (.pointer (some ⟨xb,0,none⟩))):
 Calls prog 230 #[.int .i64 i,.pointer (some ⟨bx,0,none⟩)] w fun e w'=>e= .returned (.bool (!rC x T cur on i))/\Ext w w':=ad_
abbrev BH.adT:=(230:Nat)
abbrev BH.aeq:= @func229
abbrev BH.aep:= @ntmps229
abbrev BH.aeo:= @results229
abbrev BH.adQ:= @apB
abbrev BH.om:=(13:Nat)
abbrev BH.oh:=(14:Nat)
open BH in
def aqk(tX:TypeId)(cs:List Value)(xb jb nb sb bx bv br v:Nat)(x:aP)(T:List (List Rw))(cur:Nat->aD)(on:Nat->Bool)(rl:List Nat)(Ar:aR)(cr:Nat)(t:aD)(w0 w:au)(h:en 13 14 tX cs w0 w xb jb nb sb x T cur on)(hv:v<x.ai)(ju:∀i∈rl,i<x.ay)
 (l6:bx<w.heap.size) (JK:bv<w.heap.size) (hbr:br<w.heap.size) (hn:bx≠nb/\bx≠sb/\bv≠nb/\bv≠sb/\br≠nb/\br≠sb)
 (hx:w.cell? ⟨bx,0,none⟩=some (.pointer (some ⟨xb,0,none⟩))) (Vo:w.cell? ⟨bv,0,none⟩=some (.int .i64 v)) (hr:w.cell? ⟨br,0,none⟩=some (.slice Ar rl cr))
 (OM:rl.length<=cr/\cr<=maxLen) (iM:∀W3,a8 [nb,sb] w W3->∀k (hk:k<rl.length),∃g o,Ar=some ⟨g,o,none⟩/\W3.cell? ⟨g,o+k,none⟩=some (.int .i64 (rl[k]:Nat))):
 Calls prog 229 #[.string ⟨t.toArray⟩,.pointer (some ⟨bx,0,none⟩),.pointer (some ⟨bv,0,none⟩),.pointer (some ⟨br,0,none⟩)] w fun e w'=>e= .returned (.bool (!rl.all fun i=>rC x T (put cur v t) (cQ on v) i))/\en 13 14 tX cs w0 w' xb jb nb sb x T (put cur v t) (fun a=>if a=v then false else on a)/\a8 [nb,sb] w w':=ad'
abbrev M2.adU:= @func272
abbrev M2.adS:= @ntmps272
abbrev M2.adR:= @results272
abbrev M2.zsm:= @ali
open M2 in
def apt(xb jb nb sb i bx:Nat)(x:aP)(T:List (List Rw))(cur:Nat->aD)(on:Nat->Bool)(w:au)(h:J1 19 20 w xb jb nb sb x T cur on)(hT:Pa x T)(hi:i<x.ay)(hx:w.cell? ⟨bx,0,none⟩=some (.pointer (some ⟨xb,0,none⟩))):
 Calls prog 272 #[.int .i64 i,.pointer (some ⟨bx,0,none⟩)] w fun e w'=>e= .returned (.bool (!rC x T cur on i))/\Ext w w':=ad_
abbrev BC.adT:=(272:Nat)
abbrev BC.aeq:= @func271
abbrev BC.aep:= @ntmps271
abbrev BC.aeo:= @results271
abbrev BC.adQ:= @apt
abbrev BC.om:=(19:Nat)
abbrev BC.oh:=(20:Nat)
open BC in
def aqf(tX:TypeId)(cs:List Value)(xb jb nb sb bx bv br v:Nat)(x:aP)(T:List (List Rw))(cur:Nat->aD)(on:Nat->Bool)(rl:List Nat)(Ar:aR)(cr:Nat)(t:aD)(w0 w:au)(h:en 19 20 tX cs w0 w xb jb nb sb x T cur on)(hv:v<x.ai)(ju:∀i∈rl,i<x.ay)
 (l6:bx<w.heap.size) (JK:bv<w.heap.size) (hbr:br<w.heap.size) (hn:bx≠nb/\bx≠sb/\bv≠nb/\bv≠sb/\br≠nb/\br≠sb)
 (hx:w.cell? ⟨bx,0,none⟩=some (.pointer (some ⟨xb,0,none⟩))) (Vo:w.cell? ⟨bv,0,none⟩=some (.int .i64 v)) (hr:w.cell? ⟨br,0,none⟩=some (.slice Ar rl cr))
 (OM:rl.length<=cr/\cr<=maxLen) (iM:∀W3,a8 [nb,sb] w W3->∀k (hk:k<rl.length),∃g o,Ar=some ⟨g,o,none⟩/\W3.cell? ⟨g,o+k,none⟩=some (.int .i64 (rl[k]:Nat))):
 Calls prog 271 #[.string ⟨t.toArray⟩,.pointer (some ⟨bx,0,none⟩),.pointer (some ⟨bv,0,none⟩),.pointer (some ⟨br,0,none⟩)] w fun e w'=>e= .returned (.bool (!rl.all fun i=>rC x T (put cur v t) (cQ on v) i))/\en 19 20 tX cs w0 w' xb jb nb sb x T (put cur v t) (fun a=>if a=v then false else on a)/\a8 [nb,sb] w w':=ad'
end Go.Proofs.YtadbchhdjbghkaaGreatDoor
