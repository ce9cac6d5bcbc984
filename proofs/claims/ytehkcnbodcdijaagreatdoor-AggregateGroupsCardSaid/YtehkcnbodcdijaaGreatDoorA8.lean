/- Texts of the proof, part 8. -/
import Derived.Test.YtehkcnbodcdijaaGreatDoorA7
namespace Go.Proofs.YtehkcnbodcdijaaGreatDoor
set_option maxHeartbeats 8000000
set_option linter.all false
set_option maxRecDepth 100000
variable{ar:Prop}
open Go.RowKit Go.Lib Go.Maps Go.ChangeShapes Go.WideShapes Go.ChangeAt Go.Proofs.Tryz
variable{a b c d e f g h:Nat}{i j k l:List Nat}{m n o:World}{p q r s:Value}{t u v:List Value}{w x:TypeId}{y z:Nat→Option Nat}{A:Nat→List Nat}{B C:Int}{E F:Option Addr}{H I:Rat}{J:Nat→Nat}{K:Nat→Bool}{L:List Int}{N:Array Bool}{O:Option Nat}{Q:Act}{R S:Bool}{T:List UInt8}
abbrev aS:TypeId:=3
def dw(_:au)(c:List Value)(z:Int):Prop:=c= [av z]
def dw.iH:jR [] dw:=fun _ _ _ _ _ h=>h
def cJ:=@dw.iH
def dw.one(w:au)(c:List Value)(z:Int)(h:dw w c z):c.length=1:=aya
abbrev IL:=Ls aS dw
def IL.ext{w':au}(h:IL m p L)(a:Ext m w'):IL w' p L:=bU cJ h a
def iU:=@IL.ext
def IL.get{n:Nat}(h:IL m (.slice E n a) L){i:Nat}(e:i<L):∃g o,E=dV g o/\g<m.heap.size/\aA m g (o+i) (av L[i]):=by obtain⟨g,o,d,p,k,j,f⟩:=rY dw.one Od h e;have b:=f 0 _ (by rw[show d=_ from j];rfl);rw[lF,kH] at b;exact⟨g,o,p,k,b⟩
def ij:=@IL.get
abbrev bC:TypeId:=9
section
variable{P:Program}{ops:Array Oper}{Q:Exit->Act->World->Prop}{md:Region.Mode}{S:World->Prop}{T:Nat->Bool}
def still(ops:Array Oper)(j:Nat):Bool:=match ops[j]? with
 |some o=>match o.op with
  | .move _=>true
  |_=>false
 |none=>false
theorem ajZ(h:still ops a=true){K:Act->World->Prop}{b:Act}(c:wpOp P ops Q a K b m):wpOp P ops Q a (fun i e=>e=m/\K i e) b m:=by
 unfold still at h;unfold wpOp at c⊢;cases f:ops[a]? with
 |none=>rw[f] at h;cases h
 |some o=>
  rw[f] at h c;simp only at h c⊢;by_cases g:Region.wanted o (yielded ops b.tmps)=true
  ·rw[if_pos g] at c⊢;cases d:o.op with
   |move x=>
    rcases c with c|c
    ·refine .inl ?_;unfold Oper.wp execOp at c⊢;rw[d] at c⊢;first|exact⟨rfl,c⟩|exact⟨trivial,c⟩
    ·exact .inr c
   |_=>rw[d] at h;cases h
  ·rw[if_neg g] at c⊢;first|exact⟨rfl,c⟩|exact⟨trivial,c⟩
def Ue(md:Region.Mode)(ops:Array Oper)(T:Nat->Bool)(i:Nat):Bool:=(List.range ops.size).all fun j=> !T j||j==i||leads md ops 4 j i||still ops j
theorem ai4{i j:Nat}{listed:Array Bool}(h:Ue md ops T i=true)(hc:closed md ops listed=true)(a:j≠i)(c:j∈Region.ready md ops listed)(hu:listed.getD i true=false):T j=false\/still ops j=true:=by
 cases hT:T j with
 |false=>exact .inl rfl
 |true=>
  cases b:still ops j with
  |true=>exact .inr rfl
  |false=>exfalso;obtain⟨_,o,ho,hall⟩:=mem_ready.1 c;unfold Ue at h;rw[rH] at h;have h1:=h j (dL.2 (Mf.1 ho).1);simp only[hT,b,E2,IA,w_,kF,beq_iff_eq,a,false_or] at h1;exact m53
theorem bW.avZ{G:World->Prop}{i:Nat}{q:Oper}{v:Value}(R:ops[i]? =some q)(l:∀(j:Nat) (o:Oper) I b,ops[j]? =some o->o.op≠ .select I b)
 (F:∀w,G w->T i=false->S w) (hstep:∀(j:Nat) (d:Array Bool),j≠i->closed md ops d=true->j∈Region.ready md ops d->d.getD i true=false->(∀w,S w->G w)/\T j=false\/still ops j=true\/∀w,G w)
 (hQ:∀c a w,Q (.panic c) (a.put q.dst v) w->Q (.panic c) a w):∀(f:Nat) (d:Array Bool) (a:Act) (w:au),
  closed md ops d=true->(∀j t,ops[j]? =some t->j≠i->d.getD j true=false->(∀e∈t.after,Region.binds md e=true->e.on≠i)->q.apart ops t=true)->
  i∈Region.ready md ops d->YieldsIf P ops G q v a->G w->
  bW P md ops Q S T f (d.setIfInBounds i true) (a.put q.dst v) w->bW P md ops Q S T (f+1) d a w
 |f,d,a,w,D,m,L,Z,X,H=>by
  refine⟨fun h0=>absurd L (by rw[h0];simp),fun j C=> ?_⟩;by_cases h:j=i
  ·subst h;exact Z.wpOp R X ⟨F w X,H⟩
  ·obtain⟨r,t,u,E⟩:=mem_ready.1 C;have x:=(mem_ready.1 L).1;have K:=hstep j d h D C x;match f,H with
   |0,H=>have s:=ready_mono C h;rw[H.1] at s;cases s
   |f+1,H=>
    have A:∀e∈t.after,Region.binds md e=true->e.on≠i:=fun e he hb U=>by
     have s:=E e he hb;rw[U] at s;rcases cA i d.size with N|N
     ·simp [N] at x s;rw[x] at s;cases s
     ·simp [wQ N] at s
    have y:∀p g,G g->(YieldsIf P ops G q v p/\(T j=false->S g)/\bW P md ops Q S T f ((d.setIfInBounds i true).setIfInBounds j true) (p.put q.dst v) g)->(T j=false->S g)/\bW P md ops Q S T (f+1) (d.setIfInBounds j true) p g:=fun p g W n=>by
     refine⟨n.2.1,?_⟩;refine bW.avZ R l F hstep hQ f (d.setIfInBounds j true) p g (ak0 D C) ?_ (ready_mono L (gU h)) n.1 W ?_
     ·intro k ok hk O J M;refine m k ok hk O ?_ M;by_cases B:j=k
      ·subst B;exact r
      ·rwa[getD_set_ne true B] at J
     ·rw[Array.setIfInBounds_comm _ _ h];exact n.2.2
    have Y:=wpOp_putIf u (m j t u h r A) (fun I b=>l i q I b R) (fun I b=>l j t I b u) hQ Z (H.2 j (ready_mono C h));rcases K with⟨V,hT⟩|hs|z
    ·exact wpOp_mono (fun p g n=>y p g (V g (n.2.1 hT)) n) Y
    ·exact wpOp_mono (fun p g n=>y p g (by rw[n.1];exact X) n.2) (ajZ hs Y)
    ·exact wpOp_mono (fun p g n=>y p g (z g) n) Y
def Fa:=@bW.avZ
theorem bW.av4(i d:Nat)(v:Value){b:Act}(_hTi:T i=false)
 (s:Region.noSelect ops=true) (x:Region.free md ops N i=true) (t:(Region.ready md ops N).contains i=true) (f:Ue md ops T i=true) (y:closed md ops N=true)
 (A:∀c b m,Q (.panic c) (b.put (some d) v) m->Q (.panic c) b m) (z:S m)
 (q:∀o,ops[i]? =some o->o.dst=some d/\Region.wanted o (yielded ops b.tmps)=true/\∀m,S m->(execOp b.eval o).run P m= .ok (.value v) m)
 (h:bW P md ops Q S T a (N.setIfInBounds i true) (b.put (some d) v) m):bW P md ops Q S T (a+1) N b m:=by
 have e:i∈Region.ready md ops N:=by simpa using t
 obtain⟨_,o,g,_⟩:=mem_ready.1 e;obtain⟨p,C,B⟩:=q o g;exact Fa (G:=S) g (Ig s) (fun m f _=>f) (fun j l k n u r=>by
  rcases ai4 f n k u r with h|h
  ·exact .inl ⟨fun _ h=>h,h⟩
  ·exact .inr (.inl h)) (by rw[p];exact A) a N b m y (Ip g x) e (.inl ⟨C,B⟩) z (by rw[p];exact h)
def vn:=@bW.av4
theorem bW.afe(i d:Nat)(v:Value){b:Act}(g:T i=true)
 (p:Region.noSelect ops=true) (r:Region.free md ops N i=true) (q:(Region.ready md ops N).contains i=true) (s:closed md ops N=true)
 (t:∀c b m,Q (.panic c) (b.put (some d) v) m->Q (.panic c) b m)
 (n:∀o,ops[i]? =some o->o.dst=some d/\Region.wanted o (yielded ops b.tmps)=true/\∀m,(execOp b.eval o).run P m= .ok (.value v) m)
 (h:bW P md ops Q S T a (N.setIfInBounds i true) (b.put (some d) v) m):bW P md ops Q S T (a+1) N b m:=by
 have e:i∈Region.ready md ops N:=by simpa using q
 obtain⟨_,o,f,_⟩:=mem_ready.1 e;obtain⟨k,x,u⟩:=n o f;exact Fa (G:=fun _=>True) f (Ig p) (fun m _ hT=>by rw[g] at hT;cases hT) (fun j l _ _ _ _=> .inr (.inr fun _=>trivial)) (by rw[k];exact t) a N b m s (Ip f r) e (.inl ⟨x,fun m _=>u m⟩) trivial (by rw[k];exact h)
end
def T_{w:au}:∀{a:List Value} {l:List Int},Ch (dw w) a l->a=eU l
 |_,[],h=>h
 |_,_::_,⟨c,r,e,d,b⟩=>by rw[e,show c=_ from d,T_ b];rfl
def NP(w:au):∀l:List Int,Ch (dw w) (eU l) l
 | []=>rfl
 |x::l=>⟨[.int .i64 x],eU l,rfl,rfl,NP w l⟩
def aaG(l:List Int)(i:Nat)(z:Int):eU (l.set i z)=(eU l).set i (.int .i64 z):=by unfold eU;rw[E7]
def Tm(h:m.ownsRow a w b (.slice E c d) c t)(o:0<c):∃g,E=some ⟨g,0,none⟩/\a<=g/\g<m.heap.size:=by
 rcases h.2 with⟨e,_⟩|⟨g,l,j,e,i,f,_⟩
 ·injection e with _ e _;omega
 ·injection e with e _ _;exact⟨g,e,i,ie f⟩
def anV{w:au}(h:w.ownsRow a aS 1 (.slice (some ⟨b,0,none⟩) c d) c (eU L))(v:L=c)(x:e<L)(s:f<L):
 ∃r,(w.setCell ⟨b,e,none⟩ (.int .i64 L[f])).setCell ⟨b,f,none⟩ (.int .i64 L[e])=r/\(∃u,ah ((w.setCell ⟨b,e,none⟩ (.int .i64 L[f])).cell? ⟨b,f,none⟩=some u))/\ah ((w.setCell ⟨b,e,none⟩ (.int .i64 L[f])).frozen? ⟨b,f,none⟩=false)/\ah (r.ownsRow a aS 1 (.slice (some ⟨b,0,none⟩) c d) c (eU ((L.set e L[f]).set f L[e])))/\ah (w.grownBy r (some b))/\ah (((L.set e L[f]).set f L[e])=c)/\ah (((L.set e L[f]).set f L[e]).Perm L):=by
 obtain⟨q,g⟩:=h.stored e (.int .i64 L[f]);obtain⟨y,o⟩:=q.stored f (.int .i64 L[e]);have p:f<((eU L).set e (.int .i64 L[f])).length:=by rw[tM];unfold eU;rw[bP];exact s
 refine⟨_,rfl,⟨((eU L).set e (.int .i64 L[f]))[f],?_⟩,q.frozenAt f,?_,?_,by simp [ah,v],List.set_set_perm x s⟩
 ·rw[ah,q.cellAt f Om,aX p]
 ·rw[ah,aaG,aaG];exact y
 ·exact⟨o.os.trans g.os,o.tape.trans g.tape,o.output.trans g.output,aV g.size o.size,fun j t m=>(o.block j (cy t g.size) m).trans (g.block j t m)⟩
def upto(n:Nat):List Int:=(List.range n).map Int.ofNat
def alh(n:Nat):upto (n+1)=upto n++ [(n:Int)]:=by simp [upto,EW]
def aao(n:Nat):(upto n)=n:=by simp [upto]
def aar(g n:Nat)(w:au)(h:cL w g)(hn:n<=100):
 Calls prog 39 #[.pointer (some ⟨g,0,none⟩),.int .i64 n] w fun e w'=>∃A c l,l.length=n/\l.Perm (upto n)/\e= .returned (.slice A n c)/\IL w' (.slice A n c) l/\cL w' g/\Only g w w':=by
 have HS:=af h;have hg:=h.lt;go_enter func39,ntmps39;go_wp2_with fail
 go_loopw [5,6] (fun v5 O wr=>∃k:Nat,k<=n/\O= .int .i64 k/\ah (bG aS 1 dw w.heap.size wr v5 (upto k))/\ah (cL wr g)/\ah (Only g w wr)) (fun _ O _=>n - (RowKit.intOf O).toNat)
 exact⟨0,aU _,rfl,ii,HS,gD _ _⟩;obtain⟨k,hk,rfl,HO,H,v⟩:=hrel;have m:=af (aao k);obtain⟨A,c,xs,rfl,Y,hcm,z,HC⟩:=HO.parts;rw[m.ae] at z Y⊢;by_cases sR:k<n
 ·have W:w.heap.size<=wr.heap.size:=v.size;have Z:(k+1)*8<=140737488355328:=Om;go_wp2_with (at_builtin;refine gf rfl _ _ 22 rfl w.heap.size jo _ _ _ rfl z.ae #[.int .i64 k] 1 1 rfl rfl rfl Z W ?_)
  intro v' d f p _;have O3:ah (bG aS 1 dw w.heap.size d v' (upto (k+1))):=by rw[ah,alh];exact iF (R:=dw) (x:=(k:Int)) cJ Oe (by rw[m.ae];exact z) HC rfl (by rw[m.ae];exact f) p
  have S3:=af (H.grown p (fun k hk=>by have:=(z.lt k hk).1;omega));have N3:=af (v.grown z p);go_wp2;go_roundw;exact⟨k+1,by omega,by go_num,O3,S3,N3⟩;simp [RowKit.intOf];omega
 ·obtain rfl:k=n:=Om;have hx:=T_ HC;subst hx;have P_:ah ((upto k).Perm (upto k)):=y7 _;generalize wr=w1 at*;go_wp2_with fail
  go_loopw [7,8] (fun N _ wr=>∃(i:Int) (l:List Int), -1<=i/\i<k/\N= .int .i64 i/\ah (l.length=k)/\ah (l.Perm (upto k))/\ah (wr.ownsRow w.heap.size aS 1 (.slice A k c) k (eU l))/\ah (cL wr g)/\ah (Only g w wr)) (fun N _ _=>(RowKit.intOf N).toNat)
  exact⟨(k:Int) - 1,upto k,by omega,by omega,rfl,m,P_,z,H,v⟩;obtain⟨i,l,hi0,E,rfl,B,HP,t,en,I⟩:=hrel;by_cases hip:0<i
  ·obtain⟨i,rfl⟩:=Int.eq_ofNat_of_zero_le (show 0<=i by omega);have E:i<k:=Om;have H0:=af (oP g (i+1) wr en Om Om);rw[show((i+1:Nat):Int)=(i:Int)+1 by omega] at H0;go_wp2_with fail
   refine H0.mono ?_;rintro e d ⟨r,hr,rfl,X,f⟩;have s:ah (d.ownsRow w.heap.size aS 1 (.slice A k c) k (eU l)):=xi t f (fun q y he=>by injection y with y;subst y;have:=(t.lt _ he).1;omega)
   have S3:=af X;have N3:=af (I.trans f);obtain⟨a,rfl,WV,sT⟩:=Tm s Om;have D:i<l.length:=by rw[B.ae];exact E
   have C:r<l.length:=by rw[B.ae];omega
   have Pg:r<k:=Om;have hri:r<=i:=Om;obtain⟨W',hW',⟨u5,K5⟩,F5,O4,G4,L4,P4⟩:=anV (w:=d.drew) s B D C;have HW:=af hW';have S4:=af ((S3.ext (aB d).drew).grown G4 (fun q y=>by injection y with y;omega));have N4:ah (Only g w W'):=(N3.trans (dM (aB d).drew)).grown (b:=d.drew) s G4;have P4':=af (P4.trans HP);have U:d.cell? ⟨a,i,none⟩=some (.int .i64 l[i]):=by rw[s.cellAt i Om,Fb D]
   have k2:d.cell? ⟨a,r,none⟩=some (.int .i64 l[r]):=by rw[s.cellAt r Om,Fb C]
   have f1:=s.frozenAt i;have f2:=s.frozenAt r;generalize(l.set i l[r]).set r l[i]=l' at*;generalize l[i]=L at*;generalize l[r]=J at*;have K1:=af U;have K2:=af k2;have F1:=af f1;have F2:=af f2;go_upto_region 10 with fail
   obtain⟨S,F⟩:∃S:World->Prop,S=fun w'=>w'.cell? ⟨a,i,none⟩=some (.int .i64 L)/\w'.cell? ⟨a,r,none⟩=some (.int .i64 J):=⟨_,rfl⟩;have bK:ah (∀w',S w'->w'.cell? ⟨a,i,none⟩=some (.int .i64 L)/\w'.cell? ⟨a,r,none⟩=some (.int .i64 J)):=by rw[ah,F];exact fun _ h=>h
   have aJ:ah (S d.drew):=by rw[ah,F];exact⟨K1,K2⟩
   refine cG (S:=S) (T:=fun j=>decide (j=2\/j=3\/13<=j)) Ok ?_;refine vn 0 28 (.slice (some ⟨a,0,none⟩) k c) rfl Ok Ok Ok Ok Ok (fun _ _ _ h=>h) aJ ?_ ?_
   ·intro o ho;simp only[eR,dA,dl] at ho;subst ho;refine⟨rfl,rfl,fun w' hSw=> ?_⟩;have hs:=bK w' hSw;go_split_ands;go_simp
   simp only[Act.put,eo,d9,ep];refine vn 1 29 (.int .i64 i) rfl Ok Ok Ok Ok Ok (fun _ _ _ h=>h) aJ ?_ ?_
   ·intro o ho;exact m20
   simp only[Act.put,eo,d9,ep];refine bW.afe 2 30 (.slice (some ⟨a,0,none⟩) k c) rfl Ok Ok Ok Ok (fun _ _ _ h=>h) ?_ ?_
   ·intro o ho;exact af1
   simp only[Act.put,eo,d9,ep];refine bW.afe 3 31 (.int .i64 r) rfl Ok Ok Ok Ok (fun _ _ _ h=>h) ?_ ?_
   ·intro o ho;exact af1
   simp only[Act.put,eo,d9,ep];refine vn 4 32 (.slice (some ⟨a,0,none⟩) k c) rfl Ok Ok Ok Ok Ok (fun _ _ _ h=>h) aJ ?_ ?_
   ·intro o ho;exact m20
   simp only[Act.put,eo,d9,ep];refine vn 5 33 (.int .i64 r) rfl Ok Ok Ok Ok Ok (fun _ _ _ h=>h) aJ ?_ ?_
   ·intro o ho;exact m20
   simp only[Act.put,eo,d9,ep];refine vn 6 34 (.pointer (some ⟨a,r,none⟩)) rfl Ok Ok Ok Ok Ok (fun _ _ _ h=>h) aJ ?_ ?_
   ·intro o ho;exact m20
   simp only[Act.put,eo,d9,ep];refine vn 7 35 (.int .i64 J) rfl Ok Ok Ok Ok Ok (fun _ _ _ h=>h) aJ ?_ ?_
   ·intro o ho;exact m20
   simp only[Act.put,eo,d9,ep];refine vn 8 36 (.slice (some ⟨a,0,none⟩) k c) rfl Ok Ok Ok Ok Ok (fun _ _ _ h=>h) aJ ?_ ?_
   ·intro o ho;exact m20
   simp only[Act.put,eo,d9,ep];refine vn 9 37 (.int .i64 i) rfl Ok Ok Ok Ok Ok (fun _ _ _ h=>h) aJ ?_ ?_
   ·intro o ho;exact m20
   simp only[Act.put,eo,d9,ep];refine vn 10 38 (.pointer (some ⟨a,i,none⟩)) rfl Ok Ok Ok Ok Ok (fun _ _ _ h=>h) aJ ?_ ?_
   ·intro o ho;exact m20
   simp only[Act.put,eo,d9,ep];refine vn 11 39 (.int .i64 L) rfl Ok Ok Ok Ok Ok (fun _ _ _ h=>h) aJ ?_ ?_
   ·intro o ho;exact m20
   simp only[Act.put,eo,d9,ep];refine vn 12 40 (.pointer (some ⟨a,i,none⟩)) rfl Ok Ok Ok Ok Ok (fun _ _ _ h=>h) aJ ?_ ?_
   ·intro o ho;exact m20
   simp only[Act.put,eo,d9,ep];have U:d.drew.cell? ⟨a,i,none⟩=some (.int .i64 L):=K1.ae;have f1:d.drew.frozen? ⟨a,i,none⟩=false:=F1.ae;obtain⟨M,V⟩:∃M:World,d.drew=M:=⟨_,rfl⟩;rw[V] at U f1 K5 F5 HW⊢;refine jM 13 Ok ?_;intro o ho K G;simp only[eR,dX,dA,dl] at ho;subst ho;go_simp;refine G.ae _ _ Oe ?_;obtain⟨W5,hW5⟩:∃W5:World,M.setCell ⟨a,i,none⟩ (.int .i64 J)=W5:=⟨_,rfl⟩;rw[hW5] at K5 F5 HW⊢;refine jM 14 Ok ?_;intro o ho K G;simp only[eR,dX,dA,dl] at ho;subst ho;go_simp;refine G.ae _ _ Oe ?_;have k5:=K5.ae;have f5:=F5.ae;refine jM 15 Ok ?_;intro o ho K G;simp only[eR,dX,dA,dl] at ho;subst ho;go_simp;refine G.ae _ _ Oe ?_;refine bY Ok ?_;rw[HW.ae];go_wp2_with fail
   go_roundw;exact⟨(i:Int) - 1,l',by omega,by omega,rfl,L4,P4',O4,S4,N4⟩;simp [RowKit.intOf];omega
  ·go_wp2;go_ret;refine⟨A,c,l,B,HP,rfl,?_,en,I⟩;have h1:bG aS 1 dw w.heap.size wr (.slice A l.length c) l:=⟨eU l,by rw[B.ae];exact t.ae,NP wr l⟩;rw[B.ae] at h1;exact h1.ls

section
variable{P:Program}{ops:Array Oper}{Q:Exit->Act->World->Prop}{md:Region.Mode}{S:World->Prop}{T:Nat->Bool}
theorem bW.two(i j:Nat){b:Act}(q:Region.ready md ops N= [i,j])
 (g:∀o,ops[i]? =some o->∀K:Act->World->Prop,ah (∀d c,(T i=false->S c)->bW P md ops Q S T a (N.setIfInBounds i true) d c->K d c)->if Region.wanted o (yielded ops b.tmps)=true then o.wp P b m K Q else K (b.put o.dst undef) m)
 (s:∀o,ops[j]? =some o->∀K:Act->World->Prop,ah (∀d c,(T j=false->S c)->bW P md ops Q S T a (N.setIfInBounds j true) d c->K d c)->if Region.wanted o (yielded ops b.tmps)=true then o.wp P b m K Q else K (b.put o.dst undef) m):bW P md ops Q S T (a+1) N b m:=by
 have r:∀i,i∈Region.ready md ops N->(∀o,ops[i]? =some o->∀K:Act->World->Prop,ah (∀d c,(T i=false->S c)->bW P md ops Q S T a (N.setIfInBounds i true) d c->K d c)->if Region.wanted o (yielded ops b.tmps)=true then o.wp P b m K Q else K (b.put o.dst undef) m)->
  wpOp P ops Q i (fun d c=>(T i=false->S c)/\bW P md ops Q S T a (N.setIfInBounds i true) d c) b m:=by
  intro i p h;obtain⟨_,o,g,_⟩:=mem_ready.1 p;have e:=h o g (fun d c=>(T i=false->S c)/\bW P md ops Q S T a (N.setIfInBounds i true) d c) (fun _ _ e t=>⟨e,t⟩);unfold wpOp;simp only[g];split
  ·rename_i l;rw[if_pos l] at e;exact .inl e
  ·rename_i l;rw[if_neg l] at e;exact e
 refine⟨fun u=>absurd u (by rw[q];simp),fun k n=> ?_⟩;have f:=n;rw[q] at f;rcases(by simpa using f:k=i\/k=j) with h|h
 ·subst h;exact r _ n g
 ·subst h;exact r _ n s
def FJ:=@bW.two
end
def F4(e:au)(g:Nat)(a b c d:Value):Prop:=aA e g 0 a/\aA e g 1 b/\aA e g 2 c/\aA e g 3 d
def dI(w:au)(g:Nat)(q:Rat):Prop:=∃b A n c e f a d,aq w g cY [.bool b,.slice A n c,.bool e,.slice f a d]/\bQ w (.agg #[.bool b,.slice A n c,.bool e,.slice f a d]) q
def dI.parts(h:dI m a H):∃b A n c f i d e,ah (aq m a cY [.bool b,.slice A n c,.bool f,.slice i d e])/\ah (bQ m (.agg #[.bool b,.slice A n c,.bool f,.slice i d e]) H):=h
def dI.ext{w':au}{q:Rat}(h:dI m g q)(a:Ext m w'):dI w' g q:=by obtain⟨b,A,n,c,j,k,d,i,f,e⟩:=h;exact⟨b,A,n,c,j,k,d,i,f.ext a,e.ext a⟩
def dI.lt(h:dI m a H):a<m.heap.size:=by obtain⟨b,A,n,c,j,k,e,i,d,f⟩:=h;exact d.lt
def dI.of{f:Bool}(i:aq m a cY [.bool R,.slice E b c,.bool f,.slice F d e])(h:bQ m (.agg #[.bool R,.slice E b c,.bool f,.slice F d e]) H):dI m a H:=⟨R,E,b,c,f,F,d,e,i,h⟩
def dI.far(h:dI m a H)(j:Only b m n)(f:a≠b)(l:Kept qL m n):dI n a H:=by obtain⟨d,A,e,c,s,t,i,r,p,o⟩:=h;exact⟨d,A,e,c,s,t,i,r,p.only j f,o.keep l⟩
def dI.put{q:Rat}{l k:Value}{b:Bool}{A:aQ}(j:aq n g cY [r,s,l,k])(o:bQ n (.agg #[.bool b,.slice A a c,.bool R,.slice E d e]) q)(u:Ext m n)(h:m.heap.size<=g):
 ∃f,((((n.setCell (aD g 0) (.bool b)).setCell (aD g 1) (.slice A a c)).setCell (aD g 2) (.bool R)).setCell (aD g 3) (.slice E d e))=f/\ah (dI f g q)/\ah (Kept qL n f)/\ah (Ext m f)/\ah (Only g n f):=by
 have i:=j.JD (t:=qL) Od 0 1 2 3 (.bool b) (.slice A a c) (.bool R) (.slice E d e);exact⟨_,rfl,dI.of ((((j.bh 0 (.bool b)).bh 1 (.slice A a c)).bh 2 (.bool R)).bh 3 (.slice E d e)) (o.keep i),i,
  (((u.setCell (p:=aD g 0) h _).setCell (p:=aD g 1) h _).setCell (p:=aD g 2) h _).setCell (p:=aD g 3) h _,
  (((gD g n).bh 0 _).bh 1 _).bh 2 _|>.bh 3 _⟩
def FU{P:World->Prop}{e:Bool}(f:bQ m (.agg #[.bool R,.slice E a b,.bool e,.slice F c d]) H)(h:∀W,ah (Ext m W)->ah (dI W m.heap.size H)->W.heap.size=m.heap.size+1->P W):P (m.alloc (.cells #[.bool R,.slice E a b,.bool e,.slice F c d] cY)):=
 h _ ((aB m).alloc _) (dI.of (jd m cY [.bool R,.slice E a b,.bool e,.slice F c d]) (f.ext ((aB m).alloc _))) Ou
section
variable{P:Program}{ops:Array Oper}{Q:Exit->Act->World->Prop}{md:Region.Mode}{S:World->Prop}{T:Nat->Bool}
theorem bW.of{fuel:Nat}{listed:Array Bool}{a:Act}(i:Nat)(b:i∈Region.ready md ops listed)
 (h:∀o,ops[i]? =some o->∀K:Act->World->Prop,ah (∀a' w',(T i=false->S w')->bW P md ops Q S T fuel (listed.setIfInBounds i true) a' w'->K a' w')->if Region.wanted o (yielded ops a.tmps)=true then o.wp P a m K Q else K (a.put o.dst undef) m):
 wpOp P ops Q i (fun a' w'=>(T i=false->S w')/\bW P md ops Q S T fuel (listed.setIfInBounds i true) a' w') a m:=by
 obtain⟨_,o,hi,_⟩:=mem_ready.1 b;exact m90
def Jp(md:Region.Mode)(ops:Array Oper)(T:Nat->Bool)(i:Nat):Bool:=(List.range ops.size).all fun j=> !T j||j==i||leads md ops 9 j i
theorem MJ(h:Jp md ops T a=true)(r:closed md ops N=true)(g:b≠a)(p:b∈Region.ready md ops N)(l:N.getD a true=false):T b=false:=by
 cases hT:T b with
 |false=>rfl
 |true=>
  exfalso;obtain⟨_,o,m,d⟩:=mem_ready.1 p;unfold Jp at h;rw[rH] at h;have n:=h b (dL.2 (Mf.1 m).1);simp only[hT,E2,IA,kF,beq_iff_eq,g,false_or] at n;have f:=R9 r 9 b n (fun t c e q s=>by rw[m] at c;injection c with c;subst c;exact d e q s);rcases cA a N.size with k|k
  ·simp [k] at l f;rw[l] at f;cases f
  ·simp [wQ k] at f
theorem bW.av5(i d:Nat)(v:Value){b:Act}(_hTi:T i=false)
 (s:Region.noSelect ops=true) (x:Region.free md ops N i=true) (t:(Region.ready md ops N).contains i=true) (f:Jp md ops T i=true) (y:closed md ops N=true)
 (A:∀c b m,Q (.panic c) (b.put (some d) v) m->Q (.panic c) b m) (z:S m)
 (q:∀o,ops[i]? =some o->o.dst=some d/\Region.wanted o (yielded ops b.tmps)=true/\∀m,S m->(execOp b.eval o).run P m= .ok (.value v) m)
 (h:bW P md ops Q S T a (N.setIfInBounds i true) (b.put (some d) v) m):bW P md ops Q S T (a+1) N b m:=by
 have e:i∈Region.ready md ops N:=by simpa using t
 obtain⟨_,o,g,_⟩:=mem_ready.1 e;obtain⟨p,C,B⟩:=q o g;exact Fa (G:=S) g (Ig s) (fun m f _=>f) (fun j l k n u r=> .inl ⟨fun _ h=>h,MJ f n k u r⟩) (by rw[p];exact A) a N b m y (Ip g x) e (.inl ⟨C,B⟩) z (by rw[p];exact h)
def JR(md:Region.Mode)(ops:Array Oper)(T:Nat->Bool)(a:Array Bool)(i:Nat):Bool:=Region.noSelect ops&&Region.free md ops a i&&(Region.ready md ops a).contains i&&Jp md ops T i&&closed md ops a
theorem bW.ld(i d:Nat)(v:Value)(o:Oper){b:Act}(q:xM ops.toList i=some o)(r:o.dst=some d)(k:JR md ops T N i=true)
 (D:∀c b m,Q (.panic c) (b.put (some d) v) m->Q (.panic c) b m) (C:S m) (f:Region.wanted o (yielded ops b.tmps)=true) (z:∀m,S m->(execOp b.eval o).run P m= .ok (.value v) m)
 (h:bW P md ops Q S T a (N.setIfInBounds i true) (b.put (some d) v) m):bW P md ops Q S T (a+1) N b m:=by
 unfold JR at k;simp only[cV] at k;obtain⟨⟨⟨⟨y,x⟩,u⟩,t⟩,s⟩:=k;have g:i∈Region.ready md ops N:=by simpa using u
 have e:ops[i]? =some o:=by rw[Jb] at q;simpa using q
 exact Fa (G:=S) e (Ig y) (fun m f _=>f) (fun j l n p B A=> .inl ⟨fun _ h=>h,MJ t p n B A⟩) (by rw[r];exact D) a N b m s (Ip e x) g (.inl ⟨f,z⟩) C (by rw[r];exact h)
theorem bW.av9(i d:Nat){v:Value}{o:Oper}{L:Array Bool}{b A:Act}(h:bW P md ops Q S T a L A m)(p:S m:=by exact aJ)(k:xM ops.toList i=some o:=by exact rfl)(n:o.dst=some d:=by exact rfl)(l:JR md ops T N i=true:=by kernel_rfl)
 (q:∀c b m,Q (.panic c) (b.put (some d) v) m->Q (.panic c) b m:=by exact fun _ _ _ h=>h) (j:Region.wanted o (yielded ops b.tmps)=true:=by exact rfl)
 (g:∀m,S m->(execOp b.eval o).run P m= .ok (.value v) m:=by(intro f e;have t:=bK f e;go_split_ands;go_simp;try (first|exact rfl|omega|go_num|(intro hbd;exfalso;omega))))
 (r:N.setIfInBounds i true=L:=by((try simp only[eo,d9,ep])<;>exact rfl)) (s:b.put (some d) v=A:=by((try simp only[Act.put,eo,d9,ep])<;>exact rfl)):bW P md ops Q S T (a+1) N b m:=by
 subst r s;exact bW.ld i d v o k n l q p j g h
def ax:=@bW.av9
theorem bW.av3(i d:Nat){b:Act}(_hTi:T i=false)
 (s:Region.noSelect ops=true) (v:Region.free md ops N i=true) (t:(Region.ready md ops N).contains i=true) (f:Jp md ops T i=true) (x:closed md ops N=true)
 (z:∀c b m,Q (.panic c) (b.put (some d) undef) m->Q (.panic c) b m) (y:S m)
 (q:∀o,ops[i]? =some o->o.dst=some d/\Region.wanted o (yielded ops b.tmps)=false)
 (h:bW P md ops Q S T a (N.setIfInBounds i true) (b.put (some d) undef) m):bW P md ops Q S T (a+1) N b m:=by
 have e:i∈Region.ready md ops N:=by simpa using t
 obtain⟨_,o,g,_⟩:=mem_ready.1 e;obtain⟨p,A⟩:=q o g;exact Fa (G:=S) g (Ig s) (fun m f _=>f) (fun j l k n u r=> .inl ⟨fun _ h=>h,MJ f n k u r⟩) (by rw[p];exact z) a N b m x (Ip g v) e (.inr ⟨A,rfl⟩) y (by rw[p];exact h)
theorem bW.lu(i d:Nat){o:Oper}{L:Array Bool}{b A:Act}(h:bW P md ops Q S T a L A m)(B:S m:=by exact aJ)(q:xM ops.toList i=some o:=by exact rfl)(r:o.dst=some d:=by exact rfl)(k:JR md ops T N i=true:=by kernel_rfl)
 (C:∀c b m,Q (.panic c) (b.put (some d) undef) m->Q (.panic c) b m:=by exact fun _ _ _ h=>h) (f:Region.wanted o (yielded ops b.tmps)=false:=by exact rfl)
 (D:N.setIfInBounds i true=L:=by((try simp only[eo,d9,ep])<;>exact rfl)) (E:b.put (some d) undef=A:=by((try simp only[Act.put,eo,d9,ep])<;>exact rfl)):bW P md ops Q S T (a+1) N b m:=by
 subst D E;unfold JR at k;simp only[cV] at k;obtain⟨⟨⟨⟨x,v⟩,u⟩,t⟩,s⟩:=k;have g:i∈Region.ready md ops N:=by simpa using u
 have e:ops[i]? =some o:=by rw[Jb] at q;simpa using q
 exact Fa (G:=S) e (Ig x) (fun m f _=>f) (fun j l n p z y=> .inl ⟨fun _ h=>h,MJ t p n z y⟩) (by rw[r];exact C) a N b m s (Ip e v) g (.inr ⟨f,rfl⟩) B (by rw[r];exact h)
def lH:=@bW.lu
end
def bl{α:Type}{R:World->List Value->α->Prop}{l:List α}(h:Ls w R m (.slice E a b) l):a=l.length/\a<=b/\b<=9223372036854775807:=by obtain⟨_,_,_,e,g,d,_⟩:=h;injection e with _ i f;subst f;unfold maxLen at d;omega
def gK(i:aq m a w t)(f:m.ownsRow b x c p d u)(j:m.grownBy n p.ownBlock)(o:a<b):aq n a w t:=
 (j.block a i.lt (fun h=>by have:=(f.lt a h.symm).1;omega)).trans i
def Only.fresh(h:Only a m n)(c:Only b n o)(f:m.heap.size<=b):Only a m o:=
 ⟨c.os.trans h.os,c.tape.trans h.tape,c.output.trans h.output,aV h.size c.size,fun i e d=>(c.block i (cy e h.size) Oc).trans (h.block i e d)⟩
def cL.past(h:cL m g)(c:Only a m n)(d:g<a):cL n g:=h.grown c (fun j b=>by injection b with b;omega)
def arp{u0 u1:Value}(e:aq n a w [u0,u1])(i:Ext m n)(h:m.heap.size<=a)(b c:Value):
 ∃d,((n.setCell (aD a 0) b).setCell (aD a 1) c)=d/\ah (aq d a w [b,c])/\ah (∀u,w≠u->Kept u n d)/\ah (Only a n d)/\ah (Ext m d):=
 ⟨_,rfl,(e.bh 0 b).bh 1 c,fun _ f=>(e.xx f 0 b).trans ((e.bh 0 b).xx f 1 c),((gD a n).bh 0 b).bh 1 c,(i.setCell h _).setCell h _⟩
def Do{u0 u1 u2 u3:Value}(i:aq m a w [u0,u1,u2,u3])(e d c b:Value):
 ∃h,((((m.setCell (aD a 0) e).setCell (aD a 1) d).setCell (aD a 2) c).setCell (aD a 3) b)=h/\ah (aq h a w [e,d,c,b])/\ah (∀u,w≠u->Kept u m h)/\ah (Only a m h):=by
 have l:=i.bh 0 e;have k:=l.bh 1 d;have j:=k.bh 2 c;have n:=j.bh 3 b;exact⟨_,rfl,n,fun u f=>(((i.xx f 0 e).trans (l.xx f 1 d)).trans (k.xx f 2 c)).trans (j.xx f 3 b),((((gD a m).bh 0 _).bh 1 _).bh 2 _).bh 3 _⟩
def Ls.kept{α:Type}{R:World->List Value->α->Prop}{T:List TypeId}(d:jR T R){l:List α}(h:Ls w R m p l)(c:∀u,x≠u->Kept u m n)(b:x≠w/\∀u∈T,x≠u):Ls w R n p l:=
 h.keep d fun u a=>c u (by
  rcases aK.1 a with rfl|a
  ·exact b.1
  ·exact b.2 u a)
def Src.Oh(c:cL m a)(d:Only a m n):∀u,Ga≠u->Kept u m n:=fun _ b=>Jg c d b
def arD(h:IL m (.slice E a b) L):Sl m aS E (eU L)/\(E=none->b=0):=by
 obtain⟨y,x,d,e,s,q,p,g,f⟩:=h;injection e with v u t;subst v t;have j:d=eU L:=by
  clear g s q u;induction L generalizing d with
  |nil=>exact f
  |cons z L i=>obtain⟨b,r,rfl,o,k⟩:=f;rw[i r k,show b= [av z] from o];rfl
 rw[<-j];exact⟨g,p⟩
def Only.avY(h:Only a m n)(e:n.ownsRow b w c p d t)(f:n.grownBy o p.ownBlock)(r:m.heap.size<=b):Only a m o:=
 ⟨f.os.trans h.os,f.tape.trans h.tape,f.output.trans h.output,aV h.size f.size,fun i l j=>(f.block i (cy l h.size) (fun q=>by have:=(e.lt i q.symm).1;omega)).trans (h.block i l j)⟩
def zg:=@Only.avY
def fM{i:Nat}(c:aq m a w t)(x:Value):
 ∃b,m.setCell (aD a i) x=b/\ah (aq b a w (t.set i x))/\ah (∀u,w≠u->Kept u m b)/\ah (Only a m b):=
 ⟨_,rfl,c.bh i x,fun _ d=>c.xx d i x,(gD a m).bh i x⟩
def rU{P:Program}{o:Oper}{a:Act}{K:Act->World->Prop}{Q:Exit->Act->World->Prop}(s d:Operand)(t:TypeId)
 (ho:o.op= .call {callee:= .builtin .append,args:= #[s,d],argTypes:= #[t,t]})
 (f:Nat) {size bytes:Nat} (T:j7 P t w size bytes)
 (v:Value) (n:Nat) (y:List Value) (hs:a.eval s=v) (r:m.ownsRow f w size v n y)
 (g:Nat) (q:List Value) (J:aq m g x q) (b c:Nat) (hx:a.eval d=aG g 0 b c) (H:q.length=b*size) (L:q.all (·.oneCell')=true)
 (k:(n+b)*bytes<=140737488355328) (p:f<=m.heap.size)
 (h:∀v' w',w'.ownsRow f w size v' (n+b) (y++q)->m.grownBy w' v.ownBlock->(v'.ownBlock=v.ownBlock\/v'.ownBlock=some m.heap.size)->K (a.put o.dst v') w'):o.wp P a m K Q:=by
 obtain⟨i,z,I,E,C,B,A⟩:=T.inf;have D:n+b<=maxLen:=(by have G:=T.Vq;have:=Mi (n+b) G;unfold maxLen;omega)
 have l:∀j u,q[j]? =some u->m.cell? ((⟨g,0,none⟩:Addr).add j)=some u:=(by intro j u F;rw[MH,jL];exact J.cell F);obtain⟨v',w',hr,h2,h3,_,h5⟩:=run_append_own_at (P:=P) m f t o.type w i z size bytes T.ht I E C B A T.pos v n y r ⟨g,0,none⟩ b c q H l (rH.1 L) D k p;exact agc
def Kept.base{base k:Nat}(h:Kept w m n)(b:n.ownsRow base x k p a t)(f:n.grownBy o p.ownBlock)(l:m.heap.size<=base):Kept w m o:=fun g c j d=>by have e:=h g c j d;have q:=ie d;exact(f.block g (ie e) (fun i=>by have:=(b.lt g i.symm).1;omega)).trans e
def IP(h:m.ownsRow a w c p e t)(A:m.ownsRow b x d q f u)(l:w≠x):∀g,p.ownBlock=some g->q.ownBlock≠some g:=by
 intro g o j;rcases h.2 with⟨rfl,_⟩|⟨C,G,F,rfl,_,z,_⟩
 ·simp [Value.ownBlock] at o
 ·rcases A.2 with⟨rfl,_⟩|⟨B,s,r,rfl,_,i,_⟩
  ·simp [Value.ownBlock] at j
  ·have E:C=g:=by simpa [Value.ownBlock] using o
   have D:B=g:=by simpa [Value.ownBlock] using j
   subst E D;rw[z] at i;injection i with i;injection i with _ y;exact l y
def Ls.cells{α:Type}{R:World->List Value->α->Prop}(y:∀m d x,R m d x->d.length=a){n:Nat}{l:List α}(h:Ls w R m (aG b c n d) l){p:Nat}(E:p<l.length*a)(v:Kept w m o):o.cell? (aD b (c+p))=m.cell? (aD b (c+p)):=by obtain⟨A,N,q,e,J,I,H,B,z⟩:=h;injection e with j s M;subst j;have F:=Ch.length (y m) z;have u:q[p]? =some q[p]:=aX Om;obtain⟨K,D,C,L,i,r,G⟩:=B p _ u;injection i with i;injection i with j s;subst j s;have f:=v _ _ _ r;simp [World.cell?,r,f]
def hstep(h:Int)(x:UInt8):Int:=IntKind.u64.wrap (bits .xor .u64 h (IntKind.u64.wrap (x.toNat:Int))*1099511628211)

def SD(g c:Nat)(a:List Int)(w:au)(h:cL w g)(m:aq w c aS (eU a))(b:c≠g)(n:0<a.length)(t:a.length<=1000):
 Calls prog 71 #[aI g 0,aG c 0 a a] w fun e f=>∃u∈a,e= .returned (av u)/\cL f g/\Only g w f:=by
 have H:=af (oP g a.length w h n Om);have p:=af m;have d:=af b;go_enter func71,ntmps71;go_wp2_with fail
 refine H.mono ?_;rintro e q ⟨r,j,rfl,l,k⟩;have s:=(p.only k d).cell (i:=r) (u:=av a[r]) (Fb j);have o:ah (a[r]∈a):=a8 j;generalize a[r]=u at*;go_wp2;go_ret;exact⟨u,o,rfl,l,k⟩
def aoT{m:Nat}(b:0<m)(a:d<10):decDigits (m*10+d)=decDigits m++ [UInt8.ofNat (48+d)]:=by rw[C_ Om,show(m*10+d)/10=m by omega,show(m*10+d)%10=d by omega]
def anu(l:List UInt8)(c:UInt8):(⟨l.toArray⟩:ByteArray)++⟨#[c]⟩=⟨(l++ [c]).toArray⟩:=by
 apply ByteArray.ext
 rw[ByteArray.data_append];simp
def ao5(w:au)(c:UInt8):(convert DJ bC (aG w.heap.size 0 1 1)).run prog (w.alloc (.cells #[.int .u8 (c.toNat:Int)] t8))= .ok (.string ⟨#[c]⟩) (w.alloc (.cells #[.int .u8 (c.toNat:Int)] t8)):=by refine run_convert_bytes_back (P:=prog) _ DJ bC t8 ⟨w.heap.size,0,none⟩ 1 [c] underlying199 underlying5 underlying9 (fun j a=> ?_);obtain rfl:j=0:=axB;exact(jd w t8 [.int .u8 (c.toNat:Int)]).aF 0
abbrev Dm:TypeId:=71
abbrev ub:TypeId:=73
abbrev Gc:TypeId:=144
abbrev kM:TypeId:=30
abbrev kC:=List UInt8×Int
abbrev Rl:=List UInt8×List Int
abbrev Fe:=Int×Int×Int
structure aP where
 ai:List kC
 ay:List Rl
 a_:List Fe
 label:Int
def xR(_:au)(c:List Value)(x:kC):Prop:=c= [aM x.1,av x.2]
def AO(w:au)(c:List Value)(x:Rl):Prop:=∃A n d,c= [aM x.1,.slice A n d]/\IL w (.slice A n d) x.2
def wM(_:au)(c:List Value)(x:Fe):Prop:=c= [av x.1,av x.2.1,av x.2.2]
def xR.iH:jR [] xR:=fun _ _ _ _ _ h=>h
def nM:=@xR.iH
def wM.iH:jR [] wM:=fun _ _ _ _ _ h=>h
def vp:=@wM.iH
def AO.iH:jR [aS] AO:=fun _ _ _ _ a ⟨A,n,d,e,h⟩=>⟨A,n,d,e,gF cJ h a⟩
def oJ:=@AO.iH
def xR.two(w:au)(c:List Value)(x:kC)(h:xR w c x):c.length=2:=aya
def AO.two(w:au)(c:List Value)(x:Rl)(h:AO w c x):c.length=2:=by obtain⟨_,_,_,rfl,_⟩:=h;rfl
def wM.three(w:au)(c:List Value)(x:Fe)(h:wM w c x):c.length=3:=aya
abbrev AL:=Ls Dm xR
abbrev yh:=Ls ub AO
abbrev yN:=Ls Gc wM
def dP(w:au)(v:Value)(x:aP):Prop:=∃A c B d D e,v= .agg #[.slice A x.ai.length c,.slice B x.ay.length d,.slice D x.a_.length e,av x.label]/\AL w (.slice A x.ai.length c) x.ai/\yh w (.slice B x.ay.length d) x.ay/\yN w (.slice D x.a_.length e) x.a_
def dP.ext{w':au}{x:aP}(h:dP m p x)(a:Ext m w'):dP w' p x:=by obtain⟨A,c,B,d,D,e,i,g,f,b⟩:=h;exact⟨A,c,B,d,D,e,i,g.ext nM a,f.ext oJ a,b.ext vp a⟩
def dP.kept{x:aP}(h:dP m p x)(b:∀u,w≠u->Kept u m n)(j:w≠Dm)(i:w≠ub)(g:w≠Gc)(f:w≠aS):dP n p x:=by obtain⟨A,c,B,d,D,e,q,o,l,k⟩:=h;exact⟨A,c,B,d,D,e,q,o.kept nM b ⟨j,fun u a=>by cases a⟩,l.kept oJ b ⟨i,fun u a=>by rw[bE.1 a];exact f⟩,k.kept vp b ⟨g,fun u a=>by cases a⟩⟩
def AL.get{n:Nat}{l:List kC}(h:AL m (.slice E n a) l){i:Nat}(e:i<l.length):
 ∃g o,E=dV g o/\g<m.heap.size/\aA m g (o+i*2) (aM l[i].1)/\aA m g (o+i*2+1) (av l[i].2):=by
 obtain⟨g,o,d,k,j,f,b⟩:=rY xR.two Od h e;rw[show d=_ from f] at b;exact⟨g,o,k,j,b 0 _ rfl,b 1 _ rfl⟩
def oM:=@AL.get
def yh.get{n:Nat}{l:List Rl}(h:yh m (.slice E n a) l){i:Nat}(f:i<l.length):
 ∃g o B b d,E=dV g o/\g<m.heap.size/\aA m g (o+i*2) (aM l[i].1)/\aA m g (o+i*2+1) (.slice B b d)/\IL m (.slice B b d) l[i].2:=by
 obtain⟨g,o,d,p,k,⟨B,b,q,rfl,j⟩,e⟩:=rY AO.two Od h f;exact⟨g,o,B,b,q,p,k,e 0 _ rfl,e 1 _ rfl,j⟩
def rV:=@yh.get
def yN.get{n:Nat}{l:List Fe}(h:yN m (.slice E n a) l){i:Nat}(e:i<l.length):
 ∃g o,E=dV g o/\g<m.heap.size/\aA m g (o+i*3) (av l[i].1)/\aA m g (o+i*3+1) (av l[i].2.1)/\aA m g (o+i*3+2) (av l[i].2.2):=by
 obtain⟨g,o,d,k,j,f,b⟩:=rY wM.three Od h e;rw[show d=_ from f] at b;exact⟨g,o,k,j,b 0 _ rfl,b 1 _ rfl,b 2 _ rfl⟩
def FL(c:UInt8):Prop:=97<=c/\c<=122
def ae6(c:UInt8):Prop:=FL c\/(48<=c/\c<=57)\/c=45
instance(c:UInt8):Decidable (FL c):=inferInstanceAs (Decidable (_/\_))
instance(c:UInt8):Decidable (ae6 c):=inferInstanceAs (Decidable (_\/_\/_))
def pZ(s:List UInt8):Prop:=1<=s.length/\s.length<=12/\(∀c,s[0]? =some c->FL c)/\∀c∈s,ae6 c
def aia(a:List kC)(f:Fe):Prop:=0<=f.1/\∃x,a[f.1.toNat]? =some x/\((f.2.1=1/\x.2=2/\(f.2.2=0\/f.2.2=1))\/(f.2.1=2/\x.2=3/\f.2.2=0))
structure bV(x:aP):Prop where
 a1:1<=x.ai.length
 a12:x.ai.length<=12
 r1:1<=x.ay.length
 r6:x.ay.length<=6
 f8:x.a_.length<=8
 aw:∀a∈x.ai,pZ a.1
 ad:x.ai.Pairwise fun a b=>a.1≠b.1
 ak:∀a∈x.ai,1<=a.2/\a.2<=3
 rw':∀r∈x.ay,pZ r.1
 rd:x.ay.Pairwise fun a b=>a.1≠b.1
 rn:∀r∈x.ay,r.2≠ []
 ri:∀r∈x.ay,∀a∈r.2,0<=a/\a<x.ai.length
 ra:∀r∈x.ay,r.2.Pairwise (·<·)
 used:∀a:Nat,a<x.ai.length->∃r∈x.ay,(a:Int)∈r.2
 fo:∀f∈x.a_,aia x.ai f
 fd:x.a_.Pairwise fun f h=>f.1≠h.1
 fl:∀f∈x.a_,f.1≠x.label
 lb: -1<=x.label/\x.label<x.ai.length
 lk:0<=x.label->∃a,x.ai[x.label.toNat]? =some a/\a.2=2
def ajJ(b:a<26)(w:au):(convert aS t8 (av (97+(a:Nat)))).run prog w= .ok (.int .u8 ((UInt8.ofNat (97+a)).toNat:Int)) w:=by rcases a with _|_|_|_|_|_|_|_|_|_|_|_|_|_|_|_|_|_|_|_|_|_|_|_|_|_|a;all_goals first|omega|kernel_rfl
def R8(p:List UInt8)(i:Nat)(w:au)(h:i<26)(g:p.length<=1000):
 Calls prog 70 #[aM p,av i] w fun e a=>e= .returned (aM (p++ [UInt8.ofNat (97+i)]))/\Ext w a:=by
 have c:=af (fun a=>ajJ h a);have hcv:=c.ae;have f:=fun a=>ao5 a (UInt8.ofNat (97+i));have b:=af (anu p (UInt8.ofNat (97+i)));generalize UInt8.ofNat (97+i)=j at*;have d:Int.tmod (i:Int) 26=(i:Int):=by rw[Int.tmod_eq_emod_of_nonneg Om];omega
 go_enter func70,ntmps70;go_wp2;go_ret;exact⟨by rw[b.ae];rfl,(aB w).alloc _⟩
def acM(s:List UInt8)(w:au)(h:pZ s):
 Calls prog 138 #[aM s] w fun e q=>e= .returned (.bool true)/\Ext w q:=by
 obtain⟨z,k,u,v⟩:=h;have H:=af u;have I:=af v;obtain⟨W,E,hcv,F,m⟩:=abl s w;have l:=af F;have G:=af m;go_enter func138,ntmps138;go_wp2;go_loopw [3,4,5,9] (fun _ _ _ j wr=>∃i:Nat,i<=s/\j=av i/\ah (Ext W wr)) (fun _ _ _ j _=>s - (RowKit.intOf j).toNat)
 exact⟨0,aU _,rfl,aB _⟩;obtain⟨i,J,rfl,jg⟩:=hrel;by_cases b:i<s
 ·obtain⟨g,o,e,_,d⟩:=(G.ext jg).at_ (Cg b);injection e with e;injection e with C B;subst C B;rw[jL] at d;have a:=I _ (a8 b);have A:i=0->FL s[i]:=fun e=>by subst e;exact H _ (aX b)
  generalize s[i]=c at*;have r:(97<=c.toNat/\c.toNat<=122)\/(¬(97<=c.toNat/\c.toNat<=122)/\i≠0/\(c.toNat=45\/(48<=c.toNat/\c.toNat<=57))):=by
   by_cases f:97<=c.toNat/\c.toNat<=122
   ·exact .inl f
   ·refine .inr ⟨f,fun e=>f ?_,?_⟩
    ·have:=A e;exact⟨tG.1 this.1,tG.1 this.2⟩
    ·rcases a with a|a|a
     ·exact absurd ⟨tG.1 a.1,tG.1 a.2⟩ f
     ·exact .inr ⟨tG.1 a.1,tG.1 a.2⟩
     ·exact .inl (by rw[a];rfl)
  generalize c.toNat=n at*;rcases r with⟨y,x⟩|⟨y,x,p⟩
  ·have d1:=fN;have d2:=fN;go_wp2;exact Gl
  ·have t:((i:Int)==0)=false:=axo;by_cases D:97<=n
   ·have d1:=fN;have d2:=aW;exfalso;omega
   ·have d1:=aW;rcases p with rfl|⟨p,K⟩
    ·go_wp2;exact Gl
    ·have d3:((n:Int) !=45)=true:=ayb;have d4:=aW;have d5:=aW;go_wp2;exact Gl
 ·obtain rfl:i=s.length:=Om;have d1:=decide_eq_true k;have d2:=decide_eq_true z;have d3:decide ((s.length:Int)<=12)=true:=fN;have d4:decide ((s.length:Int)≥1)=true:=fN;go_wp2;go_ret;exact⟨rfl,l.trans jg⟩
def i3(_:au)(c:List Value)(x:List UInt8):Prop:=c= [aM x]
def i3.iH:jR [] i3:=fun _ _ _ _ _ h=>h
def jO:=@i3.iH
def i3.one(w:au)(c:List Value)(x:List UInt8)(h:i3 w c x):c.length=1:=aya
abbrev Ee:=Ls bC i3
def Ee.get{n:Nat}{l:List (List UInt8)}(h:Ee m (.slice E n a) l){i:Nat}(e:i<l):
 ∃g o,E=dV g o/\g<m.heap.size/\aA m g (o+i) (aM l[i]):=by
 obtain⟨g,o,d,k,j,f,b⟩:=rY i3.one Od h e;rw[show d=_ from f] at b;have:=b 0 _ rfl;rw[lF,kH] at this;exact⟨g,o,k,j,this⟩
def str_inj{b:List UInt8}(h:(⟨T.toArray⟩:ByteArray)=⟨b.toArray⟩):T=b:=by injection h with h;exact List.toArray_inj h
def str_slice:j7 prog 67 bC 1 16:= .mk' (z:= .string ⟨#[]⟩) Ok Ok rfl Od Od
def amk(A:aQ)(c:Nat)(l:List (List UInt8))(i:Nat)(w:au)(h:Ee w (.slice A l c) l)(C:i<l)(x:pZ l[i])(v:l[i]∉l.take i)(_hl:l.length<=1000):
 Calls prog 211 #[.slice A l c,av i] w fun e a=>e= .returned (av 0)/\Ext w a:=by
 obtain⟨-,z,E⟩:=bl h;obtain⟨g,o,rfl,D,k⟩:=Ee.get h C;have N:=af h;have M:=af x;have O:ah (∀a,Ext w a->Calls prog 262 #[aG g o i c,aM l[i]] a fun e b=>e= .returned (.bool false)/\Ext a b):=fun a r=>by
  refine(Tryz.slices_Contains_string g o i c (l.map fun t=>⟨t.toArray⟩) ⟨l[i].toArray⟩ a axL Om (fun j s=> ?_)).mono fun e b h=> ?_
  ·rw[bP] at s;obtain⟨R,Q,e,_,m⟩:=Ee.get (bU jO N r) s;injection e with e;injection e with J I;subst J I;rw[m,eG,dK,aX s];rfl
  ·obtain⟨H,G⟩:=h;rw[G,H];refine⟨?_,aB _⟩;congr 2;rw[Q8];intro m;rw[Lib.containsS_iff,<-E1,b_] at m;obtain⟨t,y,e⟩:=m;rw[<-str_inj e] at v;exact v y
 have L:ah (∀a,Calls prog 138 #[aM l[i]] a fun e b=>e= .returned (.bool true)/\Ext a b):=fun a=>acM _ a M;generalize l[i]=t at*;generalize l.length=n at*;have B:i<=c:=Om;have u:=af k;go_enter func211,ntmps211;go_wp2_with fail
 refine(L w).mono ?_;rintro e p ⟨rfl,f⟩;go_upto_region 3 with fail
 have bK:ah (∀a,Ext p a->aA a g (o+i) (aM t)):=fun a r=>((f.trans r).cell D).trans u.ae;have aJ:=af ((aB p).drew);refine cG (S:=fun a=>Ext p a) (T:=fun _=>false) Ok ?_;refine ax 0 13 ?_;refine ax 1 14 ?_;refine ax 2 15 ?_;refine ax 3 16 ?_;refine ax 4 17 ?_;refine ax 5 18 ?_;refine ax 6 19 ?_;refine aO 7 ?_;intro K F;go_simp;refine(O _ (f.trans aJ)).mono ?_;rintro e P ⟨rfl,q⟩;have d:=aJ.trans q;refine F.ae _ _ (fun _=>d) ?_;have aJ:=af d;refine ax 8 12 ?_;refine bY Ok ?_;go_wp2;go_ret;exact⟨rfl,f.trans d⟩
def apQ{d:List (List UInt8)}(h:d.Pairwise fun c b=>c≠b)(k:a<d):d[a]∉d.take a:=by intro f;obtain⟨j,g,e⟩:=iE f;rw[cO] at g;rw[EP] at e;exact nI.1 h j a Om k Om e
def aa1(A:aQ)(c:Nat)(d:List (List UInt8))(i:Nat)(w:au)(h:Ee w (.slice A (i+1) c) (d.take (i+1)))(g:i<d.length)(l:∀t∈d,pZ t)(m:d.Pairwise fun a b=>a≠b)(n:d.length<=1000):
 Calls prog 211 #[.slice A (i+1) c,av i] w fun e k=>e= .returned (av 0)/\Ext w k:=by
 have e:(d.take (i+1)).length=i+1:=axw;have j:(d.take (i+1))[i]'Om=d[i]:=EP;have f:=amk A c (d.take (i+1)) i w (by rw[e];exact h) Om (by rw[j];exact l _ (a8 g)) (by rw[j,My,i9 Om];exact apQ m g) Om;rw[e] at f;exact f
def Fj{α:Type}{l:List α}(h:a<l):l.take (a+1)=l.take a++ [l[a]]:=fR h
def ahD(c:aq m a w t)(d:m.grownBy n p.ownBlock)(b:p.ownBlock≠some a):aq n a w t:=
 (d.block a c.lt (fun h=>b h.symm)).trans c
def ain(v:Value)(x:aP)(w:au)(h:dP w v x)(J:bV x):
 Calls prog 132 #[v] w fun e K=>e= .returned (av 0)/\Ext w K:=by
 obtain⟨A,c,B,d,D,e,rfl,ha,_,_⟩:=h;have HA:=af ha;have aN:=af J;have F:=J.a12;obtain⟨-, -,hcm⟩:=bl ha;obtain⟨j,k⟩:∃j,x.ai.map (·.1)=j:=⟨_,rfl⟩;have f:ah (j.length=x.ai):=by rw[ah,<-k,bP]
 have uI:ah (∀i (h:i<x.ai.length),j[i]? =some x.ai[i].1):=fun i h=>by rw[<-k,dK,aX h];rfl
 have Yc:ah (∀t∈j,pZ t):=fun t ht=>by rw[<-k] at ht;obtain⟨y,hy,rfl⟩:=b_.1 ht;exact J.aw y hy
 have yB:ah (j.Pairwise fun a b=>a≠b):=(by rw[ah,<-k,rD];exact J.ad);generalize x.ay.length=rl at*;generalize x.a_.length=fl at*;generalize x.label=Wa at*;obtain⟨N,hN⟩:∃N,x.ai.length=N:=⟨_,rfl⟩;have HN:=af hN;rw[hN] at HA F f⊢;go_enter func132,ntmps132;go_upto_region 2 with fail
 refine aR fun W H BX=> ?_;have hc0:=BX.aF 0;go_upto_region 3 with fail
 go_loopw [3,4,5,6,10] (fun v3 _ _ _ m wr=>∃i:Nat,i<=N/\m=av i/\ah (bG bC 1 i3 W.heap.size wr v3 (j.take i))/\ah (Ext W wr)) (fun _ _ _ _ m _=>N - (RowKit.intOf m).toNat)
 exact⟨0,aU _,rfl,ii,aB _⟩;obtain⟨i,hi,rfl,HO,s⟩:=hrel;by_cases G:i<N
 ·have q:i<x.ai.length:=by rw[HN.ae];exact G
  obtain⟨g,o,rfl,_,P,O⟩:=oM (bU nM HA (H.trans s)) q;have hk:=aN.ak _ (a8 q);have p:i<j.length:=by rw[f.ae];exact G
  have Q:j[i]=x.ai[i].1:=(by have h:=uI i q;rw[aX p] at h;injection h);have z:=af (Fj p);rw[Q] at z;have NM:=af (fun A c K h=>aa1 A c j i K h p Yc yB (by rw[f.ae];omega));generalize x.ai[i]=V at*;obtain⟨nm,kd⟩:=V;simp only at P O hk z;have S:(j.take i)=i:=by rw[cO,f.ae];omega
  obtain⟨A3,c3,xs,rfl,_,_,HR,HC⟩:=HO.parts;rw[S] at HR⊢;go_upto_region 5 with fail;refine aR fun W3 I BA=> ?_;have C:=af (C8 HR I);have R:(Value.slice A3 i c3).ownBlock≠some wr.heap.size:=fun hh=>by have:=(HR.lt _ hh).2;omega
  have l:=af (s.trans I);have L:=l.size;have U:(i+1)*16<=140737488355328:=Om;have ur:=BA.aF 0;go_wp2_with (at_builtin;refine gf rfl _ _ 67 rfl W.heap.size str_slice _ _ _ rfl C.ae #[aM nm] 1 1 rfl rfl rfl U L ?_)
  intro v' w4 E r _;obtain⟨A4,c4,rfl,_,_,_⟩:=eL E;have H6:=af (ahD BA r R);have O4:ah (bG bC 1 i3 W.heap.size w4 (.slice A4 (i+1) c4) (j.take (i+1))):=by rw[z.ae];exact iF jO Oe (by rw[cO,f.ae,i9 hi];exact C) (HC.mono fun c x hc=>jO _ _ _ _ Oe hc) rfl (by rw[cO,f.ae,i9 hi];exact E) r
  have Z:=af (l.aqR C r);have T:=O4.ls;have X:=af (NM A4 c4 w4 T);go_wp2_with fail
  refine X.mono ?_;rintro e w5 ⟨rfl,n⟩;have yS:=af (H6.ext n);have lQ:=yS.aF 1;have O5:=af (O4.ext jO n);have Y:=af (Z.trans n);have lm:=aW;have hk3:=aW;go_wp2;go_roundw;exact⟨i+1,by omega,by go_num,O5,Y⟩;simp [RowKit.intOf];omega
 ·obtain rfl:i=N:=Om;go_wp2;go_ret;exact⟨rfl,H.trans s⟩
def Ls.upto{α:Type}{i:Nat}{R:World->List Value->α->Prop}(g:∀m c x,R m c x->c.length=a){l:List α}(h:Ls w R m (.slice E b c) l)(u:i<=l.length):Ls w R m (.slice E i c) (l.take i):=by obtain⟨B,z,f,e,v,q,p,o,j⟩:=h;injection e with s y r;subst s r;have d:(l.take i).length=i:=axw;exact⟨E,c,f.take (i*a),by rw[d],by rw[d];omega,q,p,o.take _,Ch.take (g m) j i⟩
abbrev fV:TypeId:=4
def akI(g n c:Nat)(w:au)(h:aq w g fV (List.replicate n (.bool true)))(k:n<=1000):
 Calls prog 263 #[aG g 0 n c,.bool false] w fun e f=>e= .returned (av (-1))/\Ext w f:=by
 have j:=af h;go_enter func263,ntmps263;go_wp2;go_loopw [5,8] (fun _ a wr=>∃i:Nat,i<=n/\a=av i/\ah (Ext w wr)) (fun _ a _=>n - (RowKit.intOf a).toNat);exact⟨0,aU _,rfl,aB _⟩;obtain⟨i,l,rfl,d⟩:=hrel;by_cases b:i<n
 ·have m:=(j.ext d).cell (i:=i) (u:= .bool true) axK;go_wp2;go_roundw;exact⟨i+1,by omega,by go_num,d⟩;simp [RowKit.intOf];omega
 ·obtain rfl:i=n:=Om;go_wp2;go_ret;exact⟨rfl,d⟩
def aiz(g n c:Nat)(w:au)(h:aq w g fV (List.replicate n (.bool true)))(d:n<=1000):
 Calls prog 212 #[aG g 0 n c,.bool false] w fun e a=>e= .returned (.bool false)/\Ext w a:=by
 have f:=af (akI g n c w h d);go_enter func212,ntmps212;go_wp2_with fail;refine f.mono ?_;rintro e i ⟨rfl,b⟩;go_wp2;go_ret;exact⟨rfl,b⟩
def aiZ(a k m b:Int)(c:Nat)(w:au)(g:c<w.heap.size)(h:aA w c 0 (av b)):
 Calls prog 214 #[.agg #[av a,av k,av m],aI c 0] w fun e f=>e= .returned (.bool (a==b))/\Ext w f:=by
 go_enter func214,ntmps214;go_upto_region 1 with fail
 refine aR fun W d i=> ?_;have l:=(d.cell (p:=aD c 0) g).trans h;have j:=i.aF 0;go_wp2;go_ret;exact⟨rfl,d⟩
def akS(A:aQ)(c:Nat)(l:List Fe)(a:Nat)(b:Int)(w:au)(h:yN w (.slice A l.length c) l)(z:a<w.heap.size)(H:aA w a 0 (av b))(I:∀f∈l,f.1≠b)(F:l.length<=1000):
 Calls prog 264 #[.slice A l.length c,.func (.func 214) #[] #[aI a 0]] w fun e d=>e= .returned (av (-1))/\Ext w d:=by
 have B:=af h;have L:=af I;have v:ah (∀d,Ext w d->aA d a 0 (av b)):=fun d r=>(r.cell (p:=aD a 0) z).trans H;obtain⟨-, -,G⟩:=bl h;obtain⟨n,y⟩:∃n,l.length=n:=⟨_,rfl⟩;have K:=af y;rw[y] at B F⊢;go_enter func264,ntmps264;go_wp2_with fail
 go_loopw [5,8] (fun _ q wr=>∃i:Nat,i<=n/\q=av i/\ah (Ext w wr)) (fun _ q _=>n - (RowKit.intOf q).toNat)
 exact⟨0,aU _,rfl,aB _⟩;obtain⟨i,N,rfl,m⟩:=hrel;by_cases t:i<n
 ·have k:i<l.length:=by rw[K.ae];exact t
  obtain⟨g,o,rfl,_,E,D,C⟩:=yN.get (bU vp B m) k;have j:=L _ (a8 k);have x:=af (aiZ l[i].1 l[i].2.1 l[i].2.2 b a wr (cy z m.size) (v wr m));generalize l[i]=f at*;obtain⟨J,P,O⟩:=f;simp only at x E D C j;have s:(J==b)=false:=by rw[beq_eq_false_iff_ne];exact j
  rw[s] at x;go_wp2_with fail;refine x.mono ?_;rintro e M ⟨rfl,r⟩;have u:=af (m.trans r);go_wp2_with fail
  go_roundw;exact⟨i+1,by omega,by go_num,u⟩;simp [RowKit.intOf];omega
 ·obtain rfl:i=n:=Om;go_wp2;go_ret;exact⟨rfl,m⟩
def aix(A:aQ)(c:Nat)(l:List Fe)(a:Nat)(b:Int)(w:au)(h:yN w (.slice A l.length c) l)(j:a<w.heap.size)(k:aA w a 0 (av b))(m:∀f∈l,f.1≠b)(i:l.length<=1000):
 Calls prog 213 #[.slice A l.length c,.func (.func 214) #[] #[aI a 0]] w fun e d=>e= .returned (.bool false)/\Ext w d:=by
 have n:=af (akS A c l a b w h j k m i);go_enter func213,ntmps213;go_wp2_with fail;refine n.mono ?_;rintro e o ⟨rfl,g⟩;go_wp2;go_ret;exact⟨rfl,g⟩
def aiX(v:Value)(x:aP)(w:au)(h:dP w v x)(P:bV x):
 Calls prog 134 #[v] w fun e m=>e= .returned (av 0)/\Ext w m:=by
 obtain⟨A,c,B,d,D,e,rfl,ha,_,hf⟩:=h;have HA:=af ha;have HF:=af hf;have y:=af P;have C:=P.a12;have X:=P.f8;obtain⟨-, -,hcm⟩:=bl ha;obtain⟨-,Y,hem⟩:=bl hf;generalize x.ay.length=rl at*;obtain⟨p,l⟩:∃p,x.label=p:=⟨_,rfl⟩;have I:=af l;rw[l];obtain⟨N,hN⟩:∃N,x.ai.length=N:=⟨_,rfl⟩;have HN:=af hN;rw[hN] at HA C⊢;obtain⟨M,hM⟩:∃M,x.a_.length=M:=⟨_,rfl⟩;have HM:=af hM;rw[hM] at HF X Y⊢;go_enter func134,ntmps134;go_upto_region 1 with fail
 refine aR fun W b BX=> ?_;have hc0:=BX.aF 2;go_upto_region 2 with fail
 go_loopw [3,4,5,6,7,11] (fun _ _ _ _ _ n wr=>∃i:Nat,i<=M/\n=av i/\ah (Ext W wr)) (fun _ _ _ _ _ n _=>M - (RowKit.intOf n).toNat)
 exact⟨0,aU _,rfl,aB _⟩;obtain⟨i,hi,rfl,u⟩:=hrel;by_cases U:i<M
 ·have s:i<x.a_.length:=by rw[HM.ae];exact U
  obtain⟨g,o,rfl,_,p0,p1,p2⟩:=yN.get (bU vp HF (b.trans u)) s;have k:=a8 s;have t:=y.fl _ k;rw[I.ae] at t;obtain⟨h0,a,T,F⟩:=y.fo _ k;have H:ah (∀f∈x.a_.take i,f.1≠x.a_[i].1):=fun f V=>by obtain⟨j,hj,rfl⟩:=iE V;rw[cO] at hj;rw[EP];exact nI.1 y.fd j i Om s Om
  generalize x.a_[i]=f at*;obtain⟨fa,fk,fm⟩:=f;simp only at p0 p1 p2 t h0 T F H;obtain⟨q,rfl⟩:∃q:Nat,fa=(q:Int):=⟨fa.toNat,by omega⟩;rw[kX] at T;obtain⟨r,R⟩:=uU.1 T;have YN:ah (∃G z,A=dV G z/\∀m,Ext w m->aA m G (z+q*2+1) (av a.2)):=by obtain⟨G,z,e,_,_,_⟩:=oM HA r;refine⟨G,z,e,fun m hx=> ?_⟩;obtain⟨g',o',K,_,_,h⟩:=oM (bU nM HA hx) r;rw[e] at K;injection K with K;injection K with e1 e2;subst e1 e2;rw[R] at h;exact h
  obtain⟨G,z,rfl,Z⟩:=YN.ae;have J:=af Z;have atz:q<N:=by rw[<-HN.ae];exact r
  have Q:((q:Int)==p)=false:=by rw[beq_eq_false_iff_ne];exact t
  have ur:decide ((q:Int)<0)=false:=aW;have S:decide (N<=q)=false:=aW;go_upto_region 4 with fail
  refine aR fun L cE O=> ?_;have Gh:=af (u.trans cE);have tF:=af (BX.ext Gh);obtain⟨s0,s1,s2,s3⟩:=tF.four;have b0:=O.aF 0;have b1:=O.aF 1;have b2:=O.aF 2;have hak:=J L (b.trans Gh);have ow:=af (Ls.upto wM.three (bU vp HF (b.trans Gh)) (i:=i) (by rw[HM.ae];omega));have E:(x.a_.take i).length=i:=by rw[cO,HM.ae];omega
  have FC:ah (Calls prog 213 #[aG g o i e,.func (.func 214) #[] #[aI wr.heap.size 0]] L fun e m=>e= .returned (.bool false)/\Ext L m):=(by have h:=aix (dV g o) e (x.a_.take i) wr.heap.size q L (by rw[E];exact ow) O.lt b0 H Om;rw[E] at h;exact h);have hie:i<=e:=Om;generalize a.2=kd at*;rcases F with⟨rfl,rfl,rfl|rfl⟩|⟨rfl,rfl,rfl⟩
  ·skip
   exact V8
  ·skip
   exact V8
  ·skip
   exact V8
 ·obtain rfl:i=M:=Om;go_wp2;go_ret;exact⟨rfl,b.trans u⟩
end Go.Proofs.YtehkcnbodcdijaaGreatDoor
