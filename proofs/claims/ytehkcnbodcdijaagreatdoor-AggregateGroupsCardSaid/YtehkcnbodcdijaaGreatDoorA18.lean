/- Texts of the proof, part 18. -/
import Derived.Test.YtehkcnbodcdijaaGreatDoorA17
namespace Go.Proofs.YtehkcnbodcdijaaGreatDoor
set_option maxHeartbeats 8000000
set_option linter.all false
set_option maxRecDepth 100000
variable{ar:Prop}
open Go.RowKit Go.Lib Go.Maps Go.ChangeShapes Go.WideShapes Go.ChangeAt Go.Proofs.Tryz
variable{a b c d e f g h:Nat}{i j k l:List Nat}{m n o:World}{p q r s:Value}{t u v:List Value}{w x:TypeId}{y z:Nat→Option Nat}{A:Nat→List Nat}{B C:Int}{E F:Option Addr}{H I:Rat}{J:Nat→Nat}{K:Nat→Bool}{L:List Int}{N:Array Bool}{O:Option Nat}{Q:Act}{R S:Bool}{T:List UInt8}
def am8(h:IsBuilderF tB t8 a b t m)(k:aZ i m n)(p:∀c∈i,c<a\/(c≠b/\∃d l,aq m c d l/\d≠t8)):IsBuilderF tB t8 a b t n:=by
 have own:∀{v:Value},m.ownsRowF a t8 1 v t t->n.ownsRowF a t8 1 v t t:=fun {v} ⟨s,ho⟩=>by
  refine⟨s,?_⟩;rcases ho with ho|⟨q,o,j,x,A,z,e,y⟩
  ·exact .inl ho
  ·refine .inr ⟨q,o,j,x,A,z,(k.block q (ie e) fun f=> ?_).trans e,y⟩;rcases p q f with g|⟨_,d,l,hB,r⟩
   ·omega
   ·unfold aq at hB;rw[hB] at e;injection e with e;injection e with _ e;exact r e
 have u:a<=b:=by rcases h with⟨h,_⟩|⟨h,_⟩<;>exact h
 have hb':n.heap[b]? =m.heap[b]?:=k.block b (by
  rcases h with⟨_,v,hb,_⟩|⟨_,v,hb,_⟩<;>exact ie hb) fun f=>by
  rcases p b f with g|⟨g,_⟩
  ·omega
  ·exact g rfl
 exact af7
def aq.others(h:aq m a w t)(o:OthersKept t8 (some b) m n)(f:a≠b)(d:w≠t8):aq n a w t:=
 o a _ h (fun e=>by injection e with e;exact f e) (fun c i e=>by injection e with _ e;exact d e)
def aq.Do(h:aq m a w [p,q,r,s])(u0 u1 u2 u3:Value):∃b,((((m.setCell (aD a 0) u0).setCell (aD a 1) u1).setCell (aD a 2) u2).setCell (aD a 3) u3)=b/\ah (aq b a w [u0,u1,u2,u3])/\ah (Only a m b):=
 ⟨_,rfl,(((h.bh 0 u0).bh 1 u1).bh 2 u2).bh 3 u3,(((gD a m).bh 0 _).bh 1 _).bh 2 _|>.bh 3 _⟩
def am7(h:IsBuilderF tB t8 a b t m)(k:Only c m n)(r:b≠c)(hB:aq m c w u)(o:w≠t8):IsBuilderF tB t8 a b t n:=by
 have own:∀{v:Value},m.ownsRowF a t8 1 v t t->n.ownsRowF a t8 1 v t t:=fun {v} ⟨p,ho⟩=>by
  refine⟨p,?_⟩;rcases ho with ho|⟨q,j,i,s,z,y,d,x⟩
  ·exact .inl ho
  ·refine .inr ⟨q,j,i,s,z,y,(k.block q (ie d) fun f=> ?_).trans d,x⟩;injection f with f;subst f;unfold aq at hB;rw[hB] at d;injection d with d;injection d with _ d;exact o d
 have hb':n.heap[b]? =m.heap[b]?:=k.block b (by rcases h with⟨_,v,hb,_⟩|⟨_,v,hb,_⟩<;>exact ie hb) fun e=>by injection e with e;exact r e
 exact af7
def SM(w:au):(zeroValue cY).run prog w= .ok (.agg #[.bool false,.slice none 0 0,.bool false,.slice none 0 0]) w:=Ok
def I5:prog.underlying 120=some (.map bC cY):=Ok
def asW.agC(h:ar:=by clear hb6 jS e3 e4 e5 atV;go_wp2;go_roundw;exact⟨k+1,by omega,by go_num,pG,dR⟩;simp [RowKit.intOf];omega):=h
def asX.k30(h:ar:=by clear jE;open asW in exact afQ):=h
def asP.k44(h:ar:=by
 have EC:=af (rv.only jY (.inl Ou));have yP:=af (qu.only jY Om);clear hK qT jS hW';refine aO 11 ?_;intro K hK;go_simp;refine hK.ae _ _ Oe ?_;refine bY Ok ?_;rw[HW.ae];clear k0 k1 k2 k3 f0 f1 f2 f3 hK;go_wp2_with fail
 go_roundw;exact⟨k+1,_,by omega,by go_num,yP,by rw[fQ.ae];exact tx,po,Qz,EC⟩;simp [RowKit.intOf];omega):=h
def asQ.agM(h:ar:=by have CM:ah (Calls prog D.fa #[.agg #[.bool o0,.slice O0 o1 o2,.bool p0,.slice P0 p1 p2],u5] w5 fun e o=>∃u,e= .returned u/\bQ o u (D.R.add acc bt)/\Ext w5 o):=(by rw[<-hF];exact aN.ring.add w5 _ u5 acc bt dg _ _ (by rw[hF];exact VO.keep Pv) DN yF Hn vW hgb);refine hK.ae _ _ (fun _=>bB.ae) ?_;clear hK BO VO DN iK ha5 o9 Pv;refine aO 10 ?_;open asP in exact m44):=h
def asR.k84(h:ar:=by have mL:=af (iA.trans (o9.mono fun i hi _=>by simp only[aK,bJ,or_false] at hi⊢;omega));open asQ in exact agk):=h
def asS.agE(h:ar:=by have bK:ah (∀o,(aq o D.xb D.tX D.cs/\aq o ob cY [.bool o0,.slice O0 o1 o2,.bool p0,.slice P0 p1 p2])->aA o D.xb 13 (.func (.func D.fa) #[] #[])/\F4 o ob (.bool o0) (.slice O0 o1 o2) (.bool p0) (.slice P0 p1 p2)):=fun o h=>⟨h.1.cell aN.ca,h.2.four⟩;unfold F4 at bK;clear BZ;refine cG (S:=fun o=>aq o D.xb D.tX D.cs/\aq o ob cY [.bool o0,.slice O0 o1 o2,.bool p0,.slice P0 p1 p2]) (T:=fun j=>decide (11<=j)) Ok ?_;open asR in exact m84):=h
def asT.k72(h:ar:=by
 have CB:=af (fun o (h:ce D 19 20 Q (bH D.p v) o)=>HB cb[k] Q o h (fun a ha=>by rw[HA.ae a ha];exact Hq a ha) (by rw[Qt.ae Q HA.ae];exact hm));rw[Qx.ae _ Q HA.ae] at CB;have yF:=af (AY k);have Hn:=af (Qw _ hm);have hgb:=mH k Om;clear PQ hcell hm sV;generalize cb[k]=t at*;generalize D.bT v t cur=bt at*;generalize D.R.sum (cb.take k) (fun t=>D.bT v t cur)=acc at*;go_upto_region 15 with fail
 clear e3;open asS in exact afY):=h
def asU.k26(h:ar:=by
 have O:=af (CJ y zP fun i hi=>by simp only[aK,bJ,or_false] at hi;omega);have jZ:ah (aZ [D.nb,D.sb,D.kb] wy w9):=(gS (cI.trans s)).trans (zP.mono fun i hi _=>by simp only[aK,bJ,or_false] at hi⊢;omega);have Qc:ah (ob≠w.heap.size):=fun e=>by
  obtain⟨bx,bA,bn,bc,bx',bA',bn',bc',B1,_⟩:=Qu.parts;obtain⟨bp,bq,z⟩:=Ny y;have h1:=B1.ae;rw[e] at h1;unfold aq at h1 z;rw[h1] at z;injection z with z;injection z with _ z;revert z
  decide
 have H:aZ [D.nb,D.sb,D.kb] L w9:=zP.mono fun i hi _=>by simp only[aK,bJ,or_false] at hi⊢;omega
 have G6:=af (Qu.bX H axn (eQ.Og H));have ED:=G6;have hw9:=H.size;have qs:=af (J.bX H axn);have ru:=af hcb;have O_:=s.size;have Bh:ah (∀a,bH D.p v a=true->put cur v tc a=cur a):=fun a ha=>by unfold put;rw[if_neg fun e=>by rw[e,vD] at ha;cases ha]
 have Lc:ah (dI w9 ob (D.R.sum (cb.take 0) fun t=>D.bT v t cur)):=by rw[ah,kG];exact G6
 have Hr:ah (aZ [D.nb,D.sb,D.kb,ob] w9 w9):= .gV (aB w9);clear hcb ag1 zP H;go_upto_region 13 with fail
 go_loopw [12,59] (fun _ v59 wq=>∃(k:Nat) (Q:Nat->aC),k<=cb/\v59=av k/\ah (aq wq wy.heap.size cY zG)/\ah (dI wq ob (D.R.sum (cb.take k) fun t=>D.bT v t cur))/\ah (ce D 19 20 Q (bH D.p v) wq)/\ah (∀a,bH D.p v a=true->Q a=cur a)/\ah (aZ [D.nb,D.sb,D.kb,ob] w9 wq)) (fun _ v59 _=>cb - (RowKit.intOf v59).toNat)
 exact⟨0,_,aU _,rfl,qs,Lc,nD,Bh,Hr⟩;obtain⟨k,Q,hk,rfl,BZ,HU,HX,HA,HC⟩:=hrel;have iq:ob<wr.heap.size:=HU.lt;by_cases lR:k<cb
 ·open asT in exact m72
 ·obtain rfl:k=cb.length:=Om;have d1:decide ((cb.length:Int)<(cb.length:Int))=false:=aW;have wu:ah (dI wr ob (D.vT v cur)):=(by rw[ah,cF.ae];have h:=HU.ae;rwa[fB] at h)
  go_upto_region 17 with fail
  have bk:=af (HX.drew aN);have iA:ah (aZ [D.nb,D.sb,D.kb] wy wr.drew):=(((jZ.mono (S':= [D.nb,D.sb,D.kb,ob]) fun i hi _=>by simp only[aK,bJ,or_false] at hi⊢;omega).trans HC.ae).mono fun i hi hlt=>by simp only[aK,bJ,or_false] at hi⊢;omega).drew;have oB:=af BZ.drew;obtain⟨o0,O0,o1,o2,p0,P0,p1,p2,BO,VO⟩:=wu.drew.parts;have A:ah (IsBuilderF tB t8 w.heap.size w.heap.size (byteCells nm) wr.drew):=am8 O HC.drew fun i hi=>by
   simp only[aK,bJ,or_false] at hi;rcases hi with hi|hi|hi|hi
   ·exact .inl Om
   ·exact .inl Om
   ·exact .inl Om
   ·obtain⟨bx,bA,bn,bc,bx',bA',bn',bc',B1,_⟩:=ED.parts;rw[hi];exact .inr ⟨Qc,_,_,B1,by decide⟩
  have xN:w.heap.size<=wr.drew.heap.size:=aV Om HC.size;have CS:=af (Tryz.Builder_String_any_k w.heap.size w.heap.size nm wr.drew A xN);have hoy:=Qc.ae;have aJ:ah (aq wr.drew D.xb D.tX D.cs/\aq wr.drew ob cY [.bool o0,.slice O0 o1 o2,.bool p0,.slice P0 p1 p2]):=⟨bk.st.sx,BO⟩;have bK:ah (∀o,(aq o D.xb D.tX D.cs/\aq o ob cY [.bool o0,.slice O0 o1 o2,.bool p0,.slice P0 p1 p2])->aA o D.xb 21 (.map (some D.kb))/\F4 o ob (.bool o0) (.slice O0 o1 o2) (.bool p0) (.slice P0 p1 p2)):=fun o h=>⟨h.1.cell aN.ck,h.2.four⟩;unfold F4 at bK;clear BZ;refine cG (S:=fun o=>aq o D.xb D.tX D.cs/\aq o ob cY [.bool o0,.slice O0 o1 o2,.bool p0,.slice P0 p1 p2]) (T:=fun j=>decide (6<=j)) Ok ?_;generalize wr.drew=wd at*;refine ax 0 75 ?_;refine ax 1 76 ?_;refine ax 2 77 ?_;refine ax 3 78 ?_;refine ax 5 80 ?_;refine aO 4 ?_;intro K hK;go_simp;refine CS.mono ?_;rintro e5 w5 ⟨rfl,_,iK,ny⟩;obtain⟨bp,bq,z⟩:=Ny A;have Lu:=af (bk.read aN iK ny z Om Om Om Om Om);have d8:=af Lu.1;have VO5:=af (VO.keep Lu.2);have Bn:=af (BO.others ny Om Od);have wN:ah (aq w5 wy.heap.size cY zG):=(iK.block _ vN).trans oB.ae;have mL:=af (iA.below (iK.mono Om));have bB:ah (aq w5 D.xb D.tX D.cs/\aq w5 ob cY [.bool o0,.slice O0 o1 o2,.bool p0,.slice P0 p1 p2]):=⟨d8.st.sx,Bn⟩;obtain⟨w6,hrun,dR,Le,pD⟩:=d8.afK aN hv I5 Et OO Om (by rw[hF];exact VO5);have rv:=af (mL.only pD (.inl Ou));have uT:=af (Bn.only pD Om);have qu:=af (wN.only pD Om);have PW:ah (bQ w6 (.agg #[.bool o0,.slice O0 o1 o2,.bool p0,.slice P0 p1 p2]) (D.vT v cur)):=by rw[ah,<-hF];exact Le
  refine hK.ae _ _ (fun _=>bB.ae) ?_;clear hK BO VO iK ny z;refine aO 6 ?_;intro K hK;go_simp;refine hK.ae _ _ Oe ?_;clear hK hrun;refine bY Ok ?_;obtain⟨q0,q1,q2,q3⟩:=uT.four;obtain⟨f0,f1,f2,f3⟩:=qu.fX;obtain⟨j0,j1,j2,j3⟩:=qu.four;go_wp2_with fail;refine rQ rfl rfl rfl qu.ae PW (fun u W' h1 h2=> ?_);have h3:=dR.past aN h2 qu Od Om Om Om Om Om;have h4:=rv.only h2 (.inr (aL _));first|exact⟨u,rfl,h1,Q,h3,HA,h4⟩|exact⟨u,Q,rfl,by rw[hF];exact h1,h3,HA,h4⟩):=h
def asV.k97(h:ar:=by
 have A:ah (IsBuilderF tB t8 w.heap.size w.heap.size (byteCells nm) wr.drew):=CJ HBF (gS (S:= []) (aB wr).drew) Ou;obtain⟨r,hlk,vM⟩:=HST.lookW aN hv I5 SM Et OO Om;have kU:=af vM;have C:=af (fun(W:au) (h:Ext w W)=>h.block D.kb HST.mem.lt);have ahd:∀o,aq o D.xb D.tX D.cs->aA o D.xb 21 (.map (some D.kb)):=fun o h=>h.cell aN.ck;have bK:ah (∀o,(aq o D.xb D.tX D.cs/\o.heap[D.kb]? =w.heap[D.kb]?)->aA o D.xb 21 (.map (some D.kb))/\(Instr.lookup 120 (.map (some D.kb)) (aM nm) true).run prog o= .ok (.tuple #[r.getD (.agg #[.bool false,.slice none 0 0,.bool false,.slice none 0 0]),.bool r.isSome]) o):=fun o h=>⟨ahd o h.1,hlk o h.2⟩;have aJ:ah (aq wr.drew D.xb D.tX D.cs/\wr.drew.heap[D.kb]? =w.heap[D.kb]?):=⟨en.st.sx,C.ae _ bk⟩;clear xO df vM hlk ahd;obtain⟨v0,V0,v1,v2,t0,T0,t1,t2,hu⟩:∃(v0:Bool) (V0:aQ) (v1 v2:Nat) (t0:Bool) (T0:aQ) (t1 t2:Nat),r.getD (.agg #[.bool false,.slice none 0 0,.bool false,.slice none 0 0])= .agg #[.bool v0,.slice V0 v1 v2,.bool t0,.slice T0 t1 t2]:=by
  cases r with
  |none=>exact⟨_,_,_,_,_,_,_,_,rfl⟩
  |some u=>have h1:=kU u rfl;rw[hF] at h1;obtain⟨b0,A0,b1,b2,c0,C0,c1,c2,rfl,_,_⟩:=h1.parts;exact⟨_,_,_,_,_,_,_,_,rfl⟩
 have Ep:ah (r.isSome=true->bQ w (.agg #[.bool v0,.slice V0 v1 v2,.bool t0,.slice T0 t1 t2]) (D.vT v cur)):=fun h=>by obtain⟨u,rfl⟩:=Ib.1 h;rw[<-hu,<-hF];exact kU u rfl
 rw[hu] at bK;clear hu;generalize r.isSome=m at*;go_upto_region 8 with fail
 go_cut [8,9] (fun s8 s9 wx=>∃n,s8=aI n 0/\s9= .bool m/\ah (aq wx n cY [.bool v0,.slice V0 v1 v2,.bool t0,.slice T0 t1 t2])/\ah (Ext w wx)/\ah (IsBuilderF tB t8 w.heap.size w.heap.size (byteCells nm) wx))
 case first=>
  have CS:=af (fun W h (hX:Ext w W)=>Tryz.Builder_String_any_k w.heap.size w.heap.size nm W h hX.size);refine cG (S:=fun o=>aq o D.xb D.tX D.cs/\o.heap[D.kb]? =w.heap[D.kb]?) (T:=fun _=>false) Ok ?_;generalize wr.drew=wd at*;refine ax 0 40 ?_;refine ax 1 41 ?_;refine ax 2 42 ?_;refine ax 3 43 ?_;refine FJ 4 9 Ok ?_ ?_
  ·skip
   refine zT ?_;intro K hK;go_simp;refine(CS wd A bk).mono ?_;rintro e8 L ⟨rfl,I,M,P⟩;have s:ah (Ext w L):=pQ bk M;have y:=af I;have eQ:=af (HST.fL aN s);have bB:ah (aq L D.xb D.tX D.cs/\L.heap[D.kb]? =w.heap[D.kb]?):=⟨eQ.st.sx,C.ae _ s⟩;refine hK.ae _ _ (fun _=>bB.ae) ?_;clear hK M I P;have aJ:=bB;refine ax 5 45 ?_;refine ax 6 39 ?_;refine ax 7 46 ?_;refine ax 8 47 ?_;refine aO 9 ?_;intro K hK;go_simp;refine hK.ae _ _ (fun _=>⟨aJ.1.ext ((aB _).alloc _),C.ae _ (s.alloc _)⟩) ?_;clear hK;refine aO 10 ?_;intro K hK;go_simp;refine hK.ae _ _ (fun _=>⟨aJ.1.ext ((aB _).alloc _),C.ae _ (s.alloc _)⟩) ?_;refine aR fun W9 Y BQ=> ?_;have B:=af (s.trans Y);have YO:=af (CJ y (gS (S:= []) Y) Ou);clear hK;refine aO 11 ?_;intro K hK;go_simp;refine hK.ae _ _ (fun _=>⟨(HST.fL aN B).st.sx,C.ae _ B⟩) ?_;refine bY Ok ?_;clear hK;go_wp2_with fail
   go_meet;exact⟨_,rfl,rfl,BQ,B,YO⟩
  ·skip
   refine zT ?_;intro K hK;go_simp;refine hK.ae _ _ (fun _=>⟨aJ.1.ext ((aB _).alloc _),C.ae _ (bk.alloc _)⟩) ?_;refine aR fun W7 f_ BQ=> ?_;have cE:=af (bk.trans f_);have avs:=af (CJ A (gS (S:= []) f_) Ou);have hwd:w.heap.size<=wd.heap.size:=bk.size;have nA:w.heap.size≠wd.heap.size:=fun e=>by obtain⟨bp,bq,z⟩:=Ny A;have:=z.lt;omega
   clear hK;generalize wd.heap.size=n at*;refine aO 4 ?_;intro K hK;go_simp;refine(CS W7 avs cE).mono ?_;rintro e8 L ⟨rfl,I,M,P⟩;have s:ah (Ext w L):=pQ cE M;have y:=af I;have eQ:=af (HST.fL aN s);have Z:=af (BQ.others P nA.symm Od);have bB:ah (aq L D.xb D.tX D.cs/\L.heap[D.kb]? =w.heap[D.kb]?):=⟨eQ.st.sx,C.ae _ s⟩;refine hK.ae _ _ (fun _=>bB.ae) ?_;clear hK M I P BQ;have aJ:=bB;refine ax 5 45 ?_;refine ax 6 39 ?_;refine ax 7 46 ?_;refine ax 8 47 ?_;obtain⟨k0,k1,k2,k3⟩:=Z.four;obtain⟨f0,f1,f2,f3⟩:=Z.fX;obtain⟨W9,AE,BQ9,lA⟩:=Z.Do (.bool v0) (.slice V0 v1 v2) (.bool t0) (.slice T0 t1 t2);have XH:=af AE;have B:=af (s.only lA hwd);have YO:=af (am7 y lA nA Z Od);clear AE;refine aO 10 ?_;intro K hK;go_simp;rw[XH.ae];refine hK.ae _ _ (fun _=>⟨(HST.fL aN B).st.sx,C.ae _ B⟩) ?_;clear hK k0 k1 k2 k3 f0 f1 f2 f3;refine aO 11 ?_;intro K hK;go_simp;refine hK.ae _ _ (fun _=>⟨(HST.fL aN B).st.sx,C.ae _ B⟩) ?_;refine bY Ok ?_;clear hK;go_wp2_with fail
   go_meet;exact⟨_,rfl,rfl,BQ9,B,YO⟩
 case rest=>
 obtain⟨n,rfl,rfl,BQ,s,y⟩:=hcut;generalize wc=L at*;have eQ:=af (HST.fL aN s);have J:=af (BZ.ext s);clear BZ;cases m with
 |true=>have HU:=af ((Ep rfl).ext s.ae);obtain⟨q0,q1,q2,q3⟩:=BQ.four;obtain⟨f0,f1,f2,f3⟩:=J.fX;obtain⟨j0,j1,j2,j3⟩:=J.four;go_wp2_with fail;refine rQ rfl rfl rfl J.ae HU (fun u W' h1 h2=> ?_);have h3:=eQ.past aN h2 J Od hw0 Om Om Om Om;have h4:=(gS (S:= [D.nb,D.sb,D.kb]) (cI.trans s)).only h2 (.inr (aL _));first|exact⟨u,rfl,h1,cur,h3,fun _ _=>rfl,h4⟩|exact⟨u,cur,rfl,by rw[hF];exact h1,h3,fun _ _=>rfl,h4⟩
 |false=>
  clear BQ;have c5:=eQ.st.sx.cell hz5;have c6:=eQ.st.sx.cell hz6;have c7:=eQ.st.sx.cell O2;have c8:=eQ.st.sx.cell Wj;go_upto_region 12 with fail
  refine FU (hz.ext eQ.st.ex) fun wo X Qu _=> ?_;have Pm:w.heap.size<=L.heap.size:=s.size;have Y:=af (s.trans X);have nD:=af (eQ.fL aN X);have qs:=af (J.ext X);have O:=af (CJ y (gS (S:= []) X) Ou);clear c5 c6 c7 c8;have s:=Y;have eQ:=nD;have J:=qs;have y:=O;generalize L.heap.size=ob at*;generalize wo=L at*;have tu:=af (aoM D.tX D.cs D.xb D.jb D.nb D.sb v D.x D.T cur (bH D.p v) D.fv D.fx D.w0 L eQ.st vD hv aN.cf aN.Vn (aN.wk.ne v hv) aN.r6 a12 (fun l hl=>aV (aN.tl l hl) Od));open asU in exact m26):=h
def q99.k67(h:ar:=by
 clear hsz hb1 hx1 O_;go_upto_region 4 with fail
 clear c2 ck2 lR;go_loopw [7,25] (fun _ v25 wr=>∃k:Nat,k<=kl/\v25=av k/\ah (IsBuilder tB t8 w.heap.size w.heap.size (byteCells (UInt8.ofNat v::kf ((kl.take k).map cur))) wr)/\ah (Ext w wr)) (fun _ v25 _=>kl - (RowKit.intOf v25).toNat);exact⟨0,aU _,rfl,jJ,cD⟩;obtain⟨k,hk,rfl,jJ,cD⟩:=hrel;by_cases Am:k<kl
 ·open asX in exact m30
 ·open asV in exact m97):=h
def q98.k29(h:ar:=by
 obtain⟨kl,N⟩:∃kl,D.key v=kl:=⟨_,rfl⟩;have Vz:=af N;rw[N] at df lB Yd Ql lR Hl Et xO;clear h N vX hB;go_upto_region 2 with fail
 refine aR fun W HX BB=> ?_;have tC:ah (IsBuilder tB t8 w.heap.size w.heap.size [] W):= .inl ⟨aL _,_,BB,mQ _ _ _ _,by simp [Value.ownBlock]⟩;have hsz:w.heap.size<=W.heap.size:=HX.size;clear BB;open q99 in exact m67):=h
def q97.agQ(h:ar:=by open q98 in exact m29):=h
def aoJ{D:Pw Rat}(ok:iI D 13 #[q])(hF:D.V=bQ){v:Nat}(hv:v<D.dB){zb:Bool}{zb':Bool}{zc':Nat}(hz5:D.cs[5]? =some (.bool zb))(hz6:D.cs[6]? =some (.slice E b c))(O2:D.cs[7]? =some (.bool zb'))(Wj:D.cs[8]? =some (.slice F d zc'))(hz:bQ D.w0 (.agg #[.bool zb,.slice E b c,.bool zb',.slice F d zc']) D.R.zero)(hB:L3 D 19 20 290 v):GW D 19 20 239 v:=by intro cur wy h0 vX;go_enter func239,ntmps239;open q97 in exact agw
def UH{α:Type}{D:Pw α}(a:iI D 7 #[]){f:Value}(b:D.cs[5]? =some f)(j:D.V D.w0 f D.R.zero):∀(m v:Nat),v<D.dB->D.dB<=D.d v+m->GW D 13 14 232 v/\L3 D 13 14 236 v
 |0,v,e,n=>by have:=a.wk.r.lt v e;have h:D.dB=D.x.ai.length:=rfl;omega
 |m+1,v,e,n=>by
  have k:=ak7 a e fun c o=>by obtain⟨i,l⟩:=ig.1 o;have q:=(a.wk.r.up c v i l).2;exact(UH a b j m c i Om).1
  exact⟨ao7 a e b j k,k⟩
def afh{D:Pw Rat}{z:Value}(i:iI D 13 #[z])(hF:D.V=bQ){t:Bool}{u:aQ}{q s:Nat}{e:Bool}{f:aQ}{a b:Nat}(n:D.cs[5]? =some (.bool t))(l:D.cs[6]? =some (.slice u q s))(k:D.cs[7]? =some (.bool e))(j:D.cs[8]? =some (.slice f a b))(y:bQ D.w0 (.agg #[.bool t,.slice u q s,.bool e,.slice f a b]) D.R.zero):
 ∀(m v:Nat),v<D.dB->D.dB<=D.d v+m->GW D 19 20 239 v
 |0,v,o,B=>by have:=i.wk.r.lt v o;have h:D.dB=D.x.ai.length:=rfl;omega
 |m+1,v,o,B=>by
  have E:=akU i hF o fun c C=>by obtain⟨w,A⟩:=ig.1 C;have F:=(i.wk.r.up c v w A).2;exact afh i hF n l k j y m c w Om
  exact aoJ i hF o n l k j y E
section
variable{α:Type}{R:SR α}{G:Nat->Nat->α->Prop}{wt:Int->α}{g:Nat->aH->α}{fx:Nat->Option aH}{U:List aH}{x:aP}{T:List (List Rw)}{p:Nat->Option Nat}{d:Nat->Nat}{homes:Nat->List Nat}
theorem Wk.aeK(k:Wk R G wt g fx U x T p d homes)(i:Nat):(((kids x.ai p none).take i).map (dT x.ai p homes)).sum<=x.ai+x.ay/\(((kids x.ai p none).take i).map (nT x.ai p homes)).sum<=x.ai.length:=by
 have e:et x.ai p homes x.ai none=ei homes (jv x.ai p homes) (kids x.ai p none):=tN k.r (Mq _ _);have j:∀b,(none:Option Nat)=some b->b<x.ai.length:=fun b h=>by cases h
 have l:x.ai<=x.ai+f9 d none:=Mq _ _;have m:=Iu (homes:=homes) k.r x.ai none j l;have o:=Fh m fun a c=>((wX k.r x.ai none a j l).1 c).1;have n:=Fh (RR k.nd k.ap (ze x.ai none) m) fun a c=>by obtain⟨w,_,q⟩:=((ze x.ai none).mem a).1 c;exact j6.1 (k.hh w a q)
 rw[e,Ro] at o;rw[e,Rh] at n;have y:((kids x.ai p none).map (nT x.ai p homes)).sum<=x.ai.length:=o;have v:((kids x.ai p none).map (hT x.ai p homes)).sum<=x.ay.length:=n;have u:((kids x.ai p none).map (dT x.ai p homes)).sum=((kids x.ai p none).map (nT x.ai p homes)).sum+((kids x.ai p none).map (hT x.ai p homes)).sum:=Td _;have t:=Fq (f:=dT x.ai p homes) (kids x.ai p none) i;have s:=Fq (f:=nT x.ai p homes) (kids x.ai p none) i;omega
theorem Wk.aeJ(k:Wk R G wt g fx U x T p d homes)(e:Nat->aH)(a:x.ai.length<=12)(t:x.ay.length<=6)(i:Nat)(m:i<(kids x.ai p none)):
 ∃s j b h,s+b<=40/\j<=lh/\h<=lh/\G s j (R.prod ((kids x.ai p none).take i) fun c=>vT R x T p homes g wt U c e)/\G b h (vT R x T p homes g wt U (kids x.ai p none)[i] e):=by
 have o:=k.gr.prod (K:=60) (s:=dT x.ai p homes) (e:=nT x.ai p homes) (l:=(kids x.ai p none).take i) (f:=fun c=>vT R x T p homes g wt U c e) fun c q=>k.Oj (ig.1 (nJ q)).1 e;have n:=(ig.1 (a8 m)).1;have r:=(k.aeK (i+1)).1;have u:=(k.aeK i).2;rw[fR m,kE,ZZ,Il,List.sum_singleton] at r;exact⟨_,_,_,_,by omega,fK Od Om,k.UR n a (aL _),o,k.Oj n e⟩
end
def ToC{α:Type}(D:Pw α)(j i:Nat)(f:FuncId):Prop:=∀(h:Nat->aC) (w:au),ce D j i h (fun _=>false) w->
 Calls prog f #[aI D.xb 0] w fun e b=>∃u a,e= .returned u/\D.V b u (D.R.prod (kids D.dB D.p none) fun c=>D.vT c fun _=> [])/\ce D j i a (fun _=>false) b/\aZ [D.nb,D.sb,D.kb] w b
def asN.agP(h:ar:=by
 have bB:=af iK.st.sx;have CM:=af (aN.ring.mul w5 u u5 E _ s1 s2 j1 j2 (bk.vC aN o9 i) DN Bd wG m1 m2 m3);refine hK.ae _ _ (fun _=>bB.ae) ?_;refine aO 9 ?_;intro K hK;go_simp;refine CM.mono ?_;rintro e6 w6 ⟨u6,rfl,t,m⟩;have n:=af (d8.fL aN m);have L:=af (mL.ext m);have H:=af t;have aJ:=af n.st.sx;refine hK.ae _ _ (fun _=>aJ.ae) ?_;refine ax 10 3 ?_;refine bY Ok ?_;go_wp2_with fail
 go_roundw;exact⟨k+1,_,_,by omega,by go_num,af rfl,by rw[fQ.ae];exact H,n,L⟩;simp [RowKit.intOf];omega):=h
def asO.k46(h:ar:=by
 generalize D.R.prod (rl.take k) (fun c=>D.vT c fun _=> [])=E at*;generalize rl[k]=c at*;go_upto_region 5 with fail
 have bk:=af (HX.drew aN);have iA:=af N.drew;have i:=af (aN.ring.vk P (jp _ _).drew);have aJ:=af bk.st.sx;have CV:ah (∀w',ce D 13 14 cu (fun _=>false) w'->Calls prog 232 #[aI D.xb 0,av c] w' fun e w''=>∃u cur',e= .returned u/\D.V w'' u (D.vT c fun _=> [])/\ce D 13 14 cur' (fun _=>false) w''/\aZ [D.nb,D.sb,D.kb] w' w''):=fun w' h=>by exact agq
 refine cG (S:=fun w'=>aq w' D.xb D.tX D.cs) (T:=fun _=>false) Ok ?_;open asN in exact ags):=h
def abp{α:Type}{D:Pw α}(f:iI D 7 #[])(z:D.cs[6]? =some q)(X:D.V D.w0 q D.R.one)(s:D.cs[5]? =some r)(W:D.V D.w0 r D.R.zero):ToC D 13 14 173:=by
 intro C w h;have aN:=af f;have J:=af h;have Y:=f.ring.im;have a12:=f.a12;have c6:=h.st.sx.cell z;have F:=af (f.ring.vk X (.jN h.st.ex));have HV:=af (fun c (B:c<D.dB)=>(UH f s W D.dB c B (Mv _ _)).1);have Z:=af (ak6 D.tX D.cs D.xb D.jb D.nb D.sb D.x D.T C (fun _=>false) D.ch D.ks D.hs D.wl _ D.w0 D.w1 w h.st f.pl h.k1 f.cr a12);have LH:=af (fun(c:Nat) (B:c∈kids D.dB D.p none)=>ig.1 B);have HGM:=af (f.wk.aeJ (fun _=> []) a12 f.r6);have bK:ah (∀w',aq w' D.xb D.tX D.cs->aA w' D.xb 8 (.func (.func D.fm) #[] #[])):=fun w' h=>h.cell f.cm;generalize kids D.dB D.p none=rl at*;go_enter func173,ntmps173;go_wp2_with fail
 refine Z.mono ?_;rintro e1 w1 ⟨A,c,rfl,d_,b,rfl⟩;have l:=af ((aB w).drewN b);generalize w.drewN b=w1 at*;have bB:=af (J.fL aN l);have I:ah (D.V w1 q (D.R.prod (rl.take 0) fun c=>D.vT c fun _=> [])):=by rw[ah,kG];exact f.ring.vk F (.jN l.ae)
 have M:ah (aZ [D.nb,D.sb,D.kb] w w1):= .gV l;have O:=(bl d_).2;go_upto_region 3 with fail
 go_loopw [3,5,14] (fun Q _ j o=>∃(k:Nat) (u:Value) (cu:Nat->aC),k<=rl/\j=av k/\ah (u=Q)/\ah (D.V o u (D.R.prod (rl.take k) fun c=>D.vT c fun _=> []))/\ah (ce D 13 14 cu (fun _=>false) o)/\ah (aZ [D.nb,D.sb,D.kb] w o)) (fun _ _ j _=>rl - (RowKit.intOf j).toNat)
 exact⟨0,_,_,aU _,rfl,af rfl,I,bB,M⟩;obtain⟨k,u,cu,hk,rfl,y,P,HX,N⟩:=hrel;have y:=y.ae;subst y;by_cases df:k<rl
 ·open asO in exact m46
 ·obtain rfl:k=rl.length:=Om;have d1:=aW;have i:ah (D.V wr u (D.R.prod rl fun c=>D.vT c fun _=> [])):=(by have h:=P.ae;rwa[fB] at h)
  go_wp2_with fail
  exact bodyPost_ret (v:=u) (by simp [results,results173,go_sem]) rfl (by first|exact⟨u,rfl,i,⟨cu,HX⟩,N⟩|exact⟨u,cu,rfl,i,HX,N⟩)
def asH.k44(h:ar:=by
 have EC:=af (rv.only jY (.inr Om));have yP:=af (qu.only jY Om);clear hK qT jS hW';refine aO 10 ?_;intro K hK;go_simp;refine hK.ae _ _ Oe ?_;refine bY Ok ?_;rw[HW.ae];clear k0 k1 k2 k3 f0 f1 f2 f3 hK;go_wp2_with fail
 go_roundw;exact⟨k+1,_,by omega,by go_num,yP,by rw[fQ.ae];exact tx,po,EC⟩;simp [RowKit.intOf];omega):=h
def asI.agM(h:ar:=by have CM:ah (Calls prog D.fm #[.agg #[.bool o0,.slice O0 o1 o2,.bool p0,.slice P0 p1 p2],u5] w5 fun e w'=>∃u,e= .returned u/\bQ w' u (D.R.mul M (D.vT c fun _=> []))/\Ext w5 w'):=(by rw[<-hF];exact aN.ring.mul w5 _ u5 M _ s1 s2 j1 j2 (by rw[hF];exact VO.keep Pv) DN Bd wG m1 m2 m3);refine hK.ae _ _ (fun _=>bB.ae) ?_;clear hK BO VO DN iK o9 Pv;refine aO 9 ?_;open asH in exact m44):=h
def asJ.agP(h:ar:=by open asI in exact agk):=h
def asK.agE(h:ar:=by
 have bK:ah (∀w',(aq w' D.xb D.tX D.cs/\aq w' ob cY [.bool o0,.slice O0 o1 o2,.bool p0,.slice P0 p1 p2])->aA w' D.xb 14 (.func (.func D.fm) #[] #[])/\F4 w' ob (.bool o0) (.slice O0 o1 o2) (.bool p0) (.slice P0 p1 p2)):=fun w' h=>⟨h.1.cell aN.cm,h.2.four⟩;unfold F4 at bK;have CV:ah (∀w',ce D 19 20 cu (fun _=>false) w'->Calls prog 239 #[aI D.xb 0,av c] w' fun e w''=>∃u cur',e= .returned u/\D.V w'' u (D.vT c fun _=> [])/\ce D 19 20 cur' (fun _=>false) w''/\aZ [D.nb,D.sb,D.kb] w' w''):=fun w' h=>by exact agq
 clear e3 BZ;refine cG (S:=fun w'=>aq w' D.xb D.tX D.cs/\aq w' ob cY [.bool o0,.slice O0 o1 o2,.bool p0,.slice P0 p1 p2]) (T:=fun j=>decide (10<=j)) Ok ?_;open asJ in exact ags):=h
def asL.k46(h:ar:=by
 clear jE m4 m5 lx iZ KH;generalize D.R.prod (rl.take k) (fun c=>D.vT c fun _=> [])=M at*;generalize rl[k]=c at*;go_upto_region 5 with fail
 open asK in exact afY):=h
def asM.agQ(h:ar:=by
 have aN:=af ok;have him:=ok.ring.im;have a12:D.x.ai.length<=12:=ok.a12;have c9:=h.st.sx.cell X;have c10:=h.st.sx.cell J;have c11:=h.st.sx.cell I;have c12:=h.st.sx.cell H;have HV:=af (fun c (Y:c<D.dB)=>afh ok hF W U Q P hz D.dB c Y (Mv _ _));have LH:=af (fun(c:Nat) (Y:c∈kids D.dB D.p none)=>ig.1 Y);have L:∀rl,kids D.dB D.p none=rl->∀i (hi:i<rl.length),∃s j s' j',s+s'<=40/\j<=lh/\j'<=lh/\D.G s j (D.R.prod (rl.take i) fun c=>D.vT c fun _=> [])/\D.G s' j' (D.vT rl[i] fun _=> []):=(by rintro rl rfl;exact ok.wk.aeJ (fun _=> []) a12 ok.r6)
 go_upto_region 2 with fail
 refine FU (ho.ext h.st.ex) fun t bk r _=> ?_;have en:=af (h.fL ok bk);have oB:=af (BZ.ext bk);have iA:ah (aZ [D.nb,D.sb,D.kb] wy t):= .gV (cI.trans bk);have CR:=af (akR D.tX D.cs D.xb D.jb D.nb D.sb D.x D.T Z (fun _=>false) D.ch D.ks D.hs D.wl _ D.w0 D.w1 t en.st ok.pl en.k1 ok.cr a12);clear h c9 c10 c11 c12 BZ;generalize w.heap.size=ob at*;obtain⟨rl,m⟩:∃rl,kids D.dB D.p none=rl:=⟨_,rfl⟩;have N:=af m;have HGM:=af (L rl m);rw[m] at LH CR;clear m L;go_wp2_with fail
 refine CR.mono ?_;rintro e1 w1 ⟨A,c,rfl,d_,l,rfl⟩;have n:ah (Ext t (t.drewN l)):=(aB t).drewN l;generalize t.drewN l=w1 at*;have bB:=af (en.fL aN n);have BZ1:=af (oB.ext n);have rp:ah (dI w1 ob (D.R.prod (rl.take 0) fun c=>D.vT c fun _=> [])):=by rw[ah,kG];exact r.ext n
 have jI:=af (iA.ext n);have xO:=(bl d_).2;go_upto_region 3 with fail
 go_loopw [5,14] (fun _ o O=>∃(k:Nat) (cu:Nat->aC),k<=rl.length/\o=av k/\ah (aq O wy.heap.size cY zG)/\ah (dI O ob (D.R.prod (rl.take k) fun c=>D.vT c fun _=> []))/\ah (ce D 19 20 cu (fun _=>false) O)/\ah (aZ [D.nb,D.sb,D.kb] wy O)) (fun _ o _=>rl.length - (RowKit.intOf o).toNat)
 exact⟨0,_,aU _,rfl,BZ1,rp,bB,jI⟩;obtain⟨k,cu,hk,rfl,BZ,HU,HX,HC⟩:=hrel;have iq:ob<wr.heap.size:=HU.lt;by_cases df:k<rl.length
 ·open asL in exact m46
 ·obtain rfl:k=rl.length:=Om;have d1:decide ((rl.length:Int)<(rl.length:Int))=false:=aW;have r:ah (dI wr ob (D.R.prod rl fun c=>D.vT c fun _=> [])):=(by have h:=HU.ae;rwa[fB] at h)
  obtain⟨o0,O0,o1,o2,p0,P0,p1,p2,BO,VO⟩:=r.parts;obtain⟨q0,q1,q2,q3⟩:=BO.four;obtain⟨f0,f1,f2,f3⟩:=BZ.fX;obtain⟨j0,j1,j2,j3⟩:=BZ.four;go_wp2_with fail;refine rQ rfl rfl rfl BZ.ae VO (fun u W' h1 h2=> ?_);have h3:=HX.past aN h2 BZ Od Om Om Om Om Om;have h4:=HC.only h2 (.inr (aL _));first|exact⟨u,rfl,by rw[N.ae];exact h1,⟨cu,h3⟩,h4⟩|exact⟨u,cu,rfl,by rw[hF,N.ae];exact h1,h3,h4⟩):=h
def akO{D:Pw Rat}(ok:iI D 13 #[q])(hF:D.V=bQ){zb:Bool}{v:Bool}(W:D.cs[5]? =some (.bool zb))(U:D.cs[6]? =some (.slice E b d))(Q:D.cs[7]? =some (.bool v))(P:D.cs[8]? =some (.slice F f g))(hz:bQ D.w0 (.agg #[.bool zb,.slice E b d,.bool v,.slice F f g]) D.R.zero)
 {yb:Bool} {yA:aQ} {yn yc:Nat} {B:Bool} {C:aQ} {y z:Nat} (X:D.cs[9]? =some (.bool yb)) (J:D.cs[10]? =some (.slice yA yn yc)) (I:D.cs[11]? =some (.bool B)) (H:D.cs[12]? =some (.slice C y z)) (ho:bQ D.w0 (.agg #[.bool yb,.slice yA yn yc,.bool B,.slice C y z]) D.R.one):ToC D 19 20 178:=by
 intro Z wy h0;go_enter func178,ntmps178;open asM in exact agw
abbrev Di:TypeId:=171
abbrev Ug:TypeId:=169
def nW(w:au)(u:Value)(x:aP)(first:Int):Prop:=
 ∃b d c,(∀a,a∈b↔a<x.ai.length)/\(∀f:Nat,first=f->b.head? =some f)/\dr x.ai.length (nj x b) d/\Whole x.ai.length (bu x) (bM x) (et x.ai.length (nj x b) (fun v=>(bM x).filter fun t=>eZ d (bu x t) ((bu x t).headD 0)==v) x.ai.length none)/\
  F6 w u x.ai.length (nU x.ai.length (nj x b)) (zI (gX x.ai.length x.ay) (nj x b)) (Dg x.ai.length d x.ay) c
section
variable{w w':au}{u:Value}{x:aP}{T:List (List Rw)}{jb pb:Nat}{first:Int}
theorem F6.keep{k g j:List (List Nat)}(h:F6 w u a k g j i)(m:Kept cK w w')(d:Kept aS w w'):F6 w' u a k g j i:=by
 obtain⟨v,l,o,A,c,e,s,r,q,p⟩:=h;have f:∀t∈ [cK,aS,aS],Kept t w w':=fun t b=>by
  simp only[aK,bJ,or_false] at b;rcases b with rfl|rfl|rfl
  ·exact m
  ·exact d
  ·exact d
 exact⟨v,l,o,A,c,e,gF rj.iH s f,gF rj.iH r f,gF rj.iH q f,gF cJ p fun t b=>by simp only[aK,bJ,or_false] at b;subst b;exact d⟩
theorem nW.keep(h:nW w u x first)(e:Kept cK w w')(c:Kept aS w w'):nW w' u x first:=by obtain⟨a,d,b,k,j,i,g,f⟩:=h;exact⟨a,d,b,k,j,i,g,f.keep e c⟩
theorem nW.parts(h:nW w u x first):∃f a b A m c,u= .agg #[aG f 0 (x.ai.length+1) (x.ai.length+1),aG a 0 x.ai x.ai,aG b 0 x.ai x.ai,.slice A m c]:=by obtain⟨g,d,i,n,l,k,j,f,a,b,A,c,e,_⟩:=h;exact⟨f,a,b,A,_,c,e⟩
def gO(x:aP)(T:List (List Rw))(jb pb:Nat)(w:au):Prop:=
 ∃A c B d E e At b g f,∃l:List Nat,aq w jb Di [.slice A x.ai.length c,.slice B x.ay.length d,.slice E x.a_.length e,.int .i64 x.label,.slice At T.length b,.slice g l.length f,.map (some pb)]/\dP w (.agg #[.slice A x.ai.length c,.slice B x.ay.length d,.slice E x.a_.length e,.int .i64 x.label]) x/\
  iO w (.slice At T.length b) T/\IL w (.slice g l.length f) (ints l)/\l.Nodup/\∀a,a∈l↔a<x.ai.length
def dy(x:aP)(pb:Nat)(w:au):Prop:=∃m f,dt w aS pb m f/\∀k u,f k=some u->∃v:Int,k= .int .i64 v/\ -1<=v/\v<(x.ai.length:Int)/\nW w u x v
theorem gO.keep(h:gO x T jb pb w)(b:w'.heap[jb]? =w.heap[jb]?)(a:∀t,Kept t w w'):gO x T jb pb w':=by obtain⟨A,c,B,d,E,e,At,v,F,y,l,m,k,j,i,g,f⟩:=h;refine⟨A,c,B,d,E,e,At,v,F,y,l,b.trans m,?_,gF tR j fun t _=>a t,gF cJ i fun t _=>a t,g,f⟩;obtain⟨G,z,D,s,C,r,q,p,o,n⟩:=k;exact⟨G,z,D,s,C,r,q,gF nM p fun t _=>a t,gF oJ o fun t _=>a t,gF vp n fun t _=>a t⟩
theorem gO.lt(h:gO x T jb pb w):jb<w.heap.size:=by obtain⟨A,c,B,d,E,e,At,b,g,f,l,a,_⟩:=h;exact a.lt
theorem gO.ext(h:gO x T jb pb w)(k:Ext w w'):gO x T jb pb w':=h.keep (k.block _ h.lt) fun _=> .jN k
theorem dy.keep(h:dy x pb w)(d:w'.heap[pb]? =w.heap[pb]?)(b:Kept cK w w')(a:Kept aS w w'):dy x pb w':=by obtain⟨m,f,g,e⟩:=h;refine⟨m,f,g.same d,fun k u c=> ?_⟩;obtain⟨v,n,l,j,i⟩:=e k u c;exact⟨v,n,l,j,i.keep b a⟩
theorem dy.lt(h:dy x pb w):pb<w.heap.size:=by obtain⟨_,_,a,_⟩:=h;exact a.lt
theorem dy.ext(h:dy x pb w)(k:Ext w w'):dy x pb w':=h.keep (k.block _ h.lt) (.jN k) (.jN k)
theorem dy.kept(h:dy x pb w)(k:aZ [pb] w w')(t:TypeId):Kept t w w':=fun g i e a=>by refine(k.block g (ie a) fun c=> ?_).trans a;simp only[aK,bJ,or_false] at c;subst c;obtain⟨_,_,⟨D,⟨f,b,d,_⟩,_⟩,_⟩:=h;rw[d] at a;injection a with a;cases a
theorem gO.bX(h:gO x T jb pb w)(b:dy x pb w)(a:jb≠pb)(k:aZ [pb] w w'):gO x T jb pb w':=h.keep (k.block _ h.lt axB) (b.kept k)
theorem dt.vB{k:TypeId}{f:Lit->Option Value}(h:dt w k a b f)(c:Only a w w')(t:TypeId):Kept t w w':=Sy h c t
end
def abN{f:Go.Func}{u0 u1 u2 u3:Value}{R:Ending->World->Prop}(c:f.results= #[.cell a gH])(h:Q.tmps.getD a undef=aI b 0)(i:Q.defers= [])
 (e:aq m b gH [u0,u1,u2,u3]) (j:∀d,Only b m d->Kept cK m d->Kept aS m d->R (.returned (.agg #[p,q,r,s])) d):
 bodyPost prog f R .ret Q ((((m.setCell (aD b 0) p).setCell (aD b 1) q).setCell (aD b 2) r).setCell (aD b 3) s):=by
 exact bodyPost_ret (results_cell_row c Q.tmps _ b gH #[p,q,r,s] (0,0) _ h ((((e.bh 0 p).bh 1 q).bh 2 r).bh 3 s) underlying297 rfl Ok) i (j _ ((((gD b m).bh 0 _).bh 1 _).bh 2 _|>.bh 3 _) (e.JD Od 0 1 2 3 p q r s) (e.JD Od 0 1 2 3 p q r s))
def alV(w:au):(zeroValue gH).run prog w= .ok (.agg #[.slice none 0 0,.slice none 0 0,.slice none 0 0,.slice none 0 0]) w:=Ok
def ac7:prog.underlying Ug=some (.map aS gH):=Ok
def adH(d: -1<=B)(c:B<100):keyOf prog aS (.int .i64 B)=some (.int .i64 B):=keyOf_int_mk Ok (by have b:IntKind.min .i64= -9223372036854775808:=Od;have a:IntKind.max .i64=9223372036854775807:=Od;simp only[Lit.wf,b,a,cV,decide_eq_true_eq];omega)
def aka(c:∀b,b∈i↔b<a)(d:f<a):(∀b,b∈f::i.filter (fun b=> !(b==f))↔b<a):=fun b=>by
 rw[aK,eE,c];constructor
 ·rintro(rfl|⟨h,_⟩)
  ·exact d
  ·exact h
 ·intro h;by_cases e:b=f
  ·exact .inl e
  ·exact .inr ⟨h,by simpa using e⟩
def acl{w:au}(h:aq w a aS (iT b y))(f:b<=1000):IL w (aG a 0 b b) (si b y):=by
 have d:(si b y)=b:=by unfold si;simp
 refine⟨dV a 0,b,iT b y,by rw[d],by rw[d];exact aL _,by unfold maxLen;omega,fun h=>(by cases h),h.sl 0,?_⟩;unfold iT si;clear h f d;induction List.range b with
 |nil=>rfl
 |cons c l e=>exact⟨[.int .i64 (sA (y c))],_,rfl,rfl,e⟩
def dy.put{x:aP}{first:Int}(h:dy x a m)(o: -1<=first)(A:first<(x.ai.length:Int))(F:x.ai.length<=99)(z:nW m p x first):
 ∃d,(Instr.mapUpdate Ug (.map (some a)) (.int .i64 first) p).run prog m= .ok () d/\ah (dy x a d)/\ah (Only a m d):=by
 obtain⟨b,f,g,n⟩:=h;have k:=g.bound lY ((List.range 101).map fun i:Nat=>Lit.int .i64 ((i:Int) - 1)) fun l c=>by obtain⟨p,y⟩:=Ib.1 c;obtain⟨v,e,s,r,_⟩:=n l p y;exact b_.2 ⟨(v+1).toNat,dL.2 Om,by rw[e];congr 1;omega⟩
 obtain⟨d,C,B,j⟩:=k.put lY ac7 (by rw[bP,i7];unfold maxLen;omega) (adH o Om) p;refine⟨d,C,⟨_,_,B,fun l t c=> ?_⟩,j⟩;by_cases q:l= .int .i64 first
 ·subst q;rw[xg] at c;injection c with c;subst c;exact⟨first,rfl,o,A,z.keep (g.vB j _) (g.vB j _)⟩
 ·rw[pR q] at c;obtain⟨v,s,r,E,D⟩:=n l t c;exact⟨v,s,r,E,D.keep (g.vB j _) (g.vB j _)⟩
def alW(b:Nat)(f a:Int)(w:au)(h:w.cell? ⟨b,0,none⟩=some (.int .i64 f)):
 Calls prog 286 #[.int .i64 a,.pointer (some ⟨b,0,none⟩)] w fun e c=>e= .returned (.bool (a==f))/\c=w:=by
 go_enter func286,ntmps286;go_wp2;exact bodyPost_ret (by simp [results,results286,go_sem]) rfl ⟨rfl,rfl⟩
def Tn(h:aq m b w [p])(c:a<=b):m.ownsRow a w 1 (.slice (some ⟨b,0,none⟩) 1 1) 1 [p]:=
 ⟨rfl,.inr ⟨b,1,#[p],rfl,c,h,by decide,by unfold maxLen;omega,rfl,rfl⟩⟩
def aqw{rest:List Value}(h:aq m a w (t++rest)):Sl m w (some ⟨a,0,none⟩) t:=fun j u b=>h.sl 0 j u (by
 rw[mV];rcases cA j t with c|c
 ·rw[oD c];exact b
 ·rw[eT c] at b;cases b)
def ap8(h:m.ownsRow a aS 1 (.slice E (1+i) c) (1+i) ([.int .i64 (b:Int)]++eU (ints i))):IL m (.slice E (b::i) c) (ints (b::i)):=by
 have e:1+i=(ints (b::i)).length:=by unfold ints;rw[bP,cT,nL]
 have d:(b::i)=(ints (b::i)).length:=axJ;rw[e] at h;rw[d];exact Ng h (NP m (ints (b::i)))
def anY(h:m.ownsRow a aS 1 (.slice E b c) b t)(f:b≠0):∃g rest,E=some ⟨g,0,none⟩/\a<=g/\b<=c/\c<=maxLen/\aq m g aS (t++rest):=by
 obtain⟨v,p⟩:=h;rcases p with⟨_,q⟩|⟨g,u,d,e,j,i,o,l,x,k⟩
 ·exact absurd q f
 ·injection e with s y r;subst r;refine⟨g,d.toList.drop (b*1),s,j,o,l,?_⟩;unfold aq;rw[i,<-k,tH]
def aaC(f:Nat):∀l:List Nat,(ints l).filter (fun a=> !(a==(f:Int)))=ints (l.filter fun a=> !(a==f))
 | []=>rfl
 |a::l=>by
  have b:=aaC f l;unfold ints at b⊢;rw[jc,qy,qy,b];have e:((a:Int)==(f:Int))=(a==f):=by rw[lW,beq_iff_eq,beq_iff_eq];omega
  rw[e];cases(a==f)<;>rfl
def amC(D o:Nat)(x:aP)(T:List (List Rw))(ok:bV x)(first:Int)(w:au)(hB:gO x T D o w)(hM:dy x o w)(N: -1<=first)(h2:first<(x.ai.length:Int)):
 Calls prog 237 #[.pointer (some ⟨D,0,none⟩),.int .i64 first] w fun e i=>∃u,e= .returned u/\nW i u x first/\dy x o i/\aZ [o] w i:=by
 have a12:=ok.a12;have aN:=af ok;have HM:=af hM;have hpl:=hM.lt;obtain⟨A,c,B,d,E,e,At,ct,Al,cl,l,hJ,hSc,KM,hIl,KN,hLm⟩:=hB;have HJ:=af hJ;have d6:=hJ.lt;have AX:=af hSc;have d_:=af hIl;have Yh:=af hLm;have Ae:l.length<=12:=aV (Fh KN fun a ha=>(hLm a).1 ha) a12;obtain⟨m0,f,hm,hf⟩:=hM;have hlk:=fun(W:au) (hW:W.heap[o]? =w.heap[o]?)=>(hm.same hW).look lY ac7 (alV W) (adH N Om);have kU:ah (∀u,f (.int .i64 first)=some u->nW w u x first):=fun u hu=>by obtain⟨v,e1,_,_,h4⟩:=hf _ u hu;injection e1 with _ e1;rwa[<-e1] at h4
 generalize f (.int .i64 first)=r at*;clear hm hf hJ hSc KM hIl;obtain⟨X0,y0,z0,X1,y1,z1,X2,y2,z2,X3,y3,z3,hu⟩:∃X0 y0 z0 X1 y1 z1 X2 y2 z2 X3 y3 z3,r.getD (.agg #[.slice none 0 0,.slice none 0 0,.slice none 0 0,.slice none 0 0])= .agg #[.slice X0 y0 z0,.slice X1 y1 z1,.slice X2 y2 z2,.slice X3 y3 z3]:=by
  cases r with
  |none=>exact⟨_,_,_,_,_,_,_,_,_,_,_,_,rfl⟩
  |some u=>obtain⟨cb,kb,hb,A,m,c,rfl⟩:=(kU u rfl).parts;exact⟨_,_,_,_,_,_,_,_,_,_,_,_,rfl⟩
 have Ep:ah (r.isSome=true->nW w (.agg #[.slice X0 y0 z0,.slice X1 y1 z1,.slice X2 y2 z2,.slice X3 y3 z3]) x first):=fun h=>by obtain⟨u,rfl⟩:=Ib.1 h;rw[<-hu];exact kU u rfl
 simp only[hu] at hlk;have wH:=af hlk;clear hu hlk;generalize r.isSome=b at*;go_enter func237,ntmps237;go_upto_region 1 with fail
 refine gJ fun W HX BQ BZ=> ?_;have nA:=BQ.lt;have vZ:=BZ.lt;obtain⟨S,s⟩:∃S:World->Prop,S=fun i=>aq i D Di [.slice A x.ai c,.slice B x.ay d,.slice E x.a_ e,.int .i64 x.label,.slice At T ct,.slice Al l cl,.map (some o)]/\aq i w.heap.size aS [.int .i64 first]/\i.heap[o]? =w.heap[o]?:=⟨_,rfl⟩;have bK:ah (∀i,S i->i.cell? ⟨D,6,none⟩=some (.map (some o))/\i.cell? ⟨w.heap.size,0,none⟩=some (.int .i64 first)/\(Instr.lookup Ug (.map (some o)) (.int .i64 first) true).run prog i= .ok (.tuple #[.agg #[.slice X0 y0 z0,.slice X1 y1 z1,.slice X2 y2 z2,.slice X3 y3 z3],.bool b]) i):=by rw[ah,s];exact fun i h=>⟨h.1.aF 6,h.2.1.aF 0,wH.ae i h.2.2⟩
 have q:ah (∀i,Ext W i->S i):=(by rw[ah,s];exact fun i h=>⟨HJ.ext (HX.trans h),BQ.ext h,(HX.trans h).block _ hpl⟩);have aJ:ah (S W.drew):=q _ (aB W).drew;clear s;refine cG (S:=S) (T:=fun _=>false) Ok ?_;have G:=af (aB W).drew;have hwd:w.heap.size+1<W.drew.heap.size:=vZ;generalize W.drew=L at*;refine ax 0 9 ?_;refine ax 1 10 ?_;refine ax 2 11 ?_;refine ax 3 12 ?_;refine ax 4 13 ?_;refine ax 5 14 ?_;refine ax 6 8 ?_;refine ax 7 15 ?_;refine ax 8 16 ?_;refine aO 9 ?_;intro K hK;go_simp;refine hK.ae _ _ (fun _=>q _ (G.alloc _)) ?_;clear hK;refine aO 10 ?_;intro K hK;go_simp;refine hK.ae _ _ (fun _=>q _ (G.alloc _)) ?_;refine aR fun W2 n BP=> ?_;have X:=af (G.trans n);clear hK;refine aO 11 ?_;intro K hK;go_simp;refine hK.ae _ _ (fun _=>q _ X) ?_;refine bY Ok ?_;clear hK;have n:=af (HX.trans X);have QH:=af (BQ.ext X);have oB:=af (BZ.ext X);clear BQ BZ nA vZ;generalize L.heap.size=bp at*;have lC:=af (HM.ext n);have HJ2:=af (HJ.ext n);cases b with
 |true=>have HP:=af ((Ep rfl).keep (.jN n.ae) (.jN n.ae));obtain⟨k0,k1,k2,k3⟩:=BP.four;obtain⟨f0,f1,f2,f3⟩:=oB.fX;obtain⟨j0,j1,j2,j3⟩:=oB.four;go_wp2_with fail;refine abN rfl rfl rfl oB.ae (fun F q1 q2 q3=> ?_);have g1:=HP.keep q2 q3;have g2:=lC.keep (q1.block _ lC.lt Oc) q2 q3;have g3:=(gS (S:= [o]) n).only q1 (.inr Om);first|exact⟨_,rfl,g1,g2,g3⟩
 |false=>
  have O9:w.heap.size<W2.heap.size:=QH.lt;have auq:=af (AX.ext n);have au3:=af (iU d_ n);obtain⟨Ax,cx,xs,e0,g1,g2,g3,g4,g5⟩:=au3.ae;have Q:=T_ g5;have V:(ints l).length=l.length:=axJ;rw[V] at e0 g1;injection e0 with e1 _ e2;subst e1 e2;have CC:=af (ak1 Al l cl xs W2 g3 g4 (by rw[Q];unfold eU;rw[bP,V,lF]) g1 (fun u hu=>by rw[Q] at hu;obtain⟨a,_,rfl⟩:=b_.1 hu;rfl) Om)
  have yj:=af Q;have Y:=af V;have j2:=HJ2.aF 5;clear g1 g2 g3 g4 g5 Q V;go_wp2_with fail
  refine CC.mono ?_;rintro e3 w3 ⟨v3,rfl,fu,hx3⟩;obtain⟨A3,c3,rfl,_,_,_⟩:=eL fu;have fJ:=af fu;have BQ3:=af (QH.ext hx3);have cE:=af hx3;have uz:=BQ3.aF 0;clear fu hx3 j2;go_upto_if 25 with fail
  go_cut [7] (fun s7 wx=>∃(Ap:aQ) (cp:Nat) (k:List Nat),s7= .slice Ap k cp/\ah (IL wx (.slice Ap k cp) (ints k))/\ah (∀a,a∈k↔a<x.ai)/\ah (∀f:Nat,first=f->k.head? =some f)/\ah (Ext W2 wx))
  case first=>
   by_cases hf:0<=first
   ·have d1:decide (0<=first)=true:=decide_eq_true hf;obtain⟨fn,hfn⟩:∃fn:Nat,first=fn:=⟨first.toNat,by omega⟩
    have hl0:l.length≠0:=fun e=>by have:=(Yh fn).2 Om;rw[lU e] at this;cases this
    obtain⟨g,rest,KR,sT,hc1,hc2,hBg⟩:=anY fJ hl0;subst KR;have Qw:=af hBg;have mK:=af hfn;clear hBg hfn;go_upto_region 5 with fail
    refine cG (S:=fun i=>i.cell? ⟨w.heap.size,0,none⟩=some (.int .i64 first)) (T:=fun _=>false) Ok ?_;have bK:ah (∀i:World,i.cell? ⟨w.heap.size,0,none⟩=some (.int .i64 first)->i.cell? ⟨w.heap.size,0,none⟩=some (.int .i64 first)):=fun _ h=>h;have aJ:ah (w3.drew.cell? ⟨w.heap.size,0,none⟩=some (.int .i64 first)):=uz;have J:=af BQ3.drew;have dW:=af cE.drew;have kV:=af Qw.drew;have kS:g≠w.heap.size:=by have:=QH.lt;omega
    clear uz;generalize w3.drew=L at*;refine ax 0 26 ?_;refine ax 2 28 ?_;refine ax 3 29 ?_;have CD:=af (fun W (hX:W.cell? ⟨w.heap.size,0,none⟩=some (.int .i64 first)) (hl:w.heap.size<W.heap.size) (hB:aq W g aS (eU (ints l)++rest))=>aoS 286 (fun _ _=>by rfl) (.pointer (some ⟨w.heap.size,0,none⟩)) (fun a=>a==first) (fun F=>Only g W F) g c3 (ints l) rest W (gD g W) hB (by rw[Y.ae];exact hc1) hc2 (fun W1 W2 N h2=>N.trans h2)
     (fun W1 v ys N _ Gr=>(alW w.heap.size first v W1 (by rw[<-hX];unfold World.cell?;simp only;rw[N.block w.heap.size hl Oc])).mono fun e i hh=>⟨hh.1,by rw[hh.2];exact N,by rw[hh.2];exact Gr⟩))
    rw[yj.ae] at kV;have Z:ah ((ints l).filter (fun v=> !(v==first))=ints (l.filter fun a=> !(a==fn))):=by rw[ah,mK.ae];exact aaC fn l
    have AZ:=af (aka (f:=fn) Yh (by have:=mK.ae;omega));have X4:ah (∀f:Nat,first=f->(fn::l.filter fun a=> !(a==fn)).head? =some f):=fun f h=>by have N:=mK.ae;have h2:fn=f:=Om;rw[h2];rfl
    have awp:(l.filter fun a=> !(a==fn)).length<=12:=aV (mP _ _) Ae;have hw2:W2.heap.size<=L.heap.size:=dW.size;have Ev:ah (∀l:List Nat,(ints l).length=l):=fun l=>by unfold ints;rw[bP]
    rw[Y.ae] at CD;clear d1;generalize l.filter (fun a=> !(a==fn))=lf at*;refine FJ 1 4 Ok ?_ ?_
    ·skip
     refine zT ?_;intro K hK;go_simp;refine hK.ae _ _ (fun _=>by rw[<-aJ.ae];exact((aB L).alloc _).cell (p:=⟨w.heap.size,0,none⟩) J.lt) ?_;refine aR fun W5 H BN=> ?_;have C:=af (J.ext H);have yK:=af (kV.ext H);have GH:g≠L.heap.size:=by have:=kV.lt;omega
     have O:=af (dW.trans H);clear hK;generalize L.heap.size=nb at*;have YZ:=af (CD W5 (C.aF 0) C.lt yK);refine aO 4 ?_;intro K hK;go_simp;refine YZ.mono ?_;rintro e6 w6 ⟨rfl,U,av1,Xp⟩;rw[Z.ae,Ev.ae];rw[Z.ae] at Xp;have L9:=af (C.only U Om);have Hy:=af (BN.only U Om);have f_:=af (O.only U Om);have pG:=af Xp;have bB:ah (w6.cell? ⟨w.heap.size,0,none⟩=some (.int .i64 first)):=L9.aF 0;refine hK.ae _ _ (fun _=>bB.ae) ?_;clear hK BN U Xp;exact m27
    ·skip
     refine zT ?_;intro K hK;go_simp;have YZ:=af (CD L aJ J.lt kV);refine YZ.mono ?_;rintro e5 w5 ⟨rfl,ny,av2,Xq⟩;rw[Z.ae,Ev.ae];rw[Z.ae] at Xq;have C:=af (J.only ny Om);have H:=af (dW.only ny Om);have yK:=af Xq;have bB:ah (w5.cell? ⟨w.heap.size,0,none⟩=some (.int .i64 first)):=C.aF 0;refine hK.ae _ _ (fun _=>bB.ae) ?_;clear hK ny Xq;refine aO 1 ?_;intro K hK;go_simp;refine hK.ae _ _ (fun _=>(C.ext ((aB w5).alloc _)).aF 0) ?_;refine aR fun w6 O Hy=> ?_;have L9:=af (C.ext O);have pG:=af (yK.ext O);have f_:=af (H.trans O);have zW:W2.heap.size<=w5.heap.size:=H.size;clear hK;generalize w5.heap.size=nb at*;exact m27
   ·have d1:decide (0<=first)=false:=decide_eq_false hf;have auZ:ah (IL w3 (.slice A3 l c3) (ints l)):=(by have N:=fJ.ae;rw[<-Y.ae] at N;have h:=Ng (R:=dw) (l:=ints l) N (by rw[yj.ae];exact NP w3 (ints l));rwa[Y.ae] at h)
    go_wp2_with fail
    go_meet;exact⟨_,_,l,rfl,auZ,Yh,fun f hf2=>by omega,cE⟩
  case rest=>
   obtain⟨Ap,cp,k,rfl,HIP,AZ,X4,z⟩:=hcut;clear uz;have av6:k.length=k.length:=rfl;obtain⟨dd,Pg,qa⟩:=akd aN (fun a ha=>(AZ a).2 ha);have Lr:=af Pg;have HWH:=af qa;have Eg:=af (n.trans z);have HJ4:=af (HJ2.ext z);have Y9:=af (BP.ext z);have J:=af (QH.ext z);have Hx:=af (oB.ext z);have JY:=af (auq.ext z);have Bd:=af (lC.ext z);have CO:=af (fun W (hX:Ext wc W)=>an1 _ x Ap cp k W (JY.ext hX) aN (iU HIP hX) (fun a ha=>(AZ a).1 ha));have CL:=af (fun W (hX:Ext wc W) g (hB:aq W g aS (iT x.ai (nj x k)))=>an2 _ x (some ⟨g,0,none⟩) x.ai (nj x k) dd W (JY.ext hX) aN Lr (acl hB Om));have aw9:bp<W2.heap.size:=BP.lt;clear Pg qa BP;go_upto_region 6 with fail
   obtain⟨S,s⟩:∃S:World->Prop,S=fun i=>aq i D Di [.slice A x.ai c,.slice B x.ay d,.slice E x.a_ e,.int .i64 x.label,.slice At T ct,.slice Al l cl,.map (some o)]:=⟨_,rfl⟩;have bK:ah (∀i,S i->i.cell? ⟨D,0,none⟩=some (.slice A x.ai c)/\i.cell? ⟨D,1,none⟩=some (.slice B x.ay d)/\i.cell? ⟨D,2,none⟩=some (.slice E x.a_ e)/\i.cell? ⟨D,3,none⟩=some (.int .i64 x.label)):=(by rw[ah,s];exact fun i h=>⟨h.aF 0,h.aF 1,h.aF 2,h.aF 3⟩)
   have q:ah (∀i,Ext wc i->S i):=(by rw[ah,s];exact fun i h=>HJ4.ext h);have aJ:ah (S wc.drew):=q _ (aB wc).drew;clear s;refine cG (S:=S) (T:=fun j=>decide (11<=j)) Ok ?_;have G:=af (aB wc).drew;generalize wc.drew=L at*;refine ax 0 32 ?_;refine ax 1 33 ?_;refine ax 2 34 ?_;refine ax 3 35 ?_;refine ax 4 36 ?_;refine ax 5 37 ?_;refine ax 6 38 ?_;refine ax 7 39 ?_;refine ax 8 40 ?_;have CO2:=af (CO L G);refine aO 9 ?_;intro K hK;go_simp;refine CO2.mono ?_;rintro e5 w5 ⟨ob,rfl,qZ,axe,iK⟩;have Eh:=af (G.trans iK);have CL2:=af (CL w5 Eh ob qZ);refine hK.ae _ _ (fun _=>q _ Eh) ?_;clear hK qZ iK;refine aO 10 ?_;intro K hK;go_simp;refine CL2.mono ?_;rintro e6 w6 ⟨u6,wl,rfl,hpv,jS⟩;have y:=af (Eh.trans jS);have XY:=af hpv;obtain⟨cb,kb,hb,A6,c6,e6,_⟩:=hpv;subst e6;refine hK.ae _ _ (fun _=>q _ y) ?_;have QI:=af (Y9.ext y);have L9:=af (J.ext y);have qu:=af (Hx.ext y);have HJ6:=af (HJ4.ext y);have Qe:=af (Bd.ext y);have HXg:=af (Eg.trans y);obtain⟨k0,k1,k2,k3⟩:=QI.four;obtain⟨f0,f1,f2,f3⟩:=QI.fX;obtain⟨F,hW',BPN,I⟩:=QI.Do (.slice (some ⟨cb,0,none⟩) (x.ai.length+1) (x.ai.length+1)) (.slice (some ⟨kb,0,none⟩) x.ai x.ai) (.slice (some ⟨hb,0,none⟩) x.ai x.ai) (.slice A6 wl c6);have HW:=af hW';have M:∀t,gH≠t->Kept t w6 F:=fun t ht=>vo I QI ht;have HPO:ah (nW F (.agg #[.slice (some ⟨cb,0,none⟩) (x.ai.length+1) (x.ai.length+1),.slice (some ⟨kb,0,none⟩) x.ai x.ai,.slice (some ⟨hb,0,none⟩) x.ai x.ai,.slice A6 wl c6]) x first):=⟨k,dd,wl,AZ,X4,Lr,HWH,XY.keep (M _ Od) (M _ Od)⟩;have QG:=af (L9.only I Om);have QE:=af (qu.only I Om);have HJ7:=af (HJ6.only I Om);have HM7:=af (Qe.keep (I.block _ Qe.lt Oc) (M _ Od) (M _ Od));have LV:ah (aZ [o] w F):=(gS HXg).only I.ae (.inr Om);clear hK jS hW' M;refine aO 11 ?_;intro K hK;go_simp;refine hK.ae _ _ Oe ?_;refine bY Ok ?_;rw[HW.ae];clear k0 k1 k2 k3 f0 f1 f2 f3 hK;go_upto_region 7 with fail
   have ahV:=af (HPO.keep (jp _ _).drew (jp _ _).drew);obtain⟨w8,hrun,HM8,P⟩:=(HM7.ext (aB F).drew).put N h2 Om ahV;have BPd:=af BPN.drew;have BQd:=af QG.drew;have Y3:=af QE.drew;have HJd:=af HJ7.drew;have YJ:=af LV.drew;have HMd:=af (HM7.ext (aB F).drew);have aJ:ah (aq F.drew D Di [.slice A x.ai c,.slice B x.ay d,.slice E x.a_ e,.int .i64 x.label,.slice At T ct,.slice Al l cl,.map (some o)]/\aq F.drew w.heap.size aS [.int .i64 first]/\aq F.drew bp gH [.slice (some ⟨cb,0,none⟩) (x.ai.length+1) (x.ai.length+1),.slice (some ⟨kb,0,none⟩) x.ai x.ai,.slice (some ⟨hb,0,none⟩) x.ai x.ai,.slice A6 wl c6]):=⟨HJd,BQd,BPd⟩;have bK:ah (∀i,(aq i D Di [.slice A x.ai c,.slice B x.ay d,.slice E x.a_ e,.int .i64 x.label,.slice At T ct,.slice Al l cl,.map (some o)]/\aq i w.heap.size aS [.int .i64 first]/\aq i bp gH [.slice (some ⟨cb,0,none⟩) (x.ai.length+1) (x.ai.length+1),.slice (some ⟨kb,0,none⟩) x.ai x.ai,.slice (some ⟨hb,0,none⟩) x.ai x.ai,.slice A6 wl c6])->i.cell? ⟨D,6,none⟩=some (.map (some o))/\i.cell? ⟨w.heap.size,0,none⟩=some (.int .i64 first)/\F4 i bp (.slice (some ⟨cb,0,none⟩) (x.ai.length+1) (x.ai.length+1)) (.slice (some ⟨kb,0,none⟩) x.ai x.ai) (.slice (some ⟨hb,0,none⟩) x.ai x.ai) (.slice A6 wl c6)):=fun i h=>⟨h.1.aF 6,h.2.1.aF 0,h.2.2.four⟩;unfold F4 at bK;clear BPN;refine cG (S:=fun i=>aq i D Di [.slice A x.ai c,.slice B x.ay d,.slice E x.a_ e,.int .i64 x.label,.slice At T ct,.slice Al l cl,.map (some o)]/\aq i w.heap.size aS [.int .i64 first]/\aq i bp gH [.slice (some ⟨cb,0,none⟩) (x.ai.length+1) (x.ai.length+1),.slice (some ⟨kb,0,none⟩) x.ai x.ai,.slice (some ⟨hb,0,none⟩) x.ai x.ai,.slice A6 wl c6]) (T:=fun j=>decide (6<=j)) Ok ?_;generalize F.drew=L at*;refine ax 0 43 ?_;refine ax 1 44 ?_;refine ax 2 45 ?_;refine ax 3 46 ?_;refine ax 4 47 ?_;refine ax 5 48 ?_;refine aO 6 ?_;intro K hK;go_simp;refine hK.ae _ _ Oe ?_;refine bY Ok ?_;have L_:=af (BPd.only P Om);have Y4:=af (Y3.only P Om);have X9:=af (ahV.keep (HMd.kept ((gS (aB L)).only P.ae (.inl Ou)) _) (HMd.kept ((gS (aB L)).only P.ae (.inl Ou)) _));have yJ:=af (YJ.only P (.inl Ou));clear hK hrun;obtain⟨k0,k1,k2,k3⟩:=L_.four;obtain⟨f0,f1,f2,f3⟩:=Y4.fX;obtain⟨j0,j1,j2,j3⟩:=Y4.four;go_wp2_with fail
   refine abN rfl rfl rfl Y4.ae (fun F q1 q2 q3=> ?_);have g1:=X9.keep q2 q3;have g2:=HM8.keep (q1.block _ HM8.lt Oc) q2 q3;have g3:=yJ.only q1 (.inr Om);first|exact⟨_,rfl,g1,g2,g3⟩
def amr(n:Nat)(h:n<=1000)(w:au):
 (Instr.makeSlice nS (av (n:Int)) (av (n:Int))).run prog w= .ok (aG w.heap.size 0 n n) (w.alloc (.cells (List.replicate n (Value.string ⟨#[]⟩)).toArray bC)):=by
 obtain⟨e,f,c,b,a⟩:=info_parts (show(prog.info? bC).map (fun i=>(i.zero,i.size,i.bytes))=some (some (.string ⟨#[]⟩),1,16) by kernel_rfl);have d:=run_make (P:=prog) w nS bC e (.string ⟨#[]⟩) underlying67 f c .i64 .i64 (n:Int) (n:Int) Om (xd _) aye Om;simp only[kX,b,lF,Value.cells,Cf] at d;rw[d]
def MO{n:Nat}{v:Value}:(List.range n).map (fun _=>v)=List.replicate n v:=by rw[List.map_const',i7]
def Dz(n base:Nat)(u:Value)(w:au):Prop:=∃g,u=aG g 0 n n/\aq w g bC (tV n fun _=> [])/\base<=g
def Dy(n base:Nat)(u:Value)(w:au):Prop:=∃g,u=aG g 0 n n/\aq w g fV (fU n fun _=>false)/\base<=g
def DC(base:Nat)(u:Value)(w:au):Prop:=∃g,u= .map (some g)/\dt w bC g 0 (fun _=>none)/\base<=g
def Gf(x:aP)(first:Int)(u:Value)(w:au):Prop:=nW w u x first
section
variable{w w':au}{u:Value}{x:aP}{pb base n:Nat}{first:Int}
theorem Dz.bX(h:Dz n base u w)(k:aZ [pb] w w')(c:pb<base):Dz n base u w':=by obtain⟨g,e,b,a⟩:=h;exact⟨g,e,b.bX k Oc,a⟩
theorem Dy.bX(h:Dy n base u w)(k:aZ [pb] w w')(c:pb<base):Dy n base u w':=by obtain⟨g,e,b,a⟩:=h;exact⟨g,e,b.bX k Oc,a⟩
theorem DC.bX(h:DC base u w)(k:aZ [pb] w w')(c:pb<base):DC base u w':=by obtain⟨g,e,a,b⟩:=h;exact⟨g,e,a.same (k.block g a.lt Oc),b⟩
theorem Gf.bX(h:Gf x first u w)(a:dy x pb w)(k:aZ [pb] w w'):Gf x first u w':=nW.keep h (a.kept k _) (a.kept k _)
end
def asE.k23(h:ar:=by exact bodyPost_ret (v:=aI w3.heap.size 0) (by simp [results,results227,go_sem]) rfl ⟨w3.heap.size,nb,sb,kb,_,_,_,_,rfl,BX,HPf,HNf,HSf,HMf,⟨by omega,by omega,by omega,by omega⟩,⟨by omega,by omega,by omega⟩,wJ.2,HC⟩):=h
def asF.agO(h:ar:=by
 refine bW.PU [⟨3,23,Gf x first⟩,⟨9,29,Dz x.ai W.heap.size⟩,⟨11,31,Dy x.ai W.heap.size⟩,⟨12,32,DC W.heap.size⟩] I (fun _ _=>True) [3,9,11,12] [23,29,31,32] [[],[],[],[]] #[true,true,true,true,true,true,true,true,true,true,true,true,true,false,false,false] 4 3 rfl rfl rfl Od Ok Ok (fun _ h=>h) aJ ?_ ?_
 ·exact m11
 ·open asE in exact m23):=h
def asG.k58(h:ar:=by
 have ox:ah (∀w',I w'->aq w' w.heap.size 292 [.bool f,.bool g,.func (.func p) #[] #[],.func (.func m) #[] #[],.func (.func i) #[] #[]]):=fun w' h=>BR.bX (qp w' h).1 Oc;have bK:ah (∀w',I w'->aA w' w.heap.size 0 (.bool f)/\aA w' w.heap.size 1 (.bool g)/\aA w' w.heap.size 2 (.func (.func p) #[] #[])/\aA w' w.heap.size 3 (.func (.func m) #[] #[])/\aA w' w.heap.size 4 (.func (.func i) #[] #[])):=fun w' h=>by exact m64
 open asF in exact agp):=h
def ak4(jb pb:Nat)(x:aP)(T:List (List Rw))(C:bV x)(first:Int)(D:Option Nat)(f g:Bool)(p m i J H:FuncId)(F:Array Value)(w:au)(r:gO x T jb pb w)(q:dy x pb w)(hne:jb≠pb)(h1: -1<=first)(h2:first<(x.ai.length:Int)):
 Calls prog 227 #[aI jb 0,av first,.map D,.agg #[.bool f,.bool g,.func (.func p) #[] #[],.func (.func m) #[] #[],.func (.func i) #[] #[]],.func (.func J) #[] F,.func (.func H) #[] #[]] w fun e w'=>∃a nb sb kb z y t s,e= .returned (aI a 0)/\
  aq w' a 300 [aI jb 0,z,y,t,s,.bool f,.bool g,.func (.func p) #[] #[],.func (.func m) #[] #[],.func (.func i) #[] #[],.func (.func J) #[] F,.func (.func H) #[] #[],.map D,aG nb 0 x.ai x.ai,aG sb 0 x.ai x.ai,.map (some kb)]/\
  nW w' (.agg #[z,y,t,s]) x first/\aq w' nb bC (tV x.ai fun _=> [])/\aq w' sb fV (fU x.ai fun _=>false)/\dt w' bC kb 0 (fun _=>none)/\(w.heap.size<=a/\w.heap.size<=nb/\w.heap.size<=sb/\w.heap.size<=kb)/\(a≠nb/\a≠sb/\a≠kb)/\dy x pb w'/\aZ [pb] w w':=by
 have a12:=C.a12;have aN:=af C;have hpl:=q.lt;have L:=r.lt;have HM:=af q;have Hm:=af r;obtain⟨A,c,B,d,E,e,At,M,O,N,l,G,_⟩:=r;have HJ:=af G;clear G q;go_enter func227,ntmps227;open asG in exact m58
def asB.k23(h:ar:=by exact bodyPost_ret (v:=aI w3.heap.size 0) (by simp [results,results177,go_sem]) rfl ⟨w3.heap.size,nb,sb,kb,_,_,_,_,rfl,BX,HPf,HNf,HSf,HMf,⟨by omega,by omega,by omega,by omega⟩,⟨by omega,by omega,by omega⟩,wJ.2,HC⟩):=h
def asC.agO(h:ar:=by
 refine bW.PU [⟨3,23,Gf x first⟩,⟨9,29,Dz x.ai W.heap.size⟩,⟨11,31,Dy x.ai W.heap.size⟩,⟨12,32,DC W.heap.size⟩] I (fun _ _=>True) [3,9,11,12] [23,29,31,32] [[],[],[],[]] #[true,true,true,true,true,true,true,true,true,true,true,true,true,false,false,false] 4 3 rfl rfl rfl Od Ok Ok (fun _ h=>h) aJ ?_ ?_
 ·exact m11
 ·open asB in exact m23):=h
def asD.k58(h:ar:=by
 have ox:ah (∀w',I w'->aq w' w.heap.size 176 [.bool i,.slice F g f,.bool q,.slice G p m,.bool y,.slice J t s,.bool r,.slice H q1 q2,.func (.func D) #[] #[],.func (.func C) #[] #[],.func (.func z) #[] #[]]):=fun w' h=>BR.bX (qp w' h).1 Oc;have bK:ah (∀w',I w'->aA w' w.heap.size 0 (.bool i)/\aA w' w.heap.size 1 (.slice F g f)/\aA w' w.heap.size 2 (.bool q)/\aA w' w.heap.size 3 (.slice G p m)/\aA w' w.heap.size 4 (.bool y)/\aA w' w.heap.size 5 (.slice J t s)/\aA w' w.heap.size 6 (.bool r)/\aA w' w.heap.size 7 (.slice H q1 q2)/\aA w' w.heap.size 8 (.func (.func D) #[] #[])/\aA w' w.heap.size 9 (.func (.func C) #[] #[])/\aA w' w.heap.size 10 (.func (.func z) #[] #[])):=fun w' h=>by exact m64
 open asC in exact agp):=h
def akP(jb pb:Nat)(x:aP)(T:List (List Rw))(U:bV x)(first:Int)(V:Option Nat)(i:Bool)(F:aQ)(g f:Nat)(q:Bool)(G:aQ)(p m:Nat)(y:Bool)(J:aQ)(t s:Nat)(r:Bool)(H:aQ)(q1 q2:Nat)(D C z fl Z:FuncId)(X:Array Value)(w:au)(M:gO x T jb pb w)(L:dy x pb w)(hne:jb≠pb)(h1: -1<=first)(h2:first<(x.ai.length:Int)):
 Calls prog 177 #[aI jb 0,av first,.map V,.agg #[.bool i,.slice F g f,.bool q,.slice G p m,.bool y,.slice J t s,.bool r,.slice H q1 q2,.func (.func D) #[] #[],.func (.func C) #[] #[],.func (.func z) #[] #[]],.func (.func fl) #[] X,.func (.func Z) #[] #[]] w fun e w'=>∃a nb sb kb Q P O N,e= .returned (aI a 0)/\
  aq w' a 306 [aI jb 0,Q,P,O,N,.bool i,.slice F g f,.bool q,.slice G p m,.bool y,.slice J t s,.bool r,.slice H q1 q2,.func (.func D) #[] #[],.func (.func C) #[] #[],.func (.func z) #[] #[],.func (.func fl) #[] X,.func (.func Z) #[] #[],.map V,aG nb 0 x.ai x.ai,aG sb 0 x.ai x.ai,.map (some kb)]/\
  nW w' (.agg #[Q,P,O,N]) x first/\aq w' nb bC (tV x.ai fun _=> [])/\aq w' sb fV (fU x.ai fun _=>false)/\dt w' bC kb 0 (fun _=>none)/\(w.heap.size<=a/\w.heap.size<=nb/\w.heap.size<=sb/\w.heap.size<=kb)/\(a≠nb/\a≠sb/\a≠kb)/\dy x pb w'/\aZ [pb] w w':=by
 have a12:=U.a12;have aN:=af U;have hpl:=L.lt;have d6:=M.lt;have HM:=af L;have Hm:=af M;obtain⟨A,c,B,d,E,e,At,ct,Al,cl,l,Y,_⟩:=M;have HJ:=af Y;clear Y L;go_enter func177,ntmps177;open asD in exact m58
end Go.Proofs.YtehkcnbodcdijaaGreatDoor
