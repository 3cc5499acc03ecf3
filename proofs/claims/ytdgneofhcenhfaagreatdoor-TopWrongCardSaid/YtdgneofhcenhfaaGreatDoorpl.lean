/- A part. -/
import Derived.Test.YtdgneofhcenhfaaGreatDoorpf
set_option maxHeartbeats 16000000
set_option maxRecDepth 100000
set_option linter.all false
open And renaming intro->Φ
open ByteArray renaming mk->D
open Go renaming bodyPost_ret->Ω,results->ag
open Go.Addr renaming mk->U
open Go.IntKind renaming i64->E
open Go.Lib renaming hid->K
open Go.Proofs.Tryz renaming prog->δ,results231->Ey
open Go.Value renaming bool->ι,int->I,slice->V,string->H,tuple->σ
open Go.World renaming alloc->bm
open Option renaming none->A,some->N
open Go RowKit Lib Proofs.Tryz
namespace Go.Proofs.YtdgneofhcenhfaaGreatDoor
attribute [local go_sem ↓] wp_at_zero wp_at_succ
variable{w:World}{x i:Value}{j:Bs}{Q:El}
theorem Vg(c:bX w j Q x i)(d8:qA Q.Γ)(eg:fW Q)(ec:aT w){a:cp}(bz:fh a)(b5:a.aM=[]):Calls δ 231 #[aK a (V A 0 0),bM Q x i] w (Sl w a.Θ):=by
 obtain⟨⟨e8,e6,rfl⟩,f8,f6,rfl⟩:=c.form;have f2:= @run_makeMap δ;have cy:=K c;have cv:=K d8;have eT:=K eg.Om;have cx:=K ec;have bn:=K (Φ bz b5);simp only[bM,aK] at*;clear c d8 eg ec bz b5;go_enter func231,ntmps231;go_upto_region 1 with fail
 generalize bw:bm (bm (bm w _) _) _=m at*;have bf:=K (Hc bw);clear bw;have u:=K bf.out.keeps;obtain⟨bF,gg,es,t4⟩:=ahi (cx.out.still u.out);have c4:=K (Φ es t4);clear es t4;go_upto_region 2 with fail
 generalize bw:bm bF _=cn at*;have am:Hid (Y m cn γ/\θ cn bF.heap.size 237 #[.map A,.map (N m.heap.size)]/\TM cn (.map (N m.heap.size)) Js):=K (by subst bw;have f:Y bF (bF.alloc (.cells #[.map A,.map (N m.heap.size)] 237)) γ:=(Y.refl bF γ).alloc _;exact⟨kk c4.out.1 f,θ.new _ _ _,c4.out.2.keeps f⟩);clear bw gg;obtain⟨co,cq,cs,ap⟩:=aj (am.out.1.blk bf.out.b2 id);have cJ:=am.out.2.1.cell 0;have cR:=am.out.2.1.cell 1;simp only[gz_] at cJ cR;have cu:=K (yT (o1:=A) (o2:=N m.heap.size) (L0:=0) (cy.out.keeps (kk u.out am.out.1) λ_ _ c=>c) cv.out (TM.nil cn) am.out.2.2 (by decide) (λe1 _=>Hv e1));simp only[bM] at cu;generalize d9:((D Q.Β.toArray):BA)=d7 at*;generalize ea:((D Q.name.toArray):BA)=ex at*;have c0:=K (Φ ea d9);clear d9 ea;have b0:=K bf.out.b1;have cB:=K bf.out.b2;have bq:=K bf.out.b3;clear bf;go_cut [34] (λgl gr=>∃b3:Bool,gl=ι b3/\Hid ((b3=false->Q.Ξ.length<=16)/\Y m gr γ))
 case first=>
  cases y:(ex.toList==[113,117,101,114,121])
  .go_wp2_with fail;go_meet;exact⟨true,rfl,K ⟨nofun,am.out.1⟩⟩
  go_wp2_with fail;refine cu.out.mono ?_;rintro et W ⟨rfl,eo⟩;have z:=K (kk am.out.1 eo);obtain⟨y0,ab,ac,ad⟩:=aj (z.out.blk cB.out id);clear eo co cq cs ap cJ cR;generalize decide (dU eF Js 0 [] Q.Γ=N 0)=fb;cases fb
  .go_wp2_with fail;go_meet;exact⟨true,rfl,K ⟨nofun,z.out⟩⟩
  cases ao:d7.toList.isEmpty
  .go_wp2_with fail;go_meet;exact⟨true,rfl,K ⟨nofun,z.out⟩⟩
  go_wp2_with fail;go_meet;exact⟨decide ((16:Int)<Q.Ξ.length),rfl,K ⟨λc=>by have:=of_decide_eq_false c;omega,z.out⟩⟩
 case rest=>
 obtain⟨b3,rfl,t⟩:=hcut;generalize wc=g9 at*;clear cu co cq cs ap cJ cR f2;cases b3
 .have s:=K (t.out.1 rfl);obtain⟨co,cq,cs,ap⟩:=aj (t.out.2.blk cB.out id);have b2:=K (NR (cy.out.keeps (kk u.out t.out.2) λ_ _ c=>c) cv.out.1 (λr b4=>Nat.le_trans (cv.out.2 r b4).2 (by decide)) (cx.out.still (kk u.out t.out.2)) [118,101,114]);simp only[bM] at b2;rw[c0.out.1,c0.out.2] at b2;go_wp2_with fail;refine b2.out.mono ?_;rintro et cU ⟨rfl,eq⟩;generalize(fQ (bK Q.Γ [118,101,114])).getD 0=cS at*;have b1:=K (kk t.out.2 eq);clear eq co cq cs ap;have fa:=(b1.out.blk b0.out id).cell 9;have fg:=(b1.out.blk b0.out id).frozen 9;go_upto_region 5 with fail
  have cW:=K (show nY w m (cU.setCell (U w.heap.size 9 A) (I E (wrap64 cS))) a (wrap64 cS) 0 [] a.di (V A 0 0) from
   ⟨b1.out.any.trans ((Y.refl cU (·=w.heap.size)).χ (p:=(U w.heap.size 9 A)) (.inl rfl) _) λ_ c=> .inl c,((b1.out.blk b0.out id).χ 9 _).to (by simp),World.ownsRow_nil _ _ _ _,rfl,nofun⟩)
  generalize World.setCell cU _ _=ha at*;generalize wrap64 cS=l at*;have bi:Hid (w.heap.size+1+1<m.heap.size):=K bq.out.lt;have e2:Hid (∀wr,Y m wr (·=w.heap.size)->θ wr (w.heap.size+1) 84 #[H ex,V e8 Q.Γ.length e6,H d7,V f8 Q.Ξ.length f6]):=K λwr f=>f.blk cB.out λc=>by have c:w.heap.size+1=w.heap.size:=c;omega
  have k:Hid (∀wr,Y m wr (·=w.heap.size)->θ wr (w.heap.size+1+1) 171 _):=K λwr f=>f.blk bq.out λc=>by have c:w.heap.size+1+1=w.heap.size:=c;omega
  have bs:Hid (∀wr,Y m wr (·=w.heap.size)->Y w wr γ):=K λwr f=>u.out.trans f λr c=> .inr (by have c:r=w.heap.size:=c;omega);have ap:=(e2.out _ cW.out.keeps).cell 3;clear fa fg b2;simp only[gz_] at ap;have bN:Hid (∀ {wr:World} {d:List It} {h:Bool} {v:Value} {f:Nat},nY w m wr a l f d h v->d.length<=16->fh ⟨a.Θ,a.bV,a.id,a.src,a.dst,a.cE,a.bQ,a.dK,a.h,l,h,d⟩):=K λe3 fJ=> {bn.out.1 with bP:=fJ,aM:=e3.size};go_wp2_with fail;clear ap;go_loopg [43,8,9,10,11] Q.Ξ.length (λfi gn g4 g5 g2 g3 wr=>∃(f:Nat) (d:List It) (h:Bool) (v:Value),fi+f=Q.Ξ.length/\gn=I E f/\Hid (nY w m wr a l f d h v))
  case atStart=>exact⟨0,[],_,_,by omega,rfl,cW⟩
  obtain⟨f,d,h,v,gz,rfl,b⟩:=hrel;cases gk with
  |succ gk=>
   have f0:f<Q.Ξ.length:=by omega
   have f1:(f:Int)<Q.Ξ.length:=by omega
   have c5:=K (bs.out wr b.out.keeps);obtain⟨gs,g1,gt,r,e9,e7,f9,f7,ft,fr,fs,fo,fp,b4,eb,gc,gd,ge,gf⟩:=(cy.out.keeps c5.out λ_ _ c=>c).zu f0;injection ft with fv gB fE;subst fv fE;have c1:=K (Φ eb (eT.out r (List.mem_of_getElem? b4)));clear eb b4 fr fs fo fp;go_upto_region 8 with fail
   clear gc gd ge gf;generalize em:bm wr _=ew at*;have br:Hid (Y wr ew γ/\θ ew wr.heap.size 84 #[H (D r.name.toArray),V e9 r.Γ.length e7,H (D r.Β.toArray),V f9 r.Ξ.length f7]):=K (by subst em;exact⟨(Y.refl wr γ).alloc _,θ.new _ _ _⟩);clear em;obtain⟨e0,fd,fe,ff⟩:=aj br.out.2;have d6:=(br.out.1.blk b.out.blk id).cell 0;simp only[gz_] at d6;have c2:=K (Z9 (c1.out.1.keeps br.out.1 λ_ _ c=>c) c1.out.2 (cx.out.still (kk c5.out br.out.1)) a.Θ);simp only[bM] at c2;generalize((D r.Β.toArray):BA)=hc at*;generalize((D r.name.toArray):BA)=hb at*;go_wp2_with fail;refine c2.out.mono ?_;rintro et ev ⟨bE,bB,sub,bA,f5,gb,rfl,ek,ef,f3,en⟩;clear e0 fd fe ff d6;have c3:=K (Φ (kk br.out.1 en) (Φ ek ef));clear en ek ef f3;go_upto_region 9 with fail
   generalize el:bm ev _=W at*;have z:Hid (Y wr W γ/\θ W ev.heap.size 150 #[H bE,H bB,I E sub,ι bA]):=K (by subst el;exact⟨c3.out.1.alloc _,θ.new _ _ _⟩);clear el;have e:Hid (nY w m W a l f d h v):=K ⟨b.out.keeps.trans z.out.1 Η,z.out.1.blk b.out.blk id,aD b.out.own z.out.1 λ_ _ c=>c,b.out.len,b.out.size⟩;obtain⟨q,p,rfl⟩:=cC b.out.own;have cD:=b.out.len;subst cD;cases gb
   .obtain⟨b6,b9,cb,cc,ce,cf,cg,ch,ck,cl,b7,b8⟩:=aS e.out.blk;obtain⟨ct,a6,a7,a8,a9,ba,bb,bc,bd,be,a4,a5⟩:=aS (k.out _ e.out.keeps);obtain⟨y0,ab,ac,ad,av,aw,a0,a1,a2,a3,aq,au⟩:=dj (k.out _ e.out.keeps);obtain⟨n,g,X⟩:=mS a l h (V q d.length p) (k.out _ e.out.keeps) (bs.out _ e.out.keeps) (.inr (by omega));have al:=K (Dc e.out.own u.out.size);have an:=K (bN.out e.out (by have:=s.out;omega));have o:=K (e.out.Da (by have:=s.out;omega) X.out bi.out);simp only[kZ,iJ] at n g o;go_wp2;obtain⟨B,C,J,L,M,O,P,R,S,T,F,G⟩:=n.out;refine Ω (v:=σ #[.agg #[I E a.Θ,H a.bV,H a.id,H a.src,H a.dst,H a.cE,H a.bQ,H a.dK,I .u32 a.h,I E l,ι h,V q d.length p],ι false]) (by simp[ag,Ey,go_sem,B,C,J,L,M,O,P,R,S,T,F,G]) rfl ?_;exact⟨⟨⟨a.Θ,a.bV,a.id,a.src,a.dst,a.cE,a.bQ,a.dK,a.h,l,h,d⟩,_,false,rfl,an.out,o.out,al.out,rfl,nofun⟩,g.out⟩
   have eD:=e.out.keeps.drew;have g10:=(e.out.blk.drew).cell 10;have g11:=(e.out.blk.drew).cell 11;obtain⟨gF,gR,gW,g0⟩:=aj (z.out.2.drew);simp only[gz_] at g10 g11;obtain⟨g6,go,cm,cI,er,ga⟩:=Lu m.heap.size (aD e.out.own (Y.refl W γ).drew λ_ _ c=>c) (bE,bB,sub,bA) (by have:=s.out;omega) (e.out.keeps.size);have bx:¬(V q d.length p).ownBlock=N w.heap.size:=λQ=>by have:=(e.out.own.lt _ Q).1;have:=bi.out;omega
   have bk:Y W go (λf=>(V q d.length p).ownBlock=N f):=(Y.refl W _).drew.trans er λ_ c=> .inl c;have f10:=(bk.blk e.out.blk bx).frozen 10;have f11:=(bk.blk e.out.blk bx).frozen 11;have fm:=(bk.blk e.out.blk bx).cell 10;have fn:=(bk.blk e.out.blk bx).cell 11;simp only[gz_] at fm fn;obtain⟨g8,g7,rfl⟩:=cC cI;have c6:=K (e.out.more (rm':=h||f5) (bE,bB,sub,bA) c3.out.2 cI bk bi.out);clear cI er ga bk bx eD;have bz:W.drew.heap.size=W.heap.size:=rfl;rw[bz] at cm;simp only at cm;clear bz;have e4:=(e.out.blk.alloc (.cells #[H bE,H bB,I E sub,ι bA] 150)).cell 10;have e5:=(e.out.blk.alloc (.cells #[H bE,H bB,I E sub,ι bA] 150)).cell 11;simp only[gz_] at e4 e5;go_upto_region 11 with fail
   have gw:=s.out;cases h
   .go_region_law (first|(refine Dx rfl (.tmp 59) (.tmp 61) 45 rfl rfl rfl cm ?_))
    all_goals
     go_wp2_with fail;go_roundg gk
     case rel=>exact⟨d.length+1,_,_,_,by omega,by go_num,c6⟩
     case measure=>omega
   (first|go_region_law (first|(refine Dx rfl (.tmp 59) (.tmp 61) 45 rfl rfl rfl cm ?_))|fail)
   all_goals
    go_wp2_with fail;go_roundg gk
    case rel=>exact⟨d.length+1,_,_,_,by omega,by go_num,c6⟩
    case measure=>omega
  |zero=>
   have f1:¬(f:Int)<Q.Ξ.length:=by omega
   obtain⟨q,p,rfl⟩:=cC b.out.own;have cD:=b.out.len;subst cD;have fk:=b.out.blk.cell 0;simp only[gz_] at fk;cases y:(a.Θ==2)
   .cases ao:(a.Θ==3)
    .have eS:=K ao;obtain⟨b6,b9,cb,cc,ce,cf,cg,ch,ck,cl,b7,b8⟩:=aS (b.out.blk.drew);obtain⟨ct,a6,a7,a8,a9,ba,bb,bc,bd,be,a4,a5⟩:=aS (k.out _ (b.out.keeps.drew));obtain⟨y0,ab,ac,ad,av,aw,a0,a1,a2,a3,aq,au⟩:=dj (k.out _ (b.out.keeps.drew));obtain⟨n,g,X⟩:=mS a l h (V q d.length p) (k.out _ b.out.keeps) (bs.out _ b.out.keeps) (.inr (by omega));have g:=K g.out.drew;have al:=K (Dc b.out.own u.out.size);have an:=K (bN.out b.out (by have:=s.out;omega));have o:=K (b.out.Da (by have:=s.out;omega) X.out.drew bi.out);simp only[kZ,iJ] at n g o;obtain⟨-,dt,dv,dx,d0,d1,d2,d3,d4,d5,dp,ds⟩:=aS (k.out _ b.out.keeps);obtain⟨-,c7,da,dc,dd,dg,dk,dl,dm,dn,c8,c9⟩:=dj (k.out _ b.out.keeps);clear a6 a7 a8 a9 ba bb bc bd be a4 a5 ab ac ad av aw a0 a1 a2 a3 aq au;have bv:=b.out.blk.cell 9;have bt:=b.out.blk.cell 11;simp only[gz_] at bv bt;go_upto_region 18 with fail
     have cA:=K (show _/\True from⟨y,trivial⟩);clear y ao;go_region
     go_wp2;obtain⟨B,C,J,L,M,O,P,R,S,T,F,G⟩:=n.out;refine Ω (v:=σ #[.agg #[I E a.Θ,H a.bV,H a.id,H a.src,H a.dst,H a.cE,H a.bQ,H a.dK,I .u32 a.h,I E l,ι h,V q d.length p],ι (decide (0<l))]) (by simp[ag,Ey,go_sem,B,C,J,L,M,O,P,R,S,T,F,G]) rfl ?_;exact⟨⟨⟨a.Θ,a.bV,a.id,a.src,a.dst,a.cE,a.bQ,a.dK,a.h,l,h,d⟩,_,_,rfl,an.out,o.out,al.out,rfl,λ_ Q=>by have ao:=eS.out;rw[Q] at ao;cases ao⟩,g.out⟩
    obtain⟨b6,b9,cb,cc,ce,cf,cg,ch,ck,cl,b7,b8⟩:=aS (b.out.blk.drew);obtain⟨ct,a6,a7,a8,a9,ba,bb,bc,bd,be,a4,a5⟩:=aS (k.out _ (b.out.keeps.drew));obtain⟨y0,ab,ac,ad,av,aw,a0,a1,a2,a3,aq,au⟩:=dj (k.out _ (b.out.keeps.drew));obtain⟨n,g,X⟩:=mS a l h (V q d.length p) (k.out _ b.out.keeps) (bs.out _ b.out.keeps) (.inr (by omega));have g:=K g.out.drew;have al:=K (Dc b.out.own u.out.size);have an:=K (bN.out b.out (by have:=s.out;omega));have o:=K (b.out.Da (by have:=s.out;omega) X.out.drew bi.out);simp only[kZ,iJ] at n g o;obtain⟨-,dt,dv,dx,d0,d1,d2,d3,d4,d5,dp,ds⟩:=aS (k.out _ b.out.keeps);obtain⟨-,c7,da,dc,dd,dg,dk,dl,dm,dn,c8,c9⟩:=dj (k.out _ b.out.keeps);clear a6 a7 a8 a9 ba bb bc bd be a4 a5 ab ac ad av aw a0 a1 a2 a3 aq au;have bv:=b.out.blk.cell 9;have bt:=b.out.blk.cell 11;simp only[gz_] at bv bt;go_upto_region 17 with fail
    have cA:=K (show _/\True from⟨y,trivial⟩);clear y ao;go_region
    go_wp2;obtain⟨B,C,J,L,M,O,P,R,S,T,F,G⟩:=n.out;refine Ω (v:=σ #[.agg #[I E a.Θ,H a.bV,H a.id,H a.src,H a.dst,H a.cE,H a.bQ,H a.dK,I .u32 a.h,I E l,ι h,V q d.length p],ι ((d.length:Int)==1)]) (by simp[ag,Ey,go_sem,B,C,J,L,M,O,P,R,S,T,F,G]) rfl ?_;exact⟨⟨⟨a.Θ,a.bV,a.id,a.src,a.dst,a.cE,a.bQ,a.dK,a.h,l,h,d⟩,_,_,rfl,an.out,o.out,al.out,rfl,λc _=>by have:=beq_iff_eq.1 c;show d.length=1;omega⟩,g.out⟩
   obtain⟨b6,b9,cb,cc,ce,cf,cg,ch,ck,cl,b7,b8⟩:=aS (b.out.blk.drew);obtain⟨ct,a6,a7,a8,a9,ba,bb,bc,bd,be,a4,a5⟩:=aS (k.out _ (b.out.keeps.drew));obtain⟨y0,ab,ac,ad,av,aw,a0,a1,a2,a3,aq,au⟩:=dj (k.out _ (b.out.keeps.drew));obtain⟨n,g,X⟩:=mS a l h (V q d.length p) (k.out _ b.out.keeps) (bs.out _ b.out.keeps) (.inr (by omega));have g:=K g.out.drew;have al:=K (Dc b.out.own u.out.size);have an:=K (bN.out b.out (by have:=s.out;omega));have o:=K (b.out.Da (by have:=s.out;omega) X.out.drew bi.out);simp only[kZ,iJ] at n g o;obtain⟨-,dt,dv,dx,d0,d1,d2,d3,d4,d5,dp,ds⟩:=aS (k.out _ b.out.keeps);obtain⟨-,c7,da,dc,dd,dg,dk,dl,dm,dn,c8,c9⟩:=dj (k.out _ b.out.keeps);clear a6 a7 a8 a9 ba bb bc bd be a4 a5 ab ac ad av aw a0 a1 a2 a3 aq au;have bv:=b.out.blk.cell 9;have bt:=b.out.blk.cell 11;simp only[gz_] at bv bt;go_upto_region 15 with fail
   have cA:=K (show _/\True from⟨y,trivial⟩);clear y;go_region
   go_wp2;obtain⟨B,C,J,L,M,O,P,R,S,T,F,G⟩:=n.out;refine Ω (v:=σ #[.agg #[I E a.Θ,H a.bV,H a.id,H a.src,H a.dst,H a.cE,H a.bQ,H a.dK,I .u32 a.h,I E l,ι h,V q d.length p],ι ((d.length:Int)==0)]) (by simp[ag,Ey,go_sem,B,C,J,L,M,O,P,R,S,T,F,G]) rfl ?_;exact⟨⟨⟨a.Θ,a.bV,a.id,a.src,a.dst,a.cE,a.bQ,a.dK,a.h,l,h,d⟩,_,_,rfl,an.out,o.out,al.out,rfl,λ_ Q=>by have y:=cA.out.1;rw[Q] at y;cases y⟩,g.out⟩
 have b5:=bn.out.1;have f4:=bn.out.2;obtain⟨b6,b9,cb,cc,ce,cf,cg,ch,ck,cl,b7,b8⟩:=aS (t.out.2.blk b0.out id);obtain⟨ct,a6,a7,a8,a9,ba,bb,bc,bd,be,a4,a5⟩:=aS (t.out.2.blk bq.out id);obtain⟨y0,ab,ac,ad,av,aw,a0,a1,a2,a3,aq,au⟩:=dj (t.out.2.blk bq.out id);obtain⟨n,g,X⟩:=mS a a.bl a.di (V A 0 0) (t.out.2.blk bq.out id) (kk u.out t.out.2) (.inr (by omega));simp only[kZ,iJ] at n g;clear b5 f4;go_wp2;obtain⟨B,C,J,L,M,O,P,R,S,T,F,G⟩:=n.out;refine Ω (v:=σ #[.agg #[I E a.Θ,H a.bV,H a.id,H a.src,H a.dst,H a.cE,H a.bQ,H a.dK,I .u32 a.h,I E a.bl,ι a.di,V A 0 0],ι false]) (by simp[ag,Ey,go_sem,B,C,J,L,M,O,P,R,S,T,F,G]) rfl ?_;exact⟨⟨a,_,false,rfl,bn.out.1,by rw[bn.out.2];exact aZ.nil _,nofun,rfl,nofun⟩,g.out⟩
