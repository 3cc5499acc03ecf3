/- A part. -/
import Derived.Test.YtdgneofhcenhfaaGreatDoorpn
import Derived.Test.YtdgneofhcenhfaaGreatDoorpl
import Derived.Test.YtdgneofhcenhfaaGreatDoorps
import Derived.Test.YtdgneofhcenhfaaGreatDoorpm
set_option maxHeartbeats 16000000
set_option maxRecDepth 100000
set_option linter.all false
open And renaming intro->Φ
open Array renaming getElem?_eq_none->ll
open ByteArray renaming mk->D,size_append->mj
open Go renaming Calls->ν,Ending->aI,Value->ε,World->Z,bodyPost_ret->Ω,maxLen->Χ,results->ag
open Go.Addr renaming mk->U
open Go.Ending renaming returned->ξ
open Go.Instr renaming lookup->cw,mapUpdate->fB
open Go.IntKind renaming i64->E,u32->Λ
open Go.Lib renaming hid->K,toList_data->iy
open Go.Obj renaming cells->ζ
open Go.Proofs renaming intOf->aB
open Go.Proofs.Tryz renaming prog->δ,results237->Ez,results95->xR
open Go.RowKit renaming Hid->η
open Go.Value renaming agg->Μ,bool->ι,func->af,int->I,map->ω,pointer->π,slice->V,string->H,tuple->σ
open Go.World renaming alloc->bm,cell?->fN,ownsRow_nil->db
open Iff renaming rfl->fT
open Int renaming toNat_of_nonneg->EJ
open List renaming any_eq_true->tL,append_assoc->vm,filter_cons->EY,filter_filter->EZ,find?_append->rD,find?_eq_none->lM,flatMap_append->E5,flatMap_cons->qx,getElem?_append_left->E9,getElem?_append_right->AE,getElem?_cons_zero->Τ,getElem?_eq_getElem->cT,getElem?_eq_some_iff->iN,getElem?_take->kD,getElem?_toArray->Ρ,getElem_mem->eA,length_append->cL,length_cons->eI,length_eq_zero_iff->kG,length_filter_le->jo,length_map->dN,length_nil->eN,map_append->lP,mem_append->dO,mem_append_left->qy,mem_cons->dD,mem_cons_of_mem->eZ,mem_cons_self->dP,mem_filter->dE,mem_singleton->cj,pairwise_cons->AK,pairwise_map->Fa,range->AM,size_toArray->oZ,take_append_drop->AQ,take_length->pd,take_succ_eq_append_getElem->lq
open Nat renaming add_assoc->mW,le_add_right->AR,le_of_ble_eq_true->xY,le_refl->Ο,le_succ->cV,le_trans->aJ,lt_irrefl->AS,lt_of_lt_of_le->dQ,lt_or_ge->fU,mul_le_mul_right->pg,zero_add->eP,zero_le->ai
open Option renaming getD_none->pj,getD_some->gK,isSome_none->tN,isSome_some->mX,map_none->vy,map_some->gx,none->A,some->N
open Option.some renaming inj->cr,injEq->xZ
open Go RowKit Lib Proofs.Tryz
namespace Go.Proofs.YtdgneofhcenhfaaGreatDoor
attribute [local go_sem ↓] wp_at_zero wp_at_succ
def Uc(g:Z)(b:El)(e:aI)(f:Z):Prop:=((∃a v,e=ξ (σ #[aK a v,I E 0])/\fh a/\aZ f v a.aM/\(1<=a.Θ/\a.Θ<=14)/\(a.Θ=3->a.aM.length=1)/\(a.Θ=1->a.cE.size<=40)/\(b.name=[112,114,101,115,101,110,99,101]->eu b=N a)/\(∀c,v.ownBlock=N c->g.heap.size<=c))\/∃d:Int,d≠0/\e=ξ (σ #[aK z0 (V A 0 0),I E d])/\(b.name=[112,114,101,115,101,110,99,101]->eu b=A))/\Y g f γ
variable{w n G:Z}{v s:Nat→Option Ν}{x i t B:ε}{y k d:Nat}{z c:HS}{m C:Int}{j:Bs}{a:List ε}{e:Pl}{f:Bool}{h:Nat×υ}{p L:BA}{q:Array ε}{r:List (Nat×υ)}{u:TypeId}{o:List It}{J:Ss}{Q:El}
theorem fW.abb(a:fW Q):Q.name.length<=10000:=by
 cases a with
 |mk j c k i b d e f g h=>exact b
theorem Mc(a:θ w y u #[x,i,t]):w.cell? (U y 0 A)=N x/\w.cell? (U y 1 A)=N i/\w.cell? (U y 2 A)=N t:=⟨a.cell 0,a.cell 1,a.cell 2⟩
theorem La(z:bX w j Q x i)(ce:qA Q.Γ)(cm:fW Q)(ck:aT w):ν δ 95 #[bM Q x i] w (Uc w Q):=by
 obtain⟨⟨da,c9,rfl⟩,dt,ds,rfl⟩:=z.form;have bB:=K z;have bA:=K ce;have bF:=K cm;have a9:=K ck;simp only[bM] at*;clear z ce cm ck;go_enter func95,ntmps95;go_upto_region 1 with fail
 generalize cc:bm (bm w _) _=e at*;have bn:=K (za cc);clear cc;have h:=K bn.out.keeps;have bN:=K bn.out.b1;have c:=K bn.out.b2;clear bn;have br:=K (acB (bB.out.keeps h.out λ_ _ z=>z) bA.out bF.out (a9.out.still h.out));have bq:=K (ZY (λ_ _ _ _ _ cI B bs cU _ Q cW=>Vg cI B bs cU Q cW) (bB.out.keeps h.out λ_ _ z=>z) bA.out bF.out (a9.out.still h.out));simp only[bM] at br bq;have cl:((D Q.name.toArray):BA).size<=1000000:=by show Q.name.toArray.size<=_;rw[oZ];have:=bF.out.abb;omega
 have cb:=K (show(((D Q.name.toArray):BA).toList==[112,114,101,115,101,110,99,101])=decide (Q.name=[112,114,101,115,101,110,99,101]) from by rw[iy,Bool.eq_iff_iff];simp);have cy:=K cl;clear cl;generalize cg:((D Q.Β.toArray):BA)=dl at*;generalize ch:((D Q.name.toArray):BA)=bf at*;have b7:=K (Φ ch cg);clear cg ch;obtain⟨bz,b4,b5,b6⟩:=aj bN.out;cases C:(bf.toList==[112,114,101,115,101,110,99,101])
 .have bc:η (∀cq,Q.name=[112,114,101,115,101,110,99,101]->eu Q=cq):=K λcq c0=>by have:=cb.out;rw[C,decide_eq_true c0] at this;cases this
  cases bt:(bf.toList==[105,113])
  .go_upto_region 6 with fail
   clear br bq b4 b5 b6;have cD:η (∀G,Y e G γ->G.cell? (U w.heap.size 0 A)=N (H bf)):=K λG ab=>(aj (ab.blk bN.out id)).1;have cB:η (∀bd,Y e bd γ->ν δ 159 #[] bd λbe cu=>∃B,be=ξ (ω (N B))/\η (Y bd cu γ/\FM bd cu B)):=K λbd ab=>acm;go_cut [4,5] (λc5 c6 G=>∃(b0:Nat) (ab:Int) (b3:Option Nat) (bw:Bool),c5=π (N (U b0 0 A))/\c6=ι bw/\η (θ G b0 239 #[I E ab,ω b3,ω A]/\Y e G γ/\(bw=true->qI G ab b3)))
   case first=>
    have cv:η (θ (e.alloc (ζ #[I E 0,ω A,ω A] 239)) e.heap.size 239 #[I E 0,ω A,ω A]):=K (θ.new _ _ _)
    go_region_held3 (λG=>G.cell? (U w.heap.size 0 A)=N (H bf))
     (first|(refine cD.out _ ?_;(first|with_reducible exact S.out|with_reducible exact Y.alloc S.out _|with_reducible exact(Y.refl _ _).drew|with_reducible exact((Y.refl _ _).alloc _).drew|exact((S.out.χ (p:=(U _ 0 A)) (.inr (Ο _)) _).χ (p:=(U _ 1 A)) (.inr (Ο _)) _).χ (p:=(U _ 2 A)) (.inr (Ο _)) _)))
     (first|(go_at_call 159;refine(cB.out _ (by with_reducible first|exact(Y.refl _ _).drew|exact((Y.refl _ _).alloc _).drew)).mono ?_;rintro be bi ⟨dc,rfl,bv⟩;obtain⟨c2,c3,c4,c1,b9⟩:=bv.out.2 bf cy.out;have b8:=K c1;have dv:=b9 bi (Y.refl _ _);have dx:=b9 (bi.alloc (ζ #[I E 0,ω A,ω A] 239)) ((Y.refl _ _).alloc _);have S:η (Y e bi γ):=K (by with_reducible first|exact kk (Y.refl _ _).drew bv.out.1|exact kk ((Y.refl _ _).alloc _).drew bv.out.1);(first|(with_reducible have bb:=K (bv.out.1.blk (cv.out.drew) id);obtain⟨dd,dg,dk⟩:=Mc bb.out;have dm:=bb.out.frozen 0;have dn:=bb.out.frozen 1;have dp:=bb.out.frozen 2)|skip)))
    all_goals
     go_wp2_with fail;go_meet;refine⟨_,c2,c3,c4,rfl,rfl,K ⟨?_,?_,λz=> ?_⟩⟩
     .first
       |with_reducible exact θ.new _ _ _
       |exact(((bb.out.χ 0 _).χ 1 _).χ 2 _).to (by simp)
     .first
       |with_reducible exact Y.alloc S.out _
       |exact((S.out.χ (p:=(U e.heap.size 0 A)) (.inr (Ο _)) _).χ (p:=(U e.heap.size 1 A)) (.inr (Ο _)) _).χ (p:=(U e.heap.size 2 A)) (.inr (Ο _)) _
     .first
       |(exact rJ.at_ ((b8.out z).keeps (F:=γ) (Y.alloc (Y.refl bi γ) _) Η) (a9.out.still (kk h.out (Y.alloc S.out _))))
       |(refine rJ.at_ ((b8.out z).keeps (F:=(·=e.heap.size)) ((((Y.refl bi (·=e.heap.size)).χ (p:=(U e.heap.size 0 A)) (.inl rfl) _).χ (p:=(U e.heap.size 1 A)) (.inl rfl) _).χ (p:=(U e.heap.size 2 A)) (.inl rfl) _) λc7 b2=> ?_) (a9.out.still (kk h.out (((S.out.χ (p:=(U e.heap.size 0 A)) (.inr (Ο _)) _).χ (p:=(U e.heap.size 1 A)) (.inr (Ο _)) _).χ (p:=(U e.heap.size 2 A)) (.inr (Ο _)) _)));(have b2:c7=e.heap.size:=b2;subst b2;show e.heap.size<(e.alloc _).heap.size;simp))
   case rest=>
   obtain⟨b0,ab,b3,bw,rfl,rfl,bk⟩:=hcut;generalize wc=d0 at*;have L:=K bk.out.2.1;cases bw
   .go_upto_region 8 with fail
    clear bz;obtain⟨au,a0,a1,a2,a3,a4,a5,a6,a7,a8,av,aw⟩:=aS (L.out.blk c.out id);obtain⟨y0,O,P,R,al,am,an,ao,ap,aq,ac,ad⟩:=dj (L.out.blk c.out id);obtain⟨f,g⟩:=kh (L.out.blk c.out id) (kk h.out L.out) (.inr (cV _));go_wp2;obtain⟨k,l,o,p,q,r,s,t,u,y,m,n⟩:=f.out;refine Ω (v:=σ #[ez,I E 6]) (by simp[ez,ag,xR,go_sem,k,l,o,p,q,r,s,t,u,y,m,n]) rfl ?_;exact⟨.inr ⟨6,by decide,rfl,bc.out _⟩,g.out⟩
   obtain⟨y0,O,P,R⟩:=aj (L.out.blk bN.out id);obtain⟨cJ,cR,cS⟩:=Mc bk.out.1;have b1:=K (adB (bB.out.keeps (kk h.out L.out) λ_ _ z=>z) bA.out (a9.out.still (kk h.out L.out)) (bk.out.2.2 rfl));have bE:=K (bk.out.2.2 rfl).1;simp only[bM,wW] at b1;rw[b7.out.1,b7.out.2] at b1;clear bz;go_wp2_with fail;refine b1.out.mono ?_;rintro be bx ⟨F,M⟩;have b:=K (kk L.out M);clear M y0 O P R cJ cR cS;obtain⟨a,rfl,X,co,cn⟩|rfl:=F
   .have d:=K (Φ X (Φ co cn));clear X co cn;simp only[aK];obtain⟨au,a0,a1,a2,a3,a4,a5,a6,a7,a8,av,aw⟩:=aS (b.out.blk c.out id);obtain⟨y0,O,P,R,al,am,an,ao,ap,aq,ac,ad⟩:=dj (b.out.blk c.out id);obtain⟨f,g,ba⟩:=mS a a.bl a.di (V A 0 0) (b.out.blk c.out id) (kk h.out b.out) (.inr (cV _));have J:=K (qV (show aZ bx (V A 0 0) a.aM from by rw[d.out.2.2];exact aZ.nil _) ba.out nofun);simp only[kZ,iJ] at f g J;go_wp2;obtain⟨k,l,o,p,q,r,s,t,u,y,m,n⟩:=f.out;refine Ω (v:=σ #[Μ #[I E a.Θ,H a.bV,H a.id,H a.src,H a.dst,H a.cE,H a.bQ,H a.dK,I Λ a.h,I E a.bl,ι a.di,V A 0 0],I E 0]) (by simp[ag,xR,go_sem,k,l,o,p,q,r,s,t,u,y,m,n]) rfl ?_;exact⟨.inl ⟨a,_,rfl,d.out.1,J.out,(by have C:=d.out.2.1;have bt:=bE.out;omega),(λQ=>by have C:=d.out.2.1;have bt:=bE.out;omega),(λQ=>by have C:=d.out.2.1;have bt:=bE.out;omega),bc.out _,λB T=>by cases T⟩,g.out⟩
   simp only[aK,z0];obtain⟨au,a0,a1,a2,a3,a4,a5,a6,a7,a8,av,aw⟩:=aS (b.out.blk c.out id);obtain⟨y0,O,P,R,al,am,an,ao,ap,aq,ac,ad⟩:=dj (b.out.blk c.out id);obtain⟨f,g⟩:=kh (b.out.blk c.out id) (kk h.out b.out) (.inr (cV _));go_wp2;obtain⟨k,l,o,p,q,r,s,t,u,y,m,n⟩:=f.out;refine Ω (v:=σ #[ez,I E 3]) (by simp[ez,ag,xR,go_sem,k,l,o,p,q,r,s,t,u,y,m,n]) rfl ?_;exact⟨.inr ⟨3,by decide,rfl,bc.out _⟩,g.out⟩
  go_upto_region 5 with fail
  clear br;go_wp2_with fail;refine bq.out.mono ?_;rintro be bx ⟨F,M⟩;have b:=K M;clear M bz b4 b5 b6;obtain⟨a,v,rfl,X⟩|⟨bs,cf,rfl⟩:=F
  .have d:=K X;obtain⟨ct,cs,rfl,_⟩:=X.2.1;clear X;simp only[aK];obtain⟨au,a0,a1,a2,a3,a4,a5,a6,a7,a8,av,aw⟩:=aS (b.out.blk c.out id);obtain⟨y0,O,P,R,al,am,an,ao,ap,aq,ac,ad⟩:=dj (b.out.blk c.out id);obtain⟨f,g,ba⟩:=mS a a.bl a.di (V ct a.aM.length cs) (b.out.blk c.out id) (kk h.out b.out) (.inr (cV _));have J:=K (qV d.out.2.1 ba.out (λB T _ Q=>by have C:=d.out.2.2.1 B T;have bt:=c.out.lt;have Q:B=w.heap.size+1:=Q;omega));simp only[kZ,iJ] at f g J;go_wp2;obtain⟨k,l,o,p,q,r,s,t,u,y,m,n⟩:=f.out;refine Ω (v:=σ #[Μ #[I E a.Θ,H a.bV,H a.id,H a.src,H a.dst,H a.cE,H a.bQ,H a.dK,I Λ a.h,I E a.bl,ι a.di,V ct a.aM.length cs],I E 0]) (by simp[ag,xR,go_sem,k,l,o,p,q,r,s,t,u,y,m,n]) rfl ?_;exact⟨.inl ⟨a,_,rfl,d.out.1,J.out,(by have C:=d.out.2.2.2.1;omega),d.out.2.2.2.2,(λQ=>by have C:=d.out.2.2.2.1;omega),bc.out _,λB T=>aJ h.out.size (d.out.2.2.1 B T)⟩,g.out⟩
  have cx:=K cf;clear cf;simp only[aK,z0];obtain⟨au,a0,a1,a2,a3,a4,a5,a6,a7,a8,av,aw⟩:=aS (b.out.blk c.out id);obtain⟨y0,O,P,R,al,am,an,ao,ap,aq,ac,ad⟩:=dj (b.out.blk c.out id);obtain⟨f,g⟩:=kh (b.out.blk c.out id) (kk h.out b.out) (.inr (cV _));go_wp2;obtain⟨k,l,o,p,q,r,s,t,u,y,m,n⟩:=f.out;refine Ω (v:=σ #[ez,I E bs]) (by simp[ez,ag,xR,go_sem,k,l,o,p,q,r,s,t,u,y,m,n]) rfl ?_;exact⟨.inr ⟨bs,cx.out,rfl,bc.out _⟩,g.out⟩
 have c8:η (Q.name=[112,114,101,115,101,110,99,101]):=K (by have:=cb.out;rw[C] at this;exact of_decide_eq_true this.symm);go_upto_region 3 with fail
 clear bq;go_wp2_with fail;refine br.out.mono ?_;rintro be bx ⟨F,M⟩;have b:=K M;clear M bz b4 b5 b6;cases W:eu Q with
 |some a=>rw[W] at F;simp only at F;subst F;have d:=K (Φ (acx W) W);clear W;simp only[aK];obtain⟨au,a0,a1,a2,a3,a4,a5,a6,a7,a8,av,aw⟩:=aS (b.out.blk c.out id);obtain⟨y0,O,P,R,al,am,an,ao,ap,aq,ac,ad⟩:=dj (b.out.blk c.out id);obtain⟨f,g,ba⟩:=mS a a.bl a.di (V A 0 0) (b.out.blk c.out id) (kk h.out b.out) (.inr (cV _));have J:=K (qV (show aZ bx (V A 0 0) a.aM from by rw[d.out.1.2.2.2];exact aZ.nil _) ba.out nofun);simp only[kZ,iJ] at f g J;go_wp2;obtain⟨k,l,o,p,q,r,s,t,u,y,m,n⟩:=f.out;refine Ω (v:=σ #[Μ #[I E a.Θ,H a.bV,H a.id,H a.src,H a.dst,H a.cE,H a.bQ,H a.dK,I Λ a.h,I E a.bl,ι a.di,V A 0 0],I E 0]) (by simp[ag,xR,go_sem,k,l,o,p,q,r,s,t,u,y,m,n]) rfl ?_;exact⟨.inl ⟨a,_,rfl,d.out.1.1,J.out,(by have C:=d.out.1.2.1;omega),(λQ=>by have C:=d.out.1.2.1;omega),(λ_=>d.out.1.2.2.1),λ_=>d.out.2,λB T=>by cases T⟩,g.out⟩
 |none=>rw[W] at F;simp only at F;subst F;have cA:=K W;clear W;simp only[aK,z0];obtain⟨au,a0,a1,a2,a3,a4,a5,a6,a7,a8,av,aw⟩:=aS (b.out.blk c.out id);obtain⟨y0,O,P,R,al,am,an,ao,ap,aq,ac,ad⟩:=dj (b.out.blk c.out id);obtain⟨f,g⟩:=kh (b.out.blk c.out id) (kk h.out b.out) (.inr (cV _));go_wp2;obtain⟨k,l,o,p,q,r,s,t,u,y,m,n⟩:=f.out;refine Ω (v:=σ #[ez,I E 3]) (by simp[ez,ag,xR,go_sem,k,l,o,p,q,r,s,t,u,y,m,n]) rfl ?_;exact⟨.inr ⟨3,by decide,rfl,λ_=>cA.out⟩,g.out⟩
theorem Xy{w:Z}{e:cp}(c:fh e)(f:aZ w x e.aM)(a:aT w)(g:1<=e.Θ/\e.Θ<=14):ν δ 290 #[aK e x] w (kI w):=by
 have b:=f;obtain⟨i,h,rfl,_⟩:=f;obtain⟨d,r,l,q,j,t,o,p,k,s,n,m⟩:=e;simp only at g;have:d=1\/d=2\/d=3\/d=4\/d=5\/d=6\/d=7\/d=8\/d=9\/d=10\/d=11\/d=12\/d=13\/d=14:=by omega
 obtain rfl|rfl|rfl|rfl|rfl|rfl|rfl|rfl|rfl|rfl|rfl|rfl|rfl|rfl:=this
 .exact Xk c b a
 .exact Xq c b a
 .exact Xr c b a
 .exact Xs c b a
 .exact Xt c b a
 .exact Xu c b a
 .exact Xv c b a
 .exact Xw c b a
 .exact Xx c b a
 .exact Xl c b a
 .exact Xm c b a
 .exact Xn c b a
 .exact Xo c b a
 exact Xp c b a
theorem Uh{w:Z}{z z2:cp}(g:aZ w x z.aM)(h:aZ w i z2.aM):ν δ 291 #[aK z x,aK z2 i] w (oh w):=by
 obtain⟨ah,ak,ag,aj,ae,am,ai,aC,af,al,aB,aA⟩:=z;obtain⟨X,ab,W,aa,T,ad,Y,az,V,ac,ay,ax⟩:=z2;have e:=K (Φ g h);obtain⟨au,aq,rfl, -⟩:=g;obtain⟨av,ar,rfl, -⟩:=h;simp only[aK] at*;go_enter func291,ntmps291;go_upto_region 1 with fail
 generalize f:bm (bm w _) _=M at*;have a:=K (za f);clear f;obtain⟨z0,y,z2,C,E,F,G,H,I,J,A,B⟩:=aS a.out.b1;obtain⟨y0,k,n,o,p,q,r,s,t,u,l,m⟩:=aS a.out.b2;have L:=K (XY (w:=M) (nL e.out.1 a.out.keeps) (nL e.out.2 a.out.keeps));go_wp2_with fail;refine L.out.mono ?_;rintro aw R ⟨⟨c,rfl⟩,j⟩;have d:=K j;clear j z0 y z2 C E F G H I J A B y0 k n o p q r s t u l m;have b:=K (kk a.out.keeps d.out);cases c
 .go_wp2;go_ret;exact⟨⟨_,rfl⟩,b.out⟩
 obtain⟨z0,y,z2,C,E,F,G,H,I,J,A,B⟩:=aS (d.out.blk a.out.b1 id);obtain⟨y0,k,n,o,p,q,r,s,t,u,l,m⟩:=aS (d.out.blk a.out.b2 id);go_upto_region 3 with fail
 go_cut [5] (λQ S=>∃c:Bool,Q=ι c/\S=R)
 case first=>
  cases N:(ak.toList==ab.toList)
  .go_wp2_with fail;go_meet;exact⟨_,rfl,rfl⟩
  cases O:(ag.toList==W.toList)
  .go_wp2_with fail;go_meet;exact⟨_,rfl,rfl⟩
  cases P:(aj.toList==aa.toList)
  .go_wp2_with fail;go_meet;exact⟨_,rfl,rfl⟩
  cases an:(ae.toList==T.toList)
  .go_wp2_with fail;go_meet;exact⟨_,rfl,rfl⟩
  cases ao:(am.toList==ad.toList)
  .go_wp2_with fail;go_meet;exact⟨_,rfl,rfl⟩
  cases ap:(ai.toList==Y.toList)
  .go_wp2_with fail;go_meet;exact⟨_,rfl,rfl⟩
  go_wp2_with fail;go_meet;exact⟨_,rfl,rfl⟩
 case rest=>
 obtain⟨c,rfl,rfl⟩:=hcut;cases c
 .go_wp2;go_ret;exact⟨⟨_,rfl⟩,b.out⟩
 cases N:(ah==X)
 .go_wp2;go_ret;exact⟨⟨_,rfl⟩,b.out⟩
 cases O:(af==V)
 .go_wp2;go_ret;exact⟨⟨_,rfl⟩,b.out⟩
 cases P:(al==ac)
 .go_wp2;go_ret;exact⟨⟨_,rfl⟩,b.out⟩
 go_wp2;go_ret;exact⟨⟨_,rfl⟩,b.out⟩
def UF(j:Z)(i:aI)(b:Z):Prop:=(∃(a:El) (e:Option Addr) (c:Nat) (f:Option Addr) (d:Nat) (h:Int),i=ξ (σ #[bM a (V e a.Γ.length c) (V f a.Ξ.length d),I E h])/\bX b (λg=>g<b.heap.size) a (V e a.Γ.length c) (V f a.Ξ.length d)/\Wt a 55000)/\Y j b γ
theorem fW.LF(a:fW Q):qA Q.Γ:=by
 cases a with
 |mk j d k i e b c f g h=>exact⟨b,c⟩
theorem bX.sub{c:Bs}(e:bX w j Q x i)(g:Y w n c)(f:∀a,j a->¬c a/\a<w.heap.size):bX n (λd=>d<n.heap.size) Q x i:=
 (e.keeps g λa b=>(f a b).1).mono λa _ b=>b
theorem Ux{w:Z}{y:cp}(aP:fh y)(aJ:aZ w x y.aM)(aI:aT w):ν δ 237 #[aK y x] w (UF w):=by
 have a1:=K aP;have az:=K aJ;have ay:=K aI;obtain⟨bs,br,rfl, -⟩:=aJ;simp only[aK] at*;clear aP aI;go_enter func237,ntmps237;go_upto_region 1 with fail
 generalize B:bm (bm w _) _=z at*;have G:=K (za B);clear B;have h:=K G.out.keeps;have aA:=K G.out.b1;have b:=K G.out.b2;clear G;have m:=K (Y.refl z γ);obtain⟨ai,am,an,ao,ap,aq,ar,au,av,aw,ak,al⟩:=aS aA.out;by_cases bp:y.Θ<1
 .go_upto_region 2 with fail
  obtain⟨S,T,W,X⟩:=aj (m.out.blk b.out λa=>a);obtain⟨y0,P,Q,R⟩:=dF (m.out.blk b.out λa=>a);have d:=K (aj (jz (a':=H (D #[])) (b':=V A 0 0) (c':=H (D #[])) (d':=V A 0 0) (m.out.blk b.out λa=>a)));have e:=K (iI (g:=w.heap.size+1) (a:=H (D #[])) (b:=V A 0 0) (c:=H (D #[])) (d:=V A 0 0) (kk h.out m.out) (.inr (cV _)));simp only[dB] at d e;go_wp2;obtain⟨i,j,k,l⟩:=d.out;refine Ω (v:=σ #[Μ #[H (D #[]),V A 0 0,H (D #[]),V A 0 0],I E 1]) (by simp[ag,Ez,go_sem,i,j,k,l]) rfl ?_;exact⟨⟨.mk [] [] [] [],A,0,A,0,_,rfl,.mk [] [] [] [] _ _ (aU.nil _ _) (bL.nil _ _ _) (by simp),.mk _ _ _ _ 0 _ (by decide) (by decide) (by simp) (by decide) (by decide) (by simp) (by decide) (by decide)⟩,e.out⟩
 by_cases bq:14<y.Θ
 .go_upto_region 2 with fail
  obtain⟨S,T,W,X⟩:=aj (m.out.blk b.out λa=>a);obtain⟨y0,P,Q,R⟩:=dF (m.out.blk b.out λa=>a);have d:=K (aj (jz (a':=H (D #[])) (b':=V A 0 0) (c':=H (D #[])) (d':=V A 0 0) (m.out.blk b.out λa=>a)));have e:=K (iI (g:=w.heap.size+1) (a:=H (D #[])) (b:=V A 0 0) (c:=H (D #[])) (d:=V A 0 0) (kk h.out m.out) (.inr (cV _)));simp only[dB] at d e;go_wp2;obtain⟨i,j,k,l⟩:=d.out;refine Ω (v:=σ #[Μ #[H (D #[]),V A 0 0,H (D #[]),V A 0 0],I E 1]) (by simp[ag,Ez,go_sem,i,j,k,l]) rfl ?_;exact⟨⟨.mk [] [] [] [],A,0,A,0,_,rfl,.mk [] [] [] [] _ _ (aU.nil _ _) (bL.nil _ _ _) (by simp),.mk _ _ _ _ 0 _ (by decide) (by decide) (by simp) (by decide) (by decide) (by simp) (by decide) (by decide)⟩,e.out⟩
 have aa:=K (Xy (w:=z) a1.out (nL az.out h.out) (ay.out.still h.out) ⟨by omega,by omega⟩);simp only[aK] at aa;go_wp2_with fail;refine aa.out.mono ?_;rintro aR N ⟨c,s,q,t,r,rfl,aE,B,aQ⟩;have o:=K (Φ aQ (Φ aE B));clear aQ aE B ai am an ao ap aq ar au av aw ak al aa;simp only[bM];go_upto_region 4 with fail
 generalize aL:bm N _=ah at*;have p:η (Y N ah γ/\Y z ah γ/\θ ah N.heap.size 84 #[H (D c.name.toArray),V s c.Γ.length q,H (D c.Β.toArray),V t c.Ξ.length r]):=K (by subst aL;exact⟨(Y.refl N γ).alloc _,o.out.1.alloc _,θ.new _ _ _⟩);clear aL;have ab:=K (La (o.out.2.1.keeps p.out.1 λ_ _ a=>a) o.out.2.2.small.LF o.out.2.2.small (ay.out.still (kk h.out p.out.2.1)));simp only[bM] at ab;generalize aG:((D c.Β.toArray):BA)=M at*;generalize aH:((D c.name.toArray):BA)=O at*;have ax:=K (Φ aH aG);clear aG aH;obtain⟨aV,aW,aX,aY⟩:=aj p.out.2.2;go_wp2_with fail;refine ab.out.mono ?_;rintro aR F ⟨a2,ae⟩;have J:=K (Φ ae (kk p.out.2.1 ae));clear ae aV aW aX aY ab;obtain⟨f,v,rfl,aO,ad, -⟩|⟨L,aF,rfl, -⟩:=a2
 .obtain⟨bh,bg,rfl, -⟩:=id ad;have a0:=K (Φ aO ad);clear aO ad;simp only[aK];go_upto_region 5 with fail
  generalize C:bm F _=u at*;have g:η (Y F u γ/\Y z u γ/\θ u F.heap.size 171 #[I E f.Θ,H f.bV,H f.id,H f.src,H f.dst,H f.cE,H f.bQ,H f.dK,I Λ f.h,I E f.bl,ι f.di,V bh f.aM.length bg]):=K (by subst C;exact⟨(Y.refl F γ).alloc _,J.out.2.alloc _,θ.new _ _ _⟩);clear C;have ac:=K (Uh (w:=u) (z:=f) (z2:=y) (nL a0.out.2 g.out.1) (nL az.out (kk h.out g.out.2.1)));simp only[aK] at ac;obtain⟨ai,am,an,ao,ap,aq,ar,au,av,aw,ak,al⟩:=aS (g.out.2.1.blk aA.out λa=>a);obtain⟨a4,a7,a8,a9,ba,bb,bc,bd,be,bf,a5,a6⟩:=aS g.out.2.2;go_wp2_with fail;refine ac.out.mono ?_;rintro aR bi ⟨⟨a3,rfl⟩,af⟩;have n:=K (kk g.out.2.1 af);have aB:=K (kk g.out.1 af);clear af ac ai am an ao ap aq ar au av aw ak al a4 a7 a8 a9 ba bb bc bd be bf a5 a6;cases a3
  .go_upto_region 6 with fail
   obtain⟨S,T,W,X⟩:=aj (n.out.blk b.out λa=>a);obtain⟨y0,P,Q,R⟩:=dF (n.out.blk b.out λa=>a);have d:=K (aj (jz (a':=H (D #[])) (b':=V A 0 0) (c':=H (D #[])) (d':=V A 0 0) (n.out.blk b.out λa=>a)));have e:=K (iI (g:=w.heap.size+1) (a:=H (D #[])) (b:=V A 0 0) (c:=H (D #[])) (d:=V A 0 0) (kk h.out n.out) (.inr (cV _)));simp only[dB] at d e;go_wp2;obtain⟨i,j,k,l⟩:=d.out;refine Ω (v:=σ #[Μ #[H (D #[]),V A 0 0,H (D #[]),V A 0 0],I E 1]) (by simp[ag,Ez,go_sem,i,j,k,l]) rfl ?_;exact⟨⟨.mk [] [] [] [],A,0,A,0,_,rfl,.mk [] [] [] [] _ _ (aU.nil _ _) (bL.nil _ _ _) (by simp),.mk _ _ _ _ 0 _ (by decide) (by decide) (by simp) (by decide) (by decide) (by simp) (by decide) (by decide)⟩,e.out⟩
  go_upto_region 7 with fail
  obtain⟨aV,aW,aX,aY⟩:=aj ((kk J.out.1 aB.out).blk p.out.2.2 λa=>a);have aD:=K (kk (kk p.out.1 J.out.1) aB.out);obtain⟨S,T,W,X⟩:=aj (n.out.blk b.out λa=>a);obtain⟨y0,P,Q,R⟩:=dF (n.out.blk b.out λa=>a);have d:=K (aj (jz (a':=H O) (b':=V s c.Γ.length q) (c':=H M) (d':=V t c.Ξ.length r) (n.out.blk b.out λa=>a)));have e:=K (iI (g:=w.heap.size+1) (a:=H O) (b:=V s c.Γ.length q) (c:=H M) (d:=V t c.Ξ.length r) (kk h.out n.out) (.inr (cV _)));have aC:=K (iI (F:=(·=w.heap.size+1)) (g:=w.heap.size+1) (a:=H O) (b:=V s c.Γ.length q) (c:=H M) (d:=V t c.Ξ.length r) (Y.refl bi _) (.inl rfl));simp only[dB] at d e aC;go_wp2;obtain⟨i,j,k,l⟩:=d.out;refine Ω (v:=σ #[Μ #[H O,V s c.Γ.length q,H M,V t c.Ξ.length r],I E 0]) (by simp[ag,Ez,go_sem,i,j,k,l]) rfl ?_;exact⟨⟨c,s,q,t,r,0,(by simp only[bM];rw[ax.out.1,ax.out.2]),(o.out.2.1.keeps aD.out λ_ _ a=>a).sub aC.out λbj aN=>⟨λL=>by have bk:=aN.1;have bn:=b.out.lt;have L:bj=w.heap.size+1:=L;omega,dQ aN.2 aD.out.size⟩,o.out.2.2⟩,e.out⟩
 have bo:(L !=0)=true:=by simp[aF]
 clear aF;simp only[aK,z0];go_upto_region 6 with fail
 generalize C:bm F _=u at*;have g:η (Y z u γ):=K (by subst C;exact J.out.2.alloc _);clear C;obtain⟨S,T,W,X⟩:=aj (g.out.blk b.out λa=>a);obtain⟨y0,P,Q,R⟩:=dF (g.out.blk b.out λa=>a);have d:=K (aj (jz (a':=H (D #[])) (b':=V A 0 0) (c':=H (D #[])) (d':=V A 0 0) (g.out.blk b.out λa=>a)));have e:=K (iI (g:=w.heap.size+1) (a:=H (D #[])) (b:=V A 0 0) (c:=H (D #[])) (d:=V A 0 0) (kk h.out g.out) (.inr (cV _)));simp only[dB] at d e;go_wp2;obtain⟨i,j,k,l⟩:=d.out;refine Ω (v:=σ #[Μ #[H (D #[]),V A 0 0,H (D #[]),V A 0 0],I E 1]) (by simp[ag,Ez,go_sem,i,j,k,l]) rfl ?_;exact⟨⟨.mk [] [] [] [],A,0,A,0,_,rfl,.mk [] [] [] [] _ _ (aU.nil _ _) (bL.nil _ _ _) (by simp),.mk _ _ _ _ 0 _ (by decide) (by decide) (by simp) (by decide) (by decide) (by simp) (by decide) (by decide)⟩,e.out⟩
theorem oR{z:cp}(r:fh z)(o:aZ w x z.aM)(n:aT w):ν δ 164 #[aK z x] w λB O=>(∃g:BA,B=ξ (H g)/\g.size<=most)/\Y w O γ:=by
 have d:=K (Φ r (Φ o n));obtain⟨J,G,rfl, -⟩:=o;simp only[aK] at*;clear r n;go_enter func164,ntmps164;go_upto_region 1 with fail
 generalize b:bm w _=j at*;have f:η (Y w j γ/\θ j w.heap.size 171 #[I E z.Θ,H z.bV,H z.id,H z.src,H z.dst,H z.cE,H z.bQ,H z.dK,I Λ z.h,I E z.bl,ι z.di,V J z.aM.length G]):=K (by subst b;exact⟨(Y.refl w γ).alloc _,θ.new _ _ _⟩);clear b;have k:=K (Ux (w:=j) d.out.1 (nL d.out.2.1 f.out.1) (d.out.2.2.still f.out.1));simp only[aK] at k;obtain⟨Q,W,aa,ac,ad,ae,af,ag,ah,ai,S,T⟩:=aS f.out.2;go_wp2_with fail;refine k.out.mono ?_;rintro N h ⟨⟨c,L,y,M,A,al,rfl,m,b⟩,s⟩;have e:=K (Φ (kk f.out.1 s) (Φ m b));clear s m b Q W aa ac ad ae af ag ah ai S T k;simp only[bM];go_upto_region 2 with fail
 generalize q:bm h _=u at*;have a:η (Y h u γ/\θ u h.heap.size 84 #[H (D c.name.toArray),V L c.Γ.length y,H (D c.Β.toArray),V M c.Ξ.length A]):=K (by subst q;exact⟨(Y.refl h γ).alloc _,θ.new _ _ _⟩);clear q;have i:=K (Uw (e.out.2.1.keeps a.out.1 λ_ _ C=>C) e.out.2.2 (by decide) (d.out.2.2.still (kk e.out.1 a.out.1)) (λan F=>dQ F a.out.1.size));simp only[bM] at i;obtain⟨P,R,X,ab⟩:=aj a.out.2;go_wp2_with fail;refine i.out.mono ?_;rintro N am ⟨⟨g,ak,rfl,p⟩,t⟩;have l:=K (Φ p (kk (kk e.out.1 a.out.1) t));clear t p P R X ab i;go_wp2;go_ret;exact⟨⟨g,rfl,aJ l.out.1 (by decide)⟩,l.out.2⟩
theorem vJ{a:υ}(b:aN a.ψ=true)(c:aN a.ah=true):(gh a).size<=33:=by unfold aN at b c;simp at b c;unfold gh;rw[mj,mj];have:((D #[47]):BA).size=1:=rfl;omega
theorem e0:((D #[]):BA).size<=100:=by decide
theorem mP:eB 0:=by unfold eB;omega
theorem Ir(p:Α w e v z)(g:Υ z)(l:h∈z.τ):ν δ 302 #[Ζ e.g,I E h.2.id] w λf o=>(∃q:BA,f=ξ (σ #[H (gh h.2),H q])/\q.size<=most)/\Y w o γ:=by
 have M:aF h.2.id:=by have:=g.bj h l;have:=g.last;unfold aF;omega
 have j:=rH (p.part .table) h.2.id M;have O:z.τ.find? (λaj=>aj.2.id==h.2.id)=N h:=by exact qR g.dM l
 rw[O,xp] at j;have j:=K j;obtain⟨i,u,_⟩:=g.state h l;have X:=g.zQ l;obtain⟨m,r,_⟩:=g.aR h l;have m:=oT _ m;have au:=g.fS _ _ u;have S:=p.aA.cell 2;simp only[bg,gz_] at S;have ar:e.g<w.heap.size:=p.aA.lt;have C:=K p;have B:η (∀d,ν δ 44 #[Μ h.2.cells] d λf o=>f=ξ (H (gh h.2))/\Y d o γ):=K λd=>(vK h.2 X d).mono λf o ⟨⟨ap,W,_,T⟩,n⟩=>⟨by rw[W,T m r],n⟩;have s:η (∀d,Y w d γ->ν δ 164 #[aK ⟨1,(D #[]),(D #[]),gh h.2,(D #[]),i.Β,(D #[]),(D #[]),0,0,false,[]⟩ (V A 0 0)] d λf o=>(∃q:BA,f=ξ (H q)/\q.size<=most)/\Y d o γ):=K λd n=>by have aq:=vJ m r;exact oR ⟨e0,e0,(show(gh h.2).size<=100 by omega),e0,(show i.Β.size<=100 by omega),e0,e0,mP,ai _,nofun⟩ (aZ.nil d) (C.out.eE.still n)
 have F:=K u;have ao:=K (⟨m,r⟩:aN h.2.ψ=true/\aN h.2.ah=true);clear p g O u m r l;obtain⟨aw,a⟩:=h;simp only at*;unfold υ.cells at j;simp only[mX] at j;go_enter func302,ntmps302;go_wp2_with fail;refine j.out.mono ?_;rintro f c ⟨rfl,P⟩;have x:=P.alloc (ζ a.cells 42);have L:=C.out.still x;have J:θ (c.alloc (ζ a.cells 42)) c.heap.size 42 a.cells:=θ.new _ _ _;have R:η (∀b,Y (c.alloc (ζ a.cells 42)) b γ->(b.cell? (U e.g 7 A)=N (ω (N e.sm))/\(cw 63 (ω (N e.sm)) (I E a.id) false).run δ b= .ok (Ζ i.q) b/\b.cell? (U i.q 2 A)=N (H i.Β)/\b.cell? (U c.heap.size 0 A)=N (I E a.id)/\b.cell? (U c.heap.size 1 A)=N (H a.ψ)/\b.cell? (U c.heap.size 2 A)=N (H a.ah)/\b.cell? (U c.heap.size 3 A)=N (H a.ax)/\b.cell? (U c.heap.size 4 A)=N (I E a.Δ)/\b.cell? (U c.heap.size 5 A)=N (I E a.aH))):=K λb n=>by have t:=L.still n;have k:=n.blk J id;have y:=t.jP M;rw[F.out] at y;simp only[gx,gK] at y;obtain⟨an,aa⟩:=t.gq F.out;exact⟨t.aA.cell 7,y,aa.blk.cell 2,k.cell 0,k.cell 1,k.cell 2,k.cell 3,k.cell 4,k.cell 5⟩
 have G:=K x;unfold υ.cells at*;clear P x L J;unfold aK at s;simp only at s;go_wp2
 go_region_held3 (λb=>b.cell? (U e.g 7 A)=N (ω (N e.sm))/\(cw 63 (ω (N e.sm)) (I E a.id) false).run δ b= .ok (Ζ i.q) b/\b.cell? (U i.q 2 A)=N (H i.Β)/\b.cell? (U c.heap.size 0 A)=N (I E a.id)/\b.cell? (U c.heap.size 1 A)=N (H a.ψ)/\b.cell? (U c.heap.size 2 A)=N (H a.ah)/\b.cell? (U c.heap.size 3 A)=N (H a.ax)/\b.cell? (U c.heap.size 4 A)=N (I E a.Δ)/\b.cell? (U c.heap.size 5 A)=N (I E a.aH))
  ((refine R.out _ ?_;(with_reducible first|assumption|exact(Y.refl _ _).drew)))
  (first|(go_at_call 44;refine(B.out _).mono ?_;rintro f am ⟨rfl,ae⟩;have Q:Y (c.alloc (ζ #[I E a.id,H a.ψ,H a.ah,H a.ax,I E a.Δ,I E a.aH] 42)) am γ:=ac.trans ae Η)|(go_at_call 44;refine(B.out _).mono ?_;rintro f al ⟨rfl,ad⟩;have ac:Y (c.alloc (ζ #[I E a.id,H a.ψ,H a.ah,H a.ax,I E a.Δ,I E a.aH] 42)) al γ:=(Y.refl _ γ).drew.trans ad Η)|(go_at_call 164;refine(s.out _ (G.out.trans Q Η)).mono ?_;rintro f av ⟨⟨ak,rfl,ab⟩,ag⟩;have af:=Q.trans ag Η))
 all_goals go_wp2
 all_goals go_ret2
 all_goals exact⟨⟨ak,rfl,ab⟩,G.out.trans af Η⟩
theorem Vs(a:aY)(b:BA):(Gp a b).length<=4:=jo _ _
theorem eU.at_{c:List BA}(h:eU w x c){k:Nat}(b:k<c.length):∃a d e,x=V (N (U a d A)) c.length e/\w.cell? ⟨a,d+k,A⟩=N (H (c[k]'b)):=by
 obtain⟨m,e,rfl,_,i,j⟩:=h;cases m with
 |none=>rw[i rfl] at b;cases b
 |some g=>obtain⟨a,d,n⟩:=g;obtain⟨f,l⟩:=j _ rfl;simp only at f;subst f;exact⟨a,d,e,rfl,l k _ (cT b)⟩
theorem na.at_{c:List Int}(h:na w x c){k:Nat}(b:k<c.length):∃a d e,x=V (N (U a d A)) c.length e/\w.cell? ⟨a,d+k,A⟩=N (I E (c[k]'b)):=by
 obtain⟨m,e,rfl,_,i,j⟩:=h;cases m with
 |none=>rw[i rfl] at b;cases b
 |some g=>obtain⟨a,d,n⟩:=g;obtain⟨f,l⟩:=j _ rfl;simp only at f;subst f;exact⟨a,d,e,rfl,l k _ (cT b)⟩
structure gO (w w':Z) (p:Pl) (own own':Nat->Option Ν) (s s':HS) (n:Nat):Prop where
 bp:Α w' p own' s'
 aW:Ε w w' own own'
 eG:ci s s'
 ο:s'.ο<=s.ο+n
theorem gO.refl(a:Α w e v z):gO w w e v v z z 0:=⟨a,Ε.refl _ _,ci.refl _,Ο _⟩
theorem gO.still{w':Z}(a:gO w w' e v s z c y)(b:Y w' n γ):gO w n e v s z c y:=⟨a.bp.still b,a.aW.still b,a.eG,a.ο⟩
theorem gO.trans{d:Nat->Option Ν}{f:HS}(b:gO w n e v s z c y)(a:gO n G e s d c f k):gO w G e v d z f (y+k):=⟨a.bp,b.aW.trans a.aW,b.eG.trans a.eG,by have:=b.ο;have:=a.ο;omega⟩
theorem gm(a:Υ z)(b:h∈z.τ):aF h.2.id:=by have:=a.bj h b;have:=a.last;unfold aF;omega
theorem QD{j:Nat->Option Ν}(k:Α w e j z)(f:Υ z)(N:z.ο+32<=aL)(p:BA)(am:cX p)(s B:BA)(ah:s.size<=100000)(al:B.size<=most):ν δ 187 #[Ζ e.g,H p,H s,H B] w (lu w e j z 32):=by
 have C:=K (Sm (k.part .aE) am);have az:=Vs z.aE p;have ae:=k.aA.cell 1;simp only[bg,gz_] at ae;have G:=K k;have q:=K f;generalize Gp z.aE p=g at*;clear k f;go_enter func187,ntmps187;go_wp2_with fail;refine C.out.mono ?_;rintro L au ⟨v,rfl,l,Q⟩;have F:η (iP au j v g):=K (pN (eU.dw l (by omega)) l λad N=>G.out.dZ (by have:=(l.lt ad N).1;omega));have aa:=K ((gO.refl G.out).still Q);obtain⟨ar,aq,hv,_⟩:=F.out.strs;subst hv;clear l Q C;go_wp2;go_loopw [19] (λf wr=>∃(b:Nat) (i:Nat->Option Ν) (o:HS),b<=g.length/\f=I E b/\η (gO w wr e j i z o (b*8)/\iP wr i (V ar g.length aq) g)) (λf _=>g.length-(aB f).toNat)
 case atStart=>exact⟨0,j,z,by omega,rfl,K ⟨aa.out,F.out⟩⟩
 obtain⟨b,i,o,aC,rfl,d⟩:=hrel;by_cases ai:b<g.length
 .have aj:(b:Int)<g.length:=by omega
  obtain⟨aP,aR,aQ,hv,aT⟩:=d.out.2.strs.at_ ai;injection hv with u _ x;subst u x;generalize g[b]=aw at*;have J:=K (zN d.out.1.bp (d.out.1.eG.inv q.out) aw);go_wp2_with fail;refine J.out.mono ?_;rintro L av ⟨aN,h,rfl,r,m,a⟩;have S:=K r;have ay:=K m;have ab:=K (d.out.1.still a);have W:=K (Ε.bu i a);obtain⟨aM,aI,t,_⟩:=r.ints;subst t;have aG:h.length<=4:=m.2;have Y:=K (show ∀id∈h,aF id from λid hid=>by obtain⟨aO,af,ag,_⟩:=m.1 id hid;rw[<-ag];exact gm (d.out.1.eG.inv q.out) af);clear r m a J;go_wp2;go_loopw [27] (λf wr=>∃(a:Nat) (n:Nat->Option Ν) (A:HS),a<=h.length/\f=I E a/\η (gO w wr e j n z A (b*8+a*2)/\Ε av wr i n)) (λf _=>h.length-(aB f).toNat)
  case atStart=>exact⟨0,i,o,by omega,rfl,K ⟨ab.out,Ε.refl _ _⟩⟩
  obtain⟨a,n,A,aD,rfl,c⟩:=hrel;by_cases P:a<h.length
  .have ak:(a:Int)<h.length:=by omega
   obtain⟨aH,aK,aJ,t,y0⟩:=(S.out.aW c.out.2).ints.at_ P;injection t with u _ x;subst u x;have an:=Y.out _ (eA P);generalize h[a]=ax at*;have T:=K (sy c.out.1.bp (c.out.1.eG.inv q.out) (by have:=c.out.1.ο;omega) ax an s B ah al true);go_wp2_with fail;refine T.out.mono ?_;rintro L aS ⟨rfl,ao,ap,M,y,R,O⟩;have ac:=K (c.out.1.trans ⟨M,y,R,O⟩);have X:=K (c.out.2.trans y);clear M y R O;go_wp2;go_roundw
   case rel=>exact⟨a+1,ao,ap,by omega,by go_num,K ⟨by have:=ac.out;rwa [show b*8+(a+1)*2=b*8+a*2+2 by omega],X.out⟩⟩
   case measure=>simp[aB];omega
  have ak:¬(a:Int)<h.length:=by omega
  go_wp2;go_roundw
  case rel=>exact⟨b+1,n,A,by omega,by go_num,K ⟨⟨c.out.1.bp,c.out.1.aW,c.out.1.eG,by have:=c.out.1.ο;omega⟩,(d.out.2.aW W.out).aW c.out.2⟩⟩
  case measure=>simp[aB];omega
 have aj:¬(b:Int)<g.length:=by omega
 go_wp2;go_end0
 exact⟨rfl,i,o,d.out.1.bp,d.out.1.aW,d.out.1.eG,by have:=d.out.1.ο;omega⟩
def qS:BA:=(D #[117,110,97,118,97,105,108,97,98,108,101])
theorem NH(j:Α w e v z)(B:Υ z)(R:z.ο+32<=aL)(a:υ)(y:a.ψ∈us)(p:aN a.ah=true):ν δ 113 #[Ζ e.g,Μ a.cells] w (lu w e v z 32):=by
 have q:=oT _ y;have an:=vJ q p;have X:rN a:=by have u:=p;have x:=q;unfold aN at u x;simp at u x;unfold rN;omega
 have s:η (∀c,ν δ 44 #[Μ a.cells] c λg l=>g=ξ (H (gh a))/\Y c l γ):=K λc=>(vK a X c).mono λg l ⟨⟨am,S,_,Q⟩,f⟩=>⟨by rw[S,Q q p],f⟩;have n:η (∀c,Y w c γ->ν δ 164 #[aK ⟨1,qS,(D #[]),gh a,(D #[]),(D #[]),(D #[]),(D #[]),0,0,false,[]⟩ (V A 0 0)] c λg l=>(∃h:BA,g=ξ (H h)/\h.size<=most)/\Y c l γ):=K λc f=>by exact oR ⟨by show qS.size<=100;decide,e0,(show(gh a).size<=100 by omega),e0,e0,e0,e0,mP,ai _,nofun⟩ (aZ.nil c) (j.eE.still f)
 have P:η (∀c,Y w c γ->∀h:BA,h.size<=most->ν δ 187 #[Ζ e.g,H a.ψ,H (gh a),H h] c (lu c e v z 32)):=K λc f h aa=>QD (j.still f) B R a.ψ (gH _ y) (gh a) h (by omega) aa;have o:=θ.new w 42 a.cells;have m:=K ((Y.refl w γ).alloc (ζ a.cells 42));have ao:=j.aA.lt;have T:=K (j.dZ (Ο w.heap.size));unfold υ.cells at*;have M:η (∀b,Y (w.alloc (ζ #[I E a.id,H a.ψ,H a.ah,H a.ax,I E a.Δ,I E a.aH] 42)) b γ->(b.cell? (U w.heap.size 0 A)=N (I E a.id)/\b.cell? (U w.heap.size 1 A)=N (H a.ψ)/\b.cell? (U w.heap.size 2 A)=N (H a.ah)/\b.cell? (U w.heap.size 3 A)=N (H a.ax)/\b.cell? (U w.heap.size 4 A)=N (I E a.Δ)/\b.cell? (U w.heap.size 5 A)=N (I E a.aH))):=K λb f=>by have d:=f.blk o id;exact⟨d.cell 0,d.cell 1,d.cell 2,d.cell 3,d.cell 4,d.cell 5⟩
 have O:η (∀k b F,Y (w.alloc (ζ #[I E a.id,H a.ψ,H a.ah,H a.ax,I E a.Δ,I E a.aH] 42)) k γ->Ε k b v F->(b.cell? (U w.heap.size 0 A)=N (I E a.id)/\b.cell? (U w.heap.size 1 A)=N (H a.ψ)/\b.cell? (U w.heap.size 2 A)=N (H a.ah)/\b.cell? (U w.heap.size 3 A)=N (H a.ax)/\b.cell? (U w.heap.size 4 A)=N (I E a.Δ)/\b.cell? (U w.heap.size 5 A)=N (I E a.aH))):=K λk b F f J=>by have d:=f.blk o id;have i:θ b w.heap.size 42 _:=((J.free d.lt T.out).1).trans d;exact⟨i.cell 0,i.cell 1,i.cell 2,i.cell 3,i.cell 4,i.cell 5⟩
 unfold aK qS at n;simp only at n;clear j B o;go_enter func113,ntmps113;go_wp2
 go_region_held3 (λb=>b.cell? (U w.heap.size 0 A)=N (I E a.id)/\b.cell? (U w.heap.size 1 A)=N (H a.ψ)/\b.cell? (U w.heap.size 2 A)=N (H a.ah)/\b.cell? (U w.heap.size 3 A)=N (H a.ax)/\b.cell? (U w.heap.size 4 A)=N (I E a.Δ)/\b.cell? (U w.heap.size 5 A)=N (I E a.aH))
  (first|(with_reducible exact O.out _ _ _ r t)|(refine M.out _ ?_;(with_reducible first|assumption|exact(Y.refl _ _).drew)))
  (first|(go_at_call 44;refine(s.out _).mono ?_;rintro g k ⟨rfl,ae⟩;have C:Y (w.alloc (ζ #[I E a.id,H a.ψ,H a.ah,H a.ax,I E a.Δ,I E a.aH] 42)) k γ:=ac.trans ae Η)|(go_at_call 44;refine(s.out _).mono ?_;rintro g al ⟨rfl,ad⟩;have ac:Y (w.alloc (ζ #[I E a.id,H a.ψ,H a.ah,H a.ax,I E a.Δ,I E a.aH] 42)) al γ:=(Y.refl _ γ).drew.trans ad Η)|(go_at_call 164;refine(n.out _ (m.out.trans C Η)).mono ?_;rintro g ap ⟨⟨ak,rfl,ab⟩,af⟩;have r:=C.trans af Η)|(go_at_call 187;refine(P.out _ (m.out.trans r Η) ak ab).mono ?_;rintro g aq ⟨rfl,ag,aj,G,t,L,W⟩))
 all_goals go_wp2
 all_goals go_end0
 all_goals exact⟨rfl,ag,aj,G,(Ε.bu v (m.out.trans r Η)).trans t,L,W⟩
def cK(a:HS)(b:Int):HS:= {a with Κ:=(at_ nG a.Κ b).2,cl:=aP a.cl b A}
theorem vW(c:Nat->PS)(b:Int)(a:Nat)(h:a<16):((at_ nG c b).2 a).out=(c a).out/\((at_ nG c b).2 a).br=(c a).br/\((at_ nG c b).2 a).left=(c a).left/\((at_ nG c b).2 a).op=((c a).op&& !decide ((a:Int)=b)):=by
 unfold at_;split
 .rename_i g;simp only[cN];by_cases e:a=b.toNat
  .have d:(a:Int)=b:=by omega
   rw[ahM e,e];unfold nG;rw[show((b.toNat:Nat):Int)=b by omega];split
   .simp
   rename_i f;simp at f;simp[f]
  rw[WB e];have d:¬(a:Int)=b:=by omega
  simp[d]
 have d:¬(a:Int)=b:=by omega
 simp[d]
theorem wI(d:Υ z)(g:∀f∈z.τ,f.2.Δ≠m):Υ (cK z m) where
 iu c a:=by rw[show((cK z m).Κ c).out=(z.Κ c).out from(vW z.Κ m c a).1];exact d.iu c a
 rows:=d.rows
 fits:=d.fits
 clock:=d.clock
 last:=d.last
 bj:=d.bj
 dM:=d.dM
 aR:=d.aR
 ij:=d.ij
 state:=d.state
 eC f hp:=by
  obtain h|⟨h1,h2,h3⟩:=d.eC f hp
  .exact .inl h
  .refine .inr ⟨h1,h2,?_⟩;show(aP z.cl m A f.2.Δ).isSome=true;rw[bU _ _ _ (g f hp)];exact h3
 iq:=d.iq
 lh:=d.lh
 open_ c a:=by
  rw[show((cK z m).Κ c).op=_ from(vW z.Κ m c a).2.2.2];show _=(aP z.cl m A (c:Int)).isSome;by_cases e:(c:Int)=m
  .rw[e,bI];simp
  .rw[bU _ _ _ e,d.open_ c a];simp[e]
 range c a:=by
  have a:(aP z.cl m A c).isSome=true:=a;by_cases e:c=m
  .rw[e,bI] at a;cases a
  .rw[bU _ _ _ e] at a;exact d.range c a
 jQ c x b a:=by
  have a:aP z.cl m A c=N x:=a;by_cases e:c=m
  .rw[e,bI] at a;cases a
  .rw[bU _ _ _ e] at a;exact d.jQ c x b a
 fS:=d.fS
theorem wM(f:bJ z m)(b:Int):bJ (cK z b) m:=λc e a g=>by
 have a:aP z.cl b A c=N e:=a;by_cases d:c=b
 .rw[d,bI] at a;cases a
 rw[bU _ _ _ d] at a;exact f c e a g
theorem zf(c:Υ z)(id:Int):Υ {z with τ:=bY z.τ id} :=by
 have sub:∀a∈bY z.τ id,a∈z.τ:=λa b=>(dE.1 b).1
 exact {c with
  bj:=λa b=>c.bj a (sub a b)
  dM:=c.dM.filter _
  aR:=λa b=>c.aR a (sub a b)
  ij:=λf=>aJ (by
   have h:(bY z.τ id).filter (λd=>same d.2.ψ f)=(z.τ.filter λd=>same d.2.ψ f).filter λd=> !(d.2.id==id):=by
    unfold bY;rw[EZ,EZ]
    congr 1
    funext e;exact Bool.and_comm _ _
   show((bY z.τ id).filter λd=>same d.2.ψ f).length<=_;rw[h];exact jo _ _) (c.ij f)
  state:=λa b=>c.state a (sub a b)
  eC:=λa b=>c.eC a (sub a b)
  iq:=λa b e g=>c.iq a (sub a b) e (sub e g)
  lh:=λa b e g=>c.lh a (sub a b) e (sub e g)}
def cZ(a:HS)(b:υ):HS:= {(if 0<=b.Δ then cK a b.Δ else a) with ss:=aP a.ss b.id A}
theorem NZ{s:HS}(d:Υ s)(h:∀b∈s.τ,b.2.id≠m):Υ {s with ss:=aP s.ss m A} := {d with
 state:=λb g=>by obtain⟨c,i,j⟩:=d.state b g;exact⟨c,(bU _ _ _ (h b g)).trans i,j⟩
 fS:=λe c a=>by
  have a:aP s.ss m A e=N c:=a;by_cases f:e=m
  .rw[f,bI] at a;cases a
  .rw[bU _ _ _ f] at a;exact d.fS e c a}
theorem Cu(d:Υ z){a:υ}(c:∀b∈z.τ,b.2.id≠a.id)(f:0<=a.Δ->∀b∈z.τ,b.2.Δ≠a.Δ):Υ (cZ z a):=by
 unfold cZ;split
 .rename_i e;exact NZ (s:=cK z a.Δ) (wI d (f e)) c
 exact NZ d c
theorem Ht{s:HS}(a:bJ s m)(b:υ):bJ (cZ s b) m:=by
 unfold cZ;split
 .exact wM a _
 exact a
theorem bo(c:Ε w n v s)(a:θ w y u q)(b:v y=A):θ n y u q/\s y=A:=⟨((c.free a.lt b).1).trans a,(c.free a.lt b).2⟩
theorem Dt(c:Α w e v z)(a:Int)(u:aF a):ν δ 102 #[Ζ e.g,I E a] w λf n=>f=ξ (σ #[])/\∃b,Α n e b (cK z a)/\Ε w n v b:=by
 have p:=K (SJ (c.part .Κ) a);have s:=c.aA.cell 0;simp only[bg,Ρ,Τ] at s;have q:=K c;clear c;go_enter func102,ntmps102;go_wp2_with fail;refine p.out.mono ?_;rintro f F ⟨rfl,i⟩;obtain⟨C,d,k⟩:=q.out.zI i;have t:=d.aA.cell 6;simp only[bg,gz_] at t;obtain⟨⟨B,x,h⟩,_⟩:=d.part .hY;obtain⟨o,A,l,j⟩:=h.drop fI (t:=62) (e:=68) Jm (x:=a) u 0;obtain⟨y,g,m⟩:=Zx d a l x j;simp only[cM] at A;have r:η (∃b,Α o e b (cK z a)/\Ε w o v b):=K ⟨y,g,k.trans m⟩;clear d k h l j g m i;go_wp2;go_end0
 exact⟨rfl,r.out⟩
theorem PH(a:HS)(b:υ):(if 0<=b.Δ then cK a b.Δ else a).ss=a.ss:=by split<;>rfl
theorem wT(a:HS)(b:υ):(cZ a b).ο=a.ο:=by unfold cZ;split<;>rfl
theorem IV(t:Α w e v z)(a:υ)(bz:Υ (cZ z a))(co:z.ο+32<=aL)(bw:a.ψ∈us)(C:aN a.ah=true)(hid:aF a.id)(ct:aF a.Δ){xs:Ss}(bx:z.ss a.id=N xs):ν δ 71 #[Ζ e.g,Μ a.cells] w λc h=>c=ξ (σ #[])/\∃k a0,Α h e k a0/\Ε w h v k/\ci (cZ z a) a0/\a0.ο<=z.ο+32:=by
 have al:=oT _ bw;have cv:rN a:=by have bk:=C;have l:=al;unfold aN at bk l;simp at bk l;unfold rN;omega
 have c5:=vJ al C;have b5:η (∀j,ν δ 44 #[Μ a.cells] j λc h=>c=ξ (H (gh a))/\Y j h γ):=K λj=>(vK a cv j).mono λc h ⟨⟨cS,cu,_,cn⟩,F⟩=>⟨by rw[cu,cn al C],F⟩;have am:Y w (w.alloc (ζ a.cells 42)) γ:=(Y.refl w γ).alloc _;have a9:=K (Ε.bu v am);have a6:=K (t.still am);have M:=K (θ.new w 42 a.cells);have bb:=K (t.dZ (Ο w.heap.size));have bd:=K (Dt a6.out a.Δ ct);have ck:=M.out.cell 4;unfold υ.cells at*;simp only[gz_] at ck;have cc:=K bx;have cb:=K bz;have a8:=K (⟨bw,C⟩:a.ψ∈us/\aN a.ah=true);clear t bz bx am;go_enter func71,ntmps71;go_upto_if 7 with fail
 go_cut [0] (λcI b=>cI=Ζ e.g/\η (∃d,Α b e d (if 0<=a.Δ then cK z a.Δ else z)/\Ε w b v d/\θ b w.heap.size 42 #[I E a.id,H a.ψ,H a.ah,H a.ax,I E a.Δ,I E a.aH]/\d w.heap.size=A))
 case first=>
  by_cases bq:0<=a.Δ
  .go_wp2_with fail;refine bd.out.mono ?_;rintro c g ⟨rfl,d,u,o⟩;have T:=K (show ∃d,Α g e d (if 0<=a.Δ then cK z a.Δ else z)/\Ε w g v d/\θ g w.heap.size 42 _/\d w.heap.size=A from⟨d,by rw[ahM bq];exact u,a9.out.trans o,bo o M.out bb.out⟩);clear u o;go_wp2_with fail;go_meet;exact⟨rfl,T⟩
  have T:=K (show ∃d,Α _ e d (if 0<=a.Δ then cK z a.Δ else z)/\Ε w _ v d/\θ _ w.heap.size 42 _/\d w.heap.size=A from⟨v,by rw[WB bq];exact a6.out,a9.out,M.out,bb.out⟩);go_wp2_with fail;go_meet;exact⟨rfl,T⟩
 case rest=>
 obtain⟨rfl,a7⟩:=hcut;obtain⟨d,u,o,bi,bF⟩:=a7.out;have R:=K u;have cg:=K o;have BA:=K bi;have ch:=K bF;clear u o bi bF a7 bd;generalize wc=g at*;generalize m:(if 0<=a.Δ then cK z a.Δ else z)=y at*;have m:=K m;have a1:y.ss a.id=N xs:=by rw[<-m.out,PH];exact cc.out
 have be:=K a1;have br:y.ο=z.ο:=by rw[<-m.out];split<;>rfl
 have b9:=K br;have X:=R.out.aA.cell 7;have B:=BA.out.cell 0;simp only[bg,gz_] at X B;have cD:∀J,(cw 63 (ω (N e.sm)) (I E a.id) false).run δ (g.drewN J)= .ok (Ζ xs.q) (g.drewN J):=λJ=>by have:=(R.out.still ((Y.refl g γ).drewN J)).jP hid;rw[a1] at this;exact this
 clear a1 br;go_wp2;go_quiet (fail)
 obtain⟨wB,hwB⟩:∃a,a=g.drewN nq:=⟨_,rfl⟩;have n:Y g wB γ:=by rw[hwB];exact(Y.refl g γ).drewN nq
 rw[<-hwB];have x:=K (R.out.still (n.drew));obtain⟨⟨cA,ac,bs⟩,_⟩:=x.out.part .gE;obtain⟨i,cB,bA,an⟩:=bs.drop fI (t:=63) (e:=102) Jn (x:=a.id) hid 0;obtain⟨p,l,ap,bt⟩:=Zy x.out a.id bA ac an;simp only[cM] at cB;have cW:wB.cell? (U e.g 7 A)=N (ω (N e.sm)):=az n X id;have cU:wB.cell? (U w.heap.size 0 A)=N (I E a.id):=az n B id;have bB:=(cg.out.still n.drew).trans ap;have a3:=bo ap (n.drew.blk BA.out id) ch.out;obtain⟨cR,ad⟩:=x.out.gq be.out;have aw:d xs.q=N (.ss a.id):=(ad.ak _).2 (.inl rfl);have b1:p xs.q=A:=bt _ aw;have b0:θ i xs.q 101 (mN xs):=an.blk ad.blk λc=>by have:=((x.out.part .gE).2 e.sm).2 rfl;unfold of at this;rw[<-c,aw] at this;cases this
 have eS:cZ z a= {y with ss:=aP y.ss a.id A} :=by
  have c:y.ss=z.ss:=by rw[<-m.out,PH]
  unfold cZ;rw[m.out,c]
 rw[<-eS] at l;have Q:=K l;clear eS;have cf:=K bB;have O:=K a3;have bc:=K (⟨b0,b1⟩:θ i xs.q 101 (mN xs)/\p xs.q=A);clear x bs bA l ap bt bB a3 ad aw b1 b0 cD X B hwB n;clear an ac;go_wp2;go_region
 have a2:η (∀j,Y i j γ->ν δ 112 #[Ζ e.xb,H (gh a)] j λc h=>c=ξ (σ #[])/\∃k,Α h e k (cZ z a)/\Ε i h p k):=K λj ao=>by obtain⟨cA,ac,cs⟩:=Q.out.part .box;refine(RB ((vO _ _).keeps cs ao λ_ _ t=>t) (gh a) (by unfold Χ;omega)).mono ?_;rintro c h ⟨rfl,c7,cq,cm,c6⟩;obtain⟨k,b7,ce⟩:=(Q.out.still ao).Di (by omega) cq cm;exact⟨rfl,k,b7,(Ε.bu p ao).trans ce⟩
 have bf:η (∀b,Y i b γ->(b.cell? (U e.g 3 A)=N (Ζ e.xb)/\b.cell? (U w.heap.size 0 A)=N (I E a.id)/\b.cell? (U w.heap.size 1 A)=N (H a.ψ)/\b.cell? (U w.heap.size 2 A)=N (H a.ah)/\b.cell? (U w.heap.size 3 A)=N (H a.ax)/\b.cell? (U w.heap.size 4 A)=N (I E a.Δ)/\b.cell? (U w.heap.size 5 A)=N (I E a.aH))):=K λb F=>by have f:=F.blk O.out.1 id;exact⟨(Q.out.still F).aA.cell 3,f.cell 0,f.cell 1,f.cell 2,f.cell 3,f.cell 4,f.cell 5⟩
 have W:η (∀b av,Α b e av (cZ z a)->Ε i b p av->(b.cell? (U e.g 3 A)=N (Ζ e.xb)/\b.cell? (U w.heap.size 0 A)=N (I E a.id)/\b.cell? (U w.heap.size 1 A)=N (H a.ψ)/\b.cell? (U w.heap.size 2 A)=N (H a.ah)/\b.cell? (U w.heap.size 3 A)=N (H a.ax)/\b.cell? (U w.heap.size 4 A)=N (I E a.Δ)/\b.cell? (U w.heap.size 5 A)=N (I E a.aH))):=K λb av P S=>by have f:=(bo S O.out.1 O.out.2).1;exact⟨P.aA.cell 3,f.cell 0,f.cell 1,f.cell 2,f.cell 3,f.cell 4,f.cell 5⟩
 have a4:η (∀q G,Α q e G (cZ z a)->Ε i q p G->(q.cell? (U xs.q 1 A)=N (ι xs.iK))/\ν δ 113 #[Ζ e.g,Μ #[I E a.id,H a.ψ,H a.ah,H a.ax,I E a.Δ,I E a.aH]] q (lu q e G (cZ z a) 32)):=K λq G P S=>by refine⟨((bo S bc.out.1 bc.out.2).1).cell 1,NH P cb.out (by rw[wT];exact co) a a8.out.1 a8.out.2⟩
 clear be b9;go_wp2
 go_region_held3 (λb=>b.cell? (U e.g 3 A)=N (Ζ e.xb)/\b.cell? (U w.heap.size 0 A)=N (I E a.id)/\b.cell? (U w.heap.size 1 A)=N (H a.ψ)/\b.cell? (U w.heap.size 2 A)=N (H a.ah)/\b.cell? (U w.heap.size 3 A)=N (H a.ax)/\b.cell? (U w.heap.size 4 A)=N (I E a.Δ)/\b.cell? (U w.heap.size 5 A)=N (I E a.aH))
  (first|(with_reducible exact W.out _ _ r s)|(refine bf.out _ ?_;(with_reducible first|assumption|exact(Y.refl _ _).drew)))
  (first|(go_at_call 44;refine(b5.out _).mono ?_;rintro c cJ ⟨rfl,cy⟩;have cx:Y i cJ γ:=(Y.refl i γ).drew.trans cy Η)|(go_at_call 112;refine(a2.out _ cx).mono ?_;rintro c b3 ⟨rfl,aq,r,s⟩))
 all_goals
  obtain⟨bN,a5⟩:=a4.out b3 aq r s;obtain⟨_,B,c0,c1,c2,c3,c4⟩:=W.out b3 aq r s;have b6:=K a5;have ba:=K (cf.out.trans s);have b8:=K r;clear a5 r s bf W a4 a2;cases bv:xs.iK with
  |true=>
   rw[bv] at bN;go_wp2_with fail;refine b6.out.mono ?_;rintro c b4 ⟨rfl,au,L,bn,bE,b2,ab⟩;rw[wT] at ab;have cl:=K (⟨bn,ba.out.trans bE,b2,ab⟩:Α b4 e au L/\Ε w b4 v au/\ci (cZ z a) L/\L.ο<=z.ο+32);clear bn bE b2 ab;go_wp2;go_end0
   exact⟨rfl,au,L,cl.out⟩
  |false=>
   rw[bv] at bN;go_wp2;go_end0
   exact⟨rfl,aq,cZ z a,b8.out,ba.out,ci.refl _,by rw[wT];omega⟩
def ei(a:HS)(id:Int)(b:υ):HS:=cZ {a with τ:=bY a.τ id} b
def dX(a b:HS)(id:Int):Prop:=match a.τ.find? (λd=>d.2.id==id) with
 |none=>b=a
 |some c=>ci (ei a id c.2) b
def yf(b:HS)(id:Int):Prop:=∀a,b.τ.find? (λc=>c.2.id==id)=N a->(∃d,b.ss id=N d)/\a.2.ψ∈us/\aN a.2.ah=true/\aF a.2.Δ/\Υ (ei b id a.2)
theorem Cd(j:Α w e v z)(id:Int)(hid:aF id)(a5:z.ο+32<=aL)(x:yf z id):ν δ 67 #[Ζ e.g,I E id] w λf a=>f=ξ (σ #[])/\∃b c,Α a e b c/\Ε w a v b/\dX z c id/\c.ο<=z.ο+32:=by
 have d:=rH (j.part .table) id hid;have a2:=j.aA.cell 2;simp only[bg,gz_] at a2;have a6:e.g<w.heap.size:=j.aA.lt;unfold dX;cases k:z.τ.find? (λa9=>a9.2.id==id) with
 |none=>
  rw[k] at d;have r:η (∀a,Y w a γ->∃b c,Α a e b c/\Ε w a v b/\c=z/\c.ο<=z.ο+32):=K λa W=>⟨v,z,j.still W,Ε.bu v W,rfl,by omega⟩;have d:=K d;clear j k x;unfold rq υ.cells υ.zero at*;simp only[vy,pj,tN] at*;go_enter func67,ntmps67;go_wp2_with fail;refine d.out.mono ?_;rintro f q ⟨rfl,h⟩;have al:=K h;clear h;go_wp2;go_end0
  exact⟨rfl,r.out _ (al.out.alloc _)⟩
 |some m=>
  obtain⟨a7,t⟩:=uE k;obtain⟨⟨bf,T⟩,S,P,O,R⟩:=x m k;rw[k,xp] at d;have d:=K d;have C:=K j;have ad:η (∀g b,Α g e b z->ν δ 104 #[Ζ e.tb,I E id] g λf a=>f=ξ (I E 0)/\∃l,Α a e l {z with τ:=bY z.τ id} /\Ε g a b l):=K λg b o=>by refine(Tj (o.part .table) id hid (by rw[k];rfl)).mono ?_;rintro f a ⟨rfl,ba,a8,a4⟩;exact⟨rfl,o.Dk a8 a4⟩
  have F:η (∀g b,Α g e b {z with τ:=bY z.τ id} ->ν δ 71 #[Ζ e.g,Μ m.2.cells] g λf a=>f=ξ (σ #[])/\∃l c,Α a e l c/\Ε g a b l/\ci (ei z id m.2) c/\c.ο<=z.ο+32):=K λg b o=>IV o m.2 R a5 S P (by rw[t];exact hid) O (by rw[t];exact T);clear j k x R a7 t T S P O;obtain⟨be,n⟩:=m;simp only at*;unfold υ.cells at d F;simp only[mX] at d;go_enter func67,ntmps67;go_wp2_with fail;refine d.out.mono ?_;rintro f q ⟨rfl,h⟩;have s:=C.out.still (h.alloc (ζ n.cells 42));have G:θ (q.alloc (ζ n.cells 42)) q.heap.size 42 n.cells:=θ.new _ _ _;have ac:=K G;have ao:=K (C.out.dZ h.size);have am:=K (Ε.bu v (h.alloc (ζ n.cells 42)));have a3:=s.aA.cell 2;simp only[bg,gz_] at a3;have B:=K (ad.out _ _ s);have bb:e.g<q.heap.size:=dQ a6 h.size;unfold υ.cells at*;clear h s G;go_wp2_with fail;refine B.out.mono ?_;rintro f bd ⟨rfl,bc,L,u⟩;have i:=(bo u ac.out ao.out).1;have aq:=i.cell 0;have au:=i.cell 1;have av:=i.cell 2;have aw:=i.cell 3;have a0:=i.cell 4;have a1:=i.cell 5;simp only[gz_] at aq au av aw a0 a1;have ap:=K (F.out _ _ L);have an:=K (am.out.trans u);clear L u i B;go_wp2_with fail;refine ap.out.mono ?_;rintro f ab ⟨rfl,y,p,M,X,J,Q⟩;have r:=K (⟨M,an.out.trans X,J,Q⟩:Α ab e y p/\Ε w ab v y/\ci (ei z id n) p/\p.ο<=z.ο+32);clear M X J Q;go_wp2;go_end0
  exact⟨rfl,y,p,r.out⟩
theorem hZ{b:υ->υ}(c:h∈ee r m b):∃a∈r,h=if a.2.id==m then(a.1,b a.2) else a:=by unfold ee at c;obtain⟨a,d,e⟩:=List.mem_map.1 c;exact⟨a,d,e.symm⟩
theorem Jc{c:υ->υ}(f:∀b,(c b).id=b.id/\(c b).ψ=b.ψ/\(c b).ah=b.ah)(g:h∈ee r m c):∃a∈r,h.1=a.1/\h.2.id=a.2.id/\h.2.ψ=a.2.ψ/\h.2.ah=a.2.ah/\((a.2.id=m/\h.2=c a.2)\/(a.2.id≠m/\h=a)):=by
 obtain⟨a,i,e⟩:=hZ g;refine⟨a,i,?_⟩;by_cases d:a.2.id=m
 .rw[ahM (by simpa using d)] at e;subst e;exact⟨rfl,(f _).1,(f _).2.1,(f _).2.2,.inl ⟨d,rfl⟩⟩
 rw[WB (by simpa using d)] at e;subst e;exact⟨rfl,rfl,rfl,rfl,.inr ⟨d,rfl⟩⟩
theorem Jd{d:υ->υ}(i:∀f,(d f).id=f.id)(g:r.Pairwise λb c=>b.2.id<c.2.id):(ee r m d).Pairwise λb c=>b.2.id<c.2.id:=by
 unfold ee;rw[Fa];refine g.imp λ{b c} h=> ?_;have e:∀a:Nat×υ,(if a.2.id==m then(a.1,d a.2) else a).2.id=a.2.id:=λa=>by split<;>simp[i]
 rw[e,e];exact h
theorem Jb{f:υ->υ}(d:∀c,(f c).ψ=c.ψ)(b:BA):((ee r m f).filter λa=>same a.2.ψ b).length=(r.filter λa=>same a.2.ψ b).length:=by
 unfold ee;rw[List.filter_map,dN]
 congr 1
 congr 1
 funext q;simp only[Function.comp];split<;>simp[d]
theorem sU(b:r.Pairwise λd e=>d.2.id<e.2.id){a:Nat×υ}(i:h∈r)(j:a∈r)(f:h.2.id=a.2.id):h=a:=by have c:=qR b i;have g:=qR b j;rw[f] at c;exact cr (c.symm.trans g)
def oG(Ι:Int)(a:υ):υ:= {a with Δ:= -1,aH:=Ι+20}
def qi(a:HS)(b id:Int)(c:Ss):HS:= {cK a b with ss:=aP a.ss id (N {c with ar:=true}),τ:=ee a.τ id (oG a.Ι)}
theorem ZW(d:Υ z){c:Nat×υ}(B:c∈z.τ)(K:c.2.Δ=m)(L:m≠ -1)(G:z.ss c.2.id=N J):Υ (qi z m c.2.id J):=by
 have other:∀b∈z.τ,b.2.id≠c.2.id->b.2.Δ≠m:=λb a p e=>p (by rw[d.iq b a c B (e.trans K.symm) (by rw[e];exact L)]);have M:∀l:υ,(oG z.Ι l).id=l.id/\(oG z.Ι l).ψ=l.ψ/\(oG z.Ι l).ah=l.ah:=λl=>⟨rfl,rfl,rfl⟩;have n:(qi z m c.2.id J).τ=ee z.τ c.2.id (oG z.Ι):=rfl;obtain⟨X,w,O,W,P⟩:=d.state c B;rw[G] at w;injection w with w;subst w;have Q:Υ (cK {z with τ:=bY z.τ c.2.id} m):=wI (zf d c.2.id) λb a=>by have a:=dE.1 a;refine other b a.1 ?_;simpa using a.2
 have tk:∀b:Nat×υ,(if b.2.id==c.2.id then(b.1,oG z.Ι b.2) else b).2.ax=b.2.ax:=λb=>by split<;>rfl
 exact {Q with
  bj:=λb a=>by rw[n] at a;obtain⟨f,k,g,I,_⟩:=Jc M a;rw[I];exact d.bj f k
  dM:=by rw[n];exact Jd (λl=>rfl) d.dM
  aR:=λb a=>by
   rw[n] at a;obtain⟨f,k,rfl⟩:=hZ a;have:=d.aR f k;split
   .exact this
   .exact this
  ij:=λV=>by rw[n,Jb (f:=oG z.Ι) (λl=>rfl)];exact d.ij V
  state:=λb a=>by
   rw[n] at a;obtain⟨f,k,g⟩:=hZ a;obtain⟨x,i,R,S,T⟩:=d.state f k;by_cases e:f.2.id=c.2.id
   .have H:=sU d.dM k B e;subst H;rw[ahM (by simp)] at g;subst g;exact⟨{J with ar:=true},bI _ _ _,O,rfl,P⟩
   .rw[WB (by simpa using e)] at g;subst g;exact⟨x,(bU _ _ _ e).trans i,R,S,T⟩
  eC:=λb a=>by
   rw[n] at a;obtain⟨f,k,g⟩:=hZ a;by_cases e:f.2.id=c.2.id
   .rw[ahM (by simpa using e)] at g;subst g;exact .inl rfl
   .rw[WB (by simpa using e)] at g;subst g;obtain h|⟨q,j,a3⟩:=d.eC b k
    .exact .inl h
    exact .inr ⟨q,j,by show(aP z.cl m A b.2.Δ).isSome=true;rw[bU _ _ _ (other b k e)];exact a3⟩
  iq:=λb a f r u p=>by
   rw[n] at a r;obtain⟨s,q,j⟩:=hZ a;obtain⟨t,y,o⟩:=hZ r;by_cases E:s.2.id=c.2.id
   .rw[ahM (by simpa using E)] at j;subst j;exact ahN rfl p
   .by_cases F:t.2.id=c.2.id
    .rw[ahM (by simpa using F)] at o;subst o;exact ahN u p
    rw[WB (by simpa using E)] at j;rw[WB (by simpa using F)] at o;subst j o;exact d.iq b q f y u p
  lh:=λb a f r u p=>by
   rw[n] at a r;obtain⟨s,q,j⟩:=hZ a;obtain⟨t,y,o⟩:=hZ r;have t1:b.2.ax=s.2.ax:=by rw[j];exact tk s
   have t2:f.2.ax=t.2.ax:=by rw[o];exact tk t
   have:=d.lh s q t y (by rw[<-t1,<-t2];exact u) (by rw[<-t1];exact p);rw[j,o,this]
  fS:=λC x i=>by
   have i:aP z.ss c.2.id (N {J with ar:=true}) C=N x:=i;by_cases e:C=c.2.id
   .rw[e,bI] at i;injection i with i;subst i;exact(show J.Β.size<=40 from d.fS _ _ G)
   .rw[bU _ _ _ e] at i;exact d.fS C x i}
theorem ZX(d:Υ z)(h:∀b∈z.τ,b.2.id≠m){y:Ss}(k:y.Β.size<=40):Υ {z with ss:=aP z.ss m (N y)} := {d with
 state:=λb g=>by obtain⟨c,i,j⟩:=d.state b g;exact⟨c,(bU _ _ _ (h b g)).trans i,j⟩
 fS:=λe c a=>by
  have a:aP z.ss m (N y) e=N c:=a;by_cases f:e=m
  .rw[f,bI] at a;injection a with a;subst a;exact k
  .rw[bU _ _ _ f] at a;exact d.fS e c a}
def lE(a:HS)(b id:Int)(c:Ss):HS:= {cK a b with ss:=aP a.ss id (N {c with ae:=true})}
theorem Ni(d:Υ z)(f:h∈z.τ)(k:h.2.Δ=m)(o:m≠ -1)(q:z.ss h.2.id=N J):yf (lE z m h.2.id J) h.2.id:=by
 intro b p;have n:=uE (s:=z) p;have e:=sU d.dM n.1 f n.2;subst e;obtain⟨i,j,u⟩:=d.aR b f;refine⟨⟨_,bI _ _ _⟩,i,j,?_,?_⟩
 .unfold aF;rcases d.eC b f with t|⟨i,j,_⟩<;>omega
 have g:∀a∈bY z.τ b.2.id,a.2.id≠b.2.id:=λa c=>by have:=(dE.1 c).2;simpa using this
 have l:∀a∈bY z.τ b.2.id,a.2.Δ≠m:=λa c e=>g a c (by rw[d.iq a (dE.1 c).1 b f (e.trans k.symm) (by rw[e];exact o)]);have r:=wI (zf d b.2.id) l;have s:=ZX r g (y:= {J with ae:=true}) (show J.Β.size<=40 from d.fS _ _ q);exact Cu s g λ_ a c=>by rw[k];exact l a c
def fC(a e:HS)(b:Int):Prop:=match a.cl b with
 |none=>e=a
 |some _=>match a.τ.find? (λf=>dW f.2 b) with
  |none=>e=cK a b
  |some d=>∃c,a.ss d.2.id=N c/\if(c.kept&& !c.ae)=true then e=qi a b d.2.id c else dX (lE a b d.2.id c) e d.2.id
def Be(i:Z)(h:Pl)(g:Nat->Option Ν)(c:HS)(e:Int)(f:aI)(d:Z):Prop:=
 f=ξ (σ #[])/\∃b a,Α d h b a/\Ε i d g b/\fC c a e/\a.ο<=c.ο+32
theorem wo(b:z.τ.find? (λc=>dW c.2 m)=N h):h∈z.τ/\h.2.Δ=m/\m≠ -1:=by have a:=List.find?_some b;unfold dW at a;simp at a;exact⟨List.mem_of_find?_eq_some b,a.1,by rw[<-a.1];exact a.2⟩
theorem adS{a:Bool}(b:Bool)(c:J.kept=f)(d:J.ar=a):({J with kept:=f,ar:=a,ae:=b} :Ss)= {J with ae:=b} :=by subst c d;rfl
theorem adR{b:Bool}(a:Bool)(c:J.kept=f)(d:J.ae=b):({J with kept:=f,ar:=a,ae:=b} :Ss)= {J with ar:=a} :=by subst c d;rfl
theorem aaP(m:Α w e v z)(t:Υ z)(a:Int)(br:aF a)(b8:z.ο+32<=aL):ν δ 68 #[Ζ e.g,I E a] w (Be w e v z a):=by
 have a2:=m.uL br;have b6:=m.aA.cell 6;simp only[bg,gz_] at b6;have cl:e.g<w.heap.size:=m.aA.lt;cases s:z.cl a with
 |none=>
  rw[s] at a2;simp only[vy,pj] at a2;have W:η (Be w e v z a (ξ (σ #[])) w):=K ⟨rfl,v,z,m,Ε.refl _ _,(by unfold fC;rw[s]),by omega⟩;clear m t s;go_enter func68,ntmps68;go_wp2;go_end0
  exact W.out
 |some ac=>
  rw[s] at a2;simp only[gx,gK] at a2;have a9:=K (Dt m a br);have u:η (∀b g,Α b e g (cK z a)->ν δ 96 #[Ζ e.tb,I E a] b λd f=>d=ξ (σ #[I E (nK (z.τ.find? λam=>dW am.2 a)),ι (z.τ.find? λam=>dW am.2 a).isSome])/\Y b f γ):=K λb g k=>FU (k.part .table) (by have:=jl t;show z.τ.length<=1000;omega) a;cases x:z.τ.find? (λam=>dW am.2 a) with
  |none=>
   rw[x] at u;unfold nK υ.zero at u;simp only[vy,pj,tN] at u;have a5:η (fC z (cK z a) a):=K (by unfold fC;rw[s];simp only[x]);clear m t s x;go_enter func68,ntmps68;go_wp2_with fail;refine a9.out.mono ?_;rintro d ap ⟨rfl,C,l,B⟩;have G:=K (u.out ap C l);have y:=l.aA.cell 2;simp only[bg,gz_] at y;have P:=K l;have T:=K B;clear l B;go_wp2_with fail;refine G.out.mono ?_;rintro d aq ⟨rfl,r⟩;have W:η (Be w e v z a (ξ (σ #[])) aq):=K ⟨rfl,C,_,P.out.still r,T.out.still r,a5.out,AR _ _⟩;clear r;go_wp2;go_end0
   exact W.out
  |some h=>
   obtain⟨O,bf,bc⟩:=wo x;obtain⟨c,n,au,bb,_⟩:=t.state h O;have be:=gm t O;have ab:c.ar=false:=by rw[bb,bf];simpa using bc
   rw[x] at u;unfold nK at u;simp only[gx,gK,mX] at u;by_cases M:(c.kept&& !c.ae)=true
   .have bv:=M;rw[Bool.and_eq_true] at bv;obtain⟨aw,ad⟩:=bv;have ad:c.ae=false:=by simpa using ad
    have a5:η (fC z (qi z a h.2.id c) a):=K (by unfold fC;rw[s];simp only[x];exact⟨c,n,by rw[ahM M]⟩);have a6:η (∀b g,Α b e g (cK z a)->ν δ 105 #[Ζ c.fb] b λd f=>d=ξ (I E 0)/\∃i,Α f e i {cK z a with ss:=aP z.ss h.2.id (N {c with ar:=true})} /\Ε b f g i):=K λb g k=>by obtain⟨a4,q⟩:=k.gq (show(cK z a).ss h.2.id=N c from n);have L:=q.front;rw[aw,ab,ad] at L;refine(aav L).mono ?_;rintro d f ⟨rfl,bd,X⟩;obtain⟨i,F,S,_⟩:=rf k (show(cK z a).ss h.2.id=N c from n) q bd X;refine⟨rfl,i,?_,S⟩;rw[adR true aw ad] at F;exact F
    have bF:η (∀b g,Α b e g {cK z a with ss:=aP z.ss h.2.id (N {c with ar:=true})} ->ν δ 106 #[Ζ e.tb,I E h.2.id,I E z.Ι] b λd f=>d=ξ (σ #[ι true,I E 0])/\∃i,Α f e i (qi z a h.2.id c)/\Ε b f g i):=K λb g k=>by refine(TH (k.part .table) O z.Ι (by rw[aw] at au;simpa using au.symm) (by rw[bf];exact bc) ⟨t.clock.1,by have:=t.clock.2;omega⟩).mono ?_;rintro d f ⟨rfl,cc,X⟩;obtain⟨i,F,S⟩:=k.Dk cc X;exact⟨rfl,i,F,S⟩
    have Q:=K n;clear m t s x O n au bb M aw ad ab;generalize h.2.id=id at*;go_enter func68,ntmps68;go_wp2_with fail;refine a9.out.mono ?_;rintro d ap ⟨rfl,C,l,B⟩;have G:=K (u.out ap C l);have y:=l.aA.cell 2;simp only[bg,gz_] at y;have P:=K l;have T:=K B;clear l B;go_wp2_with fail;refine G.out.mono ?_;rintro d aq ⟨rfl,r⟩;have p:=P.out.still r;have ba:=p.aA.cell 7;simp only[bg,gz_] at ba;have an:=p.jP be;rw[show(cK z a).ss id=N c from Q.out] at an;simp only[gx,gK] at an;obtain⟨a4,q⟩:=p.gq (show(cK z a).ss id=N c from Q.out);have bi:=q.blk.cell 0;simp only[mN,Ρ,Τ] at bi;have R:=K (a6.out aq C p);have a7:=K (T.out.still r);clear p r q G;go_wp2_with fail;refine R.out.mono ?_;rintro d a3 ⟨rfl,a1,J,al⟩;have y:=J.aA.cell 2;have bn:=J.aA.cell 4;simp only[bg,gz_] at y bn;have b1:η (∀o,Y a3 o γ->(o.cell? (U e.g 2 A)=N (Ζ e.tb)/\o.cell? (U e.g 4 A)=N (I E z.Ι))):=K λo ac=>⟨az ac y λm=>m,az ac bn λm=>m⟩;have b2:η (∀o bz,Α o e bz (qi z a id c)->(o.cell? (U e.g 2 A)=N (Ζ e.tb)/\o.cell? (U e.g 4 A)=N (I E z.Ι))):=K λo bz k=>⟨k.aA.cell 2,k.aA.cell 4⟩;have bE:=K J;have a8:=K (a7.out.trans al);have bN:η (∀b,Y a3 b γ->ν δ 106 #[Ζ e.tb,I E id,I E z.Ι] b λd f=>d=ξ (σ #[ι true,I E 0])/\∃i,Α f e i (qi z a id c)/\Ε b f a1 i):=K λb ac=>bF.out b a1 (bE.out.still ac);clear J al R;go_wp2
    go_region_held3 (λo=>o.cell? (U e.g 2 A)=N (Ζ e.tb)/\o.cell? (U e.g 4 A)=N (I E z.Ι))
     (first|(with_reducible exact b2.out _ _ bk)|(refine b1.out _ ?_;(with_reducible first|assumption|exact(Y.refl _ _).drew)))
     (first|(go_at_call 106;refine(bN.out _ (Y.refl _ γ).drew).mono ?_;rintro d cm ⟨rfl,cg,bk,b0⟩))
    all_goals go_wp2
    all_goals go_end0
    all_goals exact⟨rfl,cg,_,bk,(a8.out.still (Y.refl _ γ).drew).trans b0,a5.out,AR _ _⟩
   have a6:η (∀b g,Α b e g (cK z a)->ν δ 105 #[Ζ c.fb] b λd f=>d=ξ (I E 11)/\∃i,Α f e i (lE z a h.2.id c)/\Ε b f g i):=K λb g k=>by
    obtain⟨a4,q⟩:=k.gq (show(cK z a).ss h.2.id=N c from n);have L:=q.front;cases av:c.ae with
    |true=>
     rw[av] at L;refine(aaw L rfl).mono ?_;rintro d f ⟨rfl,rfl⟩;refine⟨rfl,g,?_,Ε.refl _ _⟩;have b3:({c with ae:=true} :Ss)=c:=by rw[<-av]
     have b4:aP z.ss h.2.id (N c)=z.ss:=by
      funext j;by_cases d:j=h.2.id
      .rw[d,bI,n]
      rw[bU _ _ _ d]
     unfold lE;rw[b3,b4];exact k
    |false=>
     have bt:c.kept=false:=by
      cases cb:c.kept with
      |false=>rfl
      |true=>rw[cb,av] at M;exact ahN rfl M
     rw[av,bt,ab] at L;refine(aax L).mono ?_;rintro d f ⟨rfl,bd,X⟩;obtain⟨i,F,S,_⟩:=rf k (show(cK z a).ss h.2.id=N c from n) q bd X;refine⟨rfl,i,?_,S⟩;rw[adS true bt ab] at F;exact F
   have bB:η (∀b g,Α b e g (lE z a h.2.id c)->ν δ 67 #[Ζ e.g,I E h.2.id] b λd f=>d=ξ (σ #[])/\∃a0 ao,Α f e a0 ao/\Ε b f g a0/\fC z ao a/\ao.ο<=z.ο+32):=K λb g k=>by refine(Cd k h.2.id be b8 (Ni t O bf bc n)).mono ?_;rintro d f ⟨rfl,a0,ao,b7,ce,b5,b9⟩;refine⟨rfl,a0,ao,b7,ce,?_,b9⟩;unfold fC;rw[s];simp only[x];exact⟨c,n,by rw[WB M];exact b5⟩
   have Q:=K n;clear m t s x O n au bb M ab;generalize h.2.id=id at*;go_enter func68,ntmps68;go_wp2_with fail;refine a9.out.mono ?_;rintro d ap ⟨rfl,C,l,B⟩;have G:=K (u.out ap C l);have y:=l.aA.cell 2;simp only[bg,gz_] at y;have P:=K l;have T:=K B;clear l B;go_wp2_with fail;refine G.out.mono ?_;rintro d aq ⟨rfl,r⟩;have p:=P.out.still r;have ba:=p.aA.cell 7;simp only[bg,gz_] at ba;have an:=p.jP be;rw[show(cK z a).ss id=N c from Q.out] at an;simp only[gx,gK] at an;obtain⟨a4,q⟩:=p.gq (show(cK z a).ss id=N c from Q.out);have bi:=q.blk.cell 0;simp only[mN,Ρ,Τ] at bi;have R:=K (a6.out aq C p);have a7:=K (T.out.still r);clear p r q G;go_wp2_with fail;refine R.out.mono ?_;rintro d a3 ⟨rfl,a1,J,al⟩;have bA:=K (bB.out a3 a1 J);have a8:=K (a7.out.trans al);clear J al R;go_wp2_with fail;refine bA.out.mono ?_;rintro d ck ⟨rfl,cf,ch,bq,bx,bw,bs⟩;have W:η (Be w e v z a (ξ (σ #[])) ck):=K ⟨rfl,cf,ch,bq,a8.out.trans bx,bw,bs⟩;clear bq bx bw bs;go_wp2;go_end0
   exact W.out
def jY(b:HS)(a:List (Int×Int))(rv:ε):HS:= {b with row:=a,rv:=rv}
theorem Cw{s:HS}(a:Υ s){g:Int×Int}{e:List (Int×Int)}(d:s.row=g::e)(n:∀b∈s.τ,g≠(-1,b.2.id))(o:ε):Υ (jY s e o):= {a with
 rows:=by have:=a.rows;rw[d] at this;simp at this;show e.length<=2*s.ο;omega
 fits:=λc l=>a.fits c (by rw[d];exact eZ _ l)
 state:=λb f=>by obtain⟨p,h,i,j,k⟩:=a.state b f;refine⟨p,h,i,j,λm=> ?_⟩;have:=k m;rw[d,dD] at this;exact this.resolve_left λc=>n b f c.symm}
theorem Ot(q:Υ z)(r:bJ z m){g:Int×Int}{f:List (Int×Int)}(p:z.row=g::f)(s:ε)(l:∀c,0<=c->c≠C->c≠m/\g.1≠c):bJ (jY z f s) C:=λc i d o=>by
 have n:=(q.range c (by rw[show z.cl c=N i from d];rfl)).1;obtain⟨j,k⟩:=l c n o;obtain⟨e,a,b⟩|h:=r c i d j
 .rw[p,dD] at a;obtain rfl|a:=a
  .exact ahN b k
  exact .inl ⟨e,a,b⟩
 exact .inr h
def jx(b:HS):Nat:=((AM 16).filter λ(a:Nat)=>(b.cl (a:Int)).isSome).length
def cnt(a:HS):Nat:=a.τ.length+jx a
theorem abk(a:HS):jx a<=16:=by have:=jo (λ(b:Nat)=>(a.cl (b:Int)).isSome) (AM 16);simpa[jx] using this
theorem Wn(a:Υ z):cnt z<=32:=by have:=jl a;have:=abk z;unfold cnt;omega
theorem GX{i:Type}{c g:i->Bool}(e:∀h,c h=true->g h=true):∀a:List i,(a.filter c).length<=(a.filter g).length
 |[]=>by simp
 |d::a=>by
  have f:=GX e a;simp only[EY];by_cases b:c d=true
  .rw[ahM b,ahM (e d b)];simpa using f
  .rw[WB b];split
   .simp;omega
   exact f
theorem GW{f:Type}{p q:f->Bool}(e:∀k,p k=true->q k=true){a:f}(i:q a=true)(h:p a=false):∀b:List f,a∈b->(b.filter p).length<(b.filter q).length
 |[],c=>by cases c
 |g::b,c=>by
  obtain rfl|c:=dD.1 c
  .have:=GX e b;simp only[EY,i,h,if_true,Bool.false_eq_true,if_false,eI];omega
  .have j:=GW e i h b c;simp only[EY];by_cases d:p g=true
   .rw[ahM d,ahM (e g d)];simpa using j
   rw[WB d];split
   .simp;omega
   exact j
theorem abm(c:HS)(b:Int):jx (cK c b)<=jx c:=GX (λe a=>by
 have a:(aP c.cl b A (e:Int)).isSome=true:=a;by_cases d:(e:Int)=b
 .rw[d,bI] at a;cases a
 rwa [bU _ _ _ d] at a) _
theorem abn(d:(z.cl m).isSome=true)(e:0<=m)(f:m<16):jx (cK z m)<jx z:=by
 have a:((m.toNat:Nat):Int)=m:=by omega
 refine GW (a:=m.toNat) (λc b=> ?_) (by rw[a];exact d) ?_ _ (by simp;omega)
 .have b:(aP z.cl m A (c:Int)).isSome=true:=b;by_cases a:(c:Int)=m
  .rw[a,bI] at b;cases b
  rwa [bU _ _ _ a] at b
 show(aP z.cl m A ((m.toNat:Nat):Int)).isSome=false;rw[a,bI];rfl
theorem OJ{L:List (Nat×υ)}{pr:Nat×υ}(b:pr∈L):(bY L pr.2.id).length<L.length:=by have:=GW (p:=λc:Nat×υ=> !(c.2.id==pr.2.id)) (q:=λ_=>true) (λ_ _=>rfl) (a:=pr) rfl (by simp) L b;have a:L.filter (λ_=>true)=L:=List.filter_eq_self.2 λ_ _=>rfl;rw[a] at this;exact this
theorem Wo(a:ci z c):cnt c=cnt z:=by unfold cnt jx;rw[a.τ,a.cl]
theorem abl(a:HS)(b:υ):jx (cZ a b)<=jx a:=by
 unfold cZ;split
 .exact abm a b.Δ
 exact Ο _
theorem uY(a:HS)(b:υ):(cZ a b).τ=a.τ:=by unfold cZ;split<;>rfl
theorem Qa(a:HS)(b:υ):(cZ a b).row=a.row:=by unfold cZ;split<;>rfl
structure Ko (s s':HS) (d:Nat):Prop where
 cnt:cnt s'+d<=cnt s
 ο:s'.ο<=s.ο+32*d
 row:s'.row.length<=s.row.length+64*d
theorem Nc(a:dX z c m)(p:c.ο<=z.ο+32):∃d,d<=1/\Ko z c d/\(∀b,z.τ.find? (λf=>f.2.id==m)=N b->d=1):=by
 unfold dX at a;cases e:z.τ.find? (λf=>f.2.id==m) with
 |none=>rw[e] at a;simp only at a;subst a;exact⟨0,by omega,⟨by omega,by omega,by omega⟩,nofun⟩
 |some b=>
  rw[e] at a;simp only at a;obtain⟨l,hid⟩:=uE e;obtain⟨ext,n,_,k⟩:=a.row;have h:(ei z m b.2).ο=z.ο:=wT _ _;have i:(ei z m b.2).row=z.row:=Qa _ _;have j:cnt (ei z m b.2)+1<=cnt z:=by have o:=abl {z with τ:=bY z.τ m} b.2;have g:=OJ l;rw[hid] at g;unfold cnt ei;rw[uY];have:jx {z with τ:=bY z.τ m} =jx z:=rfl;show(bY z.τ m).length+_+1<=_;omega
  refine⟨1,by omega,⟨by rw[Wo a];exact j,by omega,?_⟩,λ_ _=>rfl⟩;rw[n,cL,i];rw[h] at k;omega
theorem aaQ(l:Υ z)(a:fC z c m)(k:c.ο<=z.ο+32):∃f,Ko z c f:=by
 unfold fC at a;cases e:z.cl m with
 |none=>rw[e] at a;simp only at a;subst a;exact⟨0,⟨by omega,by omega,by omega⟩⟩
 |some u=>
  rw[e] at a;simp only at a;have i:(z.cl m).isSome=true:=by rw[e];rfl
  obtain⟨o,p⟩:=l.range m i;have s:=abn i o p;cases h:z.τ.find? (λn=>dW n.2 m) with
  |none=>rw[h] at a;simp only at a;subst a;exact⟨1,⟨by show z.τ.length+jx (cK z m)+1<=z.τ.length+jx z;omega,by show z.ο<=_;omega,by show z.row.length<=_;omega⟩⟩
  |some b=>
   rw[h] at a;simp only at a;obtain⟨d,t,a⟩:=a;split at a
   .subst a;have q:(qi z m b.2.id d).τ.length=z.τ.length:=by show(ee z.τ b.2.id (oG z.Ι)).length=_;unfold ee;simp
    exact⟨1,⟨by show(qi z m b.2.id d).τ.length+jx (cK z m)+1<=z.τ.length+jx z;omega,by show z.ο<=_;omega,by show z.row.length<=_;omega⟩⟩
   obtain⟨f,r,g,_⟩:=Nc a k;have:cnt (lE z m b.2.id d)+1<=cnt z:=by show z.τ.length+jx (cK z m)+1<=z.τ.length+jx z;omega
   refine⟨1,⟨by have:=g.cnt;omega,by omega,?_⟩⟩;have j:=g.row;have:(lE z m b.2.id d).row=z.row:=rfl;rw[this] at j;omega
theorem yQ(f:yf z m)(e:z.τ.find? (λd=>d.2.id==m)=A->Υ z)(a:dX z c m):Υ c:=by
 unfold dX at a;cases b:z.τ.find? (λd=>d.2.id==m) with
 |none=>rw[b] at a;simp only at a;subst a;exact e b
 |some g=>rw[b] at a;simp only at a;exact a.inv (f g b).2.2.2.2
theorem Ce{s:HS}(c:bJ s C)(a:dX s z m):bJ z C:=by
 unfold dX at a;cases b:s.τ.find? (λe=>e.2.id==m) with
 |none=>rw[b] at a;simp only at a;subst a;exact c
 |some d=>rw[b] at a;simp only at a;exact a.known (Ht (s:= {s with τ:=bY s.τ m}) c d.2)
theorem aaR(b:Υ z)(a:fC z c m):Υ c:=by
 unfold fC at a;cases g:z.cl m with
 |none=>rw[g] at a;simp only at a;subst a;exact b
 |some p=>
  rw[g] at a;simp only at a;cases e:z.τ.find? (λd=>dW d.2 m) with
  |none=>rw[e] at a;simp only at a;subst a;refine wI b λd l f=> ?_;have:=lM.1 e d l;have o:=(b.range m (by rw[g];rfl)).1;unfold dW at this;simp at this;have:=this f;omega
  |some n=>
   rw[e] at a;simp only at a;obtain⟨h,j,i⟩:=wo e;obtain⟨q,k,a⟩:=a;split at a
   .subst a;exact ZW b h j i k
   refine yQ (Ni b h j i k) (λf=> ?_) a;exact ahN (qR b.dM h) (by rw[show z.τ.find? (λd=>d.2.id==n.2.id)=A from f];exact nofun)
theorem aao{c:Int}(f:bJ z c)(e:z.cl c=A):bJ z m:=λb g a _=>by
 by_cases d:b=c
 .rw[d,e] at a;cases a
 exact f b g a d
theorem zO(b:HS)(a:Int):(cK b a).cl a=A:=bI _ _ _
theorem Pe(a:fC z c m):c.cl m=A:=by
 unfold fC at a;cases d:z.cl m with
 |none=>rw[d] at a;simp only at a;subst a;exact d
 |some k=>
  rw[d] at a;simp only at a;cases g:z.τ.find? (λb=>dW b.2 m) with
  |none=>rw[g] at a;simp only at a;subst a;exact zO z m
  |some h=>
   rw[g] at a;simp only at a;obtain⟨i,j,a⟩:=a;split at a
   .subst a;exact zO z m
   unfold dX at a;cases f:(lE z m h.2.id i).τ.find? (λb=>b.2.id==h.2.id) with
   |none=>rw[f] at a;simp only at a;subst a;exact zO z m
   |some b=>
    rw[f] at a;simp only at a;rw[a.cl];unfold ei cZ;split
    .show(aP (cK z m).cl b.2.Δ A) m=A;by_cases e:m=b.2.Δ
     .rw[e,bI]
     rw[bU _ _ _ e];exact zO z m
    exact zO z m
theorem aaS(b:bJ z m)(a:fC z c m):bJ c C:=by
 refine aao (c:=m) ?_ (Pe a);unfold fC at a;cases d:z.cl m with
 |none=>rw[d] at a;simp only at a;subst a;exact b
 |some h=>
  rw[d] at a;simp only at a;cases e:z.τ.find? (λl=>dW l.2 m) with
  |none=>rw[e] at a;simp only at a;subst a;exact wM b m
  |some f=>
   rw[e] at a;simp only at a;obtain⟨g,n,a⟩:=a;split at a
   .subst a;exact wM b m
   exact Ce (s:=lE z m f.2.id g) (show bJ (lE z m f.2.id g) m from λi h j k=>wM b m i h j k) a
def rO(b d:HS):Prop:=∃a e c f,b.row=(a,e)::c/\((a<0/\dX (jY b c f) d e)\/(0<=a/\fC (jY b c f) d a))/\d.ο<=b.ο+32
theorem QA(d:Υ z){h:List (Int×Int)}(l:z.row=(m,C)::h)(e:ε):yf (jY z h e) C/\((jY z h e).τ.find? (λa=>a.2.id==C)=A->Υ (jY z h e)):=by
 refine⟨λg b=> ?_,λo=> ?_⟩
 .obtain⟨f,hid⟩:=uE (s:=z) b;obtain⟨q,n,_⟩:=d.state g f;rw[hid] at n;obtain⟨j,k,_⟩:=d.aR g f;have i:∀a∈bY z.τ C,a.2.id≠C:=λa b=>by have:=(dE.1 b).2;simpa using this
  have p:=Cw (s:= {z with τ:=bY z.τ C}) (zf d C) l (λa b c=>by injection c with _ c;exact i a b c.symm) e;refine⟨⟨q,n⟩,j,k,?_,Cu p (λa b=>by rw[hid];exact i a b) λs a b c=> ?_⟩
  .unfold aF;rcases d.eC g f with r|⟨j,k,_⟩<;>omega
  exact i a b (by rw[d.iq a (dE.1 b).1 g f c (by rw[c];omega)];exact hid)
 refine Cw d l (λa b c=> ?_) e;injection c with _ c;have:=lM.1 o a b;rw[c] at this;simp at this
theorem ad6(h:Υ z)(m:bJ z (-1))(a:rO z c):Υ c/\bJ c (-1)/\c.row.length+100*cnt c<z.row.length+100*cnt z/\c.ο+32*cnt c<=z.ο+32*cnt z:=by
 obtain⟨n,w,f,d,e,a,l⟩:=a;have x:z.row.length=f.length+1:=by rw[e];rfl
 have C:(jY z f d).row.length=f.length:=rfl;have A:cnt (jY z f d)=cnt z:=rfl;have B:(jY z f d).ο=z.ο:=rfl;obtain⟨t,a⟩|⟨t,a⟩:=a
 .obtain⟨u,i⟩:=QA h e d;obtain⟨o,_,b,_⟩:=Nc a l;have p:=b.cnt;have q:=b.ο;have r:=b.row;refine⟨yQ u i a,Ce (Ot h m e d λk s j=>⟨j,by show n≠k;omega⟩) a,by omega,by omega⟩
 have i:=Cw h e (λy _ g=>by injection g with g _;omega) d;obtain⟨o,b⟩:=aaQ i a l;have p:=b.cnt;have q:=b.ο;have r:=b.row;exact⟨aaR i a,aaS (Ot h m e d λk s j=>⟨by omega,λg=>j g.symm⟩) a,by omega,by omega⟩
inductive eh:HS->HS->Prop
 |nil (s:HS):s.row=[]->eh s s
 |cons (s s1 s2:HS):rO s s1->eh s1 s2->eh s s2
def gC:BA:=(D #[60,101,114,114,111,114,47,62])
def kg(b:HS)(a:Int)(rv c:ε):HS:= {cF b a [gC] rv with row:=(cF b a [gC] rv).row++[(a,0)],rv:=c}
theorem Af(l:Α w e v z)(o:Bl z)(i:z.ο<aL)(b:Int):ν δ 35 #[Ζ e.g,I E b] w λh M=>h=ξ (σ #[])/\∃d a ad,Α M e d (kg z b a ad)/\Ε w M v d:=by
 have p:Y w (w.alloc (ζ #[H gC] 9)) γ:=(Y.refl w γ).alloc _;have k:=θ.new w 9 #[H gC]
 have F:iP (w.alloc (ζ #[H gC] 9)) v (V (N (U w.heap.size 0 A)) [gC].length 1) [gC]:=by
  refine⟨⟨_,1,rfl,by decide,nofun,λan n=> ?_⟩,λP i=> ?_⟩
  .injection n with n;subst n;refine⟨rfl,λT z j=> ?_⟩;match T,j with
   |0,j=>simp at j;subst j;exact k.cell 0
  have h:w.heap.size=P:=cr i;subst h;exact⟨l.dZ (Ο _),k.lt⟩
 have f:=K (Ea (l.still p) o i b F (by decide) (by intro av J;rw[cj] at J;subst J;decide));have S:η (∀a,(cF z b [gC] a).row.length<=1000000000):=K λa=>by have:=o.rows;unfold aL at i;unfold cF;simp only[cL];split<;>simp<;>omega
 have O:=K (Ε.bu v p);clear l o F p k;unfold gC at f;simp only[eI,eN,eP] at f;go_enter func35,ntmps35;go_wp2_with fail;refine f.out.mono ?_;rintro h al ⟨rfl,W,a,C,L⟩;have c:=K (show Α al e W (cF z b [gC] a) from C);have y:=c.out.aA.cell 8;simp only[bg,gz_] at y;obtain⟨aw,r,q,m,u,x,rfl⟩:=Dm (c.out.part .row) (b,0) (S.out a);simp only at q;obtain⟨X,s,t⟩:=c.out.Dh m;have g:θ r e.g 66 (bg e (cF z b [gC] a)):=by obtain⟨am,_,R⟩:=m;exact R.keeps.blk c.out.aA (c.out.wR (by exact nofun))
 have B:=g.cell 8;have f83:=g.frozen 8;simp only[bg,gz_] at B;obtain⟨ap,aq,G,_⟩:=(c.out.part .row).form;rw[G] at y B q;have Q:η (∃d ab ac,Α (r.setCell (U e.g 8 A) (V (N u) ((cF z b [gC] a).row.length+1) x)) e d (kg z b ab ac)/\Ε w (r.setCell (U e.g 8 A) (V (N u) ((cF z b [gC] a).row.length+1) x)) v d):=K ⟨X,a,_,s,(O.out.trans L).trans t⟩;have ao:=g.lt;generalize(cF z b [gC] a).row.length=au at*;clear C L m s t g G f c;go_wp2_with (at_builtin;refine dy rfl (.tmp 12) (.tmp 15) 64 rfl rfl rfl q ?_);go_end0
 exact⟨rfl,Q.out⟩
theorem Α.acn(h:Α w e v z){f:Int×Int}{i:List (Int×Int)}(J:z.row=f::i):∃a k l,z.rv=V (N (U a k A)) (i.length+1) l/\i.length+1<=l/\a≠e.g/\w.cell? (U a k A)=N (I E f.1)/\w.cell? ⟨a,k+1,A⟩=N (I E f.2)/\∀d,(d=V (N ⟨a,k+2,A⟩) i.length (l-1)\/(i=[]/\d=V (N (U a k A)) 0 0))->∃r,Α (w.setCell (U e.g 8 A) d) e r (jY z i d)/\Ε w (w.setCell (U e.g 8 A) d) v r:=by
 have j:kK w z.rv z.row (of v .row):=h.part .row;rw[J] at j;obtain⟨n,l,hv,L,G⟩:=j.form;cases n with
 |none=>exact ahN rfl (G (by simp))
 |some n=>
  obtain⟨a,k,ab⟩:=n;have g:=L _ rfl;simp only at g;subst g;simp only[eI] at hv;rw[hv] at j;obtain⟨c,o,y,B⟩:=j.tail;have q:v a=N .row:=(j.ak a).2 rfl;have F:a≠e.g:=λg=>by rw[g,h.jV] at q;cases q
  refine⟨a,k,l,hv,B,F,o,y,λd M=> ?_⟩
  have x:kK w d i (of v .row):=by
   obtain rfl|⟨rfl,rfl⟩:=M
   .exact c
   refine⟨?_,j.ak⟩;obtain⟨c,_⟩|⟨Q,P,R,s,c,C,T,W,S⟩:=j.ex
   .cases c
   injection c with c _ _;injection c with c;injection c with t u;subst t u;exact .inr ⟨a,P,0,s,rfl,C,by simp,by omega,nofun⟩
  have p:Ψ w (w.setCell (U e.g 8 A) d) (of v .ca) (·=e.g):=⟨(Y.refl w _).χ (p:=(U e.g 8 A)) (.inl h.jV) _,λf b=> .inl (by rw[b];exact h.jV)⟩;refine⟨_,h.sQ (s':=jY z i d) (F1:=(·=e.g)) (F2:=of v .row) .ca .row (by exact nofun) (p.keeps.mono λf b=> .inl (.inl b)) (λf b=> .inl (by rw[b];exact h.jV)) (λf b=> .inl b) (λf b m=>by rw[b] at m;unfold of at m;rw[h.jV] at m;cases m) ⟨(h.aA.χ 8 _).to (by simp[bg,jY]),λX=>fT⟩ ?_ λO c o=> ?_⟩
  .exact(Dn _ _).keeps x p.keeps λf b g=>by unfold of at b g;rw[b] at g;cases g
  cases O<;>first|rfl|exact ahN rfl c|exact ahN rfl o
def Td(h:Z)(g:Pl)(f:Nat->Option Ν)(c:HS)(e:aI)(d:Z):Prop:=
 e=ξ (σ #[])/\∃b a,Α d g b a/\Ε h d f b/\eh c a/\Υ a/\bJ a (-1)/\a.row=[]/\a.ο<=c.ο+1024
theorem Ca(S:Α w e v z)(ad:Υ z)(au:bJ z (-1))(bd:z.ο+1100<=aL):ν δ 36 #[Ζ e.g] w (Td w e v z):=by
 have bi:=Wn ad;have bk:z.ο+32*cnt z<=z.ο+1024:=by omega
 have a0:=K S;have a1:=K ad;have a2:=K au;clear S ad au;go_enter func36,ntmps36;go_wp2;go_loopg [] (z.row.length+100*cnt z) (λn wr=>∃(r:Nat->Option Ν) (a:HS),η (Α wr e r a/\Ε w wr v r/\Υ a/\bJ a (-1)/\a.ο+32*cnt a<=z.ο+32*cnt z/\∀b,eh a b->eh z b)/\a.row.length+100*cnt a<=n)
 case atStart=>exact⟨v,z,K ⟨a0.out,Ε.refl _ _,a1.out,a2.out,Ο _,λ_ S=>S⟩,Ο _⟩
 obtain⟨r,a,c,a5⟩:=hrel;cases g:a.row with
 |nil=>
  have G:=c.out.1.aA.cell 8;simp only[bg,gz_] at G;obtain⟨bt,y,L,_⟩:=(c.out.1.part .row).form;rw[g] at L;rw[L] at G;simp only[eN] at G;have g:=K g;clear L;go_wp2;go_end0
  exact⟨rfl,r,a,c.out.1,c.out.2.1,c.out.2.2.2.2.2 a (eh.nil a g.out),c.out.2.2.1,c.out.2.2.2.1,g.out,by have:=c.out.2.2.2.2.1;omega⟩
 |cons ba s=>
  obtain⟨m,F⟩:=ba;obtain⟨W,X,y,L,bf,be,y0,bv,pop⟩:=c.out.1.acn g;have G:=c.out.1.aA.cell 8;have bb:=c.out.1.aA.frozen 8;simp only[bg,gz_] at G;rw[L] at G;have bq:=c.out.1.aA.lt;have ab:=c.out.2.2.1.fits (m,F) (by rw[g];exact dP ..);have bn:0<(s.length:Int)+1:=by omega
  have a6:=c.out.2.2.2.2.1
  have ao:η (∀f l q,Α l e q (jY a s f)->(m<0->ν δ 67 #[Ζ e.g,I E F] l λh C=>h=ξ (σ #[])/\∃d b,Α C e d b/\Ε l C q d/\rO a b)/\(0<=m->ν δ 68 #[Ζ e.g,I E m] l λh C=>h=ξ (σ #[])/\∃d b,Α C e d b/\Ε l C q d/\rO a b)):=K λf l q ap=>by
   refine⟨λu=> ?_,λu=> ?_⟩
   .refine(Cd ap F ab.2 (by show a.ο+32<=aL;omega) (QA c.out.2.2.1 g f).1).mono ?_;rintro h C ⟨rfl,d,b,o,p,a4,T⟩;exact⟨rfl,d,b,o,p,m,F,s,f,g,.inl ⟨u,a4⟩,T⟩
   refine(aaP ap (Cw c.out.2.2.1 g (λbs _ h=>by injection h with h _;omega) f) m ab.1 (by show a.ο+32<=aL;omega)).mono ?_;rintro h C ⟨rfl,d,b,o,p,a8,T⟩;exact⟨rfl,d,b,o,p,m,F,s,f,g,.inr ⟨u,a8⟩,T⟩
  have aq:=K pop;have Q:η (∀l M q d b,Ε wr l r q->Α M e d b->Ε l M q d->rO a b->(∃(r:Nat->Option Ν) (a:HS),η (Α M e r a/\Ε w M v r/\Υ a/\bJ a (-1)/\a.ο+32*cnt a<=z.ο+32*cnt z/\∀b,eh a b->eh z b)/\a.row.length+100*cnt a+1<=gk)):=K λl M q d b a9 o p aw=>by obtain⟨a7,O,T,bc⟩:=ad6 c.out.2.2.1 c.out.2.2.2.1 aw;exact⟨d,b,K ⟨o,c.out.2.1.trans (a9.trans p),a7,O,by omega,λav a3=>c.out.2.2.2.2.2 av (eh.cons a b av aw a3)⟩,by omega⟩
  have g:=K g;clear L pop ab a6 a5
  obtain⟨f,hv1,hv2⟩:∃f:ε,(f=V (N ⟨W,X+2,A⟩) s.length (y-1)\/(s=[]/\f=V (N (U W X A)) 0 0))/\(f=if y=1 then V (N (U W X A)) 0 0 else V (N ⟨W,X+2,A⟩) s.length (y-1)):=by
   by_cases J:y=1
   .have:s=[]:=kG.1 (by omega);subst this;exact⟨_,.inr ⟨rfl,rfl⟩,by rw[ahM J]⟩
   .exact⟨_,.inl rfl,by rw[WB J]⟩
  obtain⟨d,o,p⟩:=aq.out f hv1;have O:Y (wr.setCell (U e.g 8 A) f) ((wr.setCell (U e.g 8 A) f).alloc (ζ #[I E m,I E F] 140)) γ:=(Y.refl _ γ).alloc _;have P:=K (ao.out f _ d (o.still O));have R:=K (p.still O);clear o p O ao aq hv1;have br:(wr.setCell (U e.g 8 A) f).heap.size=wr.heap.size:=by simp
  by_cases J:y=1
  .rw[ahM J] at hv2;subst hv2 J;by_cases u:m<0
   .go_wp2_with fail;refine(P.out.1 u).mono ?_;rintro h an ⟨rfl,al,am,i,j,k⟩;obtain⟨x,B,t,ac⟩:=Q.out _ _ _ _ _ R.out i j k;clear i j k;go_wp2;cases gk with
    |zero=>omega
    |succ n=>
     go_roundg n
     case measure=>omega
     case rel=>exact⟨x,B,t,by omega⟩
   go_wp2_with fail;refine(P.out.2 (by omega)).mono ?_;rintro h an ⟨rfl,al,am,i,j,k⟩;obtain⟨x,B,t,ac⟩:=Q.out _ _ _ _ _ R.out i j k;clear i j k;go_wp2;cases gk with
   |zero=>omega
   |succ n=>
    go_roundg n
    case measure=>omega
    case rel=>exact⟨x,B,t,by omega⟩
  rw[WB J] at hv2;subst hv2;have o:1<y:=by omega
  by_cases u:m<0
  .go_wp2_with fail;refine(P.out.1 u).mono ?_;rintro h an ⟨rfl,al,am,i,j,k⟩;obtain⟨x,B,t,ac⟩:=Q.out _ _ _ _ _ R.out i j k;clear i j k;go_wp2;cases gk with
   |zero=>omega
   |succ n=>
    go_roundg n
    case measure=>omega
    case rel=>exact⟨x,B,t,by omega⟩
  go_wp2_with fail;refine(P.out.2 (by omega)).mono ?_;rintro h an ⟨rfl,al,am,i,j,k⟩;obtain⟨x,B,t,ac⟩:=Q.out _ _ _ _ _ R.out i j k;clear i j k;go_wp2;cases gk with
  |zero=>omega
  |succ n=>
   go_roundg n
   case measure=>omega
   case rel=>exact⟨x,B,t,by omega⟩
theorem acF(d:w.cell? (U y 0 A)=N (H p))(a:It):ν δ 360 #[Μ (eW a).toArray,Ζ y] w λc i=>(∃h,c=ξ (ι h))/\Y w i γ:=by obtain⟨b,f,e,g⟩:=a;have j:=az ((Y.refl w γ).alloc (ζ #[H b,H f,I E e,ι g] 150)) d id;unfold eW;go_enter func360,ntmps360;go_wp2;go_ret;exact⟨⟨_,rfl⟩,(Y.refl _ _).alloc _⟩
theorem aZ.at_(i:aZ w x o){k:Nat}(c:k<o.length):∃a b f,x=V (N (U a b A)) o.length f/\w.cell? ⟨a,b+k*4,A⟩=N (H (o[k]'c).1)/\w.cell? ⟨a,b+k*4+1,A⟩=N (H (o[k]'c).2.1)/\w.cell? ⟨a,b+k*4+2,A⟩=N (I E (o[k]'c).2.2.1)/\w.cell? ⟨a,b+k*4+3,A⟩=N (ι (o[k]'c).2.2.2):=by
 obtain⟨n,f,rfl,_,j,l⟩:=i;cases n with
 |none=>rw[j rfl] at c;cases c
 |some h=>
  obtain⟨a,b,p⟩:=h;obtain⟨g,m⟩:=l _ rfl;simp only at g;subst g;have e:∀d x,(eW o[k])[d]? =N x->w.cell? ⟨a,b+k*4+d,A⟩=N x:=λd x hv=>by have:=m (k*4+d) x (CG o k c d x hv);rw[<-this,mW]
  exact⟨a,b,f,rfl,e 0 _ rfl,e 1 _ rfl,e 2 _ rfl,e 3 _ rfl⟩
theorem aZ.keeps{w d:Z}(f:aZ w x o)(k:Y w d γ):aZ d x o:=by obtain⟨l,e,rfl,g,h,b⟩:=f;exact⟨l,e,rfl,g,h,λa c=>⟨(b a c).1,λj m i=>az k ((b a c).2 j m i) id⟩⟩
theorem ZK{b:List It}(d:aZ w x b){o:BA}(h:w.cell? (U y 0 A)=N (H o)):ν δ 359 #[x,af (.func 360) #[] #[Ζ y]] w λg s=>(∃c:Int,g=ξ (I E c)/\c<b.length/\ -1<=c)/\Y w s γ:=by
 have G:∀args w,(callFunc 360 args).run δ w= .ok (.enter 360 args) w:=enters_of func360 (by kernel_rfl) rfl;obtain⟨M,F,hv,L,_⟩:=id d;have k:=K d;have j:=K h;subst hv;clear d h;go_enter func359,ntmps359;go_wp2;go_loopw [5,8] (λ_ c wr=>∃a:Nat,a<=b.length/\c=I E a/\Y w wr γ) (λ_ c _=>b.length-(aB c).toNat)
 case atStart=>exact⟨0,by omega,rfl,Y.refl _ _⟩
 obtain⟨a,J,rfl,e⟩:=hrel;by_cases l:a<b.length
 .have m:(a:Int)<b.length:=by omega
  obtain⟨O,Q,P,hv,u,z,B,C⟩:=(k.out.keeps e).at_ l;injection hv with n _ p;subst n p;have f:=K (acF (az e j.out λd=>d) b[a]);generalize b[a]=t at*;obtain⟨y0,S,T,W⟩:=t;simp only at u z B C;unfold eW at f;go_wp2_with fail;refine f.out.mono ?_;rintro g R ⟨⟨r,rfl⟩,q⟩;have i:=e.trans q Η;cases r with
  |true=>go_wp2;go_ret;exact⟨⟨_,rfl,by omega,by omega⟩,i⟩
  |false=>go_wp2;exact⟨⟨a+1,by omega,by go_num,i⟩,by simp[aB];omega⟩
 have m:¬(a:Int)<b.length:=by omega
 go_wp2;go_ret;exact⟨⟨_,rfl,by omega,by omega⟩,e⟩
structure vF (w:Z) (own:Nat->Option Ν) (v:ε) (l:List It):Prop where
 aM:aZ w v l
 free:∀b,dS v=N b->own b=A/\b<w.heap.size
theorem aZ.same(f:aZ w x o)(i:∀b,dS x=N b->n.heap[b]? =w.heap[b]?):aZ n x o:=by obtain⟨l,e,rfl,g,h,d⟩:=f;refine⟨l,e,rfl,g,h,λa c=>⟨(d a c).1,λk m j=> ?_⟩⟩;have:=(d a c).2 k m j;unfold fN at this⊢;simp only at this⊢;rw[i a.block (by rw[c];rfl)];exact this
theorem vF.aW(b:vF w v x o)(d:Ε w n v s):vF n s x o:=
 ⟨b.aM.same λa c=>(d.free (b.free a c).2 (b.free a c).1).1,λa c=>⟨(d.free (b.free a c).2 (b.free a c).1).2,dQ (b.free a c).2 d.keeps.size⟩⟩
theorem Of{e:aY}(c:eQ w y e j)(f:BA):∀g∈aM e f,g.1.size<=100/\g.2.1.size<=100:=by
 intro g i;unfold aM mD at i;obtain⟨b,l,a⟩:=List.mem_filterMap.1 i;obtain⟨s,t,r,q,u,o,n,p,c⟩:=c;unfold Cz at a;cases d:e.aR f b with
 |none=>rw[d] at a;cases a
 |some k=>rw[d] at a;simp only[gx,xZ] at a;subst a;have m:=c.small f b k d;have h:=oT b l;unfold aN at h;simp at h;exact⟨by show b.size<=100;omega,by show k.size<=100;omega⟩
def Df:BA:=(D #[112,117,115,104])
theorem acH{q:Nat->Option Ν}(f:Α w e q z)(P:Υ z)(u:z.ο+8<=aL)(s h:BA)(cl:s∈us)(dl:h.size<=100):ν δ 310 #[Ζ e.g,H s,H h] w (lu w e q z 8):=by
 have bf:Y w (w.alloc (ζ #[H h] 9)) γ:=(Y.refl w γ).alloc _;have bb:=f.still bf;have X:mE s=true:=by unfold mE;rw[tL];exact⟨s,cl,by simp⟩
 have bA:=K (FH (bb.part .aE) (gH s cl) X);have et:=CJ z.aE s;have dx:=K (Of (f.part .aE) s);have c6:=bb.aA.cell 1;simp only[bg,gz_] at c6;have en:=f.aA.lt;have br:=K (θ.new w 9 #[H h]);have L:=K f;have a4:=K P;have bE:=K bf;generalize aM z.aE s=ab at*;generalize z.aE.bl s=o at*;clear f bb P bf;go_enter func310,ntmps310;go_wp2_with fail;refine bA.out.mono ?_;rintro g a ⟨v,rfl,am,bi⟩;obtain⟨d4,R,rfl⟩:=cC am;have ap:=K (aZ.dw am (by omega))
 have ch:∀t,dS (V d4 ab.length R)=N t->w.heap.size<=t/\t<a.heap.size:=λt u=>by
  obtain⟨g,_⟩|⟨ba,c3,c4,g,b9,W,_⟩:=am.2
  .rw[g] at u;cases u
  rw[g] at u;have a7:ba=t:=cr u;subst a7;refine⟨by simp at b9;omega,?_⟩;obtain T|T:=fU ba a.heap.size
  .exact T
  rw[ll T] at W;cases W
 have b2:=K ch
 have dt:ab.length<=R:=by
  obtain⟨g,b7⟩|⟨ba,c3,c4,g,b9,W,em,_⟩:=am.2
  .omega
  injection g with _ _ g;omega
 have bF:=K (bE.out.trans bi Η);have au:=bi.blk br.out λf=>f;have bs:=K au;have eo:w.heap.size<a.heap.size:=au.lt;have b6:=au.cell 0;simp only[Ρ,Τ] at b6;have k:Y a ((a.alloc (ζ #[H h,H (D #[]),I E 0,ι false] 150)).alloc (ζ #[I E 3,H (D #[]),H Df,H (D #[]),H (D #[]),H (D #[]),H (D #[]),H (D #[]),I Λ 0,I E o,ι true,V (N (U a.heap.size 0 A)) 1 1] 171)) γ:=((Y.refl a γ).alloc _).alloc _;have bB:=K (ZK (ap.out.keeps k) (o:=h) (az k b6 λf=>f));have bv:=K (θ.dA a (ζ #[H h,H (D #[]),I E 0,ι false] 150) 171 #[I E 3,H (D #[]),H Df,H (D #[]),H (D #[]),H (D #[]),H (D #[]),H (D #[]),I Λ 0,I E o,ι true,V (N (U a.heap.size 0 A)) 1 1]);have bt:=K ((θ.new a 150 #[H h,H (D #[]),I E 0,ι false]).alloc (ζ #[I E 3,H (D #[]),H Df,H (D #[]),H (D #[]),H (D #[]),H (D #[]),H (D #[]),I Λ 0,I E o,ι true,V (N (U a.heap.size 0 A)) 1 1] 171));have a5:=K k;unfold Df at*;clear am ch bi bA au k;go_wp2_with fail;refine bB.out.mono ?_;rintro g y ⟨⟨cn,rfl,dd,dg⟩,ac⟩;have bN:=K ((bF.out.trans a5.out Η).trans ac Η);have B:=K (ac.blk bv.out λf=>f);have J:=K (ac.blk bt.out λf=>f);have M:=K (a5.out.trans ac Η);clear ac bB;go_upto_if 32 with fail
 go_cut [10] (λd1 b=>d1=I E cn/\η (∃(n:Bool) (p:ε) (aM:List It),θ b (a.heap.size+1) 171 #[I E 3,H (D #[]),H (D #[112,117,115,104]),H (D #[]),H (D #[]),H (D #[]),H (D #[]),H (D #[]),I Λ 0,I E o,ι n,p]/\vF b q p aM/\(aM.length<=16/\∀m∈aM,m.1.size<=100/\m.2.1.size<=100)/\Y w b γ/\θ b w.heap.size 9 #[H h]))
 case first=>
  by_cases da:0<=cn
  .obtain⟨j,rfl⟩:=Int.eq_ofNat_of_zero_le da;have X:j<ab.length:=by omega
   obtain⟨G,a3,eS,hv,_⟩:=(ap.out.keeps M.out).at_ X;injection hv with F _ bd;subst F bd;have f10:=B.out.frozen 10;have f11:=B.out.frozen 11;have c1:=B.out.cell 10;have c2:=B.out.cell 11;simp only[gz_] at c1 c2;have eg:(j:Int)<ab.length:=by omega
   go_wp2;go_region
   have a8:∃S,S=((y.setCell ⟨a.heap.size+1,10,A⟩ (ι false)).setCell ⟨a.heap.size+1,11,A⟩ (V (N ⟨G,a3+j*4,A⟩) 1 (R-j))).drew/\∃(n:Bool) (p:ε) (aM:List It),θ S (a.heap.size+1) 171 #[I E 3,H (D #[]),H (D #[112,117,115,104]),H (D #[]),H (D #[]),H (D #[]),H (D #[]),H (D #[]),I Λ 0,I E o,ι n,p]/\vF S q p aM/\(aM.length<=16/\∀m∈aM,m.1.size<=100/\m.2.1.size<=100)/\Y w S γ/\θ S w.heap.size 9 #[H h]:=by
    have kk:Y y (((y.setCell ⟨a.heap.size+1,10,A⟩ (ι false)).setCell ⟨a.heap.size+1,11,A⟩ (V (N ⟨G,a3+j*4,A⟩) 1 (R-j))).drew) (·=a.heap.size+1):=(((Y.refl y (·=a.heap.size+1)).χ (p:=⟨a.heap.size+1,10,A⟩) (.inl rfl) _).χ (p:=⟨a.heap.size+1,11,A⟩) (.inl rfl) _).drew;have ds:=b2.out G rfl;have c7:=ap.out.keeps M.out;refine⟨_,rfl,false,V (N ⟨G,a3+j*4,A⟩) 1 (R-j),[ab[j]],?_,⟨?_,λt u=> ?_⟩,⟨by simp,λm O=> ?_⟩,?_,?_⟩
    .exact(((B.out.χ 10 (ι false)).χ 11 (V (N ⟨G,a3+j*4,A⟩) 1 (R-j))).drew).to rfl
    .obtain⟨eb,ex,ec,dp,d7,d8,d9,ea⟩:=c7.at_ X;injection dp with F _ _;injection F with F;injection F with c5 a7;subst c5 a7;refine⟨_,_,rfl,by simp,nofun,λc0 C=> ?_⟩;injection C with C;subst C;refine⟨rfl,λbe m c=> ?_⟩;have av:¬G=a.heap.size+1:=by omega
     match be,c with
     |0,c=>simp[ej,eW] at c;subst c;exact az kk d7 av
     |1,c=>simp[ej,eW] at c;subst c;exact az kk d8 av
     |2,c=>simp[ej,eW] at c;subst c;exact az kk d9 av
     |3,c=>simp[ej,eW] at c;subst c;exact az kk ea av
    .have g:G=t:=cr u;subst g;have:=M.out.size;have:=kk.size;exact⟨L.out.dZ ds.1,by omega⟩
    .rw[cj] at O;subst O;exact dx.out _ (eA X)
    .exact bN.out.trans kk λm O=> .inr (by omega)
    exact kk.blk (M.out.blk bs.out λf=>f) (by omega)
   obtain⟨S,cm,c8⟩:=a8;rw[<-cm];clear cm;go_wp2_with fail;go_meet;exact⟨rfl,K c8⟩
  have a8:∃(n:Bool) (p:ε) (aM:List It),θ y (a.heap.size+1) 171 #[I E 3,H (D #[]),H (D #[112,117,115,104]),H (D #[]),H (D #[]),H (D #[]),H (D #[]),H (D #[]),I Λ 0,I E o,ι n,p]/\vF y q p aM/\(aM.length<=16/\∀m∈aM,m.1.size<=100/\m.2.1.size<=100)/\Y w y γ/\θ y w.heap.size 9 #[H h]:=by
   refine⟨true,V (N (U a.heap.size 0 A)) 1 1,[(h,(D #[]),0,false)],B.out,⟨⟨_,_,rfl,by simp,nofun,λc0 C=> ?_⟩,λt u=> ?_⟩,⟨by simp,λm O=> ?_⟩,bN.out,M.out.blk bs.out λf=>f⟩
   .injection C with C;subst C;refine⟨rfl,λbe m c=> ?_⟩;match be,c with
    |0,c=>simp[ej,eW] at c;subst c;exact J.out.cell 0
    |1,c=>simp[ej,eW] at c;subst c;exact J.out.cell 1
    |2,c=>simp[ej,eW] at c;subst c;exact J.out.cell 2
    |3,c=>simp[ej,eW] at c;subst c;exact J.out.cell 3
   .have g:a.heap.size=t:=cr u;subst g;exact⟨L.out.dZ bF.out.size,J.out.lt⟩
   rw[cj] at O;subst O;exact⟨dl,e0⟩
  go_wp2_with fail;go_meet;exact⟨rfl,K a8⟩
 case rest=>
 obtain⟨rfl,bz⟩:=hcut;obtain⟨n,p,aM,cb,cc,ck,cf,b8⟩:=bz.out;have cu:=K cb;have bw:=K cc;have b3:=K ck;have b0:=K cf;have ct:=K b8;clear cb cc ck cf b8 bz;have b4:=K (zN (L.out.still b0.out) a4.out s);have cU:η (∀i,aZ i p aM->aT i->ν δ 164 #[Μ #[I E 3,H (D #[]),H (D #[112,117,115,104]),H (D #[]),H (D #[]),H (D #[]),H (D #[]),H (D #[]),I Λ 0,I E o,ι n,p]] i λg bn=>(∃r:BA,g=ξ (H r)/\r.size<=most)/\Y i bn γ):=K λi c9 W=>oR (z:=⟨3,(D #[]),(D #[112,117,115,104]),(D #[]),(D #[]),(D #[]),(D #[]),(D #[]),0,o,n,aM⟩) ⟨e0,(by show(4:Nat)<=100;omega),e0,e0,e0,e0,e0,mP,b3.out.1,b3.out.2⟩ c9 W;obtain⟨a0,aw,dc,_⟩:=bw.out.aM;subst dc;clear br bE ap bv bt a5 B J M dd dg dt b2;go_wp2_with fail;refine b4.out.mono ?_;rintro g d5 ⟨ef,x,rfl,a9,bk,ad⟩;have cv:=K a9;have cI:=K ((gO.refl L.out).still (b0.out.trans ad Η));have cx:=K (bw.out.aW (Ε.bu q ad));have ao:=K (bo (Ε.bu q ad) cu.out (L.out.dZ (by omega)));have an:=K (bo (Ε.bu q ad) ct.out (L.out.dZ (Ο _)));obtain⟨ew,er,bc,_⟩:=a9.ints;subst bc;have el:x.length<=4:=bk.2;have cD:=K (show ∀id∈x,aF id from λid hid=>by obtain⟨eD,T,b7,_⟩:=bk.1 id hid;rw[<-b7];exact gm a4.out T);clear a9 bk ad b4;go_wp2;go_loopw [44] (λP wr=>∃(k:Nat) (Q:Nat->Option Ν) (a2:HS),k<=x.length/\P=I E k/\η (gO w wr e q Q z a2 (k*2)/\Ε d5 wr q Q)) (λP _=>x.length-(aB P).toNat)
 case atStart=>exact⟨0,q,z,by omega,rfl,K ⟨cI.out,Ε.refl _ _⟩⟩
 obtain⟨k,Q,a2,ek,rfl,l⟩:=hrel;by_cases cg:k<x.length
 .have dk:(k:Int)<x.length:=by omega
  obtain⟨eq,ev,es,bc,y0⟩:=(cv.out.aW l.out.2).ints.at_ cg;injection bc with F _ bd;subst F bd;have dv:=cD.out _ (eA cg);generalize x[k]=cs at*;have cy:η (∀i,Y wr i γ->∀r:BA,r.size<=most->ν δ 249 #[Ζ e.g,I E cs,H h,H r,ι false] i (lu i e Q a2 2)):=K λi a1 r dm=>sy (l.out.1.bp.still a1) (l.out.1.eG.inv a4.out) (by have:=l.out.1.ο;omega) cs dv h r (by omega) dm false;have cR:η (∀b,Y wr b γ->(b.cell? (U w.heap.size 0 A)=N (H h)/\b.cell? ⟨a.heap.size+1,0,A⟩=N (I E 3)/\b.cell? ⟨a.heap.size+1,1,A⟩=N (H (D #[]))/\b.cell? ⟨a.heap.size+1,2,A⟩=N (H (D #[112,117,115,104]))/\b.cell? ⟨a.heap.size+1,3,A⟩=N (H (D #[]))/\b.cell? ⟨a.heap.size+1,4,A⟩=N (H (D #[]))/\b.cell? ⟨a.heap.size+1,5,A⟩=N (H (D #[]))/\b.cell? ⟨a.heap.size+1,6,A⟩=N (H (D #[]))/\b.cell? ⟨a.heap.size+1,7,A⟩=N (H (D #[]))/\b.cell? ⟨a.heap.size+1,8,A⟩=N (I Λ 0)/\b.cell? ⟨a.heap.size+1,9,A⟩=N (I E o)/\b.cell? ⟨a.heap.size+1,10,A⟩=N (ι n)/\b.cell? ⟨a.heap.size+1,11,A⟩=N (V a0 aM.length aw))):=K λb j=>by have d:=j.blk (bo l.out.2 ao.out.1 ao.out.2).1 λf=>f;have a6:=j.blk (bo l.out.2 an.out.1 an.out.2).1 λf=>f;exact⟨a6.cell 0,d.cell 0,d.cell 1,d.cell 2,d.cell 3,d.cell 4,d.cell 5,d.cell 6,d.cell 7,d.cell 8,d.cell 9,d.cell 10,d.cell 11⟩
  have cS:η (∀bq b cq,Y wr bq γ->Ε bq b Q cq->(b.cell? (U w.heap.size 0 A)=N (H h)/\b.cell? ⟨a.heap.size+1,0,A⟩=N (I E 3)/\b.cell? ⟨a.heap.size+1,1,A⟩=N (H (D #[]))/\b.cell? ⟨a.heap.size+1,2,A⟩=N (H (D #[112,117,115,104]))/\b.cell? ⟨a.heap.size+1,3,A⟩=N (H (D #[]))/\b.cell? ⟨a.heap.size+1,4,A⟩=N (H (D #[]))/\b.cell? ⟨a.heap.size+1,5,A⟩=N (H (D #[]))/\b.cell? ⟨a.heap.size+1,6,A⟩=N (H (D #[]))/\b.cell? ⟨a.heap.size+1,7,A⟩=N (H (D #[]))/\b.cell? ⟨a.heap.size+1,8,A⟩=N (I Λ 0)/\b.cell? ⟨a.heap.size+1,9,A⟩=N (I E o)/\b.cell? ⟨a.heap.size+1,10,A⟩=N (ι n)/\b.cell? ⟨a.heap.size+1,11,A⟩=N (V a0 aM.length aw))):=K λbq b cq j cA=>by have b1:=(l.out.2.still j).trans cA;have d:=(bo b1 ao.out.1 ao.out.2).1;have a6:=(bo b1 an.out.1 an.out.2).1;exact⟨a6.cell 0,d.cell 0,d.cell 1,d.cell 2,d.cell 3,d.cell 4,d.cell 5,d.cell 6,d.cell 7,d.cell 8,d.cell 9,d.cell 10,d.cell 11⟩
  have cW:η (∀i,Y wr i γ->ν δ 164 #[Μ #[I E 3,H (D #[]),H (D #[112,117,115,104]),H (D #[]),H (D #[]),H (D #[]),H (D #[]),H (D #[]),I Λ 0,I E o,ι n,V a0 aM.length aw]] i λg bn=>(∃r:BA,g=ξ (H r)/\r.size<=most)/\Y i bn γ):=K λi a1=>cU.out i ((cx.out.aW l.out.2).aM.keeps a1) (l.out.1.bp.eE.still a1);go_wp2
  go_region_held3 (λb=>b.cell? (U w.heap.size 0 A)=N (H h)/\b.cell? ⟨a.heap.size+1,0,A⟩=N (I E 3)/\b.cell? ⟨a.heap.size+1,1,A⟩=N (H (D #[]))/\b.cell? ⟨a.heap.size+1,2,A⟩=N (H (D #[112,117,115,104]))/\b.cell? ⟨a.heap.size+1,3,A⟩=N (H (D #[]))/\b.cell? ⟨a.heap.size+1,4,A⟩=N (H (D #[]))/\b.cell? ⟨a.heap.size+1,5,A⟩=N (H (D #[]))/\b.cell? ⟨a.heap.size+1,6,A⟩=N (H (D #[]))/\b.cell? ⟨a.heap.size+1,7,A⟩=N (H (D #[]))/\b.cell? ⟨a.heap.size+1,8,A⟩=N (I Λ 0)/\b.cell? ⟨a.heap.size+1,9,A⟩=N (I E o)/\b.cell? ⟨a.heap.size+1,10,A⟩=N (ι n)/\b.cell? ⟨a.heap.size+1,11,A⟩=N (V a0 aM.length aw))
   (first|(with_reducible exact cS.out _ _ _ al aq)|(refine cR.out _ ?_;(with_reducible first|assumption|exact(Y.refl _ _).drew)))
   (first|(go_at_call 164;refine(cW.out _ (Y.refl _ γ).drew).mono ?_;rintro g d6 ⟨⟨d3,rfl,dn⟩,co⟩;have al:Y wr d6 γ:=(Y.refl wr γ).drew.trans co Η)|(go_at_call 249;refine(cy.out _ al d3 dn).mono ?_;rintro g eT ⟨rfl,d0,d2,bx,aq,b5,ce⟩))
  all_goals
   have cJ:=K ((l.out.1.still al).trans ⟨bx,aq,b5,ce⟩);have cB:=K ((l.out.2.still al).trans aq);clear bx aq b5 ce al co;go_wp2;go_roundw
   case rel=>exact⟨k+1,d0,d2,by omega,by go_num,K ⟨by have:=cJ.out;rwa [show(k+1)*2=k*2+2 by omega],cB.out⟩⟩
   case measure=>simp[aB];omega
 have dk:¬(k:Int)<x.length:=by omega
 go_wp2;go_end0
 exact⟨rfl,Q,a2,l.out.1.bp,l.out.1.aW,l.out.1.eG,by have:=l.out.1.ο;omega⟩
def oo(g:Z)(v:ε)(b:List Tl):Prop:=
 ∃c f,v=V c b.length f/\b.length<=1000000/\(c=A->b=[])/\∀a,c=N a->a.spot=A/\∀d e,(jB b)[d]? =N e->g.cell? ⟨a.block,a.off+d,A⟩=N e
structure qD (w:Z) (own:Nat->Option Ν) (v:ε) (l:List Tl):Prop where
 zT:oo w v l
 free:∀b,dS v=N b->own b=A/\b<w.heap.size
theorem oo.same{e:List Tl}(g:oo w x e)(j:∀b,dS x=N b->n.heap[b]? =w.heap[b]?):oo n x e:=by obtain⟨m,f,rfl,h,i,d⟩:=g;refine⟨m,f,rfl,h,i,λa c=>⟨(d a c).1,λl o k=> ?_⟩⟩;have:=(d a c).2 l o k;unfold fN at this⊢;simp only at this⊢;rw[j a.block (by rw[c];rfl)];exact this
theorem qD.aW{e:List Tl}(b:qD w v x e)(d:Ε w n v s):qD n s x e:=
 ⟨b.zT.same λa c=>(d.free (b.free a c).2 (b.free a c).1).1,λa c=>⟨(d.free (b.free a c).2 (b.free a c).1).2,dQ (b.free a c).2 d.keeps.size⟩⟩
theorem aeG(a:List Tl):(jB a).length=a.length*3:=by
 induction a with
 |nil=>rfl
 |cons c a b=>simp only[jB,qx,cL,ru,eI,eN] at b⊢;omega
theorem QK:∀(c:List Tl) (b:Nat) (e:b<c.length) (a:Nat) (v:ε),(ru c[b])[a]? =N v->(jB c)[b*3+a]? =N v
 |[],b,e,_,_,_=>by cases e
 |f::c,0,_,a,v,d=>by
  have g:a<3:=by have:=(iN.1 d).1;simpa[ru] using this
  simp only[List.getElem_cons_zero] at d;simp only[jB,qx,Nat.zero_mul,eP];rw[E9 (by simpa[ru] using g)];exact d
 |f::c,b+1,e,a,v,d=>by
  have h:=QK c b (by simpa using e) a v (by simpa using d);simp only[jB,qx];rw[AE (by simp[ru];omega)];rw[<-h]
  congr 1
  simp[ru];omega
theorem oo.at_{a:List Tl}(j:oo w x a){k:Nat}(d:k<a.length):∃b c f,x=V (N (U b c A)) a.length f/\w.cell? ⟨b,c+k*3,A⟩=N (H (a[k]'d).1)/\w.cell? ⟨b,c+k*3+1,A⟩=N (H (a[k]'d).2.1)/\w.cell? ⟨b,c+k*3+2,A⟩=N (I E (a[k]'d).2.2):=by
 obtain⟨o,f,rfl,_,l,m⟩:=j;cases o with
 |none=>rw[l rfl] at d;cases d
 |some i=>
  obtain⟨b,c,p⟩:=i;obtain⟨h,n⟩:=m _ rfl;simp only at h;subst h;have g:∀e x,(ru a[k])[e]? =N x->w.cell? ⟨b,c+k*3+e,A⟩=N x:=λe x hv=>by have:=n (k*3+e) x (QK a k d e x hv);rw[<-this,mW]
  exact⟨b,c,f,rfl,g 0 _ rfl,g 1 _ rfl,g 2 _ rfl⟩
theorem oo.dw{B:Nat}{v:ε}{l:List Tl}(e:w.ownsRow B 371 3 v l.length (jB l))(d:l.length<=1000000):oo w v l:=by
 obtain⟨rfl,c⟩|⟨n,k,m,rfl,o,f,q,p,r,h⟩:=e.2
 .exact⟨A,0,by rw[c],d,λ_=>kG.1 c,nofun⟩
 refine⟨_,_,rfl,d,nofun,λj a=> ?_⟩;injection a with a;subst a;refine⟨rfl,λi s b=> ?_⟩;have g:i<l.length*3:=by have:=(iN.1 b).1;rw[aeG] at this;exact this
 rw[<-h,kD,ahM g] at b;rw[eP];simpa[fN,f] using b
theorem aa5(a:Int):(kT a).size<=12:=by
 unfold kT
 repeat' split
 all_goals decide
theorem Ab(b:p∈us):p.size<=16:=by have a:=oT p b;unfold aN at a;simp at a;omega
theorem Qp(L:Α w e v z)(c:Υ z)(fe:z.ο+100<=aL)(a7 aq:BA)(eq:a7∈us)(d8:aq∈us){s:List BA}{u:List Tl}(be:iP w v x s)(bf:qD w v i u)(fo:s.length<=2)(fp:u.length<=2)(ct:∀o∈s,o=a7\/o=aq)(cu:∀o∈u,o.1∈us/\o.2.1∈us):ν δ 248 #[Ζ e.g,H a7,H aq,Μ #[x,i]] w (lu w e v z 100):=by
 have bs:Y w (w.alloc (ζ #[x,i] 316)) γ:=(Y.refl w γ).alloc _;have b2:=K (θ.new w 316 #[x,i]);have b5:=K (Ε.bu v bs);have dn:=K ((gO.refl L).still bs);have dg:=K (L.dZ (Ο w.heap.size));have c1:=K (be.aW b5.out);have c2:=K (bf.aW b5.out);have G:=K c;have c4:=K ct;have c5:=K cu;obtain⟨ex,ew,ek,_⟩:=be.strs;obtain⟨bF,eS,eo,_⟩:=bf.zT;subst ek eo;have f5:=Ab eq;have e8:=Ab d8;have cg:=b2.out.cell 0;simp only[Ρ,Τ] at cg;clear L c be bf ct cu bs;go_enter func248,ntmps248;go_wp2;generalize er:w.alloc (ζ #[V ex s.length ew,V bF u.length eS] 316)=cJ at*;clear er;go_loopw [22] (λc wr=>∃(b:Nat) (P:Nat->Option Ν) (ad:HS),b<=s.length/\c=I E b/\η (gO w wr e v P z ad (b*8)/\Ε cJ wr v P)) (λc _=>s.length-(aB c).toNat)
 case atStart=>exact⟨0,v,z,by omega,rfl,K ⟨dn.out,Ε.refl _ _⟩⟩
 obtain⟨b,P,ad,ff,rfl,n⟩:=hrel;by_cases cm:b<s.length
 .have ea:(b:Int)<s.length:=by omega
  obtain⟨e1,e3,e2,hv,b0⟩:=(c1.out.aW n.out.2).strs.at_ cm;injection hv with X _ ab;subst X ab;have es:=c4.out _ (eA cm);generalize s[b]=o at*;have et:o∈us:=by rcases es with rfl|rfl<;>assumption
  have b7:η (∀a3:BA,a3.size<=100->ν δ 310 #[Ζ e.g,H o,H a3] wr (lu wr e P ad 8)):=K λa3 eg=>acH n.out.1.bp (n.out.1.eG.inv G.out) (by have:=n.out.1.ο;omega) o a3 et eg;have cont:η (∀C d f,Α C e d f->Ε wr C P d->ci ad f->f.ο<=ad.ο+8->gO w C e v d z f ((b+1)*8)/\Ε cJ C v d):=K λC d f T O al W=>⟨by have:=n.out.1.trans ⟨T,O,al,W⟩;rwa [show(b+1)*8=b*8+8 by omega],n.out.2.trans O⟩;cases fr:o.toList==aq.toList with
  |true=>
   have a9:=K (b7.out a7 (by omega));go_wp2_with fail;refine a9.out.mono ?_;rintro h C ⟨rfl,d,f,T,O,al,W⟩;have a8:=K (cont.out C d f T O al W);clear T O al W;go_wp2;go_roundw
   case rel=>exact⟨b+1,d,f,by omega,by go_num,a8⟩
   case measure=>simp[aB];omega
  |false=>
   have a9:=K (b7.out aq (by omega));go_wp2_with fail;refine a9.out.mono ?_;rintro h C ⟨rfl,d,f,T,O,al,W⟩;have a8:=K (cont.out C d f T O al W);clear T O al W;go_wp2;go_roundw
   case rel=>exact⟨b+1,d,f,by omega,by go_num,a8⟩
   case measure=>simp[aB];omega
 have ea:¬(b:Int)<s.length:=by omega
 have cf:=(bo n.out.2 b2.out dg.out).1;have d6:=cf.cell 1;simp only[gz_] at d6;have dx:=K (show gO w wr e v P z ad 16 from⟨n.out.1.bp,n.out.1.aW,n.out.1.eG,by have:=n.out.1.ο;omega⟩);have c3:=K (c2.out.aW n.out.2);clear cf cg;go_wp2;go_loopw [39] (λc R=>∃(b:Nat) (Q:Nat->Option Ν) (a5:HS),b<=u.length/\c=I E b/\η (gO w R e v Q z a5 (16+b*40)/\Ε wr R P Q)) (λc _=>u.length-(aB c).toNat)
 case atStart=>exact⟨0,P,ad,by omega,rfl,K ⟨dx.out,Ε.refl _ _⟩⟩
 obtain⟨y,Q,a5,fg,rfl,p⟩:=hrel;by_cases cn:y<u.length
 .have eb:(y:Int)<u.length:=by omega
  obtain⟨e1,e3,e2,hv,b0,cR,cS⟩:=(c3.out.aW p.out.2).zT.at_ cn;injection hv with X _ ab;subst X ab;obtain⟨cv,br⟩:=c5.out _ (eA cn);generalize u[y]=o at*;obtain⟨F,r,l⟩:=o;simp only at b0 cR cS cv br;have bx:Y wr (wr.alloc (ζ #[H F,H r,I E l] 371)) γ:=(Y.refl wr γ).alloc _;have b8:=K (zN (p.out.1.bp.still bx) (p.out.1.eG.inv G.out) F);have cU:=K (θ.new wr 371 #[H F,H r,I E l]);have dk:=K (p.out.1.bp.dZ (Ο wr.heap.size));have b4:=K bx;clear bx;go_wp2_with fail;refine b8.out.mono ?_;rintro h e5 ⟨e9,M,rfl,bc,bA,a2⟩;have cW:=K bc;have dv:=K (p.out.1.still (b4.out.trans a2 Η));have av:=K (bo (Ε.bu Q a2) cU.out dk.out);have da:=K (p.out.2.trans (Ε.bu Q (b4.out.trans a2 Η)));obtain⟨f3,fv,bi,_⟩:=bc.ints;subst bi;have fm:M.length<=4:=bA.2;have dl:=K (show ∀id∈M,aF id from λid hid=>by obtain⟨au,d7,a0,_⟩:=bA.1 id hid;rw[<-a0];exact gm (p.out.1.eG.inv G.out) d7);have dd:η (∀a,ν δ 305 #[I E l] a λh an=>h=ξ (H (kT l))/\Y a an γ):=K λa=>(Pu l a).mono λh an L=>⟨L.1,Y.of_below L.2 γ⟩;have bb:η (∀a,aT a->ν δ 164 #[aK ⟨1,kT l,(D #[]),r,F,(D #[]),(D #[]),(D #[]),0,0,false,[]⟩ (V A 0 0)] a λh an=>(∃t:BA,h=ξ (H t)/\t.size<=most)/\Y a an γ):=K λa d9=>oR ⟨(by show(kT l).size<=100;have:=aa5 l;omega),e0,(by show r.size<=100;have:=Ab br;omega),(by show F.size<=100;have:=Ab cv;omega),e0,e0,e0,mP,ai _,nofun⟩ (aZ.nil a) d9;unfold aK at bb;simp only at bb;generalize kT l=nm at*;have f9:=Ab br;clear bc bA a2 b8 b0 cR cS;generalize wr.heap.size=B at*;go_wp2;go_loopw [48] (λc R=>∃(m:Nat) (d:Nat->Option Ν) (f:HS),m<=M.length/\c=I E m/\η (gO w R e v d z f (16+y*40+m*10)/\Ε e5 R Q d)) (λc _=>M.length-(aB c).toNat)
  case atStart=>exact⟨0,Q,a5,by omega,rfl,K ⟨dv.out,Ε.refl _ _⟩⟩
  obtain⟨m,d,f,fi,rfl,k⟩:=hrel;by_cases co:m<M.length
  .have ec:(m:Int)<M.length:=by omega
   obtain⟨fs,f1,fE,bi,y0⟩:=(cW.out.aW k.out.2).ints.at_ co;injection bi with X _ ab;subst X ab;have cx:=dl.out _ (eA co);generalize M[m]=b1 at*;have aw:η (∀a,Y wr a γ->∀t:BA,t.size<=most->ν δ 249 #[Ζ e.g,I E b1,H r,H t,ι false] a (lu a e d f 2)):=K λa bw t el=>sy (k.out.1.bp.still bw) (k.out.1.eG.inv G.out) (by have:=k.out.1.ο;omega) b1 cx r t (by omega) el false;have cc:η (∀j,Y wr j γ->(j.cell? (U B 0 A)=N (H F)/\j.cell? (U B 1 A)=N (H r)/\j.cell? (U B 2 A)=N (I E l))):=K λj b=>by have S:=b.blk (bo k.out.2 av.out.1 av.out.2).1 λL=>L;exact⟨S.cell 0,S.cell 1,S.cell 2⟩
   have ba:η (∀bN j cB,Y wr bN γ->Ε bN j d cB->(j.cell? (U B 0 A)=N (H F)/\j.cell? (U B 1 A)=N (H r)/\j.cell? (U B 2 A)=N (I E l))):=K λbN j cB b c6=>by have dc:=(k.out.2.still b).trans c6;have S:=(bo dc av.out.1 av.out.2).1;exact⟨S.cell 0,S.cell 1,S.cell 2⟩
   have ce:η (∀a,Y wr a γ->ν δ 164 #[Μ #[I E 1,H nm,H (D #[]),H r,H F,H (D #[]),H (D #[]),H (D #[]),I Λ 0,I E 0,ι false,V A 0 0]] a λh an=>(∃t:BA,h=ξ (H t)/\t.size<=most)/\Y a an γ):=K λa bw=>bb.out a (k.out.1.bp.eE.still bw);go_wp2
   go_region_held3 (λj=>j.cell? (U B 0 A)=N (H F)/\j.cell? (U B 1 A)=N (H r)/\j.cell? (U B 2 A)=N (I E l))
    (first|(with_reducible exact ba.out _ _ _ am ao)|(refine cc.out _ ?_;(with_reducible first|assumption|exact(Y.refl _ _).drew)))
    (first|(go_at_call 305;refine(dd.out _).mono ?_;rintro h e6 ⟨rfl,cy⟩;have bv:Y wr e6 γ:=(Y.refl wr γ).drew.trans cy Η)|(go_at_call 164;refine(ce.out _ bv).mono ?_;rintro h e7 ⟨⟨eT,rfl,en⟩,cA⟩;have am:Y wr e7 γ:=bv.trans cA Η)|(go_at_call 249;refine(aw.out _ am eT en).mono ?_;rintro h f8 ⟨rfl,bE,cD,b3,ao,cb,cl⟩))
   all_goals
    have J:=K ((k.out.1.still am).trans ⟨b3,ao,cb,cl⟩);have b6:=K ((k.out.2.still am).trans ao);obtain⟨d3,d4,d5⟩:=ba.out _ _ _ am ao;clear b3 ao cb cl am cA bv cy aw cc ba ce;by_cases a0:l=2
    .subst a0;have b9:=K (zN J.out.bp (J.out.eG.inv G.out) r);go_wp2_with fail;refine b9.out.mono ?_;rintro h e4 ⟨fa,ac,rfl,bd,bB,bt⟩;have c0:=K bd;have dp:=K (J.out.still bt);have c7:=K (b6.out.still bt);obtain⟨f4,fJ,bk,_⟩:=bd.ints;subst bk;have fn:ac.length<=4:=bB.2;have dm:=K bB.1;clear bd bB bt b9 d3 d4 d5;go_wp2;go_loopw [74] (λc R=>∃(q:Nat) (a4:Nat->Option Ν) (a6:HS),q<=ac.length/\c=I E q/\η (gO w R e v a4 z a6 (16+y*40+m*10+2+q*2)/\Ε e4 R bE a4)) (λc _=>ac.length-(aB c).toNat)
     case atStart=>exact⟨0,bE,cD,by omega,rfl,K ⟨dp.out,Ε.refl _ _⟩⟩
     obtain⟨q,a4,a6,fk,rfl,g⟩:=hrel;by_cases cq:q<ac.length
     .have ef:(q:Int)<ac.length:=by omega
      obtain⟨ft,f2,f0,bk,z0⟩:=(c0.out.aW g.out.2).ints.at_ cq;injection bk with X _ ab;subst X ab;obtain⟨au,bn,cs,_⟩:=dm.out _ (eA cq);have bq:au∈a6.τ:=by rw[g.out.1.eG.τ];rw[J.out.eG.τ] at bn;exact bn
      generalize ac[q]=ga at*;have ap:=Ir g.out.1.bp (g.out.1.eG.inv G.out) bq;rw[cs] at ap;have ap:=K ap;have fd:(gh au.2).size<=33:=by obtain⟨d0,d1,_⟩:=(g.out.1.eG.inv G.out).aR au bq;exact vJ (oT _ d0) d1
      generalize gh au.2=d2 at*;clear bn bq cs;go_wp2_with fail;refine ap.out.mono ?_;rintro h f6 ⟨⟨bF,rfl,em⟩,a1⟩;have aw:=K (sy (g.out.1.bp.still a1) (g.out.1.eG.inv G.out) (by have:=g.out.1.ο;omega) b1 cx d2 bF (by omega) em true);have ds:=K (g.out.1.still a1);have c8:=K (g.out.2.still a1);clear a1 ap;go_wp2_with fail;refine aw.out.mono ?_;rintro h f7 ⟨rfl,ev,eD,ch,bz,cI,ck⟩;have dt:=K (ds.out.trans ⟨ch,bz,cI,ck⟩);have c9:=K (c8.out.trans bz);clear ch bz cI ck;go_wp2;go_roundw
      case rel=>exact⟨q+1,ev,eD,by omega,by go_num,K ⟨by have:=dt.out;rwa [show 16+y*40+m*10+2+(q+1)*2=16+y*40+m*10+2+q*2+2 by omega],c9.out⟩⟩
      case measure=>simp[aB];omega
     have ef:¬(q:Int)<ac.length:=by omega
     go_wp2;go_roundw
     case rel=>exact⟨m+1,a4,a6,by omega,by go_num,K ⟨⟨g.out.1.bp,g.out.1.aW,g.out.1.eG,by have:=g.out.1.ο;omega⟩,c7.out.trans g.out.2⟩⟩
     case measure=>simp[aB];omega
    .have fb:(l !=2)=true:=by simpa using a0
     go_wp2;go_roundw
     case rel=>exact⟨m+1,bE,cD,by omega,by go_num,K ⟨⟨J.out.bp,J.out.aW,J.out.eG,by have:=J.out.ο;omega⟩,b6.out⟩⟩
     case measure=>simp[aB];omega
  have ec:¬(m:Int)<M.length:=by omega
  go_wp2;go_roundw
  case rel=>exact⟨y+1,d,f,by omega,by go_num,K ⟨⟨k.out.1.bp,k.out.1.aW,k.out.1.eG,by have:=k.out.1.ο;omega⟩,da.out.trans k.out.2⟩⟩
  case measure=>simp[aB];omega
 have eb:¬(y:Int)<u.length:=by omega
 go_wp2;go_end0
 exact⟨rfl,Q,a5,p.out.1.bp,p.out.1.aW,p.out.1.eG,by have:=p.out.1.ο;omega⟩
def lH(a:HS)(id:Int)(d:Ss)(b:Bool)(c:BA):HS:= {a with ss:=aP a.ss id (N {d with iK:=b,Β:=c})}
theorem Cv(f:Υ z)(o:z.ss m=N J)(e:Bool)(n:p.size<=40):Υ (lH z m J e p):= {f with
 state:=λk l=>by
  obtain⟨d,c,h,i,j⟩:=f.state k l;by_cases b:k.2.id=m
  .rw[b,o] at c;injection c with c;subst c;exact⟨{J with iK:=e,Β:=p},(by rw[b];exact bI _ _ _),h,i,j⟩
  .exact⟨d,(bU _ _ _ b).trans c,h,i,j⟩
 fS:=λg d a=>by
  have a:aP z.ss m (N {J with iK:=e,Β:=p}) g=N d:=a;by_cases b:g=m
  .rw[b,bI] at a;injection a with a;subst a;exact n
  .rw[bU _ _ _ b] at a;exact f.fS g d a}
theorem Zh(b:qE z)(h:z.ss m=N J)(d:Bool)(f:BA):qE (lH z m J d f):= {b with
 front:=λc g a=>by
  have a:aP z.ss m (N {J with iK:=d,Β:=f}) c=N g:=a;by_cases e:c=m
  .rw[e,bI] at a;injection a with a;subst a;exact b.front m J h
  .rw[bU _ _ _ e] at a;exact b.front c g a}
theorem ahq(a:aY)(b:BA):(rA a b).length<=4:=jo _ _
theorem acQ(f:Α w e v z)(g:z.ss m=N J)(a:Bool)(c:BA):∃h,Α ((w.setCell (U J.q 1 A) (ι a)).setCell (U J.q 2 A) (H c)) e h (lH z m J a c)/\Ε w ((w.setCell (U J.q 1 A) (ι a)).setCell (U J.q 2 A) (H c)) v h:=by obtain⟨d,b⟩:=f.gq g;have hF:=b.ak;have i:of v (.ss m) J.q:=(hF J.q).2 (.inl rfl);have k:Ψ w ((w.setCell (U J.q 1 A) (ι a)).setCell (U J.q 2 A) (H c)) (of v (.ss m)) (of v (.ss m)):=((Ψ.refl w _).χ (p:=(U J.q 1 A)) i _).χ (p:=(U J.q 2 A)) i _;refine f.P0 g rfl (show ∃d,nx _ _ (of v (.ss m)) d from⟨d,?_⟩) k;exact {blk:=((b.blk.χ 1 (ι a)).χ 2 (H c)).to (by simp[mN]),front:=(uF _ _ _ _).keeps b.front ((Y.refl w (·=J.q)).χ (p:=(U J.q 1 A)) (.inl rfl) _ |>.χ (p:=(U J.q 2 A)) (.inl rfl) _) (λn l j=>b.q1 (j▸l)),q1:=b.q1,ak:=hF}
theorem acR(d:Α w e v z)(f:z.ss m=N J)(a:Bool):∃g,Α (w.setCell (U J.q 1 A) (ι a)) e g (lH z m J a J.Β)/\Ε w (w.setCell (U J.q 1 A) (ι a)) v g:=by obtain⟨c,b⟩:=d.gq f;have hF:=b.ak;have k:of v (.ss m) J.q:=(hF J.q).2 (.inl rfl);have i:Ψ w (w.setCell (U J.q 1 A) (ι a)) (of v (.ss m)) (of v (.ss m)):=(Ψ.refl w _).χ (p:=(U J.q 1 A)) k _;refine d.P0 f rfl (show ∃c,nx _ _ (of v (.ss m)) c from⟨c,?_⟩) i;exact {blk:=(b.blk.χ 1 (ι a)).to (by simp[mN]),front:=(uF _ _ _ _).keeps b.front ((Y.refl w (·=J.q)).χ (p:=(U J.q 1 A)) (.inl rfl) _) (λl j h=>b.q1 (h▸j)),q1:=b.q1,ak:=hF}
theorem adx(b0:Α w e v z)(f:Υ z)(b3:z.ο+100<=aL)(O:h∈z.τ)(a3:z.ss h.2.id=N J)(X:cp)(a4:ε)(d3:X.cE.size<=40):ν δ 245 #[Ζ e.g,Μ h.2.cells,aK X a4] w λj ch=>j=ξ (σ #[])/\∃k l,Α ch e k l/\Ε w ch v k/\ci (lH z h.2.id J true X.cE) l/\l.ο<=z.ο+100:=by
 have b4:=gm f O;obtain⟨a0,dp,_⟩:=f.aR h O;have ek:=vJ (oT _ a0) dp;have p:=K (Cv f a3 true d3);obtain⟨eb,a⟩:=h;simp only at*;have am:=K a3;have cD:=K O;obtain⟨cn,ct,cm,cs,ck,m,cu,co,cl,cv,cq,fb⟩:=X;unfold aK;simp only at*;obtain⟨d4,L,cJ,ab,bd,c1,c2⟩:=uZ b0 a.cells #[I E cn,H ct,H cm,H cs,H ck,H m,H cu,H co,I Λ cl,I E cv,ι cq,a4];unfold υ.cells at*;clear b0 f d4 a3 O;go_enter func245,ntmps245;go_wp2;generalize(w.alloc (ζ #[I E a.id,H a.ψ,H a.ah,H a.ax,I E a.Δ,I E a.aH] 42)).alloc (ζ #[I E cn,H ct,H cm,H cs,H ck,H m,H cu,H co,I Λ cl,I E cv,ι cq,a4] 171)=t at*;have bA:=L.out.aA.cell 7;have bE:=ab.out.cell 0;simp only[bg,gz_] at bA bE;have d6:∀S,(cw 63 (ω (N e.sm)) (I E a.id) false).run δ (t.drewN S)= .ok (Ζ J.q) (t.drewN S):=λS=>by have:=(L.out.still ((Y.refl t γ).drewN S)).jP b4;rw[am.out] at this;exact this
 go_quiet (fail)
 obtain⟨wB,hwB⟩:∃bc,bc=t.drewN nq:=⟨_,rfl⟩;have C:Y t wB γ:=by rw[hwB];exact(Y.refl t γ).drewN nq
 rw[<-hwB];have al:=K (L.out.still C);obtain⟨ec,q⟩:=al.out.gq am.out;have cc:=q.blk.cell 1;have ce:=q.blk.cell 2;have dl:=q.blk.frozen 1;have dm:=q.blk.frozen 2;simp only[mN,gz_] at cc ce;have be:=K (C.blk ab.out id);have bf:=K (C.blk bd.out id);have bN:=bf.out.cell 5;simp only[gz_] at bN;have dx:J.q≠w.heap.size+1:=λj=>by have a8:of v (.ss a.id) J.q:=(q.ak J.q).2 (.inl rfl);unfold of at a8;rw[j,c2.out] at a8;cases a8
 obtain⟨R,bk,an⟩:=acQ al.out am.out true m;have bn:=K (bk.still ((Y.refl _ γ).drew));have bs:=K (((cJ.out.still C).trans an).still ((Y.refl _ γ).drew));have ac:=K (bo (an.still ((Y.refl _ γ).drew)) be.out c1.out);clear q bk an d6 bA bE hwB C;go_wp2;go_region
 generalize((wB.setCell (U J.q 1 A) (ι true)).setCell (U J.q 2 A) (H m)).drew=bb at*;have et:(lH z a.id J true m).τ=z.τ:=rfl;have em:(lH z a.id J true m).ο=z.ο:=rfl;have cI:η ((eb,a)∈(lH z a.id J true m).τ):=cD;generalize b9:lH z a.id J true m=a9 at*;have bq:=K b9;clear b9;have i:=K (Ir bn.out p.out cI.out);have ap:=ac.out.1;have dk:=ap.cell 0;have bF:=ap.cell 1;simp only[gz_] at dk bF;simp only at i;generalize dn:gh a=da at*;clear ap al be bf cc ce dl dm bN dx L ab bd dn;go_wp2_with fail;refine i.out.mono ?_;rintro j e8 ⟨⟨d9,rfl,d1⟩,c⟩;have bx:=K (QD (bn.out.still c) p.out (by omega) a.ψ (gH _ a0) da d9 (by omega) d1);have cU:=K (bs.out.still c);have bt:=K (Ε.bu R c);have eg:=az c bF id;clear c i;go_wp2_with fail;refine bx.out.mono ?_;rintro j W ⟨rfl,r,s,b2,P,cg,b6⟩;have x:=K b2;have cW:=K (cU.out.trans P);have c0:=K (bt.out.trans P);have bv:=K cg;have ad:=K (bo (bt.out.trans P) ac.out.1 ac.out.2);have en:=b6;clear b2 P cg b6 bx;cases es:J.iK with
 |true=>go_wp2;refine Ω (v:=σ #[]) (by simp[ag,results245,go_sem]) rfl ?_;exact⟨rfl,r,s,x.out,cW.out,by rw[bq.out];exact bv.out,by omega⟩
 |false=>
  have bz:η (∀M,Y W M γ->ν δ 26 #[Ζ e.kb,H a.ψ] M (yy M (rA s.aE a.ψ))):=K λM b=>Ll ((x.out.still b).part .aE) (gH _ a0);have e9:=ahq s.aE a.ψ;have ao:η (∀o,Y W o γ->(o.cell? (U e.g 1 A)=N (Ζ e.kb)/\o.cell? (U w.heap.size 1 A)=N (H a.ψ))):=K λo b=>⟨(x.out.still b).aA.cell 1,(b.blk ad.out.1 id).cell 1⟩;generalize rA s.aE a.ψ=u at*;go_wp2
  go_region_held3 (λo=>o.cell? (U e.g 1 A)=N (Ζ e.kb)/\o.cell? (U w.heap.size 1 A)=N (H a.ψ))
   (first|(with_reducible exact ao.out _ B)|(refine ao.out _ ?_;(with_reducible first|assumption|exact(Y.refl _ _).drew)))
   (first|(go_at_call 26;refine(bz.out _ (Y.refl _ γ).drew).mono ?_;rintro j ba ⟨e0,rfl,F,cb⟩;have B:Y W ba γ:=(Y.refl W γ).drew.trans cb Η;have cy:=K (pN (own':=r) (eU.dw F (by omega)) F λdd b3=>x.out.dZ (by have:=(F.lt dd b3).1;simpa using this));obtain⟨e5,e2,d2⟩:=cC F;subst d2))
  all_goals
   have c6:=K (show gO bb ba e R r a9 s 32 from⟨x.out.still B,c0.out.still B,bv.out,by omega⟩);have bi:=K (bo (Ε.bu r B) ad.out.1 ad.out.2);clear F B cb ao bz;go_wp2;go_loopw [59] (λf G=>∃(b:Nat) (k:Nat->Option Ν) (l:HS),b<=u.length/\f=I E b/\η (gO bb G e R k a9 l (32+b*8)/\Ε ba G r k)) (λf _=>u.length-(aB f).toNat)
   case atStart=>exact⟨0,r,s,by omega,rfl,K ⟨c6.out,Ε.refl _ _⟩⟩
   case round=>
    obtain⟨b,k,l,eo,rfl,g⟩:=hrel;by_cases ds:b<u.length
    .have dt:(b:Int)<u.length:=by omega
     obtain⟨e1,e4,e3,hv,fa⟩:=(cy.out.aW g.out.2).strs.at_ ds;injection hv with a1 _ a2;subst a1 a2;generalize u[b]=bc at*;have bw:=K (zN g.out.1.bp (g.out.1.eG.inv p.out) bc);go_wp2_with fail;refine bw.out.mono ?_;rintro j ea ⟨ef,n,rfl,aq,a7,a5⟩;have cA:=K aq;have c7:=K (g.out.1.still a5);have br:=K (g.out.2.still a5);obtain⟨eT,ew,au,_⟩:=aq.ints;subst au;have er:n.length<=4:=a7.2;have c3:=K a7.1;clear aq a7 a5 bw;go_wp2;go_loopw [67] (λf G=>∃(c:Nat) (Q:Nat->Option Ν) (T:HS),c<=n.length/\f=I E c/\η (gO bb G e R Q a9 T (32+b*8+c*2)/\Ε ea G k Q)) (λf _=>n.length-(aB f).toNat)
     case atStart=>exact⟨0,k,l,by omega,rfl,K ⟨c7.out,Ε.refl _ _⟩⟩
     obtain⟨c,Q,T,eq,rfl,d⟩:=hrel;by_cases b7:c<n.length
     .have dv:(c:Int)<n.length:=by omega
      obtain⟨ev,eS,ex,au,y0⟩:=(cA.out.aW d.out.2).ints.at_ b7;injection au with a1 _ a2;subst a1 a2;obtain⟨h,av,b8,_⟩:=c3.out _ (eA b7);have aw:h∈T.τ:=by rw[d.out.1.eG.τ];rw[g.out.1.eG.τ] at av;exact av
      generalize n[c]=eD at*;have i:=Ir d.out.1.bp (d.out.1.eG.inv p.out) aw;rw[b8] at i;have i:=K i;have el:(gh h.2).size<=33:=by obtain⟨c8,c9,_⟩:=(d.out.1.eG.inv p.out).aR h aw;exact vJ (oT _ c8) c9
      generalize gh h.2=dc at*;have bB:=(bo ((br.out.trans d.out.2)) bi.out.1 bi.out.2);have cx:=K bB;clear av aw b8 bB;go_wp2_with fail;refine i.out.mono ?_;rintro j e6 ⟨⟨d8,rfl,d0⟩,y⟩;have cB:=K (sy (d.out.1.bp.still y) (d.out.1.eG.inv p.out) (by have:=d.out.1.ο;omega) a.id b4 dc d8 (by omega) d0 true);have c4:=K (d.out.1.still y);have cR:=K (d.out.2.still y);have dg:=(y.blk cx.out.1 id).cell 0;simp only[Ρ,Τ] at dg;clear y i;go_wp2_with fail;refine cB.out.mono ?_;rintro j e7 ⟨rfl,d5,d7,b1,a6,cf,b5⟩;have c5:=K (c4.out.trans ⟨b1,a6,cf,b5⟩);have cS:=K (cR.out.trans a6);clear b1 a6 cf b5;go_wp2;go_roundw
      case rel=>exact⟨c+1,d5,d7,by omega,by go_num,K ⟨by have:=c5.out;rwa [show 32+b*8+(c+1)*2=32+b*8+c*2+2 by omega],cS.out⟩⟩
      case measure=>simp[aB];omega
     have dv:¬(c:Int)<n.length:=by omega
     go_wp2;go_roundw
     case rel=>exact⟨b+1,Q,T,by omega,by go_num,K ⟨⟨d.out.1.bp,d.out.1.aW,d.out.1.eG,by have:=d.out.1.ο;omega⟩,br.out.trans d.out.2⟩⟩
     case measure=>simp[aB];omega
    have dt:¬(b:Int)<u.length:=by omega
    go_wp2;go_end0
    exact⟨rfl,k,l,g.out.1.bp,bs.out.trans g.out.1.aW,by rw[bq.out];exact g.out.1.eG,by have:=g.out.1.ο;omega⟩
def eS:BA:=(D #[])
theorem aeP{a:List Tl}(g:w.ownsRow y 371 3 x a.length (jB a))(e:a.length<=1000000):oo w x a:=by
 obtain⟨rfl,d⟩|⟨o,n,f,rfl,p,h,r,q,s,j⟩:=g.2
 .exact⟨A,0,by rw[d],e,λ_=>kG.1 d,nofun⟩
 refine⟨_,_,rfl,e,nofun,λm c=> ?_⟩;injection c with c;subst c;refine⟨rfl,λk l i=> ?_⟩;have b:(f.toList.take (a.length*3))[k]? =N l:=by rw[j];simp[i]
 rw[kD] at b;split at b
 .simpa[fN,h] using b
 cases b
theorem Cj{b:List Tl}(f:w.ownsRow y 371 3 x b.length (jB b))(h:b.length<=1000000)(i:∀a,x.ownBlock=N a->v a=A):qD w v x b:=by
 refine⟨aeP f h,λa d=> ?_⟩;obtain⟨rfl,_⟩|⟨c,j,k,rfl,l,e,_⟩:=f.2
 .cases d
 have g:c=a:=cr d;subst g;refine⟨i c rfl,?_⟩;obtain h1|h1:=fU c w.heap.size
 .exact h1
 rw[ll h1] at e;cases e
theorem gS{b c:ε}(a:θ w y u #[x,i,t,B,b,c]):w.cell? (U y 0 A)=N x/\w.cell? (U y 1 A)=N i/\w.cell? (U y 2 A)=N t/\w.cell? (U y 3 A)=N B/\w.cell? (U y 4 A)=N b/\w.cell? (U y 5 A)=N c:=
 ⟨a.cell 0,a.cell 1,a.cell 2,a.cell 3,a.cell 4,a.cell 5⟩
theorem yL{f h b c d e g j:ε}(a:θ w y u #[x,i,t,B,f,h,b,c,d,e,g,j]):w.cell? (U y 0 A)=N x/\w.cell? (U y 1 A)=N i/\w.cell? (U y 2 A)=N t/\w.cell? (U y 3 A)=N B/\w.cell? (U y 4 A)=N f/\w.cell? (U y 5 A)=N h/\w.cell? (U y 6 A)=N b/\w.cell? (U y 7 A)=N c/\w.cell? (U y 8 A)=N d/\w.cell? (U y 9 A)=N e/\w.cell? (U y 10 A)=N g/\w.cell? (U y 11 A)=N j:=
 ⟨a.cell 0,a.cell 1,a.cell 2,a.cell 3,a.cell 4,a.cell 5,a.cell 6,a.cell 7,a.cell 8,a.cell 9,a.cell 10,a.cell 11⟩
theorem qZ(h:w.ownsRow y u k x d a):∀b,dS x=N b->y<=b:=λb c=>by
 obtain⟨rfl,_⟩|⟨f,i,j,rfl,g,l,_⟩:=h.2
 .cases c
 have e:f=b:=cr c;subst e;exact g
def qO(b:HS)(a:aY):HS:= {b with aE:=a}
theorem Cp(b:Υ z)(a:aY):Υ (qO z a):= {b with}
theorem Zg(b:qE z)(a:aY):qE (qO z a):= {b with}
def ul(d:HS)(c b:BA)(a:Int):aY:=iS (oz d.aE c b a) c b a
structure mZ (w0 w:Z) (p:Pl) (own own':Nat->Option Ν) (s s':HS) (u c:BA) (s1:aY) (pv tv:ε) (pl:List BA) (tl:List Tl) (er:Int):Prop where
 bp:Α w p own' s'
 aW:Ε w0 w own own'
 fp:iP w own' pv pl
 ft:qD w own' tv tl
 jO:pl.length<=2
 jh:tl.length<=2
 oC:∀x∈pl,x=u\/x=c
 yZ:∀x∈tl,x.1∈us/\x.2.1∈us
 abu:∀b,dS pv=N b->w0.heap.size<=b
 abv:∀b,dS tv=N b->w0.heap.size<=b
 ok:er=0->c∈us/\∃vr,s'=qO s (mh s1 vr)
 err:er≠0->s'=s
theorem I0{c:List BA}(f:eU w x c)(m:Y w n j)(k:∀d,dS x=N d->¬j d):eU n x c:=by obtain⟨o,e,rfl,g,h,b⟩:=f;refine⟨o,e,rfl,g,h,λw a=>⟨(b w a).1,λl p i=>az m ((b w a).2 l p i) (k w.block (by subst a;rfl))⟩⟩
theorem aeO{c:List Tl}(f:oo w x c)(m:Y w n j)(k:∀d,dS x=N d->¬j d):oo n x c:=by obtain⟨o,e,rfl,g,h,b⟩:=f;refine⟨o,e,rfl,g,h,λw a=>⟨(b w a).1,λl p i=>az m ((b w a).2 l p i) (k w.block (by subst a;rfl))⟩⟩
theorem mZ.later{t:aY}{k:List BA}{l:List Tl}(b:mZ w n e v s z c p L t x i k l m)(r:s y=A)(q:6<=y)(j:w.heap.size<=y->n.heap.size<=y)(g:Y n G (·=y)):Α G e s c/\iP G s x k/\qD G s i l:=by
 refine⟨b.bp.G7 g λa f=>by subst f;exact⟨r,q⟩,⟨I0 b.fp.strs g λa d f=> ?_,λa d=>⟨(b.fp.free a d).1,dQ (b.fp.free a d).2 g.size⟩⟩,⟨aeO b.ft.zT g λa d f=> ?_,λa d=>⟨(b.ft.free a d).1,dQ (b.ft.free a d).2 g.size⟩⟩⟩
 .have h:=b.abu a d;have o:=(b.fp.free a d).2;subst f;have:=j h;omega
 have h:=b.abv a d;have o:=(b.ft.free a d).2;subst f;have:=j h;omega
theorem UJ(i:Α w e v z)(f d:BA)(c:Int)(G:cX f)(y:cX d):ν δ 247 #[Ζ e.kb,H f,H d,I E c] w λh u=>∃l m p r N O,h=ξ (σ #[Μ #[l,m],I E (cG z.aE f d (fl c) (c==1))])/\mZ w u e v N z O f d (ul z f d c) l m p r (cG z.aE f d (fl c) (c==1)):=by
 refine(Si (i.part .aE) G y c).mono ?_;rintro h u ⟨l,m,p,r,V,rfl,g,j,F,C,b,J,M,x⟩;have n:∀a,w.heap.size<=a->v a=A:=λa b=>i.dZ b;by_cases e0:cG z.aE f d (fl c) (c==1)=0
 .obtain⟨P,s,W,Q,t,R⟩:=M e0;subst R;obtain⟨o,L⟩:=i.put (s':=qO z (mh (ul z f d c) t)) .aE (F':=of v .aE) ⟨J,λ_ i=> .inl i⟩ b λK B=>by cases K<;>first|rfl|exact ahN rfl B
  have q:∀a,v a=A->fH v .aE (of v .aE) a=A:=λa b=>by unfold fH of;rw[b];simp
  subst Q;refine⟨l,m,p,je z.aE f d c,_,_,rfl,o,L,?_,?_,C,?_,F,?_,qZ g,qZ j,λ_=>⟨s,t,rfl⟩,λh=>ahN e0 h⟩
  .exact pN (eU.dw g (by omega)) g λa b=>q a (n a (g.lt a b).1)
  .exact Cj j (by unfold je;split<;>simp) λa b=>q a (n a (j.lt a b).1)
  .unfold je;split<;>simp
  intro X k;unfold je at k;split at k
  .simp at k;subst k;exact⟨s,P⟩
  cases k
 obtain⟨S,T,Y,kk⟩:=x e0;subst S T;have o:=i.still kk;refine⟨l,m,[],[],v,z,rfl,o,Ε.bu v kk,?_,?_,by simp,by simp,by simp,by simp,qZ g,qZ j,λh=>ahN h e0,λ_=>rfl⟩
 .exact pN (eU.dw g (by simp)) g λa b=>n a (g.lt a b).1
 exact Cj j (by simp) λa b=>n a (j.lt a b).1
def Lg(b c:HS)(a:aY):Prop:=∃d,ci (qO b (mh a d)) c
def pB(b d:HS)(c:υ)(g:Ss)(a:cp):Prop:=
 (a.dst=eS/\a.bV=eS/\ci (lH b c.id g true a.cE) d)\/
 (a.dst=eS/\a.bV=qS/\g.iK=true/\∃e f,ci b e/\e.ss c.id=N f/\d=lH e c.id f false f.Β)\/
 (¬(a.dst=eS/\a.bV=eS)/\iF a.dst=true/\gy a.dst=eS/\0<dr a.bV/\cG b.aE c.ψ (fZ a.dst) (fl (dr a.bV)) (dr a.bV==1)=0/\Lg b d (ul b c.ψ (fZ a.dst) (dr a.bV)))\/
 (d=b/\¬(a.dst=eS/\a.bV=eS)/\¬(iF a.dst=true/\gy a.dst=eS/\0<dr a.bV/\cG b.aE c.ψ (fZ a.dst) (fl (dr a.bV)) (dr a.bV==1)=0))
def ui(h:Z)(g:Pl)(f:Nat->Option Ν)(c:HS)(i:υ)(j:Ss)(k:cp)(e:aI)(d:Z):Prop:=
 e=ξ (σ #[])/\∃b a,Α d g b a/\Ε h d f b/\pB c a i j k/\a.ο<=c.ο+100
theorem Cg(a:p.toList=[]):p=eS:=oN (by unfold same;rw[a,iy];rfl)
theorem XX(a:p.toList=[117,110,97,118,97,105,108,97,98,108,101]):p=qS:=oN (by unfold same;rw[a,iy];rfl)
theorem X'(h:¬(p=eS/\L=eS))(i:¬(p=eS/\L=qS/\f=true)):(p.toList.isEmpty=false/\¬p.toList=[])\/(p.toList=[]/\L.toList.isEmpty=false/\¬L.toList=[117,110,97,118,97,105,108,97,98,108,101])\/(p.toList=[]/\L.toList.isEmpty=false/\L.toList=[117,110,97,118,97,105,108,97,98,108,101]/\f=false):=by
 by_cases a:p.toList=[]
 .have c:=Cg a;have g:¬L.toList=[]:=λe=>h ⟨c,Cg e⟩;have d:L.toList.isEmpty=false:=by simpa using g
  by_cases b:L.toList=[117,110,97,118,97,105,108,97,98,108,101]
  .refine .inr (.inr ⟨a,d,b,?_⟩);cases j:f with
   |false=>rfl
   |true=>exact ahN ⟨c,XX b,j⟩ i
  exact .inr (.inl ⟨a,d,b⟩)
 exact .inl ⟨by simpa using a,a⟩
theorem mZ.PO{h:aY}{d:List BA}{j:List Tl}(g:mZ w n e v s z c p L h x i d j m):∃a b,x=V a d.length b:=by obtain⟨a,b,f,_⟩:=g.fp.strs;exact⟨a,b,f⟩
theorem mZ.QJ{j:aY}{h:List BA}{d:List Tl}(g:mZ w n e v s z c p L j x i h d m):∃a b,i=V a d.length b:=by obtain⟨a,b,f,_⟩:=g.ft.zT;exact⟨a,b,f⟩
theorem OE{w1:Z}{q:aY}{d:List BA}{f:List Tl}(g:mZ w n e v s z c p L q x i d f m)(o:θ n y 316 #[t,B])(a:w1.heap.size<=y/\s y=A)(l:6<=w1.heap.size)(r:y<w.heap.size):Α ((n.setCell (U y 0 A) x).setCell (U y 1 A) i) e s c/\iP ((n.setCell (U y 0 A) x).setCell (U y 1 A) i) s x d/\qD ((n.setCell (U y 0 A) x).setCell (U y 1 A) i) s i f/\θ ((n.setCell (U y 0 A) x).setCell (U y 1 A) i) y 316 #[x,i]/\Y n ((n.setCell (U y 0 A) x).setCell (U y 1 A) i) (·=y):=by have b:Y n ((n.setCell (U y 0 A) x).setCell (U y 1 A) i) (·=y):=((Y.refl n (·=y)).bC).bC;obtain⟨h,j,k⟩:=g.later a.2 (aJ l a.1) (by omega) b;exact⟨h,j,k,((o.χ 0 x).χ 1 i).to (by simp),b⟩
theorem aat{o:aY}{d:List BA}{f:List Tl}(g:mZ w G e v s z c p L o x i d f m)(a:n.heap.size<=G.heap.size/\s G.heap.size=A)(l:6<=n.heap.size):Α (G.alloc (ζ #[x,i] 316)) e s c/\iP (G.alloc (ζ #[x,i] 316)) s x d/\qD (G.alloc (ζ #[x,i] 316)) s i f/\θ (G.alloc (ζ #[x,i] 316)) G.heap.size 316 #[x,i]/\Y G (G.alloc (ζ #[x,i] 316)) (·=G.heap.size):=by have b:Y G (G.alloc (ζ #[x,i] 316)) (·=G.heap.size):=(Y.refl G (·=G.heap.size)).alloc _;obtain⟨h,j,k⟩:=g.later a.2 (aJ l a.1) (λ_=>Ο _) b;exact⟨h,j,k,θ.new G 316 #[x,i],b⟩
theorem acC(k:Α w e v z)(bA:Υ z)(d4:z.ο+100<=aL)(bx:h∈z.τ)(d8:z.ss h.2.id=N J)(d:cp)(L:ε)(d9:d.cE.size<=40)(fr:d.dst.size<=100):ν δ 171 #[Ζ e.g,Μ h.2.cells,aK d L] w (ui w e v z h.2 J d):=by
 have fi:=gm bA bx;obtain⟨cu,d6,_⟩:=bA.aR h bx;have cb:=K bA;obtain⟨he,a⟩:=h;simp only at*;have bn:=K d8;have ew:=K bx;obtain⟨ap,c,ao,av,n,B,aw,aq,an,a0,au,en⟩:=d;generalize W:(⟨ap,c,ao,av,n,B,aw,aq,an,a0,au,en⟩:cp)=d at*;have gk:=K W;have cs:d.cE=B:=by rw[<-W]
 have T:η (d.bV=c):=K (by rw[<-W]);have t:η (d.dst=n):=K (by rw[<-W]);rw[cs] at d9;rw[t.out] at fr;have c4:aK d L=Μ #[I E ap,H c,H ao,H av,H n,H B,H aw,H aq,I Λ an,I E a0,ι au,L]:=by rw[<-W];rfl
 rw[c4];have fo:=K cs;clear W c4 cs;obtain⟨fs,bk,dc,b4,c2,dg,eD⟩:=uZ k a.cells #[I E ap,H c,H ao,H av,H n,H B,H aw,H aq,I Λ an,I E a0,ι au,L];have a6:η (∀(f:Z) (v:Nat->Option Ν),Α f e v z->ν δ 245 #[Ζ e.g,Μ a.cells,Μ #[I E ap,H c,H ao,H av,H n,H B,H aw,H aq,I Λ an,I E a0,ι au,L]] f λb u=>b=ξ (σ #[])/\∃ac j,Α u e ac j/\Ε f u v ac/\ci (lH z a.id J true B) j/\j.ο<=z.ο+100):=K λf v k=>adx k cb.out d4 ew.out bn.out ⟨ap,c,ao,av,n,B,aw,aq,an,a0,au,en⟩ L d9;have a2:η (∀(f:Z) (v:Nat->Option Ν),Α f e v z->ν δ 113 #[Ζ e.g,Μ a.cells] f (lu f e v z 32)):=K λf v k=>NH k cb.out (by omega) a cu d6;unfold υ.cells at*;have c9:=K cu;clear k bA fs d8 bx cu d6;go_enter func171,ntmps171;go_wp2;generalize(w.alloc (ζ #[I E a.id,H a.ψ,H a.ah,H a.ax,I E a.Δ,I E a.aH] 42)).alloc (ζ #[I E ap,H c,H ao,H av,H n,H B,H aw,H aq,I Λ an,I E a0,ι au,L] 171)=am at*;have dk:=bk.out.aA.cell 7;have dl:=b4.out.cell 0;simp only[bg,gz_] at dk dl;have f9:∀bE,(cw 63 (ω (N e.sm)) (I E a.id) false).run δ (am.drewN bE)= .ok (Ζ J.q) (am.drewN bE):=λbE=>by have:=(bk.out.still ((Y.refl am γ).drewN bE)).jP fi;rw[bn.out] at this;exact this
 go_quiet (fail)
 obtain⟨wB,hwB⟩:∃gd,gd=am.drewN nq:=⟨_,rfl⟩;have a9:Y am wB γ:=by rw[hwB];exact(Y.refl am γ).drewN nq
 rw[<-hwB];have b8:=K (bk.out.still a9);have c3:=K (a9.blk b4.out id);have b6:=K (a9.blk c2.out id);have dd:=K (dc.out.still a9);have dp:=b6.out.cell 4;simp only[gz_] at dp;have cW:=K (J9 n wB b8.out.eE (by omega));generalize cq:fZ n=i at*;have hb:i.size<=100:=by rw[<-cq];have:=Lr n;omega
 generalize d2:gy n=bs at*;generalize d3:iF n=ch at*;have et:=K cq;have c6:=K d2;have c7:=K d3;clear cq d2 d3 f9 dk dl a9 hwB bk b4 c2 dc;go_wp2_with fail;refine cW.out.mono ?_;rintro b g ⟨rfl,a8⟩;have y:=K (b8.out.still a8);have a4:=K (dd.out.still a8);have a1:=K (a8.blk c3.out id);have bf:=K (a8.blk b6.out id);obtain⟨gf,ct⟩:=y.out.gq bn.out;have f2:=ct.blk.cell 1;have g7:=ct.blk.frozen 1;simp only[mN,gz_] at f2;obtain⟨gl,gn,go,gr,gs,gt⟩:=gS a1.out;obtain⟨gz,gB,gW,g0,g1,g2,g3,g4,g5,g6,gF,gR⟩:=yL bf.out;clear ct dp cW a8 b8 c3 b6 dd;by_cases a7:n=eS/\c=eS
 .obtain⟨F,l⟩:=a7;have F0:η (d.dst=eS/\d.bV=eS):=K ⟨t.out.trans F,T.out.trans l⟩;have e3:=K (a6.out g v y.out);unfold eS at F l;subst F l;clear a6 a2;go_wp2_with fail;refine e3.out.mono ?_;rintro b cU ⟨rfl,eg,bF,l,ba,al,bw⟩;have eT:=K (show ui w e v z a J d (ξ (σ #[])) cU from⟨rfl,eg,bF,l,a4.out.trans ba,.inl ⟨F0.out.1,F0.out.2,by rw[fo.out];exact al⟩,bw⟩);clear l ba al bw;go_wp2;go_end0
  exact eT.out
 have cf:η (¬(d.dst=eS/\d.bV=eS)):=K (by rw[t.out,T.out];exact a7);by_cases co:n=eS/\c=qS/\J.iK=true
 .obtain⟨F,l,fd⟩:=co;have F0:η (d.dst=eS/\d.bV=qS):=K ⟨t.out.trans F,T.out.trans l⟩;have es:=K (a2.out g v y.out);unfold eS at F;unfold qS at l;subst F l;clear a6 a2 a7;go_wp2_with fail;refine es.out.mono ?_;rintro b cU ⟨rfl,eg,bF,l,ba,al,bw⟩;obtain⟨gc,bz,d5⟩:=al.sT bn.out;obtain⟨cl,_⟩:=uB d5;obtain⟨f1,cn,cx⟩:=acR l bz false;rw[cl] at cn cx;have e1:=K (show ui w e v z a J d (ξ (σ #[])) (cU.setCell (U J.q 1 A) (ι false)) from⟨rfl,f1,_,cn,(a4.out.trans ba).trans cx,.inr (.inl ⟨F0.out.1,F0.out.2,fd,bF,gc,al,bz,rfl⟩),by show bF.ο<=_;omega⟩);obtain⟨gg,d7⟩:=l.gq bz;have bv:=d7.blk;rw[cl] at bv;have f3:=bv.cell 1;have g8:=bv.frozen 1;simp only[mN,gz_] at f3;clear l ba al bw bz d5 cl cn cx d7 bv;go_wp2;go_end0
  exact e1.out
 have bi:=K (X' a7 co);clear a7 co;by_cases bt:ch=true/\bs=eS/\0<dr c
 .obtain⟨e7,dm,dn⟩:=bt;subst e7;unfold eS at dm;subst dm;have F0:η (iF d.dst=true/\gy d.dst=eS/\0<dr d.bV):=K ⟨by rw[t.out];exact c7.out,by rw[t.out];exact c6.out,by rw[T.out];exact dn⟩;have G:η (dr d.bV=dr c/\fZ d.dst=i):=K ⟨by rw[T.out],by rw[t.out];exact et.out⟩;have e5:η (∀m,Y g m γ->(m.cell? (U e.g 1 A)=N (Ζ e.kb)/\m.cell? (U w.heap.size 1 A)=N (H a.ψ)/\m.cell? ⟨w.heap.size+1,1,A⟩=N (H c))):=K λm o=>⟨(y.out.still o).aA.cell 1,(o.blk a1.out id).cell 1,(o.blk bf.out id).cell 1⟩;have cg:η (∀m be bB O,Α m e bB O->Ε g m v bB->Y m be (λo=>g.heap.size<=o/\bB o=A)->(be.cell? (U e.g 1 A)=N (Ζ e.kb)/\be.cell? (U w.heap.size 1 A)=N (H a.ψ)/\be.cell? ⟨w.heap.size+1,1,A⟩=N (H c))):=K λm be bB O c5 da o=>by have hc:=a1.out.lt;have hd:=bf.out.lt;exact⟨(o.blk c5.aA (λb=>by have:=c5.jV;rw[b.2] at this;cases this)).cell 1,(o.blk (bo da a1.out dg.out).1 λb=>by have:=b.1;omega).cell 1,(o.blk (bo da bf.out eD.out).1 λb=>by have:=b.1;omega).cell 1⟩
  have c1:η (∀f,ν δ 246 #[H c] f λb u=>b=ξ (I E (dr c))/\Y f u γ):=K λf=>(Lq c f).mono λb u ⟨k,ck⟩=>⟨k,Y.of_below ck γ⟩;have c0:η (∀f,Y g f γ->ν δ 247 #[Ζ e.kb,H a.ψ,H i,I E (dr c)] f λb u=>∃cB cJ M P ac j,b=ξ (σ #[Μ #[cB,cJ],I E (cG z.aE a.ψ i (fl (dr c)) (dr c==1))])/\mZ f u e v ac z j a.ψ i (ul z a.ψ i (dr c)) cB cJ M P (cG z.aE a.ψ i (fl (dr c)) (dr c==1))):=K λf o=>UJ (y.out.still o) a.ψ i (dr c) (gH _ c9.out) (by unfold cX;omega);have ex:η (cG z.aE a.ψ i (fl (dr c)) (dr c==1)≠0->∀j,j=z->pB z j a J d):=K λk j b=> .inr (.inr (.inr ⟨b,cf.out,λ⟨_,_,_,h4⟩=>k (by rw[G.out.1,G.out.2] at h4;exact h4)⟩));have e6:η (cG z.aE a.ψ i (fl (dr c)) (dr c==1)=0->∀j,Lg z j (ul z a.ψ i (dr c))->pB z j a J d):=K λk j b=> .inr (.inr (.inl ⟨cf.out,F0.out.1,F0.out.2.1,F0.out.2.2,by rw[G.out.1,G.out.2];exact k,by rw[G.out.1,G.out.2];exact b⟩));have b0:=K (c1.out g);generalize ff:dr c=br at*;generalize cG z.aE a.ψ i (fl br) (br==1)=ds at*;generalize ul z a.ψ i br=gw at*;clear a6 a2 F0 G ff;obtain⟨p,q⟩|⟨p,q,Q⟩|⟨p,q,Q,cR⟩:=bi.out
  all_goals
   go_wp2_with fail;refine b0.out.mono ?_;rintro b bc ⟨rfl,ab⟩;have a3:=K ab;have ge:=dn;clear ab p q;go_wp2
   go_region_held3 (λm=>m.cell? (U e.g 1 A)=N (Ζ e.kb)/\m.cell? (U w.heap.size 1 A)=N (H a.ψ)/\m.cell? ⟨w.heap.size+1,1,A⟩=N (H c))
    (first|(with_reducible exact cg.out _ _ _ _ b9.out R.out (Y.refl _ _))|(with_reducible exact cg.out _ _ _ _ b9.out R.out ((Y.refl _ _).alloc _))|(with_reducible exact cg.out _ _ _ _ b9.out R.out (((Y.refl _ _).χ (p:=(U _ 0 A)) (.inl S.out) _).χ (p:=(U _ 1 A)) (.inl S.out) _))|(refine e5.out _ ?_;(with_reducible first|assumption|exact a3.out.drew|exact(a3.out.alloc _).drew|exact(by assumption:Y g _ γ).alloc _)))
    (first|(go_at_call 246;refine(c1.out _).mono ?_;rintro b bb ⟨rfl,cv⟩;(first|(have X:Y g bb γ:=a3.out.drew.trans cv Η)|(have X:Y g bb γ:=(a3.out.alloc _).drew.trans cv Η;have b5:=K (show θ bb bc.heap.size 316 #[V A 0 0,V A 0 0] from cv.blk (θ.new bc 316 #[V A 0 0,V A 0 0]).drew id);have ce:=K (show g.heap.size<=bc.heap.size from a3.out.size))))|(go_at_call 247;(first|(refine(c0.out _ X).mono ?_)|(have ea:=X;have X:=ea.alloc (ζ #[V A 0 0,V A 0 0] 316);have b5:=K (θ.new bb 316 #[V A 0 0,V A 0 0]);have ce:=K (show g.heap.size<=bb.heap.size from ea.size);refine(c0.out _ X).mono ?_));rintro b bN ⟨cB,cJ,M,P,ad,O,rfl,x⟩;obtain⟨cA,cy,fn⟩:=x.PO;obtain⟨cI,cD,fp⟩:=x.QJ;subst fn fp;have b9:=K x.bp;have R:=K ((Ε.bu v X).trans x.aW);(first|(have s:=bo x.aW b5.out (y.out.dZ ce.out);have S:=K (⟨ce.out,s.2⟩:g.heap.size<=_/\ad _=A))|(have s:=(⟨θ.new bN 316 #[V A 0 0,V A 0 0],x.bp.dZ (Ο _)⟩:θ _ _ _ _/\ad _=A);have S:=K (⟨R.out.keeps.size,s.2⟩:g.heap.size<=bN.heap.size/\ad _=A)));have r:=K x;have ec:=s.1.cell 0;have ef:=s.1.cell 1;have fE:=s.1.frozen 0;have fJ:=s.1.frozen 1;simp only[gz_] at ec ef;have eo:=K s.1;clear x s))
   all_goals
    have ha:=y.out.eE.size;have fe:=S.out.1
    (first|(have cc:=K (OE r.out eo.out S.out (by omega) (by have:=b5.out.lt;omega));generalize((bN.setCell (U _ 0 A) (V cA M.length cy)).setCell (U _ 1 A) (V cI P.length cD))=bd at*)|(have cc:=K (aat r.out S.out (by omega));generalize(bN.alloc (ζ #[V cA M.length cy,V cI P.length cD] 316))=bd at*))
    obtain⟨d1,dt,dv,b7,a5⟩:=cc.out;have c8:=K d1;have a5:=K (Ε.mk (R.out.keeps.trans a5 λo b=> .inr (by rw[b];exact fe)) R.out.fresh:Ε g bd v ad);have eq:=K dt;have er:=K dv;have ft:=b7.cell 0;have fv:=b7.cell 1;have ga:=(bo a5.out a1.out dg.out).1.cell 1;simp only[gz_] at ft fv ga;clear d1 dt dv b7 cc ec ef fE fJ
    have fm:O.ο=z.ο:=by
     by_cases e0:ds=0
     .obtain⟨_,cS,b⟩:=r.out.ok e0;rw[b];rfl
     rw[r.out.err e0]
    have bq:=K (⟨r.out.jO,r.out.jh,r.out.oC,r.out.yZ⟩:M.length<=2/\P.length<=2/\(∀em∈M,em=a.ψ\/em=i)/\∀a∈P,a.1∈us/\a.2.1∈us);by_cases e0:ds=0
    .have e4:=K (show ν δ 248 #[Ζ e.g,H a.ψ,H i,Μ #[V cA M.length cy,V cI P.length cD]] bd (lu bd e ad O 100) from by obtain⟨fg,cS,b⟩:=r.out.ok e0;exact Qp c8.out (by rw[b];exact Cp cb.out _) (by rw[fm];exact d4) a.ψ i c9.out fg eq.out er.out bq.out.1 bq.out.2.1 bq.out.2.2.1 bq.out.2.2.2);subst e0;go_wp2_with fail;refine e4.out.mono ?_;rintro b gb ⟨rfl,f0,ek,d0,eb,el,fk⟩;have C:=K (show ui w e v z a J d (ξ (σ #[])) gb from⟨rfl,f0,ek,d0,(a4.out.trans a5.out).trans eb,e6.out (by trivial) ek (by obtain⟨_,cS,b⟩:=r.out.ok rfl;exact⟨cS,by rw[<-b];exact el⟩),by omega⟩);clear d0 eb el fk;go_wp2;go_end0
     exact C.out
    .have C:=K (show ui w e v z a J d (ξ (σ #[])) bd from⟨rfl,ad,O,c8.out,a4.out.trans a5.out,ex.out e0 O (r.out.err e0),by omega⟩);go_wp2;go_end0
     exact C.out
 have C:=K (show ui w e v z a J d (ξ (σ #[])) g from⟨rfl,v,z,y.out,a4.out,.inr (.inr (.inr ⟨rfl,cf.out,λ⟨b1,b2,b3,_⟩=>bt ⟨c7.out.symm.trans (by rw[<-t.out];exact b1),c6.out.symm.trans (by rw[<-t.out];exact b2),by rw[<-T.out];exact b3⟩⟩)),by omega⟩);clear a6 a2;have b0:=K ((Lq c g).mono λb u ⟨k,ck⟩=>(⟨k,Y.of_below ck γ⟩:b=ξ (I E (dr c))/\Y g u γ));have ev:=K bt;clear bt;by_cases dx:ch=true
 .subst dx;by_cases cm:bs.toList=[]
  .have fb:η (¬0<dr c):=K λe8=>ev.out ⟨rfl,Cg cm,e8⟩;have fa:bs.toList.isEmpty=true:=by simpa using cm
   generalize dr c=br at*;obtain⟨p,q⟩|⟨p,q,Q⟩|⟨p,q,Q,cR⟩:=bi.out
   all_goals
    go_wp2_with fail;refine b0.out.mono ?_;rintro b bc ⟨rfl,ab⟩;have e2:=K (show ui w e v z a J d (ξ (σ #[])) bc from by obtain⟨f4,ac,j,f5,f6,f7,f8⟩:=C.out;exact⟨f4,ac,j,f5.still ab,f6.still ab,f7,f8⟩);have g9:=fb.out;clear ab;go_wp2;go_end0
    exact e2.out
  have fa:bs.toList.isEmpty=false:=by simpa using cm
  obtain⟨p,q⟩|⟨p,q,Q⟩|⟨p,q,Q,cR⟩:=bi.out
  all_goals
   go_wp2;go_end0
   exact C.out
 have e9:ch=false:=by simpa using dx
 subst e9;obtain⟨p,q⟩|⟨p,q,Q⟩|⟨p,q,Q,cR⟩:=bi.out
 all_goals
  go_wp2;go_end0
  exact C.out
structure eJ (s s':HS) (n:Nat):Prop where
 inv:Υ s'
 cl:s'.cl=s.cl
 Ι:s'.Ι=s.Ι
 row:∃ext,s'.row=s.row++ext
 whole:∀i,i<16->(s.Κ i).br=false->(s.Κ i).left= -1->(s'.Κ i).br=false/\(s'.Κ i).left= -1
 ο:s'.ο<=s.ο+n
theorem eJ.refl(c:Υ z)(d:Nat):eJ z z d:=⟨c,rfl,rfl,⟨[],by simp⟩,λ_ _ a b=>⟨a,b⟩,by omega⟩
theorem eJ.trans{b:HS}(d:eJ z b y)(a:eJ b c k):eJ z c (y+k) where
 inv:=a.inv
 cl:=a.cl.trans d.cl
 Ι:=a.Ι.trans d.Ι
 row:=by obtain⟨i,e⟩:=d.row;obtain⟨j,f⟩:=a.row;exact⟨i++j,by rw[f,e,vm]⟩
 whole:=λh g e f=>by obtain⟨l,m⟩:=d.whole h g e f;exact a.whole h g l m
 ο:=by have:=d.ο;have:=a.ο;omega
theorem eJ.mono(a:eJ z c y)(b:y<=k):eJ z c k:= {a with ο:=by have:=a.ο;omega}
theorem mC{n:Nat}(f:Υ z)(a:ci z c)(e:c.ο<=z.ο+n):eJ z c n:=⟨a.inv f,a.cl,a.Ι,by obtain⟨b,d,_⟩:=a.row;exact⟨b,d⟩,a.whole,e⟩
theorem Mw(b:Υ z)(a:aY):eJ z (qO z a) 0:=⟨Cp b a,rfl,rfl,⟨[],by simp[qO]⟩,λ_ _ c d=>⟨c,d⟩,Ο _⟩
theorem Mz(d:Υ z)(c:z.ss m=N J)(a:Bool)(b:p.size<=40):eJ z (lH z m J a p) 0:=⟨Cv d c a b,rfl,rfl,⟨[],by simp[lH]⟩,λ_ _ e f=>⟨e,f⟩,Ο _⟩
theorem eJ.known(a:eJ z c y)(g:bJ z m):bJ c m:=λd h b f=>by
 rw[a.cl] at b;obtain⟨i,e⟩:=a.row;obtain⟨e',h1,h2⟩|h1:=g d h b f
 .exact .inl ⟨e',by rw[e];exact qy _ h1,h2⟩
 exact .inr h1
theorem acz(b:Υ z){i:υ}(e:z.ss i.id=N J){j:cp}(g:j.cE.size<=40)(d:c.ο<=z.ο+100)(a:pB z c i J j):eJ z c 100:=by
 obtain⟨_,_,a⟩|⟨_,_,_,l,n,a,f,rfl⟩|⟨_,_,_,_,_,m,a⟩|⟨rfl,_⟩:=a
 .exact((Mz b e true g).trans (mC (n:=100) (Cv b e true g) a d)).mono (by omega)
 .have h:=a.inv b;have k:l.ο<=z.ο+100:=d;exact((mC b a k).trans (Mz h f false (h.fS _ _ f))).mono (by omega)
 .exact((Mw b _).trans (mC (n:=100) (Cp b _) a d)).mono (by omega)
 exact eJ.refl b 100
theorem Ql{a:Int->Option Ss}(c:a m=N J):aP a m (N J)=a:=by
 funext x;unfold aP;split
 .rename_i b;rw[b,c]
 rfl
def yp(h:Z)(f:Pl)(e:Nat->Option Ν)(g:HS)(c:ε->Prop)(d:aI)(b:Z):Prop:=
 (∃v,d=ξ v/\c v)/\∃a,Α b f a g/\Ε h b e a
theorem Nw(d:Α w e v z)(a:z.ss m=N J){l:List ε}{c:ε->Prop}(j:∀b,eR w J.fb J.kept J.ar J.ae b->ν δ y (Ζ J.fb::l).toArray w (Fx w J.fb J.kept J.ar J.ae b c)):ν δ y (Ζ J.fb::l).toArray w (yp w e v z c):=by obtain⟨h,g⟩:=d.gq a;refine(j h g.front).mono ?_;rintro p q ⟨hv,k,i⟩;obtain⟨o,f,n,_⟩:=rf d a g k i;refine⟨hv,o,?_,n⟩;rw[Ql a] at f;exact f
theorem Co(b:Α w e v z)(d:z.ss m=N J)(a:Int)(c:0<=a):ν δ 100 #[Ζ J.fb,I E a] w (yp w e v z Bb):=
 Nw (l:=[I E a]) b d λf hF=>Zp hF a c
theorem Wu(b:Α w e v z)(d:z.ss m=N J)(a:Int)(c:eB a):ν δ 256 #[Ζ J.fb,I Λ a] w (yp w e v z (Ba [0,10,11])):=
 Nw (l:=[I Λ a]) b d λf hF=>Yc hF a c
structure Kq (w0 w:Z) (p:Pl) (own own':Nat->Option Ν) (s:HS) (id:Int) (xs:Ss) (v:ε) (l:List BA) (k:Int) (o:Bool):Prop where
 bp:Α w p own' {s with ss:=aP s.ss id (N {xs with ae:=o})}
 aW:Ε w0 w own own'
 free:iP w own' v l
 bP:l.length<=16
 small:∀t∈l,t.size<=most
 kept:k=13->xs.kept=true
 ae:o=(xs.ae||decide (k=13))
 ar:xs.ar=true->l=[]
theorem ZB{s:Nat->Option Ν}(l:Α w e s z)(n:z.ss m=N J)(i:Bool):ν δ 257 #[Ζ J.fb,ι i] w λk p=>∃v o b Q c,k=ξ (σ #[v,I E b])/\Kq w p e s c z m J v o b Q:=by
 obtain⟨R,g⟩:=l.gq n;have f:=g.front;cases a:J.ae with
 |true=>rw[a] at f;refine(ZC f i).mono ?_;rintro k p ⟨rfl,rfl⟩;obtain⟨c,d,h,t⟩:=rf l n g g.front (Ψ.refl _ _);exact⟨V A 0 0,[],11,true,c,rfl,⟨by rw[a] at d;exact d,h,⟨⟨A,0,rfl,by simp,λ_=>rfl,nofun⟩,nofun⟩,by simp,by simp,by simp,by rw[a];rfl,λ_=>rfl⟩⟩
 |false=>rw[a] at f;refine(ZA f i).mono ?_;rintro k p ⟨v,W,b,t,rfl,y,T,C,S,G,F,x,P⟩;obtain⟨o,L,M,O,r⟩:=y.list (by omega);obtain⟨c,d,h,u⟩:=rf l n g F x;exact⟨v,o,b,(J.ae||decide (b=13)),c,by rfl,⟨by rw[a];exact d,h,pN O r λj q=>u j (.inr ((r.lt j q).1)) (P j q),by omega,M,G,rfl,λB=>kG.1 (by rw[L];exact C B)⟩⟩
def iO(i:Z)(g:Pl)(f:Nat->Option Ν)(h:HS)(e:Nat)(d:aI)(c:Z):Prop:=
 d=ξ (σ #[])/\∃a b,Α c g a b/\Ε i c f a/\eJ h b e
theorem yN(a:Υ z){pr:Nat×υ}(b:pr∈z.τ)(c:0<=pr.2.Δ):aF pr.2.Δ/\pr.2.Δ<16/\(z.Κ pr.2.Δ.toNat).op=true:=by
 obtain h|⟨h1,h2,h3⟩:=a.eC pr b
 .omega
 refine⟨⟨by omega,by omega⟩,h2,?_⟩;rw[a.open_ _ (by omega),EJ h1];exact h3
theorem MG(i:Υ z)(w:z.ο<aL)(g:aF m)(o:0<=m)(p:m<16)(q:(z.Κ m.toNat).op=true)(b t:ε):eJ z (kg z m b t) 1:=by
 have d:ci z (cF z m [gC] b):=IU g (by decide) (by intro y h;rw[cj] at h;subst h;decide) λ_=> .inr ⟨o,p,q⟩;have f:=d.inv i;refine⟨?_,d.cl,d.Ι,?_,d.whole,Ο _⟩
 .have x:(cF z m [gC] b).row.length<=2*z.ο+1:=by have:=i.rows;unfold cF;simp only[cL];split<;>simp<;>omega
  exact {f with
   rows:=by show((cF z m [gC] b).row++[(m,0)]).length<=2*(z.ο+1);simp only[cL,eI,eN];omega
   fits:=λe c=>by
    have c:e∈(cF z m [gC] b).row++[(m,0)]:=c;obtain a|a:=dO.1 c
    .exact f.fits e a
    .rw[cj] at a;subst a;exact⟨g,by show aF 0;unfold aF;decide⟩
   state:=λs r=>by obtain⟨u,j,k,l,n⟩:=f.state s r;exact⟨u,j,k,l,λa=>qy _ (n a)⟩}
 obtain⟨e,c,_⟩:=d.row;exact⟨e++[(m,0)],by show(cF z m [gC] b).row++[(m,0)]=_;rw[c,vm]⟩
theorem UH(T:Α w e v z)(f:Υ z)(aY:z.ο+100<=aL)(d:h∈z.τ)(ac:z.ss h.2.id=N J)(X:0<=h.2.Δ)(F:cp)(x:ε)(aJ:eB F.h):ν δ 176 #[Ζ e.g,Μ h.2.cells,aK F x] w (iO w e v z 100):=by
 have aE:=X;have aG:=gm f d;have j:=K f;have aV:=K (f.eC h d);have aX:=K (f.state h d);have a0:η (h.2.id=h.2.id):=K rfl;have aW:=K d;obtain⟨aT,b⟩:=h;simp only at*;have r:=K ac;have au:=K d;obtain⟨i,ap,ak,an,aj,ao,aq,al,c,ar,am,a2⟩:=F;unfold aK;simp only at*;obtain⟨aM,q,av,n,G,P,aw⟩:=uZ T b.cells #[I E i,H ap,H ak,H an,H aj,H ao,H aq,H al,I Λ c,I E ar,ι am,x];have o:=K (yN j.out (pr:=(aT,b)) au.out aE);unfold υ.cells at*;clear T f aM ac d;go_enter func176,ntmps176;go_wp2;generalize(w.alloc (ζ #[I E b.id,H b.ψ,H b.ah,H b.ax,I E b.Δ,I E b.aH] 42)).alloc (ζ #[I E i,H ap,H ak,H an,H aj,H ao,H aq,H al,I Λ c,I E ar,ι am,x] 171)=m at*;have t:η (∀a B C g,Α a e B C->C.ss b.id=N g->g.q=J.q->g.fb=J.fb->Ε m a v B->(a.cell? (U e.g 7 A)=N (ω (N e.sm))/\(cw 63 (ω (N e.sm)) (I E b.id) false).run δ a= .ok (Ζ J.q) a/\a.cell? (U J.q 0 A)=N (Ζ J.fb)/\a.cell? (U w.heap.size 0 A)=N (I E b.id)/\a.cell? (U w.heap.size 4 A)=N (I E b.Δ)/\a.cell? ⟨w.heap.size+1,0,A⟩=N (I E i)/\a.cell? ⟨w.heap.size+1,8,A⟩=N (I Λ c))):=K λa B C g p ab aa aF M=>by have R:=(bo M n.out P.out).1;have S:=(bo M G.out aw.out).1;obtain⟨aU,aI⟩:=p.gq ab;have ai:=p.jP aG;rw[ab] at ai;have af:=aI.blk.cell 0;rw[aa] at af;have ag:a.cell? (U J.q 0 A)=N (Ζ g.fb):=af;rw[aF] at ag;refine⟨p.aA.cell 7,?_,ag,R.cell 0,R.cell 4,S.cell 0,S.cell 8⟩;rw[<-aa];exact ai
 have Q:η (∀a,Y m a γ->(a.cell? (U e.g 7 A)=N (ω (N e.sm))/\(cw 63 (ω (N e.sm)) (I E b.id) false).run δ a= .ok (Ζ J.q) a/\a.cell? (U J.q 0 A)=N (Ζ J.fb)/\a.cell? (U w.heap.size 0 A)=N (I E b.id)/\a.cell? (U w.heap.size 4 A)=N (I E b.Δ)/\a.cell? ⟨w.heap.size+1,0,A⟩=N (I E i)/\a.cell? ⟨w.heap.size+1,8,A⟩=N (I Λ c))):=K λa l=>t.out a v z J (q.out.still l) r.out rfl rfl (Ε.bu v l);have L:η (∀k,Y m k γ->ν δ 256 #[Ζ J.fb,I Λ c] k (yp k e v z (Ba [0,10,11]))):=K λk l=>Wu (q.out.still l) r.out c aJ
 go_region_held3 (λa=>a.cell? (U e.g 7 A)=N (ω (N e.sm))/\(cw 63 (ω (N e.sm)) (I E b.id) false).run δ a= .ok (Ζ J.q) a/\a.cell? (U J.q 0 A)=N (Ζ J.fb)/\a.cell? (U w.heap.size 0 A)=N (I E b.id)/\a.cell? (U w.heap.size 4 A)=N (I E b.Δ)/\a.cell? ⟨w.heap.size+1,0,A⟩=N (I E i)/\a.cell? ⟨w.heap.size+1,8,A⟩=N (I Λ c))
  (first|(with_reducible exact t.out _ _ _ _ u.out r.out rfl rfl y.out)|(refine Q.out _ ?_;(with_reducible first|assumption|exact(Y.refl _ _).drew)))
  (first|(go_at_call 256;refine(L.out _ (Y.refl _ γ).drew).mono ?_;rintro aB aR ⟨⟨a1,rfl,aC,rfl,aZ⟩,aN,V,ad⟩;have u:=K V;have y:=K ((Ε.bu v (Y.refl m γ).drew).trans ad);clear V ad))
 all_goals
  have O:=K (av.out.trans y.out);have az:=(bo y.out n.out P.out).1.cell 4;simp only[gz_] at az;clear Q t L q n G;by_cases aD:aC=10
  .subst aD;have ay:=K (Af u.out j.out.room (by omega) b.Δ);go_wp2_with fail;refine ay.out.mono ?_;rintro aB aS ⟨rfl,aO,aP,aQ,W,ae⟩;have s:=K (show iO w e v z 100 (ξ (σ #[])) aS from⟨rfl,aO,_,W,O.out.trans ae,(MG j.out (by omega) o.out.1 X o.out.2.1 o.out.2.2 aP aQ).mono (by omega)⟩);clear W ae;go_wp2;go_end0
   exact s.out
  .have s:=K (show iO w e v z 100 (ξ (σ #[])) aR from⟨rfl,aN,z,u.out,O.out,eJ.refl j.out 100⟩);go_wp2;go_end0
   exact s.out
theorem L6{f:Nat->Option Ν}(ao:Α w e f z)(u:Υ z)(ba:z.ο+100<=aL)(m:h∈z.τ)(au:z.ss h.2.id=N J)(aU:0<=h.2.Δ)(ai:cp)(ad:ε)(bd:eB ai.h):ν δ 177 #[Ζ e.g,Μ h.2.cells,aK ai ad] w (iO w e f z 100):=by
 have bb:=aU;have aX:=gm u m;have g:=K u;have a7:=K (u.eC h m);have a9:=K (u.state h m);have bc:η (h.2.id=h.2.id):=K rfl;have a8:=K m;obtain⟨be,b⟩:=h;simp only at*;have Q:=K au;have aj:=K m;obtain⟨o,aG,aB,aE,az,aF,aI,aC,n,aJ,aD,bf⟩:=ai;unfold aK;simp only at*;obtain⟨aZ,P,al,p,T,X,aM⟩:=uZ ao b.cells #[I E o,H aG,H aB,H aE,H az,H aF,H aI,H aC,I Λ n,I E aJ,ι aD,ad]
 skip
 unfold υ.cells at*;clear ao u aZ au m;go_enter func177,ntmps177;go_wp2;generalize(w.alloc (ζ #[I E b.id,H b.ψ,H b.ah,H b.ax,I E b.Δ,I E b.aH] 42)).alloc (ζ #[I E o,H aG,H aB,H aE,H az,H aF,H aI,H aC,I Λ n,I E aJ,ι aD,ad] 171)=L at*;have q:η (∀a af ag M,Α a e af ag->ag.ss b.id=N M->M.q=J.q->M.fb=J.fb->Ε L a f af->(a.cell? (U e.g 7 A)=N (ω (N e.sm))/\(cw 63 (ω (N e.sm)) (I E b.id) false).run δ a= .ok (Ζ J.q) a/\a.cell? (U J.q 0 A)=N (Ζ J.fb)/\a.cell? (U w.heap.size 0 A)=N (I E b.id)/\a.cell? (U w.heap.size 4 A)=N (I E b.Δ)/\a.cell? ⟨w.heap.size+1,0,A⟩=N (I E o)/\a.cell? ⟨w.heap.size+1,8,A⟩=N (I Λ n))):=K λa af ag M V aq ap aV ak=>by have am:=(bo ak p.out X.out).1;have an:=(bo ak T.out aM.out).1;obtain⟨a6,aY⟩:=V.gq aq;have ay:=V.jP aX;rw[aq] at ay;have av:=aY.blk.cell 0;rw[ap] at av;have aw:a.cell? (U J.q 0 A)=N (Ζ M.fb):=av;rw[aV] at aw;refine⟨V.aA.cell 7,?_,aw,am.cell 0,am.cell 4,an.cell 0,an.cell 8⟩;rw[<-ap];exact ay
 have R:η (∀a,Y L a γ->(a.cell? (U e.g 7 A)=N (ω (N e.sm))/\(cw 63 (ω (N e.sm)) (I E b.id) false).run δ a= .ok (Ζ J.q) a/\a.cell? (U J.q 0 A)=N (Ζ J.fb)/\a.cell? (U w.heap.size 0 A)=N (I E b.id)/\a.cell? (U w.heap.size 4 A)=N (I E b.Δ)/\a.cell? ⟨w.heap.size+1,0,A⟩=N (I E o)/\a.cell? ⟨w.heap.size+1,8,A⟩=N (I Λ n))):=K λa d=>q.out a f z J (P.out.still d) Q.out rfl rfl (Ε.bu f d);have O:η (∀S ac,Y L S γ->ν δ 257 #[Ζ J.fb,ι ac] S λr a4=>∃v j d l a0,r=ξ (σ #[v,I E d])/\Kq S a4 e f a0 z b.id J v j d l):=K λS ac d=>ZB (P.out.still d) Q.out ac;by_cases aT:o=14
 .subst aT
  go_region_held3 (λa=>a.cell? (U e.g 7 A)=N (ω (N e.sm))/\(cw 63 (ω (N e.sm)) (I E b.id) false).run δ a= .ok (Ζ J.q) a/\a.cell? (U J.q 0 A)=N (Ζ J.fb)/\a.cell? (U w.heap.size 0 A)=N (I E b.id)/\a.cell? (U w.heap.size 4 A)=N (I E b.Δ)/\a.cell? ⟨w.heap.size+1,0,A⟩=N (I E 14)/\a.cell? ⟨w.heap.size+1,8,A⟩=N (I Λ n))
   (first|(with_reducible exact q.out _ _ _ _ c.out.bp (bI _ _ _) rfl rfl k.out)|(refine R.out _ ?_;(with_reducible first|assumption|exact(Y.refl _ _).drew)))
   (first|(go_at_call 257;refine(O.out _ _ (Y.refl _ γ).drew).mono ?_;rintro r a5 ⟨v,j,d,l,a1,rfl,i⟩;have c:=K i;have k:=K ((Ε.bu f (Y.refl L γ).drew).trans i.aW);clear i))
  all_goals
   have W:=K (al.out.trans k.out);obtain⟨aN,aO,aP,aQ,aR,aS⟩:=gS (bo k.out p.out X.out).1;have ab:=K (IM c.out.bp ⟨g.out.iu,g.out.rows⟩ (by show z.ο<aL;omega) b c.out.free c.out.bP c.out.small d);obtain⟨a3,a2,hv,_⟩:=c.out.free.strs;subst hv;unfold υ.cells at*;clear R q O P p T;go_wp2_with fail;refine ab.out.mono ?_;rintro r G ⟨rfl,y,B,C,t,x⟩;have s:Α G e y (lF z b.id J l b j d B C):=t.more (n:=z.ο+2) (by unfold mM cF;split<;>exact cV _);have F:ci z (lF z b.id J l b j d B C):=IQ g.out aj.out rfl Q.out c.out.bP c.out.small c.out.kept c.out.ae c.out.ar;have aa:=K (show iO w e f z 100 (ξ (σ #[])) G from⟨rfl,y,_,s,W.out.trans x,mC g.out F (by show z.ο+2<=_;omega)⟩);clear t x s F;go_wp2;go_end0
   exact aa.out
 skip
 go_region_held3 (λa=>a.cell? (U e.g 7 A)=N (ω (N e.sm))/\(cw 63 (ω (N e.sm)) (I E b.id) false).run δ a= .ok (Ζ J.q) a/\a.cell? (U J.q 0 A)=N (Ζ J.fb)/\a.cell? (U w.heap.size 0 A)=N (I E b.id)/\a.cell? (U w.heap.size 4 A)=N (I E b.Δ)/\a.cell? ⟨w.heap.size+1,0,A⟩=N (I E o)/\a.cell? ⟨w.heap.size+1,8,A⟩=N (I Λ n))
  (first|(with_reducible exact q.out _ _ _ _ c.out.bp (bI _ _ _) rfl rfl k.out)|(refine R.out _ ?_;(with_reducible first|assumption|exact(Y.refl _ _).drew)))
  (first|(go_at_call 257;refine(O.out _ _ (Y.refl _ γ).drew).mono ?_;rintro r a5 ⟨v,j,d,l,a1,rfl,i⟩;have c:=K i;have k:=K ((Ε.bu f (Y.refl L γ).drew).trans i.aW);clear i))
 all_goals
  have W:=K (al.out.trans k.out);obtain⟨aN,aO,aP,aQ,aR,aS⟩:=gS (bo k.out p.out X.out).1;have ab:=K (IM c.out.bp ⟨g.out.iu,g.out.rows⟩ (by show z.ο<aL;omega) b c.out.free c.out.bP c.out.small d);obtain⟨a3,a2,hv,_⟩:=c.out.free.strs;subst hv;unfold υ.cells at*;clear R q O P p T;go_wp2_with fail;refine ab.out.mono ?_;rintro r G ⟨rfl,y,B,C,t,x⟩;have s:Α G e y (lF z b.id J l b j d B C):=t.more (n:=z.ο+2) (by unfold mM cF;split<;>exact cV _);have F:ci z (lF z b.id J l b j d B C):=IQ g.out aj.out rfl Q.out c.out.bP c.out.small c.out.kept c.out.ae c.out.ar;have aa:=K (show iO w e f z 100 (ξ (σ #[])) G from⟨rfl,y,_,s,W.out.trans x,mC g.out F (by show z.ο+2<=_;omega)⟩);clear t x s F;go_wp2;go_end0
  exact aa.out
theorem G9(h:Α w e v z)(c:BA):iP (w.alloc (ζ #[H c] 9)) v (V (N (U w.heap.size 0 A)) 1 1) [c]:=by
 have d:=θ.new w 9 #[H c];refine⟨⟨_,1,rfl,xY rfl,nofun,λk b=> ?_⟩,λf i=> ?_⟩
 .injection b with b;subst b;refine⟨rfl,λj z a=> ?_⟩;match j,a with
  |0,a=>simp at a;subst a;exact d.cell 0
 have g:w.heap.size=f:=cr i;subst g;exact⟨h.dZ (Ο _),d.lt⟩
theorem IF(f:Α w e v z)(t:Υ z)(o:z.ο<aL)(q:aF m)(l:0<=m)(n:m<16)(r:(z.Κ m.toNat).op=true)(s:p.size<=most):ν δ 66 #[Ζ e.g,I E m,V (N (U w.heap.size 0 A)) 1 1] (w.alloc (ζ #[H p] 9)) λd c=>d=ξ (σ #[])/\∃a b,Α c e a b/\Ε w c v a/\ci z b/\b.ο<=z.ο+1:=by
 have i:Y w (w.alloc (ζ #[H p] 9)) γ:=(Y.refl w γ).alloc _;have g:∀j∈[p],j.size<=most:=by intro j h;rw[cj] at h;subst h;exact s
 refine(Ea (f.still i) t.room o m (G9 f p) (xY rfl) g).mono ?_;rintro d c ⟨rfl,a,x,k,u⟩;exact⟨rfl,a,_,k,(Ε.bu v i).trans u,IU q (xY rfl) g λ_=> .inr ⟨l,n,r⟩,Ο _⟩
theorem UR(t:Α w e v z)(j:Υ z)(aM:z.ο+100<=aL)(f:h∈z.τ)(y:z.ss h.2.id=N J)(x:0<=h.2.Δ)(q:cp)(o:ε)(aQ:eB q.h):ν δ 178 #[Ζ e.g,Μ h.2.cells,aK q o] w (iO w e v z 100):=by
 have ap:=x;have aN:=gm j f;have n:=K j;have aE:=K (j.eC h f);have aJ:=K (j.state h f);have aP:η (h.2.id=h.2.id):=K rfl;have aF:=K f;obtain⟨aC,a⟩:=h;simp only at*;have aG:=K y;have ad:=K f;obtain⟨R,aa,Q,W,O,X,ab,S,P,ac,T,aS⟩:=q;unfold aK;simp only at*;obtain⟨au,s,af,r,aD,ag,aI⟩:=uZ t a.cells #[I E R,H aa,H Q,H W,H O,H X,H ab,H S,I Λ P,I E ac,ι T,o];have m:=K (yN n.out (pr:=(aC,a)) ad.out ap);unfold υ.cells at*;clear t j au y f;go_enter func178,ntmps178;go_wp2;generalize(w.alloc (ζ #[I E a.id,H a.ψ,H a.ah,H a.ax,I E a.Δ,I E a.aH] 42)).alloc (ζ #[I E R,H aa,H Q,H W,H O,H X,H ab,H S,I Λ P,I E ac,ι T,o] 171)=d at*;have al:η (∀c,Y d c γ->c.cell? (U w.heap.size 4 A)=N (I E a.Δ)):=K λc k=>(k.blk r.out id).cell 4;have am:η (∀c L,Ε d c v L->c.cell? (U w.heap.size 4 A)=N (I E a.Δ)):=K λc L ae=>(bo ae r.out ag.out).1.cell 4;have an:η (∀b,Y d b γ->ν δ 164 #[Μ #[I E 12,H (D #[]),H (D #[]),H (D #[]),H (D #[]),H (D #[]),H (D #[]),H (D #[]),I Λ 0,I E 0,ι false,V A 0 0]] b λi l=>(∃g:BA,i=ξ (H g)/\g.size<=most)/\Y b l γ):=K λb k=>oR (z:=⟨12,(D #[]),(D #[]),(D #[]),(D #[]),(D #[]),(D #[]),(D #[]),0,0,false,[]⟩) ⟨e0,e0,e0,e0,e0,e0,e0,mP,ai _,nofun⟩ (aZ.nil b) (s.out.eE.still k);have ak:η (∀b,Y d b γ->∀g:BA,g.size<=most->ν δ 66 #[Ζ e.g,I E a.Δ,V (N (U b.heap.size 0 A)) 1 1] (b.alloc (ζ #[H g] 9)) λi l=>i=ξ (σ #[])/\∃G p,Α l e G p/\Ε b l v G/\ci z p/\p.ο<=z.ο+1):=K λb k g aq=>IF (s.out.still k) n.out (by omega) m.out.1 x m.out.2.1 m.out.2.2 aq
 go_region_held3 (λc=>c.cell? (U w.heap.size 4 A)=N (I E a.Δ))
  (first|(with_reducible exact am.out _ _ C.out)|(refine al.out _ ?_;(with_reducible first|assumption|exact(Y.refl _ _).drew|exact(by assumption:Y d _ γ).alloc _)))
  (first|(go_at_call 164;refine(an.out _ (Y.refl d γ).drew).mono ?_;rintro i aA ⟨⟨aR,rfl,ar⟩,av⟩;have B:Y d aA γ:=(Y.refl d γ).drew.trans av Η)|(go_at_call 66;refine(ak.out _ B _ ar).mono ?_;rintro i aB ⟨rfl,aw,ay,u,F,M,aO⟩;have ao:=K u;have C:=K ((Ε.bu v B).trans F);have az:=K M;clear u F M))
 all_goals
  have aj:=K (show iO w e v z 100 (ξ (σ #[])) aB from⟨rfl,aw,ay,ao.out,af.out.trans C.out,mC n.out az.out (by omega)⟩);go_wp2;go_end0
  exact aj.out
theorem Vf(M:Α w e v z)(j:Υ z)(bk:z.ο+100<=aL)(d:h∈z.τ)(P:z.ss h.2.id=N J)(av:0<=h.2.Δ)(T:cp)(u:ε)(bn:eB T.h):ν δ 175 #[Ζ e.g,Μ h.2.cells,aK T u] w (iO w e v z 100):=by
 have a2:=av;have a5:=gm j d;have t:=K j;have bg:=K (j.eC h d);have bi:=K (j.state h d);have bm:η (h.2.id=h.2.id):=K rfl;have bh:=K d;obtain⟨be,b⟩:=h;simp only at*;have g:=K P;have aR:=K d;obtain⟨n,ae,X,ac,W,ad,af,aa,m,ag,ab,bt⟩:=T;unfold aK;simp only at*;obtain⟨aC,L,ak,aO,aP,aS,aU⟩:=uZ M b.cells #[I E n,H ae,H X,H ac,H W,H ad,H af,H aa,I Λ m,I E ag,ι ab,u];have G:=K (yN t.out (pr:=(be,b)) aR.out a2);by_cases ay:b.ax.toList=[]
 .have a9:b.ax.toList.isEmpty=true:=by simpa using ay
  unfold υ.cells at*;clear M j aC P d;go_enter func175,ntmps175;have aW:=K (show iO w e v z 100 (ξ (σ #[])) _ from⟨rfl,v,z,L.out,ak.out,eJ.refl t.out 100⟩);go_wp2;generalize(w.alloc (ζ #[I E b.id,H b.ψ,H b.ah,H b.ax,I E b.Δ,I E b.aH] 42)).alloc (ζ #[I E n,H ae,H X,H ac,H W,H ad,H af,H aa,I Λ m,I E ag,ι ab,u] 171)=r at*;go_end0
  exact aW.out
 have a9:b.ax.toList.isEmpty=false:=by simpa using ay
 unfold υ.cells at*;clear M j aC P d;go_enter func175,ntmps175
 skip
 go_wp2;generalize(w.alloc (ζ #[I E b.id,H b.ψ,H b.ah,H b.ax,I E b.Δ,I E b.aH] 42)).alloc (ζ #[I E n,H ae,H X,H ac,H W,H ad,H af,H aa,I Λ m,I E ag,ι ab,u] 171)=r at*;have p:η (∀a Q f s,Α a e Q f->f.ss b.id=N s->s.q=J.q->s.fb=J.fb->Ε r a v Q->(a.cell? (U e.g 7 A)=N (ω (N e.sm))/\(cw 63 (ω (N e.sm)) (I E b.id) false).run δ a= .ok (Ζ J.q) a/\a.cell? (U J.q 0 A)=N (Ζ J.fb)/\a.cell? (U w.heap.size 0 A)=N (I E b.id)/\a.cell? (U w.heap.size 4 A)=N (I E b.Δ)/\a.cell? ⟨w.heap.size+1,0,A⟩=N (I E n)/\a.cell? ⟨w.heap.size+1,8,A⟩=N (I Λ m))):=K λa Q f s o az aw a4 aj=>by have al:=(bo aj aO.out aS.out).1;have am:=(bo aj aP.out aU.out).1;obtain⟨bf,a7⟩:=o.gq az;have aM:=o.jP a5;rw[az] at aM;have aI:=a7.blk.cell 0;rw[aw] at aI;have aJ:a.cell? (U J.q 0 A)=N (Ζ s.fb):=aI;rw[a4] at aJ;refine⟨o.aA.cell 7,?_,aJ,al.cell 0,al.cell 4,am.cell 0,am.cell 8⟩;rw[<-aw];exact aM
 have aY:η (∀a,Y r a γ->(a.cell? (U e.g 7 A)=N (ω (N e.sm))/\(cw 63 (ω (N e.sm)) (I E b.id) false).run δ a= .ok (Ζ J.q) a/\a.cell? (U J.q 0 A)=N (Ζ J.fb)/\a.cell? (U w.heap.size 0 A)=N (I E b.id)/\a.cell? (U w.heap.size 4 A)=N (I E b.Δ)/\a.cell? ⟨w.heap.size+1,0,A⟩=N (I E n)/\a.cell? ⟨w.heap.size+1,8,A⟩=N (I Λ m))):=K λa x=>p.out a v z J (L.out.still x) g.out rfl rfl (Ε.bu v x);have a0:η (∀c,aT c->∀B,eB B->ν δ 164 #[Μ #[I E 9,H (D #[]),H (D #[]),H (D #[]),H (D #[]),H (D #[]),H (D #[]),H (D #[]),I Λ B,I E 0,ι false,V A 0 0]] c λi F=>(∃l:BA,i=ξ (H l)/\l.size<=most)/\Y c F γ):=K λc a1 B a6=>oR (z:=⟨9,(D #[]),(D #[]),(D #[]),(D #[]),(D #[]),(D #[]),(D #[]),B,0,false,[]⟩) ⟨e0,e0,e0,e0,e0,e0,e0,a6,ai _,nofun⟩ (aZ.nil c) a1;have aX:η (∀c C,Α c e C z->∀l:BA,l.size<=most->ν δ 66 #[Ζ e.g,I E b.Δ,V (N (U c.heap.size 0 A)) 1 1] (c.alloc (ζ #[H l] 9)) λi F=>i=ξ (σ #[])/\∃aG f,Α F e aG f/\Ε c F C aG/\ci z f/\f.ο<=z.ο+1):=K λc C o l a8=>IF o t.out (by omega) G.out.1 av G.out.2.1 G.out.2.2 a8;have aQ:η (∀c,Y r c γ->ν δ 100 #[Ζ J.fb,I E 0] c (yp c e v z Bb)):=K λc x=>Co (L.out.still x) g.out 0 (by decide)
 go_region_held3 (λa=>a.cell? (U e.g 7 A)=N (ω (N e.sm))/\(cw 63 (ω (N e.sm)) (I E b.id) false).run δ a= .ok (Ζ J.q) a/\a.cell? (U J.q 0 A)=N (Ζ J.fb)/\a.cell? (U w.heap.size 0 A)=N (I E b.id)/\a.cell? (U w.heap.size 4 A)=N (I E b.Δ)/\a.cell? ⟨w.heap.size+1,0,A⟩=N (I E n)/\a.cell? ⟨w.heap.size+1,8,A⟩=N (I Λ m))
  (first|(with_reducible exact p.out _ _ _ _ ar.out O.out.1 O.out.2.1 O.out.2.2 aE.out)|(with_reducible exact p.out _ _ _ _ (q.out.still k) g.out rfl rfl (y.out.still k))|(with_reducible exact p.out _ _ _ _ (q.out.still (k.alloc _)) g.out rfl rfl (y.out.still (k.alloc _)))|(with_reducible exact p.out _ _ _ _ q.out g.out rfl rfl y.out)|(refine aY.out _ ?_;(with_reducible first|assumption|exact(Y.refl _ _).drew)))
  (first|(go_at_call 100;refine(aQ.out _ (Y.refl _ γ).drew).mono ?_;rintro i br ⟨⟨bq,rfl,bj,rfl,a3⟩,C,ap,aD⟩;have q:=K ap;have y:=K ((Ε.bu v (Y.refl r γ).drew).trans aD);clear ap aD)|(go_at_call 164;refine(a0.out _ q.out.eE _ a3).mono ?_;rintro i bs ⟨⟨bp,rfl,ba⟩,k⟩)|(go_at_call 66;refine(aX.out _ _ (q.out.still k) _ ba).mono ?_;rintro i bd ⟨rfl,bb,aN,aq,aF,R,bl⟩;have ar:=K aq;have aE:=K ((y.out.still k).trans aF);obtain⟨S,aB,au⟩:=R.sT g.out;obtain⟨ao,an,_⟩:=uB au;have O:=K (⟨aB,ao,an⟩:aN.ss b.id=N S/\S.q=J.q/\S.fb=J.fb);have bc:=K R;clear aq aF R ao an au aB))
 all_goals
  have aV:=K (show iO w e v z 100 (ξ (σ #[])) bd from⟨rfl,bb,aN,ar.out,ak.out.trans aE.out,mC t.out bc.out (by omega)⟩);go_wp2;go_end0
  exact aV.out
theorem Ox(a:p∈us):mE p=true:=by unfold mE;rw[tL];exact⟨p,a,by simp⟩
theorem YL{m:Nat->Option Ν}(a1:Α w e m z)(aD:Υ z)(bt:z.ο+200<=aL)(al:h∈z.τ)(a4:z.ss h.2.id=N J)(aT:cp)(aF:ε)(a5:aT.id.size<=100):ν δ 172 #[Ζ e.g,Μ h.2.cells,aK aT aF] w (iO w e m z 200):=by
 have a2:=gm aD al;have T:=K aD;have bv:η (h.2.id=h.2.id):=K rfl;have bq:=K al;obtain⟨bp,c⟩:=h;simp only at*;have br:=K a4;have bg:=K al;obtain⟨a9,be,g,bc,a7,bd,bf,ba,a8,aj,bb,bA⟩:=aT;unfold aK;simp only at*;obtain⟨bm,R,aX,am,aU,a0,bs⟩:=uZ a1 c.cells #[I E a9,H be,H g,H bc,H a7,H bd,H bf,H ba,I Λ a8,I E aj,ι bb,aF];have aV:=K (T.out.aR (bp,c) bg.out).1;unfold υ.cells at*;clear a1 aD bm a4 al;go_enter func172,ntmps172;go_wp2;generalize(w.alloc (ζ #[I E c.id,H c.ψ,H c.ah,H c.ax,I E c.Δ,I E c.aH] 42)).alloc (ζ #[I E a9,H be,H g,H bc,H a7,H bd,H bf,H ba,I Λ a8,I E aj,ι bb,aF] 171)=ag at*;have aW:=K λd (f:Y ag d γ)=>FH ((R.out.still f).part .aE) (gH _ aV.out) (Ox aV.out);have bz:=CJ z.aE c.ψ;have bk:=K (Of (R.out.part .aE) c.ψ);have O:η (∀a,Y ag a γ->(a.cell? (U e.g 1 A)=N (Ζ e.kb)/\a.cell? (U w.heap.size 1 A)=N (H c.ψ))):=K λa f=>⟨(R.out.still f).aA.cell 1,(f.blk am.out id).cell 1⟩;generalize aM z.aE c.ψ=k at*;generalize z.aE.bl c.ψ=l at*
 go_region_held3 (λa=>a.cell? (U e.g 1 A)=N (Ζ e.kb)/\a.cell? (U w.heap.size 1 A)=N (H c.ψ))
  (first|(refine O.out _ ?_;(with_reducible first|assumption|exact(Y.refl _ _).drew)))
  (first|(go_at_call 16;refine(aW.out _ (Y.refl ag γ).drew).mono ?_;rintro r b ⟨v,rfl,aI,a6⟩;have aa:Y ag b γ:=(Y.refl ag γ).drew.trans a6 Η;obtain⟨q,p,hv⟩:=cC aI;subst hv;have bh:=K aI;clear aI a6))
 all_goals
  have ak:=K (R.out.still aa);have aY:=K (aX.out.still aa);have an:=K (aa.blk am.out id);have ao:=K (aa.blk aU.out id);have n:=ao.out.cell 2;have o:=ao.out.cell 9;simp only[gz_] at n o;have bw:=an.out.lt;have bx:=ao.out.lt;clear O aW R aX am aU aa;by_cases a3:aj=l
  .have bj:(aj !=l)=false:=by simpa using a3
   have s:Y b (b.alloc (ζ #[I E 4,H (D #[]),H g,H (D #[]),H (D #[]),H (D #[]),H (D #[]),H (D #[]),I Λ 0,I E 0,ι false,V A 0 0] 171)) γ:=(Y.refl b γ).alloc _;have S:=K (ak.out.still s);have ar:=K (aY.out.still s);have P:=K (s.blk an.out id);have Q:=K (θ.new b 171 #[I E 4,H (D #[]),H g,H (D #[]),H (D #[]),H (D #[]),H (D #[]),H (D #[]),I Λ 0,I E 0,ι false,V A 0 0]);have au:=K (ak.out.dZ (Ο b.heap.size));have aq:=K (show aZ (b.alloc (ζ #[I E 4,H (D #[]),H g,H (D #[]),H (D #[]),H (D #[]),H (D #[]),H (D #[]),I Λ 0,I E 0,ι false,V A 0 0] 171)) (V A 0 0) [] from aZ.nil _);go_wp2_with fail;generalize b.alloc (ζ #[I E 4,H (D #[]),H g,H (D #[]),H (D #[]),H (D #[]),H (D #[]),H (D #[]),I Λ 0,I E 0,ι false,V A 0 0] 171)=j at*;have O:η (∀a,Y j a γ->(a.cell? (U b.heap.size 0 A)=N (I E 4)/\a.cell? (U b.heap.size 1 A)=N (H (D #[]))/\a.cell? (U b.heap.size 2 A)=N (H g)/\a.cell? (U b.heap.size 3 A)=N (H (D #[]))/\a.cell? (U b.heap.size 4 A)=N (H (D #[]))/\a.cell? (U b.heap.size 5 A)=N (H (D #[]))/\a.cell? (U b.heap.size 6 A)=N (H (D #[]))/\a.cell? (U b.heap.size 7 A)=N (H (D #[]))/\a.cell? (U b.heap.size 8 A)=N (I Λ 0)/\a.cell? (U b.heap.size 9 A)=N (I E 0)/\a.cell? (U b.heap.size 10 A)=N (ι false)/\a.cell? (U b.heap.size 11 A)=N (V A 0 0)/\a.cell? (U w.heap.size 0 A)=N (I E c.id))):=K λa f=>by obtain⟨t,u,n,B,C,F,G,L,M,o,x,y⟩:=yL (f.blk Q.out id);exact⟨t,u,n,B,C,F,G,L,M,o,x,y,(f.blk P.out id).cell 0⟩
   have aw:η (∀a ae,Ε j a m ae->(a.cell? (U b.heap.size 0 A)=N (I E 4)/\a.cell? (U b.heap.size 1 A)=N (H (D #[]))/\a.cell? (U b.heap.size 2 A)=N (H g)/\a.cell? (U b.heap.size 3 A)=N (H (D #[]))/\a.cell? (U b.heap.size 4 A)=N (H (D #[]))/\a.cell? (U b.heap.size 5 A)=N (H (D #[]))/\a.cell? (U b.heap.size 6 A)=N (H (D #[]))/\a.cell? (U b.heap.size 7 A)=N (H (D #[]))/\a.cell? (U b.heap.size 8 A)=N (I Λ 0)/\a.cell? (U b.heap.size 9 A)=N (I E 0)/\a.cell? (U b.heap.size 10 A)=N (ι false)/\a.cell? (U b.heap.size 11 A)=N (V A 0 0)/\a.cell? (U w.heap.size 0 A)=N (I E c.id))):=K λa ae W=>by obtain⟨t,u,n,B,C,F,G,L,M,o,x,y⟩:=yL (bo W Q.out au.out).1;exact⟨t,u,n,B,C,F,G,L,M,o,x,y,(bo W P.out a0.out).1.cell 0⟩
   have ay:η (∀d,Y j d γ->ν δ 164 #[Μ #[I E 4,H (D #[]),H g,H (D #[]),H (D #[]),H (D #[]),H (D #[]),H (D #[]),I Λ 0,I E 0,ι false,V A 0 0]] d λr aP=>(∃i:BA,r=ξ (H i)/\i.size<=most)/\Y d aP γ):=K λd f=>oR (z:=⟨4,(D #[]),g,(D #[]),(D #[]),(D #[]),(D #[]),(D #[]),0,0,false,[]⟩) ⟨e0,a5,e0,e0,e0,e0,e0,mP,ai _,nofun⟩ (aq.out.keeps f) (S.out.eE.still f);have ap:η (∀d,Y j d γ->∀i:BA,i.size<=most->ν δ 249 #[Ζ e.g,I E c.id,H (D #[]),H i,ι false] d (lu d e m z 2)):=K λd f i aB=>sy (S.out.still f) T.out (by omega) c.id a2 ⟨#[]⟩ i (ai _) aB false;go_region_held3 (λa=>a.cell? (U b.heap.size 0 A)=N (I E 4)/\a.cell? (U b.heap.size 1 A)=N (H (D #[]))/\a.cell? (U b.heap.size 2 A)=N (H g)/\a.cell? (U b.heap.size 3 A)=N (H (D #[]))/\a.cell? (U b.heap.size 4 A)=N (H (D #[]))/\a.cell? (U b.heap.size 5 A)=N (H (D #[]))/\a.cell? (U b.heap.size 6 A)=N (H (D #[]))/\a.cell? (U b.heap.size 7 A)=N (H (D #[]))/\a.cell? (U b.heap.size 8 A)=N (I Λ 0)/\a.cell? (U b.heap.size 9 A)=N (I E 0)/\a.cell? (U b.heap.size 10 A)=N (ι false)/\a.cell? (U b.heap.size 11 A)=N (V A 0 0)/\a.cell? (U w.heap.size 0 A)=N (I E c.id)) (first|(with_reducible exact aw.out _ _ ac.out)|(refine O.out _ ?_;(with_reducible first|assumption|exact(Y.refl _ _).drew))) (first|(go_at_call 164;refine(ay.out _ (Y.refl j γ).drew).mono ?_;rintro r aQ ⟨⟨bn,rfl,aC⟩,aG⟩;have ab:Y j aQ γ:=(Y.refl j γ).drew.trans aG Η)|(go_at_call 249;refine(ap.out _ ab _ aC).mono ?_;rintro r aS ⟨rfl,aJ,aN,X,ad,af,bi⟩;have az:=K X;have ac:=K ((Ε.bu m ab).trans ad);have aO:=K af;clear X ad af))
   all_goals
    have av:=K (show iO w e m z 200 (ξ (σ #[])) aS from⟨rfl,aJ,aN,az.out,ar.out.trans ac.out,mC T.out aO.out (by omega)⟩);go_wp2;go_end0
    exact av.out
  .have bj:(aj !=l)=true:=by simpa using a3
   have s:Y b (b.alloc (ζ #[I E 4,H (D #[]),H g,H (D #[]),H (D #[]),H (D #[]),H (D #[]),H (D #[]),I Λ 0,I E l,ι false,V q k.length p] 171)) γ:=(Y.refl b γ).alloc _;have S:=K (ak.out.still s);have ar:=K (aY.out.still s);have P:=K (s.blk an.out id);have Q:=K (θ.new b 171 #[I E 4,H (D #[]),H g,H (D #[]),H (D #[]),H (D #[]),H (D #[]),H (D #[]),I Λ 0,I E l,ι false,V q k.length p]);have au:=K (ak.out.dZ (Ο b.heap.size));have aq:=K (show aZ (b.alloc (ζ #[I E 4,H (D #[]),H g,H (D #[]),H (D #[]),H (D #[]),H (D #[]),H (D #[]),I Λ 0,I E l,ι false,V q k.length p] 171)) (V q k.length p) k from(aZ.dw bh.out (by omega)).keeps s);go_wp2_with fail;generalize b.alloc (ζ #[I E 4,H (D #[]),H g,H (D #[]),H (D #[]),H (D #[]),H (D #[]),H (D #[]),I Λ 0,I E l,ι false,V q k.length p] 171)=j at*;have O:η (∀a,Y j a γ->(a.cell? (U b.heap.size 0 A)=N (I E 4)/\a.cell? (U b.heap.size 1 A)=N (H (D #[]))/\a.cell? (U b.heap.size 2 A)=N (H g)/\a.cell? (U b.heap.size 3 A)=N (H (D #[]))/\a.cell? (U b.heap.size 4 A)=N (H (D #[]))/\a.cell? (U b.heap.size 5 A)=N (H (D #[]))/\a.cell? (U b.heap.size 6 A)=N (H (D #[]))/\a.cell? (U b.heap.size 7 A)=N (H (D #[]))/\a.cell? (U b.heap.size 8 A)=N (I Λ 0)/\a.cell? (U b.heap.size 9 A)=N (I E l)/\a.cell? (U b.heap.size 10 A)=N (ι false)/\a.cell? (U b.heap.size 11 A)=N (V q k.length p)/\a.cell? (U w.heap.size 0 A)=N (I E c.id))):=K λa f=>by obtain⟨t,u,n,B,C,F,G,L,M,o,x,y⟩:=yL (f.blk Q.out id);exact⟨t,u,n,B,C,F,G,L,M,o,x,y,(f.blk P.out id).cell 0⟩
   have aw:η (∀a ae,Ε j a m ae->(a.cell? (U b.heap.size 0 A)=N (I E 4)/\a.cell? (U b.heap.size 1 A)=N (H (D #[]))/\a.cell? (U b.heap.size 2 A)=N (H g)/\a.cell? (U b.heap.size 3 A)=N (H (D #[]))/\a.cell? (U b.heap.size 4 A)=N (H (D #[]))/\a.cell? (U b.heap.size 5 A)=N (H (D #[]))/\a.cell? (U b.heap.size 6 A)=N (H (D #[]))/\a.cell? (U b.heap.size 7 A)=N (H (D #[]))/\a.cell? (U b.heap.size 8 A)=N (I Λ 0)/\a.cell? (U b.heap.size 9 A)=N (I E l)/\a.cell? (U b.heap.size 10 A)=N (ι false)/\a.cell? (U b.heap.size 11 A)=N (V q k.length p)/\a.cell? (U w.heap.size 0 A)=N (I E c.id))):=K λa ae W=>by obtain⟨t,u,n,B,C,F,G,L,M,o,x,y⟩:=yL (bo W Q.out au.out).1;exact⟨t,u,n,B,C,F,G,L,M,o,x,y,(bo W P.out a0.out).1.cell 0⟩
   have ay:η (∀d,Y j d γ->ν δ 164 #[Μ #[I E 4,H (D #[]),H g,H (D #[]),H (D #[]),H (D #[]),H (D #[]),H (D #[]),I Λ 0,I E l,ι false,V q k.length p]] d λr aP=>(∃i:BA,r=ξ (H i)/\i.size<=most)/\Y d aP γ):=K λd f=>oR (z:=⟨4,(D #[]),g,(D #[]),(D #[]),(D #[]),(D #[]),(D #[]),0,l,false,k⟩) ⟨e0,a5,e0,e0,e0,e0,e0,mP,by show k.length<=16;omega,bk.out⟩ (aq.out.keeps f) (S.out.eE.still f);have ap:η (∀d,Y j d γ->∀i:BA,i.size<=most->ν δ 249 #[Ζ e.g,I E c.id,H (D #[]),H i,ι false] d (lu d e m z 2)):=K λd f i aB=>sy (S.out.still f) T.out (by omega) c.id a2 ⟨#[]⟩ i (ai _) aB false;go_region_held3 (λa=>a.cell? (U b.heap.size 0 A)=N (I E 4)/\a.cell? (U b.heap.size 1 A)=N (H (D #[]))/\a.cell? (U b.heap.size 2 A)=N (H g)/\a.cell? (U b.heap.size 3 A)=N (H (D #[]))/\a.cell? (U b.heap.size 4 A)=N (H (D #[]))/\a.cell? (U b.heap.size 5 A)=N (H (D #[]))/\a.cell? (U b.heap.size 6 A)=N (H (D #[]))/\a.cell? (U b.heap.size 7 A)=N (H (D #[]))/\a.cell? (U b.heap.size 8 A)=N (I Λ 0)/\a.cell? (U b.heap.size 9 A)=N (I E l)/\a.cell? (U b.heap.size 10 A)=N (ι false)/\a.cell? (U b.heap.size 11 A)=N (V q k.length p)/\a.cell? (U w.heap.size 0 A)=N (I E c.id)) (first|(with_reducible exact aw.out _ _ ac.out)|(refine O.out _ ?_;(with_reducible first|assumption|exact(Y.refl _ _).drew))) (first|(go_at_call 164;refine(ay.out _ (Y.refl j γ).drew).mono ?_;rintro r aQ ⟨⟨bn,rfl,aC⟩,aG⟩;have ab:Y j aQ γ:=(Y.refl j γ).drew.trans aG Η)|(go_at_call 249;refine(ap.out _ ab _ aC).mono ?_;rintro r aS ⟨rfl,aJ,aN,X,ad,af,bi⟩;have az:=K X;have ac:=K ((Ε.bu m ab).trans ad);have aO:=K af;clear X ad af))
   all_goals
    have av:=K (show iO w e m z 200 (ξ (σ #[])) aS from⟨rfl,aJ,aN,az.out,ar.out.trans ac.out,mC T.out aO.out (by omega)⟩);go_wp2;go_end0
    exact av.out
theorem Md(g:Α w e v z){o:aY}{l:List Tl}(G:l.length<=2)(H:p∈us->L∈us->∀B∈l,B.1∈us/\B.2.1∈us)(F:ν δ y q w (vA w e.kb p L z.aE o (of v .aE) l m)):ν δ y q w λd x=>∃h i n r R S,d=ξ (σ #[Μ #[h,i],I E m])/\mZ w x e v R z S p L o h i n r m:=by
 refine F.mono ?_;rintro d x ⟨h,i,n,r,aa,rfl,c,f,M,K,b,N,Q,m⟩;have j:∀a,w.heap.size<=a->v a=A:=λa b=>g.dZ b;rename_i C;by_cases e0:C=0
 .obtain⟨T,t,ab,V,u,W⟩:=Q e0;subst W;obtain⟨k,P⟩:=g.put (s':=qO z (mh o u)) .aE (F':=of v .aE) ⟨N,λ_ g=> .inl g⟩ b λO J=>by cases O<;>first|rfl|exact ahN rfl J
  have s:∀a,v a=A->fH v .aE (of v .aE) a=A:=λa b=>by unfold fH of;rw[b];simp
  subst V;refine⟨h,i,n,r,_,_,rfl,k,P,?_,?_,K,G,M,H T t,qZ c,qZ f,λ_=>⟨t,u,rfl⟩,λd=>ahN e0 d⟩
  .exact pN (eU.dw c (by omega)) c λa b=>s a (j a (c.lt a b).1)
  exact Cj f (by omega) λa b=>s a (j a (f.lt a b).1)
 obtain⟨X,Y,ac,kk⟩:=m e0;subst X Y;have k:=g.still kk;refine⟨h,i,[],[],v,z,rfl,k,Ε.bu v kk,?_,?_,by simp,by simp,by simp,by simp,qZ c,qZ f,λd=>ahN d e0,λ_=>rfl⟩
 .exact pN (eU.dw c (by simp)) c λa b=>j a (c.lt a b).1
 exact Cj f (by simp) λa b=>j a (f.lt a b).1
def Bm(p:Z)(h:Pl)(f:Nat->Option Ν)(j:HS)(n d:BA)(e:aI)(o:Z):Prop:=
 ∃b c i m g k l,∃a:Nat,e=ξ (σ #[Μ #[b,c],I E a])/\a<100/\mZ p o h f g j k n d l b c i m a
theorem Lp{e:aY}(d:p∈us)(c:L∈us):∀b∈je e p L m,b.1∈us/\b.2.1∈us:=λb a=>by
 unfold je at a;split at a
 .simp at a;subst a;exact⟨c,d⟩
 cases a
theorem acW(i:Α w e v z)(b a:BA)(h:cX b)(f:cX a):ν δ 250 #[Ζ e.kb,H b,H a] w (Bm w e v z b a):=by
 refine(Md i ?_ ?_ (Ud (i.part .aE) h f)).mono ?_
 .have r:=Br z.aE b a 3;have s:=Br (iS z.aE b a 3) b a 4;unfold oJ;rw[cL];omega
 .intro h f q c;unfold oJ at c;obtain c|c:=dO.1 c
  .exact Lp h f q c
  exact Lp h f q c
 rintro t u ⟨m,p,l,o,k,n,g,d⟩;cases j:(z.aE.aR b a).isSome with
 |true=>rw[j] at g d;exact⟨m,p,l,o,k,n,_,0,g,by decide,d⟩
 |false=>rw[j] at g d;exact⟨m,p,l,o,k,n,_,7,g,by decide,d⟩
theorem aaV(e:aY)(f d:BA)(b c:Bool):∃a:Nat,cG e f d b c=a/\a<100:=by
 unfold cG;split
 .exact⟨7,rfl,by decide⟩
 split
 .exact⟨1,rfl,by decide⟩
 split
 .exact⟨9,rfl,by decide⟩
 exact⟨0,rfl,by decide⟩
theorem aa8(c:Α w e v z)(b a d:BA)(k:cX b)(h:cX a)(u:d.size<=1000000):ν δ 251 #[Ζ e.kb,H b,H a,H d] w (Bm w e v z b a):=by refine(Md c (ai _) (by intro _ _ y l;cases l) (TI (c.part .aE) k h (by omega) c.eE)).mono ?_;rintro t x ⟨p,s,o,r,n,q,g,f⟩;obtain⟨m,i,j⟩:=aaV z.aE b a (pM d) true;rw[i] at g f;exact⟨p,s,o,r,n,q,_,m,g,j,f⟩
theorem UT{a b c:Array ε}{t2 t3 t4:TypeId}(d:(((w.alloc (ζ q u)).alloc (ζ a t2)).alloc (ζ b t3)).alloc (ζ c t4)=n):Y w n γ/\θ n w.heap.size u q/\θ n (w.heap.size+1) t2 a/\θ n (w.heap.size+1+1) t3 b/\θ n (w.heap.size+1+1+1) t4 c:=by
 subst d;refine⟨((((Y.refl w γ).alloc _).alloc _).alloc _).alloc _,(((θ.new w _ _).alloc _).alloc _).alloc _,((θ.dA w _ _ _).alloc _).alloc _,?_,?_⟩
 .have:=(θ.dA (w.alloc (ζ q u)) (ζ a t2) t3 b).alloc (ζ c t4);simpa using this
 have:=θ.dA ((w.alloc (ζ q u)).alloc (ζ a t2)) (ζ b t3) t4 c;simpa using this
theorem adw(t:Α w e v z)(aG:Υ z)(cv:z.ο+200<=aL)(aD:h∈z.τ)(aP:cp)(bl:ε)(bZ:aP.id.size<=100)(hit:aZ w bl [(p,L,m,f)])(cx:p.size<=100)(cw:L.size<=100):ν δ 173 #[Ζ e.g,Μ h.2.cells,aK aP bl] w (iO w e v z 200):=by
 have bS:=gm aG aD;have au:=K aG;obtain⟨cj,a⟩:=h;simp only at*;have bK:=K aD;have av:=K (au.out.aR (cj,a) bK.out).1;obtain⟨cm,cr,x,co,ck,cq,cs,cn,cl,ct,bF,cE⟩:=aP;unfold aK;simp only at*;obtain⟨b4,b6,b5,bj,bf,bg,bh,bi⟩:=hit.at_ (k:=0) (by simp);simp only[List.getElem_cons_zero,eI,eN,Nat.zero_mul,Nat.add_zero] at bj bf bg bh bi;subst bj;unfold υ.cells at*;clear aD hit;have T:Y w ((w.alloc (ζ #[I E a.id,H a.ψ,H a.ah,H a.ax,I E a.Δ,I E a.aH] 42)).alloc (ζ #[I E cm,H cr,H x,H co,H ck,H cq,H cs,H cn,I Λ cl,I E ct,ι bF,V (N (U b4 b6 A)) 1 b5] 171)) γ:=((Y.refl w γ).alloc _).alloc _;have b0:=az T bf id;have b1:=az T bg id;have b2:=az T bh id;have b3:=az T bi id;have bJ:=K t;have bQ:=t.eE.size;have ay:=K (t.dZ (Ο w.heap.size));have a3:=K (t.dZ (cV w.heap.size));have af:=K (t.dZ (show w.heap.size<=w.heap.size+1+1 by omega));have a4:=K (t.dZ (show w.heap.size<=w.heap.size+1+1+1 by omega));clear t aG T;cases bF
 all_goals
  go_enter func173,ntmps173;go_wp2;clear b0 b1 b2 b3;generalize bc:bm _ _=q at*;obtain⟨aI,a5,a6,a7,C⟩:=UT bc;have ae:=K (bJ.out.still aI);have aw:=K (Ε.bu v aI);have O:=K a5;have ao:=K a6;have r:=K a7;have ac:=K C;clear bc aI a5 a6 a7 C;have R:η (∀b,Y q b γ->(b.cell? (U e.g 1 A)=N (Ζ e.kb)/\b.cell? (U w.heap.size 1 A)=N (H a.ψ)/\b.cell? ⟨w.heap.size+1+1,0,A⟩=N (H p)/\b.cell? ⟨w.heap.size+1+1,1,A⟩=N (H L))):=K λb g=>⟨(ae.out.still g).aA.cell 1,(g.blk O.out id).cell 1,(g.blk r.out id).cell 0,(g.blk r.out id).cell 1⟩
  have B:η (∀b M G J,Α b e G J->Ε q b v G->Y b M (·=w.heap.size+1+1+1)->(M.cell? (U e.g 1 A)=N (Ζ e.kb)/\M.cell? (U w.heap.size 1 A)=N (H a.ψ)/\M.cell? ⟨w.heap.size+1+1,0,A⟩=N (H p)/\M.cell? ⟨w.heap.size+1+1,1,A⟩=N (H L))):=K λb M G J aX s g=>by
   have bU:¬e.g=w.heap.size+1+1+1:=λd=>by have:=aX.jV;rw[d,(bo s ac.out a4.out).2] at this;cases this
   exact⟨(g.blk aX.aA bU).cell 1,(g.blk (bo s O.out ay.out).1 λd=>by omega).cell 1,(g.blk (bo s r.out af.out).1 λd=>by omega).cell 0,(g.blk (bo s r.out af.out).1 λd=>by omega).cell 1⟩
  have aU:η (∀c,Y q c γ->ν δ 250 #[Ζ e.kb,H a.ψ,H p] c (Bm c e v z a.ψ p)):=K λc g=>acW (ae.out.still g) a.ψ p (gH _ av.out) (by unfold cX;omega);have aV:η (∀c,Y q c γ->ν δ 251 #[Ζ e.kb,H a.ψ,H p,H L] c (Bm c e v z a.ψ p)):=K λc g=>aa8 (ae.out.still g) a.ψ p L (gH _ av.out) (by unfold cX;omega) (by omega);go_region_held3 (λb=>b.cell? (U e.g 1 A)=N (Ζ e.kb)/\b.cell? (U w.heap.size 1 A)=N (H a.ψ)/\b.cell? ⟨w.heap.size+1+1,0,A⟩=N (H p)/\b.cell? ⟨w.heap.size+1+1,1,A⟩=N (H L)) (first|(with_reducible exact B.out _ _ _ _ ar.out j.out (Y.refl _ _))|(with_reducible exact B.out _ _ _ _ ar.out j.out ((Y.refl bD (·=w.heap.size+1+1+1)).bC.bC))|(refine R.out _ ?_;(with_reducible first|assumption|exact(Y.refl _ _).drew))) (first|((first|(go_at_call 250;refine(aU.out _ (Y.refl q γ).drew).mono ?_)|(go_at_call 251;refine(aV.out _ (Y.refl q γ).drew).mono ?_));rintro d bD ⟨cB,cC,al,an,o,J,ca,k,rfl,bR,y⟩;obtain⟨bv,bt,bV⟩:=y.PO;obtain⟨bA,bz,bX⟩:=y.QJ;subst bV bX;have ar:=K y.bp;have j:=K ((Ε.bu v (Y.refl q γ).drew).trans y.aW);have F:=bo j.out ac.out a4.out;have l:=K y;have bq:=F.1.cell 0;have br:=F.1.cell 1;have b7:=F.1.frozen 0;have b8:=F.1.frozen 1;simp only[gz_] at bq br;have ad:=K F;clear y F))
  all_goals
   have bk:=ac.out.lt;have a1:=K (OE (w1:=w) l.out ad.out.1 ⟨by omega,ad.out.2⟩ bQ (by first|exact bk|(show _<q.heap.size;exact bk)));generalize((bD.setCell ⟨w.heap.size+1+1+1,0,A⟩ (V bv al.length bt)).setCell ⟨w.heap.size+1+1+1,1,A⟩ (V bA an.length bz))=i at*;obtain⟨bb,a8,a9,aQ,X⟩:=a1.out;have aY:=K bb;have a2:=K (Ε.mk ((aw.out.trans j.out).keeps.trans X λg d=> .inr (by rw[d];omega)) (aw.out.trans j.out).fresh:Ε w i v o);have bG:=K a8;have bH:=K a9;have P:=K (⟨X.blk (bo j.out O.out ay.out).1 λd=>by omega,(bo j.out O.out ay.out).2⟩:θ i w.heap.size 42 #[I E a.id,H a.ψ,H a.ah,H a.ax,I E a.Δ,I E a.aH]/\o w.heap.size=A);have ap:=K (⟨X.blk (bo j.out ao.out a3.out).1 λd=>by omega,(bo j.out ao.out a3.out).2⟩:θ i (w.heap.size+1) 171 _/\o (w.heap.size+1)=A);have aS:=K (⟨X.blk (bo j.out r.out af.out).1 λd=>by omega,(bo j.out r.out af.out).2⟩:θ i (w.heap.size+1+1) 150 #[H p,H L,I E m,ι f]/\o (w.heap.size+1+1)=A);have aT:=K (⟨aQ,ad.out.2⟩:θ i (w.heap.size+1+1+1) 316 #[V bv al.length bt,V bA an.length bz]/\o (w.heap.size+1+1+1)=A)
   have cz:J.ο=z.ο:=by
    by_cases e0:(k:Int)=0
    .obtain⟨_,ch,d⟩:=l.out.ok e0;rw[d];rfl
    rw[l.out.err e0]
   have Q:=K (show eJ z J 0 from by
    by_cases e0:(k:Int)=0
    .obtain⟨_,ch,d⟩:=l.out.ok e0;rw[d];exact Mw au.out _
    rw[l.out.err e0];exact eJ.refl au.out 0)
   have bM:η ((k:Int)=0->p∈us):=K λd=>(l.out.ok d).1;have aj:=K (⟨l.out.jO,l.out.jh,l.out.oC,l.out.yZ⟩:al.length<=2/\an.length<=2/\(∀bE∈al,bE=a.ψ\/bE=p)/\∀a∈an,a.1∈us/\a.2.1∈us);clear bb a8 a9 aQ a1 bq br b7 b8 X l ad ar j R B aU aV ae aw O ao r ac;have R:η (∀b,Y i b γ->(b.cell? (U w.heap.size 0 A)=N (I E a.id)/\b.cell? ⟨w.heap.size+1,2,A⟩=N (H x))):=K λb g=>⟨(g.blk P.out.1 id).cell 0,(g.blk ap.out.1 id).cell 2⟩;have B:η (∀b G,Ε i b o G->(b.cell? (U w.heap.size 0 A)=N (I E a.id)/\b.cell? ⟨w.heap.size+1,2,A⟩=N (H x))):=K λb G s=>⟨(bo s P.out.1 P.out.2).1.cell 0,(bo s ap.out.1 ap.out.2).1.cell 2⟩;have a0:η (∀c,Y i c γ->∀u:BA,u.size<=most->ν δ 249 #[Ζ e.g,I E a.id,H (D #[]),H u,ι false] c (lu c e o J 2)):=K λc g u bW=>sy (aY.out.still g) Q.out.inv (by omega) a.id bS ⟨#[]⟩ u (ai _) bW false;have ak:η (∀c,Y i c γ->∀(kk:Int) (am:BA),am.size<=100->ν δ 164 #[Μ #[I E kk,H (D #[]),H x,H (D #[]),H (D #[]),H (D #[]),H (D #[]),H am,I Λ 0,I E 0,ι false,V A 0 0]] c λd aN=>(∃u:BA,d=ξ (H u)/\u.size<=most)/\Y c aN γ):=K λc g kk am hrs=>oR (z:=⟨kk,(D #[]),x,(D #[]),(D #[]),(D #[]),(D #[]),am,0,0,false,[]⟩) ⟨e0,bZ,e0,e0,e0,e0,hrs,mP,ai _,nofun⟩ (aZ.nil c) (aY.out.eE.still g);by_cases aF:k=0
   .subst aF;have bO:=K λc g=>ak.out c g 4 ⟨#[]⟩ (ai _);have bd:=bM.out rfl;have bI:=K bd;clear bd ak;go_wp2;go_region_held3 (λb=>b.cell? (U w.heap.size 0 A)=N (I E a.id)/\b.cell? ⟨w.heap.size+1,2,A⟩=N (H x)) (first|(with_reducible exact B.out _ _ n.out)|(refine R.out _ ?_;(with_reducible first|assumption|exact(Y.refl _ _).drew))) (first|(go_at_call 164;refine(bO.out _ (Y.refl i γ).drew).mono ?_;rintro d aO ⟨⟨cc,rfl,aE⟩,aJ⟩;have W:Y i aO γ:=(Y.refl i γ).drew.trans aJ Η)|(go_at_call 249;refine(a0.out _ W _ aE).mono ?_;rintro d bB ⟨rfl,bs,bw,S,aa,ab,bT⟩;have aC:=K S;have n:=K ((Ε.bu o W).trans aa);have aM:=K ab;clear S aa ab))
    all_goals
     have aq:=K (Q.out.trans (mC (n:=2) Q.out.inv aM.out (by omega)));have C:=(bo n.out aT.out.1 aT.out.2).1;have cd:=C.cell 0;have ce:=C.cell 1;have cf:=(bo n.out P.out.1 P.out.2).1.cell 1;have cg:=(bo n.out aS.out.1 aS.out.2).1.cell 0;simp only[gz_] at cd ce cf cg;have bN:=K (Qp aC.out aq.out.inv (by omega) a.ψ p av.out bI.out (bG.out.aW n.out) (bH.out.aW n.out) aj.out.1 aj.out.2.1 aj.out.2.2.1 aj.out.2.2.2);clear C;go_wp2_with fail;refine bN.out.mono ?_;rintro d ci ⟨rfl,b9,cb,ba,bn,bx,be⟩;have aB:=K (show iO w e v z 200 (ξ (σ #[])) ci from⟨rfl,b9,cb,ba,(a2.out.trans n.out).trans bn,(aq.out.trans (mC (n:=100) aq.out.inv bx be)).mono (by omega)⟩);clear ba bn bx be;go_wp2;go_end0
     exact aB.out
   .have cA:¬(k:Int)=0:=by omega
    have bL:η (∀c,ν δ 240 #[I E k] c λd aN=>d=ξ (H (iG k))/\aN=c):=K λc=>Og k bR c;have cy:=vX k (by omega);have bP:=K λc g=>ak.out c g 5 ((D #[101])++iG k) (by rw[mj];show 1+_<=100;omega);have ca:=λw=>run_string_add_sum (P:=δ) w ⟨#[101]⟩ (iG k) (by show 1+(iG k).size<=_;omega);have cu:=K aF;clear ak aF;go_wp2;go_region_held3 (λb=>b.cell? (U w.heap.size 0 A)=N (I E a.id)/\b.cell? ⟨w.heap.size+1,2,A⟩=N (H x)) (first|(with_reducible exact B.out _ _ n.out)|(refine R.out _ ?_;(with_reducible first|assumption|exact(Y.refl _ _).drew))) (first|(go_at_call 240;refine(bL.out _).mono ?_;rintro d cD ⟨rfl,bY⟩;subst bY)|(go_at_call 164;refine(bP.out _ (Y.refl i γ).drew).mono ?_;rintro d aO ⟨⟨cc,rfl,aE⟩,aJ⟩;have W:Y i aO γ:=(Y.refl i γ).drew.trans aJ Η)|(go_at_call 249;refine(a0.out _ W _ aE).mono ?_;rintro d bB ⟨rfl,bs,bw,S,aa,ab,bT⟩;have aC:=K S;have n:=K ((Ε.bu o W).trans aa);have aM:=K ab;clear S aa ab))
    all_goals
     have aB:=K (show iO w e v z 200 (ξ (σ #[])) bB from⟨rfl,bs,bw,aC.out,a2.out.trans n.out,(Q.out.trans (mC (n:=2) Q.out.inv aM.out (by omega))).mono (by omega)⟩);go_wp2;refine Ω (v:=σ #[]) (by simp[ag,results173,go_sem]) rfl ?_;exact aB.out
section
open Go.Sort Go.Shelf
def afz:Go.Shelf.Ren:=⟨fun|6=>48|15=>79|14=>78|28=>128|29=>129|20=>120|21=>121|22=>122|23=>123|24=>124|25=>125|26=>126|27=>127|46=>193|47=>194|48=>195|49=>196|50=>197|57=>272|a=>a,fun|22=>53|24=>42|25=>109|3=>3|39=>39|0=>0|53=>169|55=>32|4=>4|46=>203|45=>202|50=>174|5=>5|9=>9|66=>268|70=>272|76=>336|77=>337|a=>a,fun|a=>a⟩
theorem Q1:Go.Proofs.SlLaysF0.n6 δ afz:=by constructor<;>first|kernel_rfl|exact jg ⟨by decide+kernel,by kernel_rfl⟩|(intros;kernel_rfl)
instance:Inhabited υ:=⟨⟨0,(D #[]),(D #[]),(D #[]),0,0⟩⟩
def lC(a:υ):List ε:=a.cells.toList
def uA(a b:υ):Int:=ly a.id b.id
theorem Z2:∀a:Z,(isAgg 42).run δ a= .ok true a:=λ_=>by kernel_rfl
theorem adG:∀a:Z,(Go.sizeOf 42).run δ a= .ok 6 a:=λ_=>by kernel_rfl
theorem aek:SWO (ltOf uA):=by
 have d:∀a b,ltOf uA a b=decide (a.id<b.id):=λa b=>by
  unfold ltOf uA ly;by_cases c:a.id<b.id
  .simp[c]
  by_cases e:b.id<a.id<;>simp[c,e]
 exact {irrefl:=λa=>by rw[d];simp,trans:=λa b f c e=>by rw[d] at*;simp at*;omega,ntrans:=λa b f c e=>by rw[d] at*;simp at*;omega}
theorem Wk(a b:υ)(c:Z):ν δ 49 #[Μ a.cells,Μ b.cells] c λd e=>d=ξ (I E (uA a b))/\∃i h,e=grow (c.drewN i) h:=by have g:=K λf=>Mk f a.id b.id;unfold uA;generalize ly a.id b.id=j at*;unfold υ.cells;go_enter func49,ntmps49;go_wp2_with (go_at_call 50;refine(g.out _).mono ?_;rintro d e ⟨rfl,rfl⟩);go_ret;exact⟨rfl,0,_,by rw[alloc_eq_grow,alloc_eq_grow,grow_grow];rfl⟩
def jW(a:List υ):List ε:=a.flatMap lC
def og(g:Z)(v:ε)(b:List υ):Prop:=
 ∃c f,v=V c b.length f/\b.length<=1000000/\(c=A->b=[])/\∀a,c=N a->a.spot=A/\∀d e,(jW b)[d]? =N e->g.cell? ⟨a.block,a.off+d,A⟩=N e
theorem Qh(a:List υ):(jW a).length=a.length*6:=by
 induction a with
 |nil=>rfl
 |cons d c b=>show(lC d++jW c).length=_;rw[cL,b];show 6+_=_;simp only[eI];omega
theorem yO(a:υ):(lC a).length=6:=rfl
theorem IJ:∀(b:List υ) (a:Nat),(jW b)[a]? =(b[a/6]?).bind λd=>(lC d)[a%6]?
 |[],a=>by simp[jW]
 |d::b,a=>by
  show(lC d++jW b)[a]? =_;by_cases c:a<6
  .rw[E9 (by rw[yO];exact c),Nat.div_eq_of_lt c,Nat.mod_eq_of_lt c];rfl
  .rw[AE (by rw[yO];omega),IJ b,yO];have e:a/6=(a-6)/6+1:=by omega
   have f:a%6=(a-6)%6:=by omega
   rw[e,f,List.getElem?_cons_succ]
theorem Nu(b:Array υ)(a:Nat)(f:a<b.size*6):(jW b.toList)[a]? =N (flatK lC 6 b)[a]! :=by
 rw[IJ,get_flatK _ _ _ _ f];have c:a/6<b.size:=by omega
 have d:a%6<(lC b[a/6]!).length:=by rw[yO];omega
 rw[Array.getElem?_toList,Array.getElem?_eq_getElem c];simp only[Option.bind_some];have e:b[a/6]=b[a/6]! :=by rw[getElem!_pos b _ c]
 rw[e,cT d,getElem!_pos (lC b[a/6]!) (a%6) d]
theorem ab2(a d c b:Nat):(V (N (U a d A)) c b).ownBlock=N a:=rfl
theorem adL{a:List υ}(S:w.ownsRow y 42 6 x a.length (jW a))(R:a.length<=1000000):ν δ 48 #[x,af (.func 49) #[] #[]] w λg n=>g=ξ (σ #[])/\∃o:List υ,o.Perm a/\o.Pairwise (λu I=>u.id<=I.id)/\og n x o/\Y w n (λG=>x.ownBlock=N G):=by
 have ac:=Qh a;obtain⟨rfl,K⟩|⟨e,z,J,rfl,aa,k,ad,ab,T,V⟩:=S.2
 .have:a=[]:=kG.1 K;subst this;have f:=AnyF.slices_SortFunc_none Q1 A 0 (af (.func 49) #[] #[]) w;change ν δ 48 _ _ _ at f;refine f.mono ?_;rintro g n ⟨rfl,rfl⟩;exact⟨rfl,[],.nil,.nil,⟨A,0,rfl,by simp,λ_=>rfl,nofun⟩,Y.refl _ _⟩
 have hblk:e<w.heap.size:=by
  obtain h|h:=fU e w.heap.size
  .exact h
  rw[ll h] at k;cases k
 have C:HoldsK lC 6 w e 0 a.toArray:=by
  intro c d;simp only[size_flatK,oZ] at d;have i:J[c]? =(jW a)[c]? :=by rw[<-V,List.getElem?_take_of_lt (by omega)];simp
  have j:=Nu a.toArray c (by simpa using d);simp only at j;rw[j] at i;refine⟨?_,?_⟩
  .simp[fN,k,i]
  simp[World.frozen?,k]
 have f:=AnyQ.slices_SortFunc Q1 6 Z2 adG lC yO (λt x hv=>by simp[lC,υ.cells] at hv;rcases hv with rfl|rfl|rfl|rfl|rfl|rfl<;>rfl) uA aek 49 #[] e 0 z a.toArray w (enters_of func49 (by kernel_rfl) rfl) (λae s X T t W=>Wk t W _) C hblk (by simp;omega);change ν δ 48 _ _ _ at f;simp only[oZ] at f;refine f.mono ?_;rintro g n ⟨rfl,b,H,s,⟨l,_,q⟩,F,rfl⟩;simp only[oZ] at l q F
 have r:b.toList.Perm a:=by
  have i:b.extract 0 a.length=b:=by rw[<-l];simp
  have j:a.toArray.extract 0 a.length=a.toArray:=by
   have:a.toArray.size=a.length:=by simp
   rw[<-this];simp
  rw[i,j] at q;simpa using q
 refine⟨rfl,b.toList,r,?_,⟨N (U e 0 A),z,by rw[r.length_eq],by rw[r.length_eq];exact R,nofun,λu p=> ?_⟩,?_⟩
 .rw[List.pairwise_iff_getElem];intro m c M d P;have:=F m c (ai _) P (by simpa[l] using d);have O:m<b.size:=by simpa using M
  have Q:c<b.size:=by simpa using d
  rw[getElem!_pos b c Q,getElem!_pos b m O] at this;simp only[Array.getElem_toList];unfold ltOf uA ly at this;by_cases h:b[c].id<b[m].id
  .simp[h] at this
  omega
 .injection p with p;subst p;refine⟨rfl,λc t d=> ?_⟩;have E:c<b.size*6:=by have:=iN.1 d;obtain⟨B,_⟩:=this;rw[Qh] at B;simpa using B
  have L:=holdsK_sortWorldK lC 6 w e 0 H a.toArray b s hblk C (by simp[l]);have:=(L c (by simpa using E)).1;rw[Nu b c E] at d;rw[this];exact d
 exact(wL (enc:=id) (w:=w) (g:=e) (q:=H) (d:=flatK lC 6 b) (os:=s)).mono λG g=> .inl (by rw[ab2];exact congrArg N g.symm)
end
theorem PN{j:Type}(g:j->Int):∀ {d e:List j},d.Perm e->d.Pairwise (λb a=>g b<=g a)->e.Pairwise (λb a=>g b<g a)->d=e
 |d,[],c,_,_=>c.eq_nil
 |[],a::e,c,_,_=>c.symm.eq_nil.symm
 |b::d,a::e,c,k,l=>by
  have h:=AK.1 k;have i:=AK.1 l;have m:b∈a::e:=c.subset (dP ..);have n:a∈b::d:=c.symm.subset (dP ..)
  have f:b=a:=by
   obtain f|f:=dD.1 m
   .exact f
   obtain e'|e':=dD.1 n
   .exact e'.symm
   have o:=i.1 b f;have p:=h.1 a e';omega
  subst f;rw[PN g (c.cons_inv) h.2 i.2]
theorem Ns{e h:Type}{b c:e->List h}:∀ {a:List e},(∀v∈a,b v=c v)->a.flatMap b=a.flatMap c
 |[],_=>rfl
 |v::a,d=>by rw[qx,qx,d v (dP ..),Ns λg f=>d g (eZ _ f)]
theorem PM{k l:Type}(c:k->l->Bool):∀(e:List l) (b:List k),e.Pairwise (λd v=>∀a,c a d=true->c a v=false)->(∀a∈b,∃d∈e,c a d=true)->(e.flatMap λd=>b.filter λa=>c a d).Perm b
 |[],b,_,g=>by
  cases b with
  |nil=>exact .nil
  |cons a b=>obtain⟨d,r,_⟩:=g a (dP ..);cases r
 |d::e,b,o,g=>by
  have h:=AK.1 o
  have j:=PM c e (b.filter λa=> !c a d) h.2 (λa s=>by
   obtain⟨m,n⟩:=dE.1 s;obtain⟨v,hv,i⟩:=g a m;obtain f|f:=dD.1 hv
   .subst f;simp[i] at n
   exact⟨v,f,i⟩)
  have f:(e.flatMap λv=>(b.filter λa=> !c a d).filter λa=>c a v)=e.flatMap λv=>b.filter λa=>c a v:=by
   refine Ns λv hv=> ?_;rw[EZ];refine List.filter_congr λa _=> ?_;cases p:c a v with
   |false=>rfl
   |true=>
    cases q:c a d with
    |false=>rfl
    |true=>have:=h.1 v hv a q;rw[p] at this;cases this
  rw[f] at j;show((b.filter λa=>c a d)++e.flatMap λv=>b.filter λa=>c a v).Perm b;refine(List.Perm.append_left _ j).trans ?_;exact List.filter_append_perm (λa=>c a d) b
def cH(a:HS):List υ:=a.τ.map (·.2)
def uR(b:HS)(c:BA):List υ:=(b.τ.filter λa=>same a.2.ψ c).map (·.2)
theorem ag7:us.Pairwise (λb v=>∀a:Nat×υ,same a.2.ψ b=true->same a.2.ψ v=false):=by
 have c:us.Pairwise (λb v=>b≠v):=by unfold us;decide
 refine c.imp λ{b v} d a e=> ?_;cases f:same a.2.ψ v with
 |false=>rfl
 |true=>exact ahN ((oN e).symm.trans (oN f)) d
theorem UY(e:Υ z):(us.flatMap (uR z)).Perm (cH z):=by have c:=PM (λ(a:Nat×υ) u=>same a.2.ψ u) us z.τ ag7 (λa d=>⟨a.2.ψ,(e.aR a d).1,by unfold same;simp⟩);have b:=c.map (·.2);rw[List.map_flatMap] at b;exact b
theorem adm(c:Υ z):(cH z).Pairwise (λa b=>a.id<b.id):=by unfold cH;rw[Fa];exact c.dM
def Ky(c:Z)(e:List υ)(d:aI)(b:Z):Prop:=∃v,d=ξ v/\og b v e/\Y c b γ/\∀a,dS v=N a->c.heap.size<=a
theorem og.nil(a:Z):og a (V A 0 0) []:=⟨A,0,rfl,by simp,λ_=>rfl,nofun⟩
theorem na.uK{c:List Int}(f:na w x c)(m:Y w n j)(k:∀d,dS x=N d->¬j d):na n x c:=by obtain⟨o,e,rfl,g,h,b⟩:=f;exact⟨o,e,rfl,g,h,λw a=>⟨(b w a).1,λl p i=>az m ((b w a).2 l p i) (k w.block (by subst a;rfl))⟩⟩
theorem V'{a:Addr}(b:w.cell? a=N x):a.block<w.heap.size:=by
 obtain h1|h1:=fU a.block w.heap.size
 .exact h1
 simp[fN,ll h1] at b
theorem rZ(f:Υ z)(c:h∈z.τ):z.τ.find? (λa=>a.2.id==h.2.id)=N h:=by
 cases b:z.τ.find? (λa=>a.2.id==h.2.id) with
 |none=>have:=lM.1 b h c;simp at this
 |some a=>obtain⟨d,e⟩:=uE b;rw[sU f.dM d c e]
theorem Hg(k:w.ownsRow y 3 1 x r.length (sN r))(e:r.length<=1000000):na w x (r.map λn=>n.2.id):=by
 obtain⟨rfl,d⟩|⟨j,h,i,rfl,q,l,t,s,u,m⟩:=k.2
 .exact⟨A,0,by rw[dN,d],by simpa using e,λ_=>by simp[kG.1 d],nofun⟩
 refine⟨N (U j 0 A),h,by rw[dN],by simpa using e,nofun,λp c=> ?_⟩;injection c with c;subst c;refine⟨rfl,λg o a=> ?_⟩
 have b:(i.toList.take (r.length*1))[g]? =N (I E o):=by
  rw[m];unfold sN;rw[List.getElem?_map] at a⊢;cases f:r[g]? with
  |none=>rw[f] at a;cases a
  |some z=>rw[f] at a;injection a with a;simp[a]
 rw[kD] at b;split at b
 .simpa[fN,l] using b
 cases b
theorem yB(i:Α w e v z)(j:Υ z):ν δ 21 #[Ζ e.g] w (Ky w (cH z)):=by
 have a6:=jl j;have ai:=K (Gf (i.part .aE));have x:=K i;have ad:=K j;have aZ:=i.aA.cell 1;simp only[bg,gz_] at aZ;have bo:us.length=4:=rfl;have aI:=K (UY j);have aW:=K (adm j);clear i j;go_enter func21,ntmps21;go_wp2_with fail;refine ai.out.mono ?_;rintro k p ⟨bz,rfl,aa,W⟩;have aX:=K (eU.dw aa (by omega));obtain⟨bx,bu,bc⟩:=cC aa;subst bc;have L:=K W;have ao:=W.size;clear W aa ai;go_wp2;go_loopw [3,18] (λg j wr=>∃(f:Nat) (c:List υ) (o:Option Addr) (t:Nat),f<=us.length/\j=I E f/\g=V o c.length t/\c.length<=f*16/\η (c=(us.take f).flatMap (uR z)/\wr.ownsRow p.heap.size 42 6 (V o c.length t) c.length (jW c)/\Y p wr γ)) (λ_ j _=>us.length-(aB j).toNat)
 case atStart=>exact⟨0,[],A,0,by omega,rfl,rfl,by simp,K ⟨rfl,db _ _ _ _,Y.refl _ _⟩⟩
 obtain⟨f,c,o,t,bl,rfl,rfl,bk,m⟩:=hrel;by_cases al:f<us.length
 .have a7:(f:Int)<us.length:=by omega
  have y:=K (L.out.trans m.out.2.2 Η);obtain⟨bt,bw,bv,hv,bC⟩:=(I0 aX.out m.out.2.2 (λ_ _ i=>i)).at_ al;injection hv with S _ T;subst S T;have aG:=K (show us.take (f+1)=us.take f++[us[f]] from lq al);generalize us[f]=s at*;have a0:=(x.out.still y.out).aA.cell 2;simp only[bg,gz_] at a0;have ag:=K (Bg ((x.out.still y.out).part .table) (by omega) s);have aj:∀aF∈z.τ.filter (λe=>same e.2.ψ s),aF∈z.τ:=λaF bb=>(dE.1 bb).1;have bj:(z.τ.filter λe=>same e.2.ψ s).length<=16:=aJ (jo _ _) a6;have aR:=K (show uR z s=(z.τ.filter λe=>same e.2.ψ s).map (·.2) from rfl);generalize(z.τ.filter λe=>same e.2.ψ s)=d at*;have aL:=K aj;clear aj;go_wp2_with fail;refine ag.out.mono ?_;rintro k bB ⟨bs,rfl,F,a⟩;have aM:=K (Hg F (by omega));have aP:=K (qZ F);obtain⟨aw,C,a9⟩:=cC F;subst a9;have aN:=K a;have bp:=a.size;have aT:=K (aD m.out.2.1 a λ_ _ i=>i);have aS:=K (λb h=>((m.out.2.1).lt b h).2);clear a F ag;go_wp2;go_loopw [3,29] (λg j ac=>∃(a:Nat) (q:Option Addr) (r:Nat),a<=d.length/\j=I E a/\g=V q (c.length+a) r/\η (ac.ownsRow p.heap.size 42 6 (V q (c.length+a) r) (c.length+a) (jW (c++(d.take a).map (·.2)))/\Y p ac γ/\na ac (V aw d.length C) (d.map λe=>e.2.id)/\(∀b,(V q (c.length+a) r).ownBlock=N b->dS (V aw d.length C)≠N b))) (λ_ j _=>d.length-(aB j).toNat)
  case atStart=>exact⟨0,o,t,by omega,rfl,rfl,K ⟨by simpa using aT.out,m.out.2.2.trans aN.out Η,aM.out,λb h k=>by have P:=aP.out b k;have bi:=aS.out b h;omega⟩⟩
  obtain⟨a,q,r,bm,rfl,rfl,l⟩:=hrel;by_cases Q:a<d.length
  .have a8:(a:Int)<d.length:=by omega
   obtain⟨B,av,br,ba,y0⟩:=l.out.2.2.1.at_ (k:=a) (by simpa using Q);injection ba with S be T;clear be;subst S T;simp only[List.getElem_map] at y0;have aY:=K (show d.take (a+1)=d.take a++[d[a]] from lq Q);have R:=aL.out _ (eA Q);generalize d[a]=aC at*;have af:=K (L.out.trans l.out.2.1 Η);have a1:=(x.out.still af.out).aA.cell 2;simp only[bg,gz_] at a1;have n:=rH ((x.out.still af.out).part .table) aC.2.id (gm ad.out R);rw[rZ ad.out R,xp] at n;simp only[mX] at n;have n:=K n;obtain⟨bh,g⟩:=aC;simp only at*;clear R;unfold υ.cells at n;go_wp2_with fail;refine n.out.mono ?_;rintro k G ⟨rfl,ap⟩;have u:Y wr (G.alloc (ζ g.cells 42)) γ:=ap.alloc _;have az:=aD l.out.1 u λ_ _ i=>i;obtain⟨bA,J,ab,X,aq,au⟩:=Ly p.heap.size az g (by omega) (by have:=l.out.2.1.size;have:=u.size;omega);obtain⟨M,O,bd⟩:=cC X;subst bd
   have aQ:η (J.ownsRow p.heap.size 42 6 (V M (c.length+a+1) O) (c.length+a+1) (jW (c++(d.take (a+1)).map (·.2)))/\Y p J γ/\na J (V (N (U B av A)) d.length C) (d.map λe=>e.2.id)/\(∀b,(V M (c.length+a+1) O).ownBlock=N b->dS (V (N (U B av A)) d.length C)≠N b)):=K (by
    have kk:Y wr J (λf=>(V q (c.length+a) r).ownBlock=N f):=(u.mono λf i=>i.elim).trans aq λ_ i=> .inl i;refine⟨?_,?_,?_,?_⟩
    .rw[aY.out,lP,<-vm];have k:jW (c++(d.take a).map (·.2)++[(bh,g)].map (·.2))=jW (c++(d.take a).map (·.2))++g.cells.toList:=by unfold jW;rw[E5];simp[lC]
     rw[k];exact X
    .exact l.out.2.1.trans kk λb h=> .inr (l.out.1.lt b h).1
    .exact l.out.2.2.1.uK kk λb h k=>l.out.2.2.2 b k h
    intro b h k;obtain P|P:=au b h
    .exact l.out.2.2.2 b P k
    have a3:B=b:=cr k;subst a3;have bq:wr.heap.size<=(G.alloc (ζ g.cells 42)).heap.size:=u.size;have bn:B<wr.heap.size:=V' y0;omega)
   unfold υ.cells at ab;rw[show(G.alloc (ζ #[I E g.id,H g.ψ,H g.ah,H g.ax,I E g.Δ,I E g.aH] 42)).heap.size=G.heap.size+1 from by simp] at ab;clear ap u az X aq au n;go_wp2_with (at_builtin;refine dy rfl (.tmp 42) (.tmp 44) 53 rfl rfl rfl ab ?_);go_roundw
   case rel=>exact⟨a+1,M,O,by omega,by go_num,by rw[mW],K (by have:=aQ.out;rwa [mW] at this)⟩
   case measure=>simp[aB];omega
  have a8:¬(a:Int)<d.length:=by omega
  have a5:a=d.length:=by omega
  subst a5;go_wp2;go_roundw
  case rel=>exact⟨f+1,c++d.map (·.2),q,r,by omega,by go_num,by rw[cL,dN],by rw[cL,dN];omega,K ⟨by rw[aG.out,E5,<-m.out.1,<-aR.out];simp,by have:=l.out.1;rw[pd] at this;rwa [cL,dN],l.out.2.1⟩⟩
  case measure=>simp[aB];omega
 have a7:¬(f:Int)<us.length:=by omega
 have a4:f=us.length:=by omega
 have aV:=K (adL m.out.2.1 (by omega));have aK:η (c.Perm (cH z)):=K (by rw[m.out.1,a4,pd];exact aI.out);have ae:=K (λb h=>((m.out.2.1).lt b h).1);have y:=K (L.out.trans m.out.2.2 Η);go_wp2_with fail;refine aV.out.mono ?_;rintro k bf ⟨rfl,aO,am,an,ak,ar⟩;have a2:aO=cH z:=PN (λg:υ=>g.id) (am.trans aK.out) an aW.out;subst a2;have aU:=K (show Ky w (cH z) (ξ (V o c.length t)) bf from⟨_,rfl,ak,y.out.trans ar λb h=> .inr (aJ ao (ae.out b h)),λb h=>aJ ao (ae.out b (by cases o with|none=>cases h|some o=>exact h))⟩);clear ak ar am an;go_wp2;go_ret;exact aU.out
theorem og.uK{c:List υ}(f:og w x c)(m:Y w n j)(k:∀d,dS x=N d->¬j d):og n x c:=by obtain⟨o,e,rfl,g,h,b⟩:=f;exact⟨o,e,rfl,g,h,λw a=>⟨(b w a).1,λl p i=>az m ((b w a).2 l p i) (k w.block (by subst a;rfl))⟩⟩
theorem og.at_{b:List υ}(m:og w x b){k:Nat}(d:k<b.length):∃a c h,x=V (N (U a c A)) b.length h/\w.cell? ⟨a,c+k*6,A⟩=N (I E (b[k]'d).id)/\w.cell? ⟨a,c+k*6+1,A⟩=N (H (b[k]'d).ψ)/\w.cell? ⟨a,c+k*6+2,A⟩=N (H (b[k]'d).ah)/\w.cell? ⟨a,c+k*6+3,A⟩=N (H (b[k]'d).ax)/\w.cell? ⟨a,c+k*6+4,A⟩=N (I E (b[k]'d).Δ)/\w.cell? ⟨a,c+k*6+5,A⟩=N (I E (b[k]'d).aH):=by
 obtain⟨q,h,rfl,r,n,o⟩:=m;cases q with
 |none=>have:=n rfl;subst this;cases d
 |some i=>
  obtain⟨l,j⟩:=o i rfl;obtain⟨a,c,t⟩:=i;simp only at l j;subst l;have f:∀e (g:ε),e<6->(lC (b[k]'d))[e]? =N g->w.cell? ⟨a,c+(k*6+e),A⟩=N g:=λe g s p=>by refine j (k*6+e) g ?_;rw[IJ,show(k*6+e)/6=k by omega,show(k*6+e)%6=e by omega,cT d];exact p
  exact⟨a,c,h,rfl,f 0 _ (by omega) rfl,f 1 _ (by omega) rfl,f 2 _ (by omega) rfl,f 3 _ (by omega) rfl,f 4 _ (by omega) rfl,f 5 _ (by omega) rfl⟩
def Gb(c:Z)(a:List BA)(d:aI)(b:Z):Prop:=∃v,d=ξ v/\b.ownsRow c.heap.size 9 1 v a.length (a.map H)/\Y c b γ
theorem aeN(f:Α w e v z)(g:Υ z):ν δ 253 #[Ζ e.g] w (Gb w ((cH z).map (·.ax))):=by
 have ad:(cH z).length<=16:=by unfold cH;rw[dN];exact jl g
 have o:=K (yB f g);generalize cH z=c at*;have ab:=f.aA.lt;clear f g;go_enter func253,ntmps253;go_wp2_with fail;refine o.out.mono ?_;rintro aa h ⟨ak,rfl,s,m,k⟩;have B:=K s;have C:=K m;have X:=K k;have T:=m.size;obtain⟨aj,ai,rfl,_⟩:=s;clear m k o;go_wp2;go_loopw [3,9] (λb g wr=>∃(a:Nat) (i:Option Addr) (j:Nat),a<=c.length/\g=I E a/\b=V i a j/\η (wr.ownsRow h.heap.size 9 1 (V i a j) a ((c.take a).map λb=>H b.ax)/\Y h wr γ)) (λ_ g _=>c.length-(aB g).toNat)
 case atStart=>exact⟨0,A,0,by omega,rfl,rfl,K ⟨db _ _ _ _,Y.refl _ _⟩⟩
 obtain⟨a,i,j,ac,rfl,rfl,d⟩:=hrel;by_cases t:a<c.length
 .have N:(a:Int)<c.length:=by omega
  obtain⟨ae,ag,af,O,y0,am,an,ao,ap,aq⟩:=(B.out.uK d.out.2 (λ_ _ f=>f)).at_ t;injection O with P S Q;clear S;subst P Q;have J:=K (show c.take (a+1)=c.take a++[c[a]] from lq t);generalize c[a]=b at*;have l:Y wr (wr.alloc (ζ #[I E b.id,H b.ψ,H b.ah,H b.ax,I E b.Δ,I E b.aH] 42)) γ:=(Y.refl wr γ).alloc _;obtain⟨al,y,x,n,u,W⟩:=nB h.heap.size (aD d.out.1 l λ_ _ f=>f) b.ax (by omega) (by have:=d.out.2.size;have:=l.size;omega);obtain⟨p,q,R⟩:=cC n;subst R;rw[show(wr.alloc (ζ #[I E b.id,H b.ψ,H b.ah,H b.ax,I E b.Δ,I E b.aH] 42)).heap.size=wr.heap.size+1 from by simp] at x;have F:η (y.ownsRow h.heap.size 9 1 (V p (a+1) q) (a+1) ((c.take (a+1)).map λb=>H b.ax)/\Y h y γ):=K (by refine⟨by rw[J.out,lP];exact n,?_⟩;exact(d.out.2.trans l Η).trans u λL k=> .inr (d.out.1.lt L k).1);clear l n u W;go_wp2_with (at_builtin;refine dy rfl (.tmp 13) (.tmp 16) 26 rfl rfl rfl x ?_);go_roundw
  case rel=>exact⟨a+1,p,q,by omega,by go_num,rfl,F⟩
  case measure=>simp[aB];omega
 have N:¬(a:Int)<c.length:=by omega
 have M:a=c.length:=by omega
 subst M;have G:=K (show Gb w (c.map (·.ax)) (ξ (V i c.length j)) wr from by have r:=d.out.1;rw[pd] at r;refine⟨_,rfl,?_,C.out.trans d.out.2 Η⟩;rw[dN,List.map_map];exact Ij r T);go_wp2;go_ret;exact G.out
theorem wh(c:Υ z)(d:Int):yf z d:=λf a=>by
 obtain⟨e,hid⟩:=uE (s:=z) a;obtain⟨l,k,_⟩:=c.state f e;rw[hid] at k;obtain⟨h,i,_⟩:=c.aR f e;have j:∀b∈bY z.τ d,b.2.id≠d:=λb a=>by have:=(dE.1 a).2;simpa using this
 refine⟨⟨l,k⟩,h,i,?_,Cu (zf c d) (λb a=>by rw[hid];exact j b a) λn b a g=> ?_⟩
 .unfold aF;rcases c.eC f e with m|⟨h,i,_⟩<;>omega
 exact j b a (by rw[c.iq b (dE.1 a).1 f e g (by rw[g];omega)];exact hid)
def lS(a c:HS)(b:Int):Prop:=match a.τ.find? (λe=>dW e.2 b) with
 |none=>c=cK a b
 |some d=>dX a c d.2.id
def Fw(i:Z)(h:Pl)(g:Nat->Option Ν)(c:HS)(e:Int)(f:aI)(d:Z):Prop:=
 f=ξ (σ #[])/\∃b a,Α d h b a/\Ε i d g b/\lS c a e/\a.ο<=c.ο+32
theorem Yz(c:Α w e v z)(h:Υ z)(b:Int)(G:aF b)(F:z.ο+32<=aL):ν δ 65 #[Ζ e.g,I E b] w (Fw w e v z b):=by
 have a:=FU (c.part .table) (by have:=jl h;show z.τ.length<=1000;omega) b;have C:=c.aA.cell 2;simp only[bg,gz_] at C;have R:e.g<w.heap.size:=c.aA.lt;cases d:z.τ.find? (λM=>dW M.2 b) with
 |none=>
  rw[d] at a;unfold nK υ.zero at a;simp only[vy,pj,tN] at a;have a:=K a;have k:η (lS z (cK z b) b):=K (by unfold lS;simp only[d]);have j:=K c;clear c h d;go_enter func65,ntmps65;go_wp2_with fail;refine a.out.mono ?_;rintro m P ⟨rfl,f⟩;have B:=K (Dt (j.out.still f) b G);have l:=K (Ε.bu v f);clear f;go_wp2_with fail;refine B.out.mono ?_;rintro m r ⟨rfl,o,g,i⟩;have n:η (Fw w e v z b (ξ (σ #[])) r):=K ⟨rfl,o,_,g,l.out.trans i,k.out,AR _ _⟩;clear g i;go_wp2;go_end0
  exact n.out
 |some p=>obtain⟨u,L,Q⟩:=wo d;have J:=gm h u;have y:=K (wh h p.2.id);rw[d] at a;unfold nK at a;simp only[gx,gK,mX] at a;have a:=K a;have k:η (∀q,dX z q p.2.id->lS z q b):=K λq c=>(by unfold lS;simp only[d];exact c);have j:=K c;clear c h d u L;generalize p.2.id=id at*;go_enter func65,ntmps65;go_wp2_with fail;refine a.out.mono ?_;rintro m P ⟨rfl,f⟩;have x:=K (Cd (j.out.still f) id J F y.out);have l:=K (Ε.bu v f);clear f;go_wp2_with fail;refine x.out.mono ?_;rintro m r ⟨rfl,o,O,g,i,s,t⟩;have n:η (Fw w e v z b (ξ (σ #[])) r):=K ⟨rfl,o,O,g,l.out.trans i,k.out _ s,t⟩;clear g i s t;go_wp2;refine Ω (v:=σ #[]) (by simp[ag,results65,go_sem]) rfl ?_;exact n.out
def lG(b:Nat->PS)(a:Int):Bool:=decide (0<=a)&&(decide (a<16)&&(b a.toNat).op)
theorem Hj(a:Nat->PS){i:Nat}(b:i<16):lG a i=(a i).op:=by unfold lG;rw[decide_eq_true (by omega:(0:Int)<=i),decide_eq_true (by omega:(i:Int)<16),Int.toNat_natCast];simp
theorem Z3(b:Nat->PS)(a:m<0\/16<=m):lG b m=false:=by
 unfold lG;obtain a|a:=a
 .rw[decide_eq_false (by omega:¬(0:Int)<=m)];rfl
 rw[decide_eq_false (by omega:¬m<16)];simp
theorem PT{b:Nat->PS}(f:fu w y b j)(a:Int):ν δ 43 #[Ζ y,I E a] w λe g=>e=ξ (ι (lG b a))/\w=g:=by
 by_cases d:a<0\/16<=a
 .rw[Z3 b d];exact Tw y a d w
 obtain⟨c,rfl⟩:∃c:Nat,a=c:=⟨a.toNat,by omega⟩;rw[Hj b (by omega)];obtain⟨h,hF,_⟩:=f.ex;exact Tv hF c (by omega)
def wS(b:Nat->PS)(a:Int):BA:=if a<0\/16<=a then⟨#[]⟩ else(b a.toNat).out
theorem acu{d:Nat->PS}(f:fu w y d j)(a:Int):ν δ 42 #[Ζ y,I E a] w λe g=>e=ξ (H (wS d a))/\w=g:=by
 unfold wS;by_cases b:a<0\/16<=a
 .rw[ahM b];exact T9 y a b w
 obtain⟨c,rfl⟩:∃c:Nat,a=c:=⟨a.toNat,by omega⟩;rw[WB b,Int.toNat_natCast];exact T7 f c (by omega)
def ji(b:HS)(a:Int):Int:=if a<0\/16<=a then 1 else if lG b.Κ a=true then 0 else 12
theorem NN(g:Α w e v z)(a:Int):ν δ 31 #[Ζ e.g,I E a] w λf m=>f=ξ (I E (ji z a))/\w=m:=by
 have j:=g.aA.cell 0;simp only[bg,gz_] at j;have h:=K (PT (g.part .Κ) a);have c:η (ji z a=if a<0\/16<=a then 1 else if lG z.Κ a=true then 0 else 12):=K rfl;generalize lG z.Κ a=i at*;generalize ji z a=d at*;clear g;by_cases k:a<0
 .have b:η (d=1):=K (by rw[c.out,ahM (.inl k)]);go_enter func31,ntmps31;go_wp2;go_ret;exact⟨by rw[b.out];first|done|rfl,rfl⟩
 by_cases l:a≥16
 .have b:η (d=1):=K (by rw[c.out,ahM (.inr l)]);go_enter func31,ntmps31;go_wp2;go_ret;exact⟨by rw[b.out];first|done|rfl,rfl⟩
 cases i with
 |true=>have b:η (d=0):=K (by rw[c.out,WB (by omega)];rfl);go_enter func31,ntmps31;go_wp2_with fail;refine h.out.mono ?_;rintro f n ⟨rfl,rfl⟩;go_wp2;go_ret;exact⟨by rw[b.out];first|done|rfl,rfl⟩
 |false=>have b:η (d=12):=K (by rw[c.out,WB (by omega)];rfl);go_enter func31,ntmps31;go_wp2_with fail;refine h.out.mono ?_;rintro f n ⟨rfl,rfl⟩;go_wp2;go_ret;exact⟨by rw[b.out];first|done|rfl,rfl⟩
theorem Kr(b:Α w e v z)(a:Int):ν δ 19 #[Ζ e.g,I E a] w λc g=>c=ξ (ι (lG z.Κ a))/\w=g:=by have f:=b.aA.cell 0;simp only[bg,gz_] at f;have d:=K (PT (b.part .Κ) a);generalize lG z.Κ a=h at*;clear b;go_enter func19,ntmps19;go_wp2_with fail;refine d.out.mono ?_;rintro c i ⟨rfl,rfl⟩;go_wp2;go_ret;exact⟨rfl,rfl⟩
theorem K'(b:Α w e v z)(a:Int):ν δ 17 #[Ζ e.g,I E a] w λc g=>c=ξ (H (wS z.Κ a))/\w=g:=by have f:=b.aA.cell 0;simp only[bg,gz_] at f;have d:=K (acu (b.part .Κ) a);generalize wS z.Κ a=h at*;clear b;go_enter func17,ntmps17;go_wp2_with fail;refine d.out.mono ?_;rintro c i ⟨rfl,rfl⟩;go_wp2;go_ret;exact⟨rfl,rfl⟩
theorem Fi(a:Α w e v z):ν δ 15 #[Ζ e.g] w λb d=>b=ξ (Ζ e.kb)/\w=d:=by have c:=a.aA.cell 1;simp only[bg,gz_] at c;clear a;go_enter func15,ntmps15;go_wp2;go_ret;exact⟨rfl,rfl⟩
def BU(a:cp):Bool:=decide (1<=a.Θ)&&decide (a.Θ<=5)
theorem Kh(f:cp)(i:ε)(c:Z):ν δ 99 #[aK f i] c λj k=>j=ξ (ι (BU f))/\Y c k γ:=by
 obtain⟨a,s,n,q,l,r,t,o,m,u,p,w⟩:=f;unfold aK BU;simp only;have e:η (Y c (c.alloc (ζ #[I E a,H s,H n,H q,H l,H r,H t,H o,I Λ m,I E u,ι p,i] 171)) γ):=K ((Y.refl c γ).alloc _);by_cases d:a≥1
 .by_cases h:a<=5
  .have b:η ((decide (1<=a)&&decide (a<=5))=true):=K (by rw[decide_eq_true d,decide_eq_true h];rfl);generalize(decide (1<=a)&&decide (a<=5))=g at*;go_enter func99,ntmps99;go_wp2;go_ret;exact⟨by rw[b.out];first|done|rfl,e.out⟩
  have b:η ((decide (1<=a)&&decide (a<=5))=false):=K (by rw[decide_eq_true d,decide_eq_false h];rfl);generalize(decide (1<=a)&&decide (a<=5))=g at*;go_enter func99,ntmps99;go_wp2;go_ret;exact⟨by rw[b.out];first|done|rfl,e.out⟩
 have b:η ((decide (1<=a)&&decide (a<=5))=false):=K (by rw[decide_eq_false d];rfl);generalize(decide (1<=a)&&decide (a<=5))=g at*;go_enter func99,ntmps99;go_wp2;go_ret;exact⟨by rw[b.out];first|done|rfl,e.out⟩
def vZ(a:HS)(b:Int)(rv:ε):HS:= {a with row:=a.row++[(b,0)],rv:=rv,ο:=a.ο+1}
theorem ZR(a:Υ z)(j:aF m)(o:ε):Υ (vZ z m o):= {a with
 iu:=λe k=>by have:=a.iu e k;show(z.Κ e).out.size<=(z.ο+1)*jS;exact aJ this (pg _ (cV _))
 rows:=by have:=a.rows;show(z.row++[(m,0)]).length<=2*(z.ο+1);simp only[cL,eI,eN];omega
 fits:=λd c=>by
  have c:d∈z.row++[(m,0)]:=c;obtain b|b:=dO.1 c
  .exact a.fits d b
  .rw[cj] at b;subst b;exact⟨j,by show aF 0;unfold aF;decide⟩
 last:=⟨a.last.1,by have:=a.last.2.1;show z.last<=((z.ο+1:Nat):Int);omega,a.last.2.2⟩
 state:=λn l=>by obtain⟨p,f,g,h,i⟩:=a.state n l;exact⟨p,f,g,h,λb=>qy _ (i b)⟩}
theorem aan(f:bJ z m)(a:Int)(g:ε):bJ (vZ z a g) m:=λb h c d=>by
 obtain⟨e,h1,h2⟩|h1:=f b h c d
 .exact .inl ⟨e,qy _ h1,h2⟩
 exact .inr h1
def A9(j:Z)(h:Pl)(g:Nat->Option Ν)(b:HS)(c:Int)(f:aI)(e:Z):Prop:=
 f=ξ (I E (ji b c))/\∃d a,Α e h d a/\Ε j e g d/\(ji b c≠0->a=b)/\(ji b c=0->(∃i,eh (vZ b c i) a)/\Υ a/\bJ a (-1)/\a.row=[])/\a.ο<=b.ο+1025
theorem Tg(b:Α w e v z)(j:Υ z)(ag:bJ z (-1))(a:Int)(ae:aF a)(ad:z.ο+1200<=aL):ν δ 37 #[Ζ e.g,I E a] w (A9 w e v z a):=by
 have r:=K (NN b a);have B:=b.aA.cell 8;simp only[bg,gz_] at B;have af:z.row.length<=1000000000:=by have:=j.rows;unfold aL at ad;omega
 obtain⟨au,O,l,h,u,x,rfl⟩:=Dm (b.part .row) (a,0) af;simp only at l;obtain⟨ah,o,q⟩:=b.Dh h;have f:θ O e.g 66 (bg e z):=by obtain⟨am,_,S⟩:=h;exact S.keeps.blk b.aA (b.wR (by exact nofun))
 have C:=f.cell 8;have f83:=f.frozen 8;simp only[bg,gz_] at C;obtain⟨ap,aq,t,_⟩:=(b.part .row).form;rw[t] at B C l;have p:Α (O.setCell (U e.g 8 A) (V (N u) (z.row.length+1) x)) e ah (vZ z a (V (N u) (z.row.length+1) x)):=o.more (n:=z.ο+1) (cV _);have P:=K (Ca p (ZR j ae _) (aan ag a _) (by show z.ο+1+1100<=aL;omega));have an:=f.lt;have Q:=K q;by_cases i:ji z a=0
 .have g:=K i;have n:η (∀m k c,Α m e k c->Ε w m v k->(∃aj,eh (vZ z a aj) c)->Υ c->bJ c (-1)->c.row=[]->c.ο<=z.ο+1025->A9 w e v z a (ξ (I E 0)) m):=K λm k c T W X Y aa ab ac=>⟨by rw[g.out],k,c,T,W,λd=>ahN g.out d,λ_=>⟨X,Y,aa,ab⟩,ac⟩;rw[i] at r;clear b j h o q f t p i;generalize z.row.length=ar at*;go_enter func37,ntmps37;go_wp2_with fail;refine r.out.mono ?_;rintro d ak ⟨rfl,rfl⟩;go_wp2_with (first|(at_builtin;refine dy rfl (.tmp 16) (.tmp 19) 64 rfl rfl rfl l ?_)|(go_at_call 36;refine P.out.mono ?_));rintro d al ⟨rfl,ai,M,F,J,y,G,H,L,s⟩;have R:=K (n.out al ai M F (Q.out.trans J) ⟨_,y⟩ G H L (by have s:M.ο<=z.ο+1+1024:=s;omega));clear F J y G H L s;go_wp2;go_ret;exact R.out
 have g:=K i;have n:η (A9 w e v z a (ξ (I E (ji z a))) w):=K ⟨rfl,v,z,b,Ε.refl _ _,λ_=>rfl,λd=>ahN d g.out,by omega⟩;generalize ji z a=ao at*;clear b j h o q f t p l;go_enter func37,ntmps37;go_wp2_with fail;refine r.out.mono ?_;rintro d ak ⟨rfl,rfl⟩;go_wp2;go_ret;exact n.out
theorem Gu(b:Nat->PS)(c d:Int)(a:Nat):((at_ (jJ d) b c).2 a).out=(b a).out/\((at_ (jJ d) b c).2 a).br=(b a).br/\((at_ (jJ d) b c).2 a).op=(b a).op/\((a:Int)≠c->(at_ (jJ d) b c).2 a=b a):=by
 unfold at_;split
 .rename_i f;simp only[cN];by_cases e:a=c.toNat
  .have g:(a:Int)=c:=by omega
   rw[ahM e,e];unfold jJ;split<;>exact⟨rfl,rfl,rfl,λf=>ahN (by omega) f⟩
  rw[WB e];exact⟨rfl,rfl,rfl,λ_=>rfl⟩
 exact⟨rfl,rfl,rfl,λ_=>rfl⟩
def uy(a:HS)(b c:Int):HS:= {a with Κ:=(at_ (jJ c) a.Κ b).2}
theorem ZQ(e:Υ z)(b c:Int):Υ (uy z b c):= {e with
 iu:=λa d=>by show((at_ (jJ c) z.Κ b).2 a).out.size<=_;rw[(Gu z.Κ b c a).1];exact e.iu a d
 open_:=λa d=>by show((at_ (jJ c) z.Κ b).2 a).op=_;rw[(Gu z.Κ b c a).2.2.1];exact e.open_ a d}
theorem Sx(d:Α w e v z)(c b:Int)(q:b<=9223372036854775807):ν δ 38 #[Ζ e.g,I E c,I E b] w λg f=>g=ξ (I E (at_ (jJ b) z.Κ c).1)/\∃a,Α f e a (uy z c b)/\Ε w f v a:=by have p:=d.aA.cell 0;simp only[bg,Ρ,Τ] at p;have l:=K (Sv (d.part .Κ) c b q);have n:=K d;have m:η (∀f a,Α f e a {z with Κ:=(at_ (jJ b) z.Κ c).2} ->Α f e a (uy z c b)):=K λ_ _ d=>d;clear d;generalize at_ (jJ b) z.Κ c=r at*;go_enter func38,ntmps38;go_wp2_with fail;refine l.out.mono ?_;rintro g k ⟨rfl,j⟩;obtain⟨a,h,i⟩:=n.out.zI j;have o:=K (⟨a,m.out _ _ h,i⟩:∃a,Α k e a (uy z c b)/\Ε w k v a);clear h i j;go_wp2;go_ret;exact⟨rfl,o.out⟩
def jj(b c a:Nat):Cl:=⟨b,c,a,cQ,N ⟨[],0,false⟩,(D #[]),(D #[])⟩
def lx(a:HS)(c:Int)(d e b:Nat):HS:= {a with cl:=aP a.cl c (N (jj d e b)),ο:=a.ο+1}
theorem Wx(i:Α w e v z)(B:z.ο<aL)(l:Y w n γ)(F:aF m){c:Bs}(O:fV n y cQ j)(C:gX n k ⟨[],0,false⟩ c)(A:θ n d 74 #[Ζ y,Ζ k,H (D #[]),H (D #[])])(p:∀a,j a->w.heap.size<=a)(o:∀a,c a->w.heap.size<=a)(nq:w.heap.size<=d)(x:∀a,j a->¬c a)(r:¬j d)(s:¬c d):∃f,(fB 62 (ω (N e.cm)) (I E m) (Ζ d)).run δ n= .ok () f/\∃q,Α f e q (lx z m d y k)/\Ε w f v q:=by
 obtain⟨⟨R,M,K⟩,J⟩:=(i.still l).part .hY;have Q:e.cm<w.heap.size:=i.ik e.cm .hY ((J e.cm).2 rfl);obtain⟨f,P,L,h⟩:=K.store fI (t:=62) (e:=68) Jm (by unfold aL at B;unfold Χ;omega) (x:=m) F (Ζ d);refine⟨f,P,?_⟩
 have G:∃u t,lr f (jj d y k) (λa=>a=d\/j a\/c a) u t:=⟨j,c,{
  blk:=h.blk A λg=>by have g:d=e.cm:=g;omega
  reader:=(jA _ _).keeps O h λa b g=>by have:=p a b;omega
  builder:=(jf _ _).keeps C h λa b g=>by have:=o a b;omega
  q1:=r
  q2:=s
  apart:=x
  ak:=λ_=>fT}⟩
 exact Zv i (x:=jj d y k) L (Nat.succ_le_succ M) G (λa b=>by obtain rfl|b|b:=b;exact nq;exact p a b;exact o a b) ((l.mono Η).trans h λ_ g=> .inl g)
theorem Ww(b:Α w e v z)(q:z.ο<aL)(i:Y w n γ)(r:aF m){c:Bs}(h:fV n y cQ j)(g:gX n k ⟨[],0,false⟩ c)(t:∀a,j a->w.heap.size<=a)(s:∀a,c a->w.heap.size<=a)(p:∀a,j a->¬c a):∃d,(fB 62 (ω (N e.cm)) (I E m) (π (N (U n.heap.size 0 A)))).run δ (n.alloc (ζ #[π (N (U y 0 A)),π (N (U k 0 A)),H (D #[]),H (D #[])] 74))= .ok () d/\∃o,Α d e o (lx z m n.heap.size y k)/\Ε w d v o:=by have l:Y n (n.alloc (ζ #[π (N (U y 0 A)),π (N (U k 0 A)),H (D #[]),H (D #[])] 74)) γ:=(Y.refl n γ).alloc _;exact Wx b q (i.alloc _) r ((jA _ _).keeps h l λ_ _ b=>b) ((jf _ _).keeps g l λ_ _ b=>b) (θ.new n 74 _) t s i.size p (λf=>AS _ ((jA _ _).lt h _ f)) (λf=>AS _ ((jf _ _).lt g _ f))
def jR(a:HS)(b:Int):HS:= {a with Κ:=(at_ ep a.Κ b).2}
def vB(l:Z)(i:Pl)(h:Nat->Option Ν)(b:HS)(a:Int)(g:aI)(e:Z):Prop:=
 g=ξ (I E (at_ ep b.Κ a).1)/\∃d c,Α e i d c/\Ε l e h d/\((at_ ep b.Κ a).1≠0->c=jR b a)/\((at_ ep b.Κ a).1=0->∃j k f,c=lx (jR b a) a j k f)
theorem ye(j:Α w e v z)(c:Int)(aG:aF c)(aD:z.ο<aL):ν δ 8 #[Ζ e.g,I E c] w (vB w e v z c):=by
 have az:=j.aA.cell 0;simp only[bg,Ρ,Τ] at az;have ae:=K (TN (j.part .Κ) c);have aQ:=K j;have O:η (∀L h q,Α L e h q->Ε w L v h->((at_ ep z.Κ c).1≠0->q=jR z c)->((at_ ep z.Κ c).1=0->∃aP k i,q=lx (jR z c) c aP k i)->vB w e v z c (ξ (I E (at_ ep z.Κ c).1)) L):=K λL h q S s aB aC=>⟨rfl,h,q,S,s,aB,aC⟩;have af:η (∀b,rQ w b e.pb (at_ ep z.Κ c).2 (of v .Κ)->∃h,Α b e h (jR z c)/\Ε w b v h):=K λb J=>j.zI J;clear j;generalize(at_ ep z.Κ c).1=ay at*;generalize(at_ ep z.Κ c).2=aR at*;go_enter func8,ntmps8;go_wp2_with fail;refine ae.out.mono ?_;rintro g b ⟨rfl,J⟩;obtain⟨ak,s,aj⟩:=af.out b J;have P:=K s;have ac:=K aj;clear J s aj ae af;by_cases x:ay=0
 .have ao:=K x;rw[x] at O;have av:η (∀l,Y b l γ->l.cell? (U e.g 6 A)=N (ω (N e.cm))):=K λl V=>(P.out.still V).aA.cell 6;have au:η (∀d,ν δ 28 #[] d λg C=>∃u t,g=ξ (π (N (U u 0 A)))/\fV C u cQ t/\Ψ d C γ t):=K aet;have ap:η (∀d,ν δ 29 #[] d λg C=>∃u t,g=ξ (π (N (U u 0 A)))/\gX C u ⟨[],0,false⟩ t/\Ψ d C γ t):=K aeT;have aw:η (∀l am q,Α l e am q->l.cell? (U e.g 6 A)=N (ω (N e.cm))):=K λl am q an=>an.aA.cell 6;have ab:η (∀d,Y b d γ->∀k i n m,fV d k cQ n->gX d i ⟨[],0,false⟩ m->(∀a,n a->b.heap.size<=a)->(∀a,m a->b.heap.size<=a)->(∀a,n a->¬m a)->∃r,(fB 62 (ω (N e.cm)) (I E c) (π (N (U d.heap.size 0 A)))).run δ (d.alloc (ζ #[π (N (U k 0 A)),π (N (U i 0 A)),H (D #[]),H (D #[])] 74))= .ok () r/\∃h,Α r e h (lx (jR z c) c d.heap.size k i)/\Ε b r ak h):=K λd V k i n m aH aE aO aN ax=>Ww P.out aD V aG aH aE aO aN ax;subst x;go_wp2;go_region_held3 (λl=>l.cell? (U e.g 6 A)=N (ω (N e.cm))) (first|(with_reducible exact aw.out _ _ _ Q.out)|(refine av.out _ ?_;(with_reducible first|assumption|exact(Y.refl _ _).drew|exact(by assumption:Y b _ γ).alloc _))) (first|(go_at_call 28;refine(au.out _).mono ?_;rintro g W ⟨k,n,rfl,G,p⟩;(first|(have aK:Y b W γ:=ah.trans p.keeps Η;have M:=ab.out W aK k i n m G ((jf _ _).keeps aa.out p.keeps λ_ _ j=>j) (λa f=>aJ ah.size ((p.fresh a f).resolve_left id)) aq.out (λa f T=>by have S:=(jf _ _).lt aa.out a T;have s:=(p.fresh a f).resolve_left id;omega);obtain⟨r,aI,al,y,B⟩:=M;have Q:=K y;have ad:=K B;clear y B G p)|(have ai:Y b W γ:=(Y.refl b γ).drew.trans p.keeps Η;have ag:=K G;have ar:η (∀a,n a->b.heap.size<=a):=K λa f=>(p.fresh a f).resolve_left id;clear G p)))|(go_at_call 29;refine(ap.out _).mono ?_;rintro g X ⟨i,m,rfl,F,o⟩;(first|(have aM:Y b X γ:=ai.trans o.keeps Η;have M:=ab.out X aM k i n m ((jA _ _).keeps ag.out o.keeps λ_ _ j=>j) F ar.out (λa f=>aJ ai.size ((o.fresh a f).resolve_left id)) (λa f T=>by have S:=(jA _ _).lt ag.out a f;have s:=(o.fresh a T).resolve_left id;omega);obtain⟨r,aI,al,y,B⟩:=M;have Q:=K y;have ad:=K B;clear y B F o)|(have ah:Y b X γ:=(Y.refl b γ).drew.trans o.keeps Η;have aa:=K F;have aq:η (∀a,m a->b.heap.size<=a):=K λa f=>(o.fresh a f).resolve_left id;clear F o))))
  all_goals
   have R:=K (O.out r al _ Q.out (ac.out.trans ad.out) (λg=>ahN rfl g) (λ_=>⟨_,_,_,rfl⟩));go_wp2;go_ret;exact R.out
 have R:=K (O.out b ak _ P.out ac.out (λ_=>rfl) (λg=>ahN g x));have ao:=K x;go_wp2;go_ret;exact R.out
theorem C9(c:Nat->PS)(a:Int)(b:(at_ ep c a).1=0):0<=a/\a<16/\(c a.toNat).op=false/\∀e,(at_ ep c a).2 e=if e=a.toNat then⟨true,false, -1,ByteArray.empty⟩ else c e:=by
 unfold at_ at*;by_cases d:0<=a/\a<16
 .rw[ahM d] at*;simp only at*;unfold ep at b;cases f:(c a.toNat).op with
  |true=>rw[f] at b;simp at b
  |false=>refine⟨d.1,d.2,rfl,λe=> ?_⟩;unfold cN ep;rw[f];simp
 rw[WB d] at b;simp at b
theorem Cr(b:Υ z)(g:(at_ ep z.Κ m).1=0)(s t n:Nat):Υ (lx (jR z m) m s t n):=by
 obtain⟨i,o,q,j⟩:=C9 z.Κ m g
 have u:z.cl m=A:=by
  have:=b.open_ m.toNat (by omega);rw[EJ i,q] at this;cases p:z.cl m with
  |none=>rfl
  |some w=>rw[p] at this;cases this
 exact {b with
  iu:=λc h=>by
   show((at_ ep z.Κ m).2 c).out.size<=(z.ο+1)*jS;rw[j];split
   .exact ai _
   .exact aJ (b.iu c h) (pg _ (cV _))
  rows:=by have:=b.rows;show z.row.length<=2*(z.ο+1);omega
  last:=⟨b.last.1,by have:=b.last.2.1;show z.last<=((z.ο+1:Nat):Int);omega,b.last.2.2⟩
  eC:=λk r=>by
   obtain g|⟨h1,h2,h3⟩:=b.eC k r
   .exact .inl g
   .refine .inr ⟨h1,h2,?_⟩;show(aP z.cl m _ k.2.Δ).isSome=true;unfold aP;split
    .rfl
    exact h3
  open_:=λc h=>by
   show((at_ ep z.Κ m).2 c).op=(aP z.cl m _ (c:Int)).isSome;rw[j];unfold aP;by_cases e:c=m.toNat
   .rw[ahM e,ahM (by omega)];rfl
   .rw[WB e,WB (by omega)];exact b.open_ c h
  range:=λd a=>by
   have a:(aP z.cl m _ d).isSome=true:=a;unfold aP at a;split at a
   .rename_i e;subst e;exact⟨i,o⟩
   .exact b.range d a
  jQ:=λd c l a f=>by
   have a:aP z.cl m _ d=N c:=a;unfold aP at a;split at a
   .injection a with a;subst a;injection f with f;subst f;exact abR
   .exact b.jQ d c l a f}
theorem Hr(h:bJ z m)(c:Int)(i j f:Nat):bJ (lx (jR z c) c i j f) m:=λd e a g=>by
 have a:aP z.cl c _ d=N e:=a;unfold aP at a;split at a
 .injection a with a;subst a;exact .inr ⟨⟨[],0,false⟩,rfl,λb=>by obtain b|b:=b;exact ahN rfl b;cases b⟩
 exact h d e a g
theorem abY(b:(at_ ep z.Κ m).1≠0):jR z m=z:=by
 have a:(at_ ep z.Κ m).2=z.Κ:=by
  unfold at_ at*;split
  .rename_i c;rw[ahM c] at b;simp only at*;funext i;unfold cN;split
   .rename_i a;subst a;unfold ep at*;split
    .rfl
    rename_i d;rw[WB d] at b;exact ahN rfl b
   rfl
  rfl
 unfold jR;rw[a]
def nI(Ι:Int)(b:BA)(a:υ):Bool:=same a.ax b&&(decide (0<=a.Δ)||decide (Ι<a.aH))
def kQ(b:HS)(d c:BA):Option (Nat×υ):=(b.τ.filter λa=>same a.2.ψ d).find? λa=>nI b.Ι c a.2
def vE(d:Z)(a:Option (Nat×υ))(b:aI)(c:Z):Prop:=b=ξ (σ #[rq a,ι a.isSome])/\Y d c γ
theorem Ym(n:Α w e v z)(l:Υ z)(g c:BA):ν δ 162 #[Ζ e.g,H g,H c] w (vE w (kQ z g c)):=by
 have be:=jl l;have L:Y w (w.alloc (ζ #[I E 0,H (D #[]),H (D #[]),H (D #[]),I E 0,I E 0] 42)) γ:=(Y.refl w γ).alloc _;have al:=K (Bg ((n.still L).part .table) (by omega) g);have Q:=K n;have ad:=K l;have au:=(n.still L).aA.cell 2;simp only[bg,gz_] at au;have av:∀a2∈z.τ.filter (λe=>same e.2.ψ g),a2∈z.τ:=λa2 bn=>(dE.1 bn).1;have bB:(z.τ.filter λe=>same e.2.ψ g).length<=16:=aJ (jo _ _) be;have O:=K (show kQ z g c=(z.τ.filter λe=>same e.2.ψ g).find? λe=>nI z.Ι c e.2 from rfl);generalize(z.τ.filter λe=>same e.2.ψ g)=i at*;have a4:=K av;have a6:=K L;have ab:=K (θ.new w 42 #[I E 0,H (D #[]),H (D #[]),H (D #[]),I E 0,I E 0]);clear av n l L;go_enter func162,ntmps162;go_wp2_with fail;refine al.out.mono ?_;rintro a9 C ⟨b3,rfl,X,W⟩;have a5:=K (Hg X (by omega));obtain⟨b2,bN,bi⟩:=cC X;subst bi;have F:=K (a6.out.trans W Η);have ac:=K (W.blk ab.out id);clear W X al ab au;go_wp2;go_loopw [19] (λl wr=>∃b:Nat,b<=i.length/\l=I E b/\η (Y C wr γ/\(i.take b).find? (λe=>nI z.Ι c e.2)=A)) (λl _=>i.length-(aB l).toNat)
 case atStart=>exact⟨0,by omega,rfl,K ⟨Y.refl _ _,rfl⟩⟩
 obtain⟨b,bE,rfl,f⟩:=hrel;by_cases S:b<i.length
 .have bf:(b:Int)<i.length:=by omega
  obtain⟨bF,b1,b0,bk,y0⟩:=(a5.out.uK f.out.1 (λ_ _ n=>n)).at_ (k:=b) (by simpa using S);injection bk with bq bs br;clear bs;subst bq br;simp only[List.getElem_map] at y0;have G:=K (show i.take (b+1)=i.take b++[i[b]] from lq S);have T:=a4.out _ (eA S);generalize i[b]=a1 at*;have R:=K (F.out.trans f.out.1 Η);have bc:=(Q.out.still R.out).aA.cell 2;simp only[bg,gz_] at bc;have m:=rH ((Q.out.still R.out).part .table) a1.2.id (gm ad.out T);rw[rZ ad.out T,xp] at m;simp only[mX] at m;have m:=K m;obtain⟨a3,a⟩:=a1;simp only at*;clear T;unfold υ.cells at m;go_wp2_with fail;refine m.out.mono ?_;rintro a9 M ⟨rfl,o⟩;have a7:=K (R.out.trans o Η);have bd:=(Q.out.still (a7.out.alloc (ζ #[I E a.id,H a.ψ,H a.ah,H a.ax,I E a.Δ,I E a.aH] 42))).aA.cell 4;simp only[bg,gz_] at bd;have h:=(f.out.1.trans (o.alloc (ζ #[I E a.id,H a.ψ,H a.ah,H a.ax,I E a.Δ,I E a.aH] 42)) Η).blk ac.out id;obtain⟨z0,bv,bw,bx,bz,bA⟩:=gS h;have ba:=λbt=>h.frozen bt;cases J:(a.ax.toList==c.toList) with
  |false=>
   have j:η (nI z.Ι c a=false):=K (by unfold nI same;rw[J];rfl);go_wp2;go_quiet (fail)
   have k:=K (show Y C ((M.alloc (ζ #[I E a.id,H a.ψ,H a.ah,H a.ax,I E a.Δ,I E a.aH] 42)).drewN nq) γ from((f.out.1.trans o Η).alloc _).drewN nq);go_wp2;go_roundw
   case rel=>exact⟨b+1,by omega,by go_num,K ⟨k.out,by rw[G.out,rD,f.out.2];simp[j.out]⟩⟩
   case measure=>simp[aB];omega
  |true=>
   by_cases aw:a.Δ≥0
   .have j:η (nI z.Ι c a=true):=K (by unfold nI same;rw[J,decide_eq_true (show 0<=a.Δ from aw)];rfl);go_wp2;go_quiet (fail)
    have k:=K (show Y C ((M.alloc (ζ #[I E a.id,H a.ψ,H a.ah,H a.ax,I E a.Δ,I E a.aH] 42)).drewN nq) γ from((f.out.1.trans o Η).alloc _).drewN nq);have d:=K (h.drewN nq);have P:η (kQ z g c=N (a3,a)):=K (by rw[O.out,<-AQ (b+1) i,G.out,vm,rD,f.out.2];simp[j.out]);have am:=d.out.frozen 0;have an:=d.out.frozen 1;have ao:=d.out.frozen 2;have ap:=d.out.frozen 3;have aq:=d.out.frozen 4;have bb:=d.out.frozen 5;go_wp2;have q:=((((((d.out.χ 0 (I E a.id)).χ 1 (H a.ψ)).χ 2 (H a.ah)).χ 3 (H a.ax)).χ 4 (I E a.Δ)).χ 5 (I E a.aH)).to (cs':=#[I E a.id,H a.ψ,H a.ah,H a.ax,I E a.Δ,I E a.aH]) (by simp);have r:=(((((((F.out.trans k.out Η).bG (k:=w.heap.size) (i:=0) (u:=(I E a.id)) (Ο _)).bG (k:=w.heap.size) (i:=1) (u:=(H a.ψ)) (Ο _)).bG (k:=w.heap.size) (i:=2) (u:=(H a.ah)) (Ο _)).bG (k:=w.heap.size) (i:=3) (u:=(H a.ax)) (Ο _)).bG (k:=w.heap.size) (i:=4) (u:=(I E a.Δ)) (Ο _)).bG (k:=w.heap.size) (i:=5) (u:=(I E a.aH)) (Ο _));obtain⟨s,t,u,x,y,B⟩:=gS q;have p:=K (show vE w (kQ z g c) (ξ (σ #[Μ #[I E a.id,H a.ψ,H a.ah,H a.ax,I E a.Δ,I E a.aH],ι true])) _ from⟨by rw[P.out];rfl,r⟩);refine Ω (v:=σ #[Μ #[I E a.id,H a.ψ,H a.ah,H a.ax,I E a.Δ,I E a.aH],ι true]) (by simp[ag,results162,go_sem,s,t,u,x,y,B]) rfl ?_;exact p.out
   by_cases a0:a.aH>z.Ι
   .have j:η (nI z.Ι c a=true):=K (by unfold nI same;rw[J,decide_eq_true (show z.Ι<a.aH from a0)];simp);go_wp2;go_quiet (fail)
    have k:=K (show Y C ((M.alloc (ζ #[I E a.id,H a.ψ,H a.ah,H a.ax,I E a.Δ,I E a.aH] 42)).drewN nq) γ from((f.out.1.trans o Η).alloc _).drewN nq);have d:=K (h.drewN nq);have P:η (kQ z g c=N (a3,a)):=K (by rw[O.out,<-AQ (b+1) i,G.out,vm,rD,f.out.2];simp[j.out]);have am:=d.out.frozen 0;have an:=d.out.frozen 1;have ao:=d.out.frozen 2;have ap:=d.out.frozen 3;have aq:=d.out.frozen 4;have bb:=d.out.frozen 5;go_wp2;have q:=((((((d.out.χ 0 (I E a.id)).χ 1 (H a.ψ)).χ 2 (H a.ah)).χ 3 (H a.ax)).χ 4 (I E a.Δ)).χ 5 (I E a.aH)).to (cs':=#[I E a.id,H a.ψ,H a.ah,H a.ax,I E a.Δ,I E a.aH]) (by simp);have r:=(((((((F.out.trans k.out Η).bG (k:=w.heap.size) (i:=0) (u:=(I E a.id)) (Ο _)).bG (k:=w.heap.size) (i:=1) (u:=(H a.ψ)) (Ο _)).bG (k:=w.heap.size) (i:=2) (u:=(H a.ah)) (Ο _)).bG (k:=w.heap.size) (i:=3) (u:=(H a.ax)) (Ο _)).bG (k:=w.heap.size) (i:=4) (u:=(I E a.Δ)) (Ο _)).bG (k:=w.heap.size) (i:=5) (u:=(I E a.aH)) (Ο _));obtain⟨s,t,u,x,y,B⟩:=gS q;have p:=K (show vE w (kQ z g c) (ξ (σ #[Μ #[I E a.id,H a.ψ,H a.ah,H a.ax,I E a.Δ,I E a.aH],ι true])) _ from⟨by rw[P.out];rfl,r⟩);refine Ω (v:=σ #[Μ #[I E a.id,H a.ψ,H a.ah,H a.ax,I E a.Δ,I E a.aH],ι true]) (by simp[ag,results162,go_sem,s,t,u,x,y,B]) rfl ?_;exact p.out
   have j:η (nI z.Ι c a=false):=K (by unfold nI same;rw[J,decide_eq_false (show ¬0<=a.Δ from aw),decide_eq_false (show ¬z.Ι<a.aH from a0)];rfl);go_wp2;go_quiet (fail)
   have k:=K (show Y C ((M.alloc (ζ #[I E a.id,H a.ψ,H a.ah,H a.ax,I E a.Δ,I E a.aH] 42)).drewN nq) γ from((f.out.1.trans o Η).alloc _).drewN nq);go_wp2;go_roundw
   case rel=>exact⟨b+1,by omega,by go_num,K ⟨k.out,by rw[G.out,rD,f.out.2];simp[j.out]⟩⟩
   case measure=>simp[aB];omega
 have bf:¬(b:Int)<i.length:=by omega
 have a8:η (kQ z g c=A):=K (by rw[O.out];have:=f.out.2;rwa [List.take_of_length_le (by omega)] at this);have h:=f.out.1.blk ac.out id;obtain⟨z0,bv,bw,bx,bz,bA⟩:=gS h;have am:=h.frozen 0;have an:=h.frozen 1;have ao:=h.frozen 2;have ap:=h.frozen 3;have aq:=h.frozen 4;have ba:=h.frozen 5;go_wp2;have q:=((((((h.χ 0 (I E 0)).χ 1 (H (D #[]))).χ 2 (H (D #[]))).χ 3 (H (D #[]))).χ 4 (I E 0)).χ 5 (I E 0)).to (cs':=#[I E 0,H (D #[]),H (D #[]),H (D #[]),I E 0,I E 0]) (by simp);have r:=(((((((F.out.trans f.out.1 Η).bG (k:=w.heap.size) (i:=0) (u:=(I E 0)) (Ο _)).bG (k:=w.heap.size) (i:=1) (u:=(H (D #[]))) (Ο _)).bG (k:=w.heap.size) (i:=2) (u:=(H (D #[]))) (Ο _)).bG (k:=w.heap.size) (i:=3) (u:=(H (D #[]))) (Ο _)).bG (k:=w.heap.size) (i:=4) (u:=(I E 0)) (Ο _)).bG (k:=w.heap.size) (i:=5) (u:=(I E 0)) (Ο _));obtain⟨s,t,u,x,y,B⟩:=gS q;have p:=K (show vE w (kQ z g c) (ξ (σ #[Μ #[I E 0,H (D #[]),H (D #[]),H (D #[]),I E 0,I E 0],ι false])) _ from⟨by rw[a8.out];rfl,r⟩);refine Ω (v:=σ #[Μ #[I E 0,H (D #[]),H (D #[]),H (D #[]),I E 0,I E 0],ι false]) (by simp[ag,results162,go_sem,s,t,u,x,y,B]) rfl ?_;exact p.out
def eK(a:Nat):ε:=af (.func a) #[] #[]
noncomputable def pJ:Int->Option ε:=(put (put (put (put (put (put (put (put (put (λ_=>A) 1 (N (eK 171))) 2 (N (eK 172))) 3 (N (eK 173))) 6 (N (eK 174))) 8 (N (eK 175))) 9 (N (eK 176))) 13 (N (eK 177))) 14 (N (eK 177))) 10 (N (eK 178)))
theorem oS:prog.underlying 180=N (.map 3 179):=by kernel_rfl
theorem MN(b:Z):ν δ 101 #[] b λa y=>∃c C,a=ξ (ω (N c))/\aC cM y c pJ C/\Y b y γ:=by have P:= @run_makeMap δ;have n:=aC.made cM b;have d:Y b (b.alloc (.map #[] 0)) γ:=(Y.refl b γ).alloc _;obtain⟨Q,E,o,e⟩:=n.store fI (t:=180) oS (by unfold Χ;omega) (x:=1) (by show aF 1;unfold aF;decide) (eK 171);obtain⟨R,F,p,f⟩:=o.store fI (t:=180) oS (by unfold Χ;omega) (x:=2) (by show aF 2;unfold aF;decide) (eK 172);obtain⟨S,G,q,g⟩:=p.store fI (t:=180) oS (by unfold Χ;omega) (x:=3) (by show aF 3;unfold aF;decide) (eK 173);obtain⟨T,H,r,h⟩:=q.store fI (t:=180) oS (by unfold Χ;omega) (x:=6) (by show aF 6;unfold aF;decide) (eK 174);obtain⟨V,I,s,i⟩:=r.store fI (t:=180) oS (by unfold Χ;omega) (x:=8) (by show aF 8;unfold aF;decide) (eK 175);obtain⟨W,J,t,j⟩:=s.store fI (t:=180) oS (by unfold Χ;omega) (x:=9) (by show aF 9;unfold aF;decide) (eK 176);obtain⟨X,L,u,k⟩:=t.store fI (t:=180) oS (by unfold Χ;omega) (x:=13) (by show aF 13;unfold aF;decide) (eK 177);obtain⟨aa,M,w,l⟩:=u.store fI (t:=180) oS (by unfold Χ;omega) (x:=14) (by show aF 14;unfold aF;decide) (eK 177);obtain⟨z,O,x,m⟩:=w.store fI (t:=180) oS (by unfold Χ;omega) (x:=10) (by show aF 10;unfold aF;decide) (eK 178);have A:=K (show Y b z γ from(((((((((d.trans e λ_ a=> .inr (by rw[a];exact Ο _)).trans f λ_ a=> .inr (by rw[a];exact Ο _)).trans g λ_ a=> .inr (by rw[a];exact Ο _)).trans h λ_ a=> .inr (by rw[a];exact Ο _)).trans i λ_ a=> .inr (by rw[a];exact Ο _)).trans j λ_ a=> .inr (by rw[a];exact Ο _)).trans k λ_ a=> .inr (by rw[a];exact Ο _)).trans l λ_ a=> .inr (by rw[a];exact Ο _)).trans m λ_ a=> .inr (by rw[a];exact Ο _)));have B:=K (show aC cM z b.heap.size pJ _ from x);simp only[cM,eK] at E F G H I J L M O;clear d n o e p f q g r h s i t j u k w l x m;go_enter func101,ntmps101;go_wp2;go_ret;exact⟨_,_,rfl,B.out,A.out⟩
def fj(b:HS)(v:ε)(a:List Int):HS:= {b with dv:=v,dl:=a}
theorem Aa{c:List Int}(f:lw w x c)(p:Y w n j)(m:∀d,dS x=N d->¬j d):lw n x c:=by obtain⟨g,q,e,rfl,h,i,k,b⟩:=f;exact⟨g,q,e,rfl,h,i,k,λw a=>⟨(b w a).1,λo r l=>az p ((b w a).2 o r l) (m w.block (by subst a;rfl))⟩⟩
theorem acL(c:Α w e v z)(f:Y w n γ){i:List Int}(q:lw n x i)(h:∀a,dS x=N a->(v a=N .lB\/w.heap.size<=a)/\a<n.heap.size):∃l,Α (n.setCell (U e.g 5 A) x) e l (fj z x i)/\Ε w (n.setCell (U e.g 5 A) x) v l:=by
 have t:e.g<w.heap.size:=c.aA.lt
 have j:∀a,dS x=N a->a≠e.g:=λa b g=>by
  obtain d|d:=(h a b).1
  .rw[g,c.jV] at d;cases d
  omega
 have m:θ n e.g 66 (bg e z):=f.blk c.aA id
 have r:Y w (n.setCell (U e.g 5 A) x) (λa=>v a=N .ca\/v a=N .lB):=
  (f.mono λa b=>b.elim).χ (p:=(U e.g 5 A)) (.inl (.inl c.jV)) x
 have k:Y n (n.setCell (U e.g 5 A) x) (·=e.g):=(Y.refl n (·=e.g)).χ (p:=(U e.g 5 A)) (.inl rfl) x;refine⟨_,c.sQ (s':=fj z x i) (F1:=(·=e.g)) (F2:=λa=>dS x=N a) .ca .lB (by exact nofun) r (λa b=> .inl (by rw[b];exact c.jV)) (λa b=>(h a b).1) (λa b p=>j a p b) ⟨?_,λf=>fT⟩ ⟨?_,λf=>fT,λa b=> ?_⟩ λs d o=> ?_⟩
 .exact(m.χ 5 x).to (by simp[bg,fj])
 .exact Aa q k λa b g=>j a b g
 .exact dQ (h a b).2 k.size
 cases s<;>first|rfl|exact ahN rfl d|exact ahN rfl o
theorem Hi(a:Υ z)(v:ε)(b:List Int):Υ (fj z v b):= {a with}
theorem My(b:Υ z)(v:ε)(a:List Int):eJ z (fj z v a) 0:=⟨Hi b v a,rfl,rfl,⟨[],by simp[fj]⟩,λ_ _ c d=>⟨c,d⟩,Ο _⟩
