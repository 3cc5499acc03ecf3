/- A part. -/
import Derived.Test.YtdgneofhcenhfaaGreatDoorpf
set_option maxHeartbeats 16000000
set_option maxRecDepth 100000
set_option linter.all false
open And renaming intro->Φ
open ByteArray renaming mk->D
open Go renaming World->Z,bodyPost_ret->Ω,maxLen->Χ,results->ag
open Go.Addr renaming mk->U
open Go.Builtin renaming len_->tC
open Go.Ending renaming returned->ξ
open Go.Instr renaming mapUpdate->fB
open Go.IntKind renaming i64->E,u32->Λ
open Go.Lib renaming hid->K
open Go.Obj renaming cells->ζ
open Go.Proofs.Tryz renaming prog->δ,results158->qw
open Go.RowKit renaming Hid->η
open Go.Value renaming agg->Μ,bool->ι,int->I,map->ω,slice->V,string->H,tuple->σ
open Go.World renaming alloc->bm,setCell->eH
open Nat renaming le_succ->cV,le_trans->aJ,zero_le->ai
open Option renaming none->A,some->N
open Go RowKit Lib Proofs.Tryz
namespace Go.Proofs.YtdgneofhcenhfaaGreatDoor
attribute [local go_sem ↓] wp_at_zero wp_at_succ
def Tu(f:Z)(d:Ending)(e:Z):Prop:=((∃a v,d=ξ (σ #[aK a v,I E 0])/\fh a/\aZ e v a.aM/\(∀b,v.ownBlock=N b->f.heap.size<=b)/\(2<=a.Θ/\a.Θ<=5)/\(a.Θ=3->a.aM.length=1))\/∃c:Int,c≠0/\d=ξ (σ #[aK z0 (V A 0 0),I E c]))/\Y f e γ
def ue(d e:Nat)(f:Z):Prop:=∃b,aC bR f d b e/\∀c,b c=A\/∃a:Int,b c=N (I E a)/\2<=a/\a<=5
variable{w n:Z}{x i:Value}{y k:Nat}{m C:Int}{j:Bs}{o:List It}{Q:El}{W:At}
theorem ue.ins(f:ue y k w)(n:k<=100)(c:BA)(o:c.size<=1000)(a:Int)(i:2<=a/\a<=5):∃b,(fB 96 (ω (N y)) (H c) (I E a)).run δ w= .ok () b/\ue y (k+1) b/\Y w b (·=y):=by
 obtain⟨p,g,h⟩:=f;obtain⟨b,m,l,j⟩:=g.store dG (t:=96) (e:=3) zW (by unfold Χ;omega) (x:=c) (by show c.size<=Χ;unfold Χ;omega) (I E a);refine⟨b,m,⟨_,l,λe=> ?_⟩,j⟩;by_cases d:e=c
 .subst d;rw[dJ];exact .inr ⟨a,rfl,i⟩
 rw[dI _ _ _ _ d];exact h e
theorem ue.look(b:ue y k w)(x:BA)(i:x.size<=1000000):∃(c:Int) (f:Bool),(f=true->2<=c/\c<=5)/\∀a,Y w a γ->(Instr.lookup 96 (ω (N y)) (H x) true).run δ a= .ok (σ #[I E c,ι f]) a:=by
 obtain⟨j,g,h⟩:=b;have e:=λa (d:Y w a γ)=>(g.keeps d id).look_ok dG (t:=96) (e:=3) zW (z:=I E 0) (by kernel_rfl) (x:=x) (by show x.size<=Χ;unfold Χ;omega);obtain b|⟨c,b,hi⟩:=h x
 .exact⟨0,false,nofun,λa d=>by have:=e a d;rw[b] at this;exact this⟩
 exact⟨c,true,λ_=>hi,λa d=>by have:=e a d;rw[b] at this;exact this⟩
theorem aam(a:Z):∃d e f b,(fB 96 (ω (N a.heap.size)) (H (D #[103,101,116])) (I E 2)).run δ (a.alloc (.map #[] 0))= .ok () d/\(fB 96 (ω (N a.heap.size)) (H (D #[115,101,116])) (I E 3)).run δ d= .ok () e/\(fB 96 (ω (N a.heap.size)) (H (D #[114,101,115,117,108,116])) (I E 4)).run δ e= .ok () f/\(fB 96 (ω (N a.heap.size)) (H (D #[101,114,114,111,114])) (I E 5)).run δ f= .ok () b/\η (Y a b γ/\ue a.heap.size 4 b):=by have h:ue a.heap.size 0 (a.alloc (.map #[] 0)):=⟨_,aC.made bR a,λ_=> .inl rfl⟩;obtain⟨d,q,i,m⟩:=h.ins (by decide) ⟨#[103,101,116]⟩ (by decide) 2 (by decide);obtain⟨e,r,j,n⟩:=i.ins (by decide) ⟨#[115,101,116]⟩ (by decide) 3 (by decide);obtain⟨f,s,k,o⟩:=j.ins (by decide) ⟨#[114,101,115,117,108,116]⟩ (by decide) 4 (by decide);obtain⟨b,t,l,p⟩:=k.ins (by decide) ⟨#[101,114,114,111,114]⟩ (by decide) 5 (by decide);have c:∀g,g=a.heap.size->γ g\/a.heap.size<=g:=λg u=> .inr (by omega);exact⟨d,e,f,b,q,r,s,t,K ⟨(((((Y.refl a γ).alloc _).trans m c).trans n c).trans o c).trans p c,l⟩⟩
noncomputable def zg:BA->Option cO:=ed (ed eF ⟨#[116,121,112,101]⟩ nU) ⟨#[105,100]⟩ nU
theorem Z0(f:aT w):∃b a,(fB 235 (ω (N w.heap.size)) (H (D #[116,121,112,101])) (.func (.func 230) #[] #[])).run δ (w.alloc (.map #[] 0))= .ok () b/\(fB 235 (ω (N w.heap.size)) (H (D #[105,100])) (.func (.func 230) #[] #[])).run δ b= .ok () a/\η (Y w a γ/\TM a (ω (N w.heap.size)) zg/\∃c:Int,(0<=c/\c<=1000)/\∀d,Y a d γ->(tC #[235] 3 #[ω (N w.heap.size)]).run δ d= .ok (I E c) d):=by obtain⟨b,i,_,_,e⟩:=jb.first (D8 f) ⟨#[116,121,112,101]⟩ (by decide);have e:=e (λ_=>True) trivial;obtain⟨a,j,g,_,h⟩:=e.ins (lY.of (D8 f) (λ_=>True) _) ⟨#[105,100]⟩ (by decide) (by decide);exact⟨b,a,i,j,K ⟨h,g.tm (by decide),g.len (by decide)⟩⟩
theorem fW.zu(a:fW Q):∀k∈Q.Ξ,fW k:=by
 cases a with
 |mk j c l i d e f g h b=>exact b
theorem fW.aak(e:fW Q):∀a∈Q.Ξ,a.Β.length<=10000:=by
 cases e with
 |mk l d m k f g h b i c=>
  intro a j;have:=c a j;cases this with
  |mk l d m k f g h b i c=>exact b
theorem Z1(a:dU zg eF m [] W=N C):(bK W [105,100]).size<=40:=
 Ip (xG (xG Ad _ (.inr λb=>xH)) _ (.inr λb=>xH)) a [105,100] (by decide)
theorem qV(h:aZ w x o)(q:Y w n j)(l:∀c,x.ownBlock=N c->c<w.heap.size->¬j c):aZ n x o:=by
 obtain⟨r,g,rfl,i,k,f⟩:=h;refine⟨r,g,rfl,i,k,λb d=>⟨(f b d).1,λp s m=> ?_⟩⟩;have a:=(f b d).2 p s m;refine az q a (l b.block (by rw[d];rfl) ?_);unfold World.cell? at a;simp only at a;cases e:w.heap[b.block]? with
 |none=>rw[e] at a;cases a
 |some t=>exact(Array.getElem?_eq_some_iff.1 e).1
theorem ZY(b4:∀(w:Z) (j:Bs) (Q:El) (x i:Value),bX w j Q x i->qA Q.Γ->fW Q->aT w->∀a:cp,fh a->a.aM=[]->Calls δ 231 #[aK a (V A 0 0),bM Q x i] w (Sl w a.Θ))(t:bX w j Q x i)(ch:qA Q.Γ)(cr:fW Q)(cl:aT w):Calls δ 158 #[bM Q x i] w (Tu w):=by
 have cB:=K b4;clear b4;obtain⟨⟨cQ,cP,rfl⟩,c8,cy,rfl⟩:=t.form;have d0:= @run_makeMap δ;have bN:=K t;have bJ:=K ch;have bR:=K cr;have bL:=K cl;have bW:=K (show eB 0 from by unfold eB;omega);simp only[bM] at*;clear t ch cr cl;go_enter func158,ntmps158;go_upto_region 1 with fail
 generalize cg:bm (bm w _) _=aH at*;have bh:=K (za cg);clear cg;have z:=K bh.out.keeps;have a3:=K bh.out.b1;have c:=K bh.out.b2;clear bh;generalize ci:((D Q.Β.toArray):BA)=cc at*;generalize cj:((D Q.name.toArray):BA)=dV at*;have bd:=K (Φ cj ci);clear ci cj
 have b9:η (∀(nm:BA) T,Y aH T γ->Calls δ 229 #[Μ #[H dV,V cQ Q.Γ.length cP,H cc,V c8 Q.Ξ.length cy],H nm] T λab aQ=>ab=ξ (H (bK Q.Γ nm.data.toList))/\Y T aQ γ/\η (Y aH aQ γ)):=K λnm T aa=>by
  have:=Ac (bN.out.keeps (kk z.out aa) λ_ _ t=>t) bJ.out.1 nm.data.toList;simp only[bM] at this;have bk:((D nm.data.toList.toArray):BA)=nm:=by cases nm;simp
  rw[bk,bd.out.1,bd.out.2] at this;exact this.mono λab aQ t=>⟨t.1,t.2,K (kk aa t.2)⟩
 obtain⟨d1,d3,d4,d5,dg,dh,dk,dl,bS⟩:=aam aH;go_upto_region 2 with fail
 clear dg dh dk dl;obtain⟨a0,a1,a2,R⟩:=aj (bS.out.1.blk a3.out id);go_wp2_with fail;refine(b9.out _ _ bS.out.1).mono ?_;rintro ab aY ⟨rfl,cw,aU⟩;have cs:(bK Q.Γ ((D #[116,121,112,101]):BA).data.toList).size<=1000000:=aJ (D7 (λb bo=>(bJ.out.2 b bo).2) _) (by decide);generalize bK Q.Γ ((D #[116,121,112,101]):BA).data.toList=dP at*;obtain⟨O,db,cq,co⟩:=bS.out.2.look dP cs;have cz:=co aY cw;have cI:=K cq;clear co cq cs cw a0 a1 a2 R;cases db
 .go_upto_region 4 with fail
  clear cz;obtain⟨an,aq,ar,au,av,aw,ax,az,aA,aB,ao,ap⟩:=aS (aU.out.blk c.out id);obtain⟨y0,G,J,L,ae,af,ah,ak,al,am,ac,ad⟩:=dj (aU.out.blk c.out id);obtain⟨d,e⟩:=kh (aU.out.blk c.out id) (kk z.out aU.out) (.inr (cV _));go_wp2;obtain⟨f,g,l,m,n,o,p,q,r,s,h,k⟩:=d.out;refine Ω (v:=σ #[ez,I E 6]) (by simp[ez,ag,qw,go_sem,f,g,l,m,n,o,p,q,r,s,h,k]) rfl ?_;exact⟨.inr ⟨6,by decide,rfl⟩,e.out⟩
 have bO:=K (cI.out rfl);obtain⟨d6,a9,dm,dn,bT⟩:=Z0 (bL.out.still (kk z.out aU.out));go_upto_region 6 with fail
 clear cz dm dn;generalize cu:bm a9 _=ba at*;have aV:η (Y aH ba γ/\θ ba a9.heap.size 237 #[ω (N aY.heap.size),ω A]/\TM ba (ω (N aY.heap.size)) zg/\∃aE:Int,(0<=aE/\aE<=1000)/\∀T,Y ba T γ->(tC #[235] 3 #[ω (N aY.heap.size)]).run δ T= .ok (I E aE) T):=K (by subst cu;have aa:Y a9 (a9.alloc (ζ #[ω (N aY.heap.size),ω A] 237)) γ:=(Y.refl a9 γ).alloc _;obtain⟨aE,aI,aF⟩:=bT.out.2.2;exact⟨kk (kk aU.out bT.out.1) aa,θ.new _ _ _,bT.out.2.1.keeps aa,aE,aI,λT c9=>aF T (kk aa c9)⟩);clear cu;obtain⟨a0,a1,a2,R⟩:=aj (aV.out.1.blk a3.out id);go_wp2_with fail;refine(b9.out _ _ aV.out.1).mono ?_;rintro ab bI ⟨rfl,cx,b7⟩;clear a0 a1 a2 R;have cF:η (bK Q.Γ ((D #[105,100]):BA).data.toList=bK Q.Γ [105,100]):=K rfl;rw[cF.out];obtain⟨P,hvid⟩:∃P,bK Q.Γ [105,100]=P:=⟨_,rfl⟩;rw[hvid];have cK:=K hvid;clear hvid;have cM:=K cx;clear cx;go_upto_region 7 with fail
 generalize ct:bm bI _=bH at*;have aD:η (Y aH bH γ/\Y ba bH γ/\θ bH bI.heap.size 171 #[I E O,H (D #[]),H P,H (D #[]),H (D #[]),H (D #[]),H (D #[]),H (D #[]),I Λ 0,I E 0,ι false,V A 0 0]):=K (by subst ct;exact⟨b7.out.alloc _,cM.out.alloc _,θ.new _ _ _⟩);have aR:η (aH.heap.size<=bI.heap.size):=K b7.out.size;clear ct;generalize c1:bI.heap.size=B at*;clear c1;obtain⟨a0,a1,a2,R⟩:=aj (aD.out.1.blk a3.out id);have b1:=(aD.out.2.1.blk aV.out.2.1 id).cell 0;have b2:=(aD.out.2.1.blk aV.out.2.1 id).cell 1;simp only[gz_] at b1 b2;obtain⟨aE,cf,cn⟩:=aV.out.2.2.2;have be:=K (yT (o1:=N aY.heap.size) (o2:=A) (L0:=aE) (bN.out.keeps (kk z.out aD.out.1) λ_ _ t=>t) bJ.out (aV.out.2.2.1.keeps aD.out.2.1) (TM.nil _) cf (λT aa=>cn T (kk aD.out.2.1 aa)));simp only[bM] at be;rw[bd.out.1,bd.out.2] at be;clear cf cn;go_cut [9] (λdA dS=>∃bn:Bool,dA=ι bn/\η ((bn=true->dU zg eF aE [] Q.Γ=N 0/\Q.Ξ.length<=1)/\Y bH dS γ))
 case first=>
  go_wp2_with fail;refine be.out.mono ?_;rintro ab d2 ⟨rfl,b0⟩;have bi:=K (Φ b0 (kk aD.out.1 b0));obtain⟨y0,G,J,L⟩:=aj (bi.out.2.blk a3.out id);clear b0 a0 a1 a2 R b1 b2;obtain⟨bY,hfb⟩:∃bY,bY=decide (dU zg eF aE [] Q.Γ=N 0):=⟨_,rfl⟩;rw[<-hfb];have cH:=K hfb;clear hfb;cases bY
  .go_wp2_with fail;go_meet;exact⟨false,rfl,K ⟨nofun,bi.out.1⟩⟩
  have cG:=K (of_decide_eq_true cH.out.symm);cases cT:cc.toList.isEmpty
  .go_wp2_with fail;go_meet;exact⟨false,rfl,K ⟨nofun,bi.out.1⟩⟩
  go_wp2_with fail;go_meet;exact⟨decide ((Q.Ξ.length:Int)<=1),rfl,K ⟨λt=>⟨cG.out,by have:=of_decide_eq_true t;omega⟩,bi.out.1⟩⟩
 case rest=>
 obtain⟨bn,rfl,bf⟩:=hcut;generalize wc=u at*;clear be a0 a1 a2 R b1 b2;have y:=K (kk aD.out.1 bf.out.2);have aC:=K (bf.out.2.blk aD.out.2.2 id);cases bn
 .go_upto_region 17 with fail
  obtain⟨an,aq,ar,au,av,aw,ax,az,aA,aB,ao,ap⟩:=aS (y.out.blk c.out id);obtain⟨y0,G,J,L,ae,af,ah,ak,al,am,ac,ad⟩:=dj (y.out.blk c.out id);obtain⟨d,e⟩:=kh (y.out.blk c.out id) (kk z.out y.out) (.inr (cV _));go_wp2;obtain⟨f,g,l,m,n,o,p,q,r,s,h,k⟩:=d.out;refine Ω (v:=σ #[ez,I E 3]) (by simp[ez,ag,qw,go_sem,f,g,l,m,n,o,p,q,r,s,h,k]) rfl ?_;exact⟨.inr ⟨3,by decide,rfl⟩,e.out⟩
 have bU:η (P.size<=40):=K (by rw[<-cK.out];exact Z1 (bf.out.1 rfl).1);have dW:=K (bf.out.1 rfl).2;have R:=(y.out.blk a3.out id).cell 3;simp only[gz_] at R;by_cases aW:Q.Ξ.length=0
 .have cm:((Q.Ξ.length:Int)==0)=true:=by simp[aW]
  have bP:=K aW;clear aW;cases bZ:(O==4)
  .go_upto_region 17 with fail
   clear R;obtain⟨an,aq,ar,au,av,aw,ax,az,aA,aB,ao,ap⟩:=aS (y.out.blk c.out id);obtain⟨y0,G,J,L,ae,af,ah,ak,al,am,ac,ad⟩:=dj (y.out.blk c.out id);obtain⟨d,e⟩:=kh (y.out.blk c.out id) (kk z.out y.out) (.inr (cV _));go_wp2;obtain⟨f,g,l,m,n,o,p,q,r,s,h,k⟩:=d.out;refine Ω (v:=σ #[ez,I E 3]) (by simp[ez,ag,qw,go_sem,f,g,l,m,n,o,p,q,r,s,h,k]) rfl ?_;exact⟨.inr ⟨3,by decide,rfl⟩,e.out⟩
  go_upto_region 18 with fail
  clear R cm;have cU:=K (beq_iff_eq.1 bZ);clear bZ;obtain⟨bq,bt,bu,bv,bw,bx,bz,bA,bB,bC,br,bs⟩:=aS aC.out;obtain⟨an,aq,ar,au,av,aw,ax,az,aA,aB,ao,ap⟩:=aS (y.out.blk c.out id);obtain⟨y0,G,J,L,ae,af,ah,ak,al,am,ac,ad⟩:=dj (y.out.blk c.out id);have b8:=(show B≠w.heap.size+1 from by have aI:=aR.out;have aF:=c.out.lt;omega);obtain⟨d,e,a5⟩:=mS ⟨O,(D #[]),P,(D #[]),(D #[]),(D #[]),(D #[]),(D #[]),0,0,false,[]⟩ 0 false (V A 0 0) (y.out.blk c.out id) (kk z.out y.out) (.inr (cV _));have aG:=K (qV (show aZ u (V A 0 0) [] from aZ.nil _) a5.out (nofun));simp only[kZ,iJ] at d e aG;go_wp2;obtain⟨f,g,l,m,n,o,p,q,r,s,h,k⟩:=d.out;refine Ω (v:=σ #[Μ #[I E O,H (D #[]),H P,H (D #[]),H (D #[]),H (D #[]),H (D #[]),H (D #[]),I Λ 0,I E 0,ι false,V A 0 0],I E 0]) (by simp[ag,qw,go_sem,f,g,l,m,n,o,p,q,r,s,h,k]) rfl ?_;exact⟨.inl ⟨⟨O,(D #[]),P,(D #[]),(D #[]),(D #[]),(D #[]),(D #[]),0,0,false,[]⟩,_,rfl,⟨ai _,by have:=bU.out;simp only;omega,ai _,ai _,ai _,ai _,ai _,bW.out,ai _,nofun⟩,aG.out,nofun,bO.out,λQ=>by have:=cU.out;rw[this] at Q;cases Q⟩,e.out⟩
 have cm:((Q.Ξ.length:Int)==0)=false:=by simp[aW]
 have bP:=K aW;clear aW;obtain⟨F,a7,dX,b,aN,aL,aP,aO,c5,c3,c4,c0,c2,bo,ck,bD,bE,bF,bG⟩:=(bN.out.keeps (kk z.out y.out) λ_ _ t=>t).zu (k:=0) (by have:=bP.out;omega);injection c5 with c6 dZ c7;subst c6 c7;have bg:=K (Φ ck (List.mem_of_getElem? bo));clear ck bo c3 c4 c0 c2;simp only[Nat.zero_mul,Nat.add_zero] at bD bE bF bG;have dY:(0:Int)<Q.Ξ.length:=by have:=bP.out;omega
 cases ce:(O==5)
 .have b6:fh (⟨O,(D #[]),P,(D #[]),(D #[]),(D #[]),(D #[]),(D #[]),0,0,false,[]⟩:cp):=⟨ai _,by have:=bU.out;simp only;omega,ai _,ai _,ai _,ai _,ai _,bW.out,ai _,nofun⟩;have cC:η (Calls δ 231 #[Μ #[I E O,H (D #[]),H P,H (D #[]),H (D #[]),H (D #[]),H (D #[]),H (D #[]),I Λ 0,I E 0,ι false,V A 0 0],Μ #[H (D b.name.toArray),V aN b.Γ.length aL,H (D b.Β.toArray),V aP b.Ξ.length aO]] u.drew λab aQ=>∃(a:cp) (X:Option Addr) (W:Nat) (aX:Bool),ab=ξ (σ #[Μ #[I E a.Θ,H a.bV,H a.id,H a.src,H a.dst,H a.cE,H a.bQ,H a.dK,I Λ a.h,I E a.bl,ι a.di,V X a.aM.length W],ι aX])/\η ((fh a/\aZ aQ (V X a.aM.length W) a.aM/\(∀F,(V X a.aM.length W).ownBlock=N F->u.heap.size<=F)/\a.Θ=O/\(aX=true->O=3->a.aM.length=1))/\Y u aQ γ)):=K ((cB.out u.drew _ _ _ _ (bg.out.1.keeps (Y.refl u γ).drew λ_ _ t=>t) (bR.out.Om b bg.out.2) (bR.out.zu b bg.out.2) (bL.out.still (kk z.out y.out.drew)) _ b6 rfl).mono λab aQ ⟨⟨a,v,aX,aI,aF⟩,aa⟩=>by obtain⟨da,cR,rfl,_⟩:=aF.2.1;exact⟨a,da,cR,aX,aI,K ⟨aF,kk (Y.refl u γ).drew aa⟩⟩);clear b6;obtain⟨bq,bt,bu,bv,bw,bx,bz,bA,bB,bC,br,bs⟩:=aS (aC.out.drew);have dT:u.drew.cell? (U w.heap.size 3 A)=N (V (N (U F a7 A)) Q.Ξ.length cy):=R;have dc:u.drew.cell? (U F a7 A)=N (H (D b.name.toArray)):=bD;have dd:u.drew.cell? ⟨F,a7+1,A⟩=N (V aN b.Γ.length aL):=bE;have de:u.drew.cell? ⟨F,a7+2,A⟩=N (H (D b.Β.toArray)):=bF;have df:u.drew.cell? ⟨F,a7+3,A⟩=N (V aP b.Ξ.length aO):=bG;generalize((D b.name.toArray):BA)=cA at*;generalize((D b.Β.toArray):BA)=bb at*;go_upto_region 8 with fail
  clear R bD bE bF bG;go_region_with (go_at_call 231;refine cC.out.mono ?_;rintro ab a8 ⟨a,X,W,aX,rfl,S⟩;obtain⟨dC,dF,dG,dH,dI,dJ,dL,dM,dN,dO,dD,dE⟩:=aS (S.out.2.blk aC.out id);obtain⟨dp,ds,dt,du,dv,dw,dx,dy,dz,dB,dq,dr⟩:=dj (S.out.2.blk aC.out id))
  all_goals
   have a4:η (Y aH (iJ a8 B (I E a.Θ) (H a.bV) (H a.id) (H a.src) (H a.dst) (H a.cE) (H a.bQ) (H a.dK) (I Λ a.h) (I E a.bl) (ι a.di) (V X a.aM.length W)) γ/\θ (iJ a8 B (I E a.Θ) (H a.bV) (H a.id) (H a.src) (H a.dst) (H a.cE) (H a.bQ) (H a.dK) (I Λ a.h) (I E a.bl) (ι a.di) (V X a.aM.length W)) B 171 #[I E a.Θ,H a.bV,H a.id,H a.src,H a.dst,H a.cE,H a.bQ,H a.dK,I Λ a.h,I E a.bl,ι a.di,V X a.aM.length W]/\aZ (iJ a8 B (I E a.Θ) (H a.bV) (H a.id) (H a.src) (H a.dst) (H a.cE) (H a.bQ) (H a.dK) (I Λ a.h) (I E a.bl) (ι a.di) (V X a.aM.length W)) (V X a.aM.length W) a.aM):=K ⟨qa (kk y.out S.out.2) (.inr aR.out),wZ (S.out.2.blk aC.out id),qV S.out.1.2.1 (qa (F:=(·=B)) (Y.refl a8 _) (.inl rfl)) λF a6 _ Q=>by have aI:=S.out.1.2.2.1 F a6;have aF:=aC.out.lt;have Q:F=B:=Q;omega⟩;simp only[iJ] at a4;generalize eH (eH (eH (eH (eH (eH (eH (eH (eH (eH (eH (eH a8 _ _) _ _) _ _) _ _) _ _) _ _) _ _) _ _) _ _) _ _) _ _) _ _=dQ at*;clear bq bt bu bv bw bx bz bA bB bC br bs dT dc dd de df dC dF dG dH dI dJ dL dM dN dO dD dE dp ds dt du dv dw dx dy dz dB dq dr;have M:=K a4.out.1;cases aX
   .skip
    obtain⟨an,aq,ar,au,av,aw,ax,az,aA,aB,ao,ap⟩:=aS (M.out.blk c.out id);obtain⟨y0,G,J,L,ae,af,ah,ak,al,am,ac,ad⟩:=dj (M.out.blk c.out id);obtain⟨d,e⟩:=kh (M.out.blk c.out id) (kk z.out M.out) (.inr (cV _));go_wp2;obtain⟨f,g,l,m,n,o,p,q,r,s,h,k⟩:=d.out;refine Ω (v:=σ #[ez,I E 3]) (by simp[ez,ag,qw,go_sem,f,g,l,m,n,o,p,q,r,s,h,k]) rfl ?_;exact⟨.inr ⟨3,by decide,rfl⟩,e.out⟩
   .skip
    obtain⟨bq,bt,bu,bv,bw,bx,bz,bA,bB,bC,br,bs⟩:=aS a4.out.2.1;obtain⟨an,aq,ar,au,av,aw,ax,az,aA,aB,ao,ap⟩:=aS (M.out.blk c.out id);obtain⟨y0,G,J,L,ae,af,ah,ak,al,am,ac,ad⟩:=dj (M.out.blk c.out id);have b8:=(show B≠w.heap.size+1 from by have aI:=aR.out;have aF:=c.out.lt;omega);obtain⟨d,e,a5⟩:=mS a a.bl a.di (V X a.aM.length W) (M.out.blk c.out id) (kk z.out M.out) (.inr (cV _));have aG:=K (qV a4.out.2.2 a5.out (λF a6 _ Q=>by have aI:=S.out.1.2.2.1 F a6;have aF:=aC.out.lt;have cT:=aR.out;have bZ:=c.out.lt;have Q:F=w.heap.size+1:=Q;omega));simp only[kZ,iJ] at d e aG;go_wp2;obtain⟨f,g,l,m,n,o,p,q,r,s,h,k⟩:=d.out;refine Ω (v:=σ #[Μ #[I E a.Θ,H a.bV,H a.id,H a.src,H a.dst,H a.cE,H a.bQ,H a.dK,I Λ a.h,I E a.bl,ι a.di,V X a.aM.length W],I E 0]) (by simp[ag,qw,go_sem,f,g,l,m,n,o,p,q,r,s,h,k]) rfl ?_;exact⟨.inl ⟨a,_,rfl,S.out.1.1,aG.out,(λF a6=>aJ (kk z.out y.out).size (S.out.1.2.2.1 F a6)),(by have:=S.out.1.2.2.2.1;rw[this];exact bO.out),(λQ=>S.out.1.2.2.2.2 (by trivial) (S.out.1.2.2.2.1.symm.trans Q))⟩,e.out⟩
 have cJ:=K (bR.out.aak b bg.out.2);have bc:=aC.out.alloc (ζ #[H (D b.name.toArray),V aN b.Γ.length aL,H (D b.Β.toArray),V aP b.Ξ.length aO] 84);have cd:=bc.cell 7;have cS:=bc.frozen 7;simp only[gz_] at cd;have b5:=K bc;clear bc;go_upto_region 15 with fail
 have M:=K (show Y aH ((u.alloc (ζ #[H (D b.name.toArray),V aN b.Γ.length aL,H (D b.Β.toArray),V aP b.Ξ.length aO] 84)).setCell (U B 7 A) (H (D b.Β.toArray))) γ/\θ ((u.alloc (ζ #[H (D b.name.toArray),V aN b.Γ.length aL,H (D b.Β.toArray),V aP b.Ξ.length aO] 84)).setCell (U B 7 A) (H (D b.Β.toArray))) B 171 #[I E O,H (D #[]),H P,H (D #[]),H (D #[]),H (D #[]),H (D #[]),H (D b.Β.toArray),I Λ 0,I E 0,ι false,V A 0 0]/\θ ((u.alloc (ζ #[H (D b.name.toArray),V aN b.Γ.length aL,H (D b.Β.toArray),V aP b.Ξ.length aO] 84)).setCell (U B 7 A) (H (D b.Β.toArray))) u.heap.size 84 #[H (D b.name.toArray),V aN b.Γ.length aL,H (D b.Β.toArray),V aP b.Ξ.length aO] from
  ⟨(y.out.alloc _).χ (p:=(U B 7 A)) (.inr aR.out) _,(b5.out.χ 7 _).to (by simp),((Y.refl _ (·=B)).χ (p:=(U B 7 A)) (.inl rfl) _).blk (θ.new u 84 _) λt=>by have t:u.heap.size=B:=t;have:=aC.out.lt;omega⟩)
 generalize eH (bm u _) _ _=dQ at*;generalize u.heap.size=a4 at*;clear cd cS b5 bD bE bF bG R;have cv:((D b.Β.toArray):BA).size<=1000000000:=by show b.Β.toArray.size<=_;rw[List.size_toArray];have:=cJ.out;omega
 have cO:=K (RQ (bL.out.still (kk z.out M.out.1)) ⟨b.Β.toArray⟩ cv);clear cv;generalize((D b.name.toArray):BA)=cA at*;generalize((D b.Β.toArray):BA)=bb at*;obtain⟨e0,bk,ca,cb⟩:=aj M.out.2.2;cases cX:(cA.toList==[101,114,114,111,114])
 .have bj:=K M.out.1;go_upto_region 17 with fail
  clear e0 bk ca cb;obtain⟨an,aq,ar,au,av,aw,ax,az,aA,aB,ao,ap⟩:=aS (bj.out.blk c.out id);obtain⟨y0,G,J,L,ae,af,ah,ak,al,am,ac,ad⟩:=dj (bj.out.blk c.out id);obtain⟨d,e⟩:=kh (bj.out.blk c.out id) (kk z.out bj.out) (.inr (cV _));go_wp2;obtain⟨f,g,l,m,n,o,p,q,r,s,h,k⟩:=d.out;refine Ω (v:=σ #[ez,I E 3]) (by simp[ez,ag,qw,go_sem,f,g,l,m,n,o,p,q,r,s,h,k]) rfl ?_;exact⟨.inr ⟨3,by decide,rfl⟩,e.out⟩
 go_wp2_with fail;refine cO.out.mono ?_;rintro ab dR ⟨rfl,bp⟩;have C:=K (kk M.out.1 bp);have cD:=K (bp.blk M.out.2.1 id);obtain⟨y0,G,J,L⟩:=aj (bp.blk M.out.2.2 id);clear bp e0 bk ca cb;obtain⟨b3,hwb⟩:∃b3,nU bb=b3:=⟨_,rfl⟩;rw[hwb];have cL:=K hwb;clear hwb;cases b3
 .go_upto_region 17 with fail
  clear y0 G J L;obtain⟨an,aq,ar,au,av,aw,ax,az,aA,aB,ao,ap⟩:=aS (C.out.blk c.out id);obtain⟨y0,G,J,L,ae,af,ah,ak,al,am,ac,ad⟩:=dj (C.out.blk c.out id);obtain⟨d,e⟩:=kh (C.out.blk c.out id) (kk z.out C.out) (.inr (cV _));go_wp2;obtain⟨f,g,l,m,n,o,p,q,r,s,h,k⟩:=d.out;refine Ω (v:=σ #[ez,I E 3]) (by simp[ez,ag,qw,go_sem,f,g,l,m,n,o,p,q,r,s,h,k]) rfl ?_;exact⟨.inr ⟨3,by decide,rfl⟩,e.out⟩
 have cN:=K (xH cL.out);cases cY:((b.Γ.length:Int)==0)
 .go_upto_region 17 with fail
  clear y0 G J L;obtain⟨an,aq,ar,au,av,aw,ax,az,aA,aB,ao,ap⟩:=aS (C.out.blk c.out id);obtain⟨y0,G,J,L,ae,af,ah,ak,al,am,ac,ad⟩:=dj (C.out.blk c.out id);obtain⟨d,e⟩:=kh (C.out.blk c.out id) (kk z.out C.out) (.inr (cV _));go_wp2;obtain⟨f,g,l,m,n,o,p,q,r,s,h,k⟩:=d.out;refine Ω (v:=σ #[ez,I E 3]) (by simp[ez,ag,qw,go_sem,f,g,l,m,n,o,p,q,r,s,h,k]) rfl ?_;exact⟨.inr ⟨3,by decide,rfl⟩,e.out⟩
 cases cZ:((b.Ξ.length:Int)==0)
 .go_upto_region 17 with fail
  clear y0 G J L;obtain⟨an,aq,ar,au,av,aw,ax,az,aA,aB,ao,ap⟩:=aS (C.out.blk c.out id);obtain⟨y0,G,J,L,ae,af,ah,ak,al,am,ac,ad⟩:=dj (C.out.blk c.out id);obtain⟨d,e⟩:=kh (C.out.blk c.out id) (kk z.out C.out) (.inr (cV _));go_wp2;obtain⟨f,g,l,m,n,o,p,q,r,s,h,k⟩:=d.out;refine Ω (v:=σ #[ez,I E 3]) (by simp[ez,ag,qw,go_sem,f,g,l,m,n,o,p,q,r,s,h,k]) rfl ?_;exact⟨.inr ⟨3,by decide,rfl⟩,e.out⟩
 go_upto_region 18 with fail
 clear y0 G J L;have cW:=K (beq_iff_eq.1 ce);clear ce cX cY cZ;obtain⟨bq,bt,bu,bv,bw,bx,bz,bA,bB,bC,br,bs⟩:=aS cD.out;obtain⟨an,aq,ar,au,av,aw,ax,az,aA,aB,ao,ap⟩:=aS (C.out.blk c.out id);obtain⟨y0,G,J,L,ae,af,ah,ak,al,am,ac,ad⟩:=dj (C.out.blk c.out id);have b8:=(show B≠w.heap.size+1 from by have aI:=aR.out;have aF:=c.out.lt;omega);obtain⟨d,e,a5⟩:=mS ⟨O,(D #[]),P,(D #[]),(D #[]),(D #[]),(D #[]),bb,0,0,false,[]⟩ 0 false (V A 0 0) (C.out.blk c.out id) (kk z.out C.out) (.inr (cV _));have aG:=K (qV (show aZ dR (V A 0 0) [] from aZ.nil _) a5.out (nofun));simp only[kZ,iJ] at d e aG;go_wp2;obtain⟨f,g,l,m,n,o,p,q,r,s,h,k⟩:=d.out;refine Ω (v:=σ #[Μ #[I E O,H (D #[]),H P,H (D #[]),H (D #[]),H (D #[]),H (D #[]),H bb,I Λ 0,I E 0,ι false,V A 0 0],I E 0]) (by simp[ag,qw,go_sem,f,g,l,m,n,o,p,q,r,s,h,k]) rfl ?_;exact⟨.inl ⟨⟨O,(D #[]),P,(D #[]),(D #[]),(D #[]),(D #[]),bb,0,0,false,[]⟩,_,rfl,⟨ai _,by have:=bU.out;simp only;omega,ai _,ai _,ai _,ai _,by have:=cN.out;simp only;omega,bW.out,ai _,nofun⟩,aG.out,nofun,bO.out,λQ=>by have:=cW.out;rw[this] at Q;cases Q⟩,e.out⟩
