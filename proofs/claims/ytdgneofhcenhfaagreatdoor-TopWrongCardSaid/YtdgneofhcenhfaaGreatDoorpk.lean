/- TopWrong (card): bytes that are not as they should be close a connection behind one error; no book changes. Conditions: none but the given row's. -/
import Derived.Test.YtdgneofhcenhfaaGreatDoorpi
import Derived.Test.YtdgneofhcenhfaaGreatDoorpz
import Derived.Lib.LaidU8T
import Derived.Test.YtdgneofhcenhfaaGreatDoorTie
import Derived.Test.YtdgneofhcenhfaaGreatDoorCards
set_option maxHeartbeats 16000000
set_option maxRecDepth 100000
set_option linter.all false
open And renaming intro->Φ
open Array renaming length_toList->gI
open Bool renaming and_eq_true->i6,and_false->JA,false_eq_true->rB,not_eq_true'->Eg,or_eq_true->Ei,true_and->tB
open ByteArray renaming empty->kj,mk->D,size_append->mj
open Decidable renaming not_not->JB
open Go renaming Addr->ay,Calls->ν,Ending->aI,Value->ε,World->Z,bodyPost_ret->Ω,maxLen->Χ,results->ag
open Go.Addr renaming add->jm,mk->U
open Go.Ending renaming returned->ξ
open Go.Instr renaming lookup->cw
open Go.IntKind renaming i64->E,u32->Λ
open Go.Lib renaming hid->K,toList_data->iy
open Go.Obj renaming cells->ζ
open Go.Proofs renaming intOf->aB
open Go.Proofs.Tryz renaming prog->δ,underlying3->EF,underlying4->JV
open Go.RowKit renaming Hid->η
open Go.Value renaming agg->Μ,bool->ι,cells->vl,int->I,map->ω,pointer->π,slice->V,string->H,tuple->σ
open Go.World renaming alloc->bm,ownsRow_nil->db,setCell->eH
open Iff renaming rfl->fT
open Int renaming tmod_eq_emod_of_nonneg->EI,toNat_of_nonneg->EJ
open List renaming all_eq_true->xS,any_eq_true->tL,append_assoc->vm,append_nil->AA,drop->AB,dropWhile_sublist->J3,filter_append->EP,filter_filter->EZ,find?_append->rD,find?_eq_none->lM,find?_some->xT,getElem?_eq_getElem->cT,getElem?_eq_some_iff->iN,getElem?_map->ml,getElem?_take->kD,getElem?_take_of_lt->vu,getElem_mem->eA,length_append->cL,length_cons->eI,length_drop->vw,length_eq_zero_iff->kG,length_filter_le->jo,length_map->dN,length_nil->eN,length_singleton->jF,length_take->lO,map_append->lP,map_map->tM,mem_append->dO,mem_append_left->qy,mem_append_right->E',mem_cons->dD,mem_cons_of_mem->eZ,mem_cons_self->dP,mem_filter->dE,mem_map->eO,mem_of_find?_eq_some->rE,mem_of_mem_take->vx,mem_singleton->cj,range->AM,take->xW,take_append_drop->AQ,take_length->pd,take_of_length_le->mo,take_succ_eq_append_getElem->lq
open Nat renaming add_assoc->mW,le_add_right->AR,le_of_ble_eq_true->xY,le_refl->Ο,le_succ->cV,le_trans->aJ,lt_irrefl->AS,lt_of_lt_of_le->dQ,lt_or_ge->fU,mul_le_mul_left->Fg,mul_le_mul_right->pg,zero_add->eP,zero_le->ai
open Option renaming getD_none->pj,getD_some->gK,isSome_none->tN,isSome_some->mX,map_none->vy,map_some->gx,none->A,some->N
open Option.some renaming inj->cr
open Go RowKit Lib Proofs.Tryz
namespace Go.Proofs.YtdgneofhcenhfaaGreatDoor
attribute [local go_sem ↓] wp_at_zero wp_at_succ
def sW(a:BA)(b:υ):υ:= {b with ax:=a}
def wF(a:HS)(id:Int)(b:BA)(c:Ss):HS:= {a with ss:=aP a.ss id (N {c with kept:=true}),τ:=ee a.τ id (sW b)}
variable{w n G:Z}{v s:Nat→Option Ν}{x i t B:ε}{y k d M:Nat}{z c:HS}{m C:Int}{j:Bs}{a:List ε}{b:Option ay}{e:Pl}{f:Bool}{h:Nat×υ}{l:BA→BA→Option BA}{p L:BA}{S:BA→BA→Sd}{J:Ss}{O:List aG}{Q:El}{R:Int ⊕(Bd×Option Ev)}{W:At}{X:aI}
theorem ZS(f:Υ z)(w:h∈z.τ)(x:z.ss h.2.id=N J)(O:p.size=13)(u:∀b∈z.τ,b.2.ax≠p):Υ (wF z h.2.id p J):=by
 have G:∀i:υ,(sW p i).id=i.id/\(sW p i).ψ=i.ψ/\(sW p i).ah=i.ah:=λi=>⟨rfl,rfl,rfl⟩;have j:(wF z h.2.id p J).τ=ee z.τ h.2.id (sW p):=rfl
 have T:p.toList.isEmpty=false:=by
  rw[iy];cases B:p.data.toList with
  |nil=>
   have:p.data.toList.length=p.size:=by rw[gI];rfl
   rw[B,O] at this;cases this
  |cons _ _=>rfl
 obtain⟨ac,s,ab,F,L⟩:=f.state h w;rw[x] at s;injection s with s;subst s;have r:∀b:Nat×υ,(if b.2.id==h.2.id then(b.1,sW p b.2) else b).2.Δ=b.2.Δ:=λb=>by split<;>rfl
 have X:∀ {b c:Nat×υ},b∈z.τ->c∈z.τ->b.2.id=h.2.id->c.2.id=h.2.id->b=c:=λa M k l=>sU f.dM a M (k.trans l.symm)
 exact {f with
  bj:=λb a=>by rw[j] at a;obtain⟨c,e,g,C,_⟩:=Jc G a;rw[C];exact f.bj c e
  dM:=by rw[j];exact Jd (λi=>rfl) f.dM
  aR:=λb a=>by
   rw[j] at a;obtain⟨c,e,rfl⟩:=hZ a;have:=f.aR c e;split
   .exact⟨this.1,this.2.1,by show p.size<=64;omega⟩
   .exact this
  ij:=λW=>by rw[j,Jb (f:=sW p) (λi=>rfl)];exact f.ij W
  state:=λb a=>by
   rw[j] at a;obtain⟨c,e,g⟩:=hZ a;obtain⟨t,m,P,Q,R⟩:=f.state c e;by_cases d:c.2.id=h.2.id
   .have y:=sU f.dM e w d;subst y;rw[ahM (by simp)] at g;subst g;exact⟨{J with kept:=true},bI _ _ _,by show true= !p.toList.isEmpty;rw[T];rfl,F,L⟩
   .rw[WB (by simpa using d)] at g;subst g;exact⟨t,(bU _ _ _ d).trans m,P,Q,R⟩
  eC:=λb a=>by rw[j] at a;obtain⟨c,e,rfl⟩:=hZ a;rw[r];exact f.eC c e
  iq:=λb a S q d o=>by rw[j] at a q;obtain⟨c,e,rfl⟩:=hZ a;obtain⟨n,g,rfl⟩:=hZ q;rw[r,r] at d;rw[r] at o;rw[f.iq c e n g d o]
  lh:=λb a S q d o=>by
   rw[j] at a q;obtain⟨c,e,rfl⟩:=hZ a;obtain⟨n,g,rfl⟩:=hZ q;by_cases k:c.2.id=h.2.id
   .by_cases l:n.2.id=h.2.id
    .rw[X e g k l]
    rw[ahM (by simpa using k),WB (by simpa using l)] at d;exact ahN d.symm (u n g)
   .by_cases l:n.2.id=h.2.id
    .rw[WB (by simpa using k),ahM (by simpa using l)] at d;exact ahN d (u c e)
    rw[WB (by simpa using k),WB (by simpa using l)] at d;rw[WB (by simpa using k)] at o;rw[f.lh c e n g d o]
  fS:=λid t m=>by
   by_cases d:id=h.2.id
   .subst d;have:(wF z h.2.id p J).ss h.2.id=N {J with kept:=true} :=bI _ _ _;rw[this] at m;injection m with m;subst m;exact f.fS _ J x
   .exact f.fS id t ((bU _ _ _ d).symm.trans m)}
theorem Xd{s:HS}(e:Υ s)(b:h∈s.τ)(d:s.ss h.2.id=N J)(c:p.size=13)(a:∀f∈s.τ,f.2.ax≠p):eJ s (wF s h.2.id p J) 0:=
 ⟨ZS e b d c a,rfl,rfl,⟨[],by simp[wF]⟩,λ_ _ g i=>⟨g,i⟩,Ο _⟩
theorem Za{b:List BA}(a:du b p=false):p∉b:=λc=>by unfold du at a;have:=List.any_eq_false.1 a p c;simp at this
theorem ahw{a:υ}(c:a.ax≠p):mR a p=false:=by
 unfold mR;cases b:same a.ax p with
 |false=>rfl
 |true=>exact ahN (oN b) c
theorem ag0{n:Nat}{h:List Int}(z:lw w (V b y k) h)(L:n<=h.length):y=h.length/\h.length<=k/\h.length<=2000/\lw w (V (if k=n then b else b.map (·.add n)) (y-n) (k-n)) (h.drop n)/\∀e,dS (V (if k=n then b else b.map (·.add n)) (y-n) (k-n))=N e->dS (V b y k)=N e:=by
 obtain⟨B,M,J,i,C,F,p,q⟩:=z;injection i with t u x;subst t u x;refine⟨rfl,C,F,⟨λe a=>B e (List.mem_of_mem_drop a),_,_,by rw[vw],by rw[vw];omega,by rw[vw];omega,?_,?_⟩,?_⟩
 .intro r;split at r
  .next i=>exact⟨by rw[(p r).1,List.drop_nil],by omega⟩
  cases b with
  |none=>exact⟨by rw[(p rfl).1,List.drop_nil],by have:=(p rfl).2;omega⟩
  |some g=>cases r
 .intro g d;split at d
  .next i=>
   refine⟨(q g d).1,λl e j=> ?_⟩;rw[List.getElem?_drop] at j;have:=(iN.1 j).1;omega
  cases b with
  |none=>cases d
  |some s=>
   obtain⟨c,f,m⟩:=s;have G:m=A:=(q _ rfl).1;subst G;injection d with d
   have o:(⟨c,f,A⟩:ay).add n=⟨c,f+n,A⟩:=by
    unfold jm;split
    .next i=>subst i;rfl
    rfl
   have d:(⟨c,f,A⟩:ay).add n=g:=d;rw[o] at d;subst d;refine⟨rfl,λl e j=> ?_⟩;rw[List.getElem?_drop] at j;have:=(q _ rfl).2 (n+l) e j;rw[<-this];show w.cell? ⟨c,f+n+l,A⟩=w.cell? ⟨c,f+(n+l),A⟩;rw[mW]
 intro e a;split at a
 .cases b with
  |none=>cases a
  |some g=>exact a
 cases b with
 |none=>cases a
 |some g=>
  obtain⟨c,f,m⟩:=g;have o:((⟨c,f,m⟩:ay).add n).block=c:=by unfold jm;split<;>rfl
  have a:N ((⟨c,f,m⟩:ay).add n).block=N e:=a;rw[o] at a;exact a
theorem XN(k:Α w e v z)(aq:Υ z)(ao:z.ο+100<=aL)(ap:h∈z.τ)(cy:z.ss h.2.id=N J)(ct:J.ae=false)(cl:0<=h.2.Δ)(ec:cp)(dv:ε):ν δ 174 #[Ζ e.g,Μ h.2.cells,aK ec dv] w (iO w e v z 100):=by
 have a3:=K (yN aq (pr:=h) ap cl);have r:=K (Φ aq ao);have s:=K (Φ ap (Φ cy ct));have c7:=K (aq.state h ap);have b0:η (∀a8,w.heap.size<=a8->v a8=A):=K λa8 ao=>k.dZ ao;have bN:=K k;obtain⟨bt,c⟩:=h;simp only at*;clear k aq ao ap cy ct;unfold aK υ.cells;go_enter func174,ntmps174;go_upto_region 2 with fail
 generalize ch:bm (bm (bm w _) _) _=O at*;have al:=K (Hc ch);clear ch;have y:=K (bN.out.still al.out.keeps);have an:=K (Ε.bu v al.out.keeps);have u:=K al.out.b1;have a2:=K al.out.b3;have F:=K (b0.out _ (Ο w.heap.size));have a5:=K (b0.out _ (show w.heap.size<=w.heap.size+1+1 by omega));have t3:=u.out.cell 3;simp only[gz_] at t3;go_upto_if 13 with fail
 go_cut [] (λa=>∃m f b,η (Α a e m f/\Ε w a v m/\eJ z f 0/\f.Κ=z.Κ/\f.ο=z.ο/\θ a (w.heap.size+1+1) 171 #[I E b.Θ,H b.bV,H b.id,H b.src,H b.dst,H b.cE,H b.bQ,H b.dK,I Λ b.h,I E b.bl,ι b.di,V A 0 0]/\fh b/\b.aM=[]/\m (w.heap.size+1+1)=A/\θ a w.heap.size 42 #[I E c.id,H c.ψ,H c.ah,H c.ax,I E c.Δ,I E c.aH]/\m w.heap.size=A))
 case first=>
  cases cv:c.ax.toList.isEmpty
  .go_wp2_with fail;go_meet;exact⟨v,z,⟨12,(D #[]),(D #[]),(D #[]),(D #[]),(D #[]),(D #[]),(D #[]),0,0,false,[]⟩,K ⟨y.out,an.out,eJ.refl r.out.1 0,rfl,rfl,a2.out,⟨e0,e0,e0,e0,e0,e0,e0,mP,ai _,nofun⟩,rfl,a5.out,u.out,F.out⟩⟩
  have bF:=K cv;clear cv t3;go_upto_region 3 with fail
  have a7:=K (y.out.part .lB).1;have c0:=a7.out;obtain⟨-,X,Q,b7, -⟩:=c0;have W:=K b7;clear b7;have b2:η (∀a,Y O a γ->a.cell? (U e.g 5 A)=N (V X z.dl.length Q)):=K λa q=>by have:=(q.blk y.out.aA id).cell 5;rw[<-W.out];exact this
  have b4:η (∀d,Y O d γ->ν δ 253 #[Ζ e.g] d (Gb d ((cH z).map (·.ax)))):=K λd q=>aeN (y.out.still q) r.out.1;have c3:η (((cH z).map (·.ax)).length<=1000):=K (by have:=jl r.out.1;simp[cH];omega)
  go_region_held3 (λa=>a.cell? (U e.g 5 A)=N (V X z.dl.length Q))
   (first|(refine b2.out _ ?_;(with_reducible first|exact p.out|exact(Y.refl _ _).drew)))
   (first|(go_at_call 252;refine(aeL (known:=(cH z).map (·.ax)) (l:=z.dl) (by rw[<-W.out];exact Aa a7.out p.out (λ_ _ k=>k)) (bf.out) (λd q=>cu.out d q)).mono ?_;rintro i bs ⟨tk,G,q,rfl,bc,dp,co,cB⟩;have p:η (Y O bs γ):=K (kk p.out cB))|(go_at_call 253;refine(b4.out _ (Y.refl _ γ).drew).mono ?_;rintro i cW ⟨el,rfl,bd,bk⟩;have p:η (Y O cW γ):=K (kk (Y.refl _ γ).drew bk);have bf:=K (eU.dw (l:=(cH z).map (·.ax)) (by rw[dN] at bd;simpa using bd) (by have:=c3.out;omega));have cu:=K (λd (q:Y cW d γ)=>I0 bf.out q λ_ _ k=>k);clear bd bk))
  clear b4 b2;obtain⟨ds,cs,cq,cx,ck⟩:=ag0 (n:=G) (by rw[<-W.out];exact Aa a7.out p.out (λ_ _ k=>k)) bc;have bB:=K (Φ bc (Φ cs cq));have bA:=K (y.out.still p.out);obtain⟨d5,cb,cD⟩:=acL y.out p.out cx (λt l=>by have cA:=ck t l;rw[<-W.out] at cA;have:=((y.out.part .lB).2.1 t).2 cA;exact⟨.inl this,dQ (y.out.ik t _ this) p.out.size⟩);have a4:=K cb;have P:=K cD;have c1:=K co;clear ds cs cq cx ck cb cD co bf cu;have b8:=bA.out.aA.cell 5;have dk:=bA.out.aA.frozen 5;have dl:bs.cell? (U e.g 5 A)=N (V X z.dl.length Q):=by rw[<-W.out];exact b8
  clear b8;have d3:(G:Int)<=z.dl.length:=by have:=bB.out.1;omega
  have d4:(z.dl.length:Int)<=Q:=by have:=bB.out.2.1;omega
  clear bc cB;go_upto_region 5 with fail
  generalize(V (if Q=G then X else Option.map (λc=>c.add G) X) (z.dl.length-G) (Q-G))=M at*;clear dl dk d3 d4;generalize eH bs _ _=a0 at*;generalize z.dl.drop G=L at*;obtain rfl|rfl:=dp;rotate_left
  .have x:=K (bo P.out a2.out a5.out);go_wp2_with fail;go_meet;exact⟨d5,fj z M L,⟨12,(D #[]),(D #[]),(D #[]),(D #[]),(D #[]),(D #[]),(D #[]),0,0,false,[]⟩,K ⟨a4.out,an.out.trans P.out,My r.out.1 _ _,rfl,rfl,x.out.1,⟨e0,e0,e0,e0,e0,e0,e0,mP,ai _,nofun⟩,rfl,x.out.2,(bo P.out u.out F.out).1,(bo P.out u.out F.out).2⟩⟩
  have ad:=K (c1.out rfl)
  have bE:η (∀aw∈z.τ,aw.2.ax≠tk):=K λaw be i=>by
   have:=ad.out.2;have bb:tk∈(cH z).map (·.ax):=by rw[<-i];exact List.mem_map_of_mem (f:=(·.ax)) (List.mem_map_of_mem (f:=(·.2)) be)
   exact Za this bb
  have c9:η (tk.toList.isEmpty=false):=K (by
   rw[iy];cases k:tk.data.toList with
   |nil=>
    have R:tk.data.toList.length=tk.size:=by rw[gI];rfl
    have dm:=ad.out.1;rw[k,dm] at R;cases R
   |cons _ _=>rfl)
  have da:η (∀d g,Α d e g (fj z M L)->ν δ 254 #[Ζ e.tb,I E c.id,H tk] d λi n=>i=ξ (I E 0)/\∃m,Α n e m {fj z M L with τ:=ee z.τ c.id (sW tk)} /\Ε d n g m):=K λd g j=>(Tp (p:=(bt,c)) (j.part .table) (by have:=jl r.out.1;show z.τ.length<=1000;omega) s.out.1 tk bF.out (by show c.Δ≠ -1;omega) (λaw be=>ahw (bE.out aw be)) c9.out).mono λi n ⟨R,bi,a9⟩=>⟨R,_,j.put .table a9 bi λd1 bb=>by cases d1<;>first|rfl|exact ahN rfl bb⟩
  have c2:η (∀d g f,Α d e g f->f.ss c.id=N J->ν δ 255 #[Ζ J.fb] d λi n=>i=ξ (I E 0)/\∃m,Α n e m {f with ss:=aP f.ss c.id (N {J with kept:=true})} /\Ε d n g m):=K λd g f j C=>by
   obtain⟨bz,S⟩:=j.gq C;obtain⟨t,l,dx,d0,bk⟩:=c7.out;rw[s.out.2.1] at l;injection l with l;subst l;have dd:J.kept=false:=by have R:=bF.out;rw[dx];simp only[R];rfl
   have b5:J.ar=false:=by rw[d0];exact ahO (by show c.Δ≠ -1;omega)
   have b6:=s.out.2.2;have cm:=S.front;rw[dd,b5,b6] at cm;refine(aaf cm).mono ?_;rintro i n ⟨rfl,ef,dn,a9⟩;obtain⟨m,b9,d2, -⟩:=rf j C S dn a9;have dg:({J with kept:=true,ar:=false,ae:=false} :Ss)= {J with kept:=true} :=by simp only[b5,b6]
   rw[dg] at b9;exact⟨rfl,m,b9,d2⟩
  have b1:η (∀a g f,Α a e g f->Ε O a v g->a.cell? (U e.g 2 A)=N (Ζ e.tb)/\a.cell? (U w.heap.size 0 A)=N (I E c.id)):=K λa g f j B=>⟨j.aA.cell 2,(bo B u.out F.out).1.cell 0⟩;have c5:η (∀a g f,Α a e g f->f.ss c.id=N J->Ε O a v g->a.cell? (U e.g 7 A)=N (ω (N e.sm))/\(cw 63 (ω (N e.sm)) (I E c.id) false).run δ a= .ok (Ζ J.q) a/\a.cell? (U J.q 0 A)=N (Ζ J.fb)/\a.cell? (U w.heap.size 0 A)=N (I E c.id)):=K λa g f j C B=>by obtain⟨bz,S⟩:=j.gq C;have ac:=j.jP (gm r.out.1 s.out.1);rw[show f.ss (bt,c).2.id=N J from C] at ac;exact⟨j.aA.cell 7,ac,S.blk.cell 0,(bo B u.out F.out).1.cell 0⟩
  have c6:η (∀a g f,Α a e g f->f.ss c.id=N {J with kept:=true} ->Ε O a v g->a.cell? (U e.g 7 A)=N (ω (N e.sm))/\(cw 63 (ω (N e.sm)) (I E c.id) false).run δ a= .ok (Ζ J.q) a/\a.cell? (U J.q 0 A)=N (Ζ J.fb)/\a.cell? (U w.heap.size 0 A)=N (I E c.id)):=K λa g f j C B=>by obtain⟨bz,S⟩:=j.gq C;have ac:=j.jP (gm r.out.1 s.out.1);rw[show f.ss (bt,c).2.id=N {J with kept:=true} from C] at ac;exact⟨j.aA.cell 7,ac,S.blk.cell 0,(bo B u.out F.out).1.cell 0⟩
  go_upto_region 6 with fail
  go_region_held3 (λa=>a.cell? (U e.g 2 A)=N (Ζ e.tb)/\a.cell? (U w.heap.size 0 A)=N (I E c.id))
   (first|(with_reducible exact b1.out _ _ _ ba.out bn.out)|(exact b1.out _ _ _ (a4.out.still (Y.refl a0 γ).drew) (P.out.still (Y.refl a0 γ).drew)))
   (first|(go_at_call 254;refine(da.out _ _ (a4.out.still (Y.refl a0 γ).drew)).mono ?_;rintro i a1 ⟨rfl,av,cc,cI⟩;have ba:=K cc;have bn:=K ((P.out.still (Y.refl a0 γ).drew).trans cI);clear cc cI))
  go_upto_region 7 with fail
  go_region_held3 (λa=>a.cell? (U e.g 7 A)=N (ω (N e.sm))/\(cw 63 (ω (N e.sm)) (I E c.id) false).run δ a= .ok (Ζ J.q) a/\a.cell? (U J.q 0 A)=N (Ζ J.fb)/\a.cell? (U w.heap.size 0 A)=N (I E c.id))
   (first|(with_reducible exact d9.out)|(exact c5.out _ _ _ (ba.out.still (Y.refl a1 γ).drew) s.out.2.1 (bn.out.still (Y.refl a1 γ).drew)))
   (first|(go_at_call 255;refine(c2.out _ _ _ (ba.out.still (Y.refl a1 γ).drew) s.out.2.1).mono ?_;rintro i ea ⟨rfl,d6,ce,cJ⟩;have cf:=K ce;have ab:=K ((bn.out.still (Y.refl a1 γ).drew).trans cJ);clear ce cJ;have d9:=K (c6.out _ _ _ cf.out (bI _ _ _) ab.out)))
  have x:=K (bo ab.out a2.out a5.out);have bw:=K (bo ab.out u.out F.out);obtain⟨eT,e3,e4,e5,e6,e7,e8,e9,fa,fb,e1,e2⟩:=aS x.out.1;obtain⟨y0,en,er,es,et,ev,ew,ex,eD,eS,eo,eq⟩:=dj x.out.1;have am:=K (qa (F:=(·=w.heap.size+1+1)) (g:=w.heap.size+1+1) (a0:=I E 7) (a1:=H (D #[])) (a2:=H (D #[])) (a3:=H (D #[])) (a4:=H (D #[])) (a5:=H (D #[])) (a6:=H tk) (a7:=H (D #[])) (a8:=I Λ 0) (a9:=I E 0) (a10:=ι false) (a11:=V A 0 0) (Y.refl ea _) (.inl rfl));have bx:=K (wZ (a0:=I E 7) (a1:=H (D #[])) (a2:=H (D #[])) (a3:=H (D #[])) (a4:=H (D #[])) (a5:=H (D #[])) (a6:=H tk) (a7:=H (D #[])) (a8:=I Λ 0) (a9:=I E 0) (a10:=ι false) (a11:=V A 0 0) x.out.1);simp only[iJ] at am bx;go_wp2_with fail;go_meet;exact⟨d6,wF (fj z M L) c.id tk J,⟨7,(D #[]),(D #[]),(D #[]),(D #[]),(D #[]),tk,(D #[]),0,0,false,[]⟩,K ⟨cf.out.G7 am.out (λt l=>⟨by have l:t=_:=l;rw[l];exact x.out.2,by have l:t=_:=l;have:=bN.out.eE.size;omega⟩),⟨(an.out.trans ab.out).keeps.trans am.out (λt l=> .inr (by have l:t=_:=l;omega)),(an.out.trans ab.out).fresh⟩,(My r.out.1 M L).trans (Xd (s:=fj z M L) (Hi r.out.1 M L) s.out.1 s.out.2.1 ad.out.1 bE.out),rfl,rfl,bx.out,⟨e0,e0,e0,e0,e0,by have:=ad.out.1;simp only;omega,e0,mP,ai _,nofun⟩,rfl,x.out.2,am.out.blk bw.out.1 (λi=>by have i:w.heap.size=w.heap.size+1+1:=i;omega),bw.out.2⟩⟩
 case rest=>
 obtain⟨au,bq,b,o⟩:=hcut;generalize wc=br at*;clear t3;have bv:=K o.out.2.2.2.2.2.2.2.2.2;have b3:η (∀a g,Ε br a au g->a.cell? (U w.heap.size 4 A)=N (I E c.Δ)/\a.cell? ⟨w.heap.size+1+1,0,A⟩=N (I E b.Θ)/\a.cell? ⟨w.heap.size+1+1,1,A⟩=N (H b.bV)/\a.cell? ⟨w.heap.size+1+1,2,A⟩=N (H b.id)/\a.cell? ⟨w.heap.size+1+1,3,A⟩=N (H b.src)/\a.cell? ⟨w.heap.size+1+1,4,A⟩=N (H b.dst)/\a.cell? ⟨w.heap.size+1+1,5,A⟩=N (H b.cE)/\a.cell? ⟨w.heap.size+1+1,6,A⟩=N (H b.bQ)/\a.cell? ⟨w.heap.size+1+1,7,A⟩=N (H b.dK)/\a.cell? ⟨w.heap.size+1+1,8,A⟩=N (I Λ b.h)/\a.cell? ⟨w.heap.size+1+1,9,A⟩=N (I E b.bl)/\a.cell? ⟨w.heap.size+1+1,10,A⟩=N (ι b.di)/\a.cell? ⟨w.heap.size+1+1,11,A⟩=N (V A 0 0)):=K λa g B=>⟨(bo B bv.out.1 bv.out.2).1.cell 4,aS (bo B o.out.2.2.2.2.2.1 o.out.2.2.2.2.2.2.2.2.1).1⟩;have dc:η (∀d,Y br d γ->ν δ 164 #[Μ #[I E b.Θ,H b.bV,H b.id,H b.src,H b.dst,H b.cE,H b.bQ,H b.dK,I Λ b.h,I E b.bl,ι b.di,V A 0 0]] d λi n=>(∃T:BA,i=ξ (H T)/\T.size<=most)/\Y d n γ/\η (Y br n γ)):=K λd q=>(oR (z:=b) o.out.2.2.2.2.2.2.1 (by rw[o.out.2.2.2.2.2.2.2.1];exact aZ.nil d) (o.out.1.still q).eE).mono λi n k=>⟨k.1,k.2,K (kk q k.2)⟩;have c8:η (∀d av,Α d e av bq->∀T:BA,T.size<=most->ν δ 66 #[Ζ e.g,I E c.Δ,V (N (U d.heap.size 0 A)) 1 1] (d.alloc (ζ #[H T] 9)) λi n=>i=ξ (σ #[])/\∃m f,Α n e m f/\Ε d n av m/\ci bq f/\f.ο<=bq.ο+1):=K λd av j T bi=>IF j o.out.2.2.1.inv (by have:=o.out.2.2.2.2.1;have:=r.out.2;omega) a3.out.1 cl a3.out.2.1 (by rw[o.out.2.2.2.1];exact a3.out.2.2) bi;go_upto_region 9 with fail
 go_region_held3 (λa=>a.cell? (U w.heap.size 4 A)=N (I E c.Δ)/\a.cell? ⟨w.heap.size+1+1,0,A⟩=N (I E b.Θ)/\a.cell? ⟨w.heap.size+1+1,1,A⟩=N (H b.bV)/\a.cell? ⟨w.heap.size+1+1,2,A⟩=N (H b.id)/\a.cell? ⟨w.heap.size+1+1,3,A⟩=N (H b.src)/\a.cell? ⟨w.heap.size+1+1,4,A⟩=N (H b.dst)/\a.cell? ⟨w.heap.size+1+1,5,A⟩=N (H b.cE)/\a.cell? ⟨w.heap.size+1+1,6,A⟩=N (H b.bQ)/\a.cell? ⟨w.heap.size+1+1,7,A⟩=N (H b.dK)/\a.cell? ⟨w.heap.size+1+1,8,A⟩=N (I Λ b.h)/\a.cell? ⟨w.heap.size+1+1,9,A⟩=N (I E b.bl)/\a.cell? ⟨w.heap.size+1+1,10,A⟩=N (ι b.di)/\a.cell? ⟨w.heap.size+1+1,11,A⟩=N (V A 0 0))
  (first|(with_reducible exact b3.out _ _ cR.out)|(refine b3.out _ au (Ε.bu au ?_);(with_reducible first|exact p.out|exact Y.alloc p.out _|exact(Y.refl _ _).drew)))
  (first|(go_at_call 164;refine(dc.out _ (Y.refl _ γ).drew).mono ?_;rintro i em ⟨⟨ek,rfl,dt⟩,eg,p⟩)|(go_at_call 66;refine(c8.out _ _ (o.out.1.still p.out) _ dt).mono ?_;rintro i eb ⟨rfl,d7,d8,cg,cS,cU,cn⟩;have cR:=K ((Ε.bu au p.out).trans cS);have a6:=K (Φ cg (Φ cU cn));clear cg cS cU cn))
 all_goals
  have c4:=K (show iO w e v z 100 (ξ (σ #[])) eb from⟨rfl,d7,d8,a6.out.1,o.out.2.1.trans cR.out,(o.out.2.2.1.trans (mC o.out.2.2.1.inv a6.out.2.1 (n:=1) a6.out.2.2)).mono (by omega)⟩);go_wp2;go_end0
  exact c4.out
theorem UM{a:ay}(b:a.spot=A)(c:Nat):a.add c=⟨a.block,a.off+c,A⟩:=by
 obtain⟨d,f,g⟩:=a;simp only at b;subst b;unfold jm;split
 .next e=>subst e;rfl
 rfl
def uk(g:Z)(v:ε)(a:List Int):Prop:=
 (∀b∈a,0<=b/\b<18446744073709551616)/\∃e d,v=V e a.length d/\a.length<=d/\a.length<=2000/\(e=A->a=[]/\d=0)/\∀c,e=N c->(a≠[]->c.spot=A)/\∀f b,a[f]? =N b->g.cell? ⟨c.block,c.off+f,A⟩=N (I .u64 b)
theorem lw.r{d:List Int}(f:lw w x d):uk w x d:=by obtain⟨g,k,e,rfl,h,i,j,b⟩:=f;exact⟨g,k,e,rfl,h,i,j,λa c=>⟨λ_=>(b a c).1,(b a c).2⟩⟩
theorem zZ{c:List Int}(f:uk w x c)(p:Y w n j)(m:∀d,dS x=N d->¬j d):uk n x c:=by obtain⟨g,q,e,rfl,h,i,k,b⟩:=f;exact⟨g,q,e,rfl,h,i,k,λw a=>⟨(b w a).1,λo r l=>az p ((b w a).2 o r l) (m w.block (by subst a;rfl))⟩⟩
theorem Rr{g:List Int}(k:uk w x g):fD w x g.length (g.map λb=>I .u64 b):=by
 obtain⟨q,o,j,rfl,r,s,h,d⟩:=k;refine⟨by simp,λp m=> ?_,o,j,rfl,λa=>⟨by rw[(h a).1];rfl,(h a).2⟩,λc e=>⟨λl=>(d c e).1 λa=>l (by rw[a];rfl),λn p i=> ?_⟩⟩
 .obtain⟨b,_,rfl⟩:=eO.1 m;rfl
 rw[ml] at i;obtain⟨b,f,rfl⟩:=Option.map_eq_some_iff.1 i;rw[UM ((d c e).1 λa=>by rw[a] at f;cases f)];exact(d c e).2 n b f
theorem ag2{a:List Int}(b:lw w x a):fD w x a.length (a.map λc=>I .u64 c):=Rr b.r
theorem PI{b:List Int}(k:w.ownsRow y 32 1 x b.length (b.map λa=>I .u64 a))(B:∀a∈b,0<=a/\a<18446744073709551616){m:Nat}(n:m<=b.length)(H:m<=2000):∃i d,x=V i b.length d/\b.length<=d/\lw w (V i m d) (b.take m)/\∀a,dS (V i m d)=N a->y<=a/\a<w.heap.size:=by
 have g:=k.lt;obtain⟨rfl,q⟩|⟨j,e,E,rfl,F,r,u,G,J,z⟩:=k.2
 .have p:b=[]:=kG.1 q;subst p;have t:m=0:=by simpa using n
  subst t;exact⟨A,0,rfl,Ο _,⟨nofun,A,0,rfl,Ο _,by decide,λ_=>⟨rfl,rfl⟩,nofun⟩,nofun⟩
 have s:b.length<=e:=by
  first
   |omega
   |simpa using u
 refine⟨N (U j 0 A),e,rfl,s,⟨λa h=>B a (vx h),N (U j 0 A),e,by rw[lO,Nat.min_eq_left n],by rw[lO];omega,by rw[lO];omega,nofun,λC f=> ?_⟩,λa h=>g a h⟩;injection f with f;subst f;refine⟨rfl,λo a c=> ?_⟩;rw[kD] at c;split at c
 .have l:(b.map λa=>I .u64 a)[o]? =N (I .u64 a):=by rw[ml,c];rfl
  have g:o<b.length*1:=by have:=(iN.1 c).1;omega
  rw[<-z,kD,ahM g] at l;rw[eP];simpa[World.cell?,r] using l
 cases c
theorem acM(c:Α w e v z)(h:Y w n (·=e.g)){v':ε}{l':List Int}(f:θ n e.g 66 (bg e (fj z v' l')))(m:lw n v' l')(g:∀a,dS v'=N a->(v a=N .lB\/w.heap.size<=a)/\a<n.heap.size):∃i,Α n e i (fj z v' l')/\Ε w n v i:=by
 have q:e.g<w.heap.size:=c.aA.lt
 have l:∀a,dS v'=N a->a≠e.g:=λa b j=>by
  obtain d|d:=(g a b).1
  .rw[j,c.jV] at d;cases d
  omega
 have o:Y w n (λa=>v a=N .ca\/v a=N .lB):=h.mono λa b=> .inl (.inl (by have b:a=e.g:=b;rw[b];exact c.jV));refine⟨_,c.sQ (s':=fj z v' l') (F1:=(·=e.g)) (F2:=λa=>dS v'=N a) .ca .lB (by exact nofun) o (λa b=> .inl (by rw[b];exact c.jV)) (λa b=>(g a b).1) (λa b f=>l a f b) ⟨f,λh=>fT⟩ ⟨m,λh=>fT,λa b=>(g a b).2⟩ λp d k=> ?_⟩;cases p<;>first|rfl|exact ahN rfl d|exact ahN rfl k
theorem Kk(a:Α w e v z){m:List Int}(hv:uk w x m)(P:m.length<=100):ν δ 9 #[Ζ e.g,x] w λk X=>k=ξ (σ #[])/\∃i H G,Α X e i (fj z H G)/\Ε w X v i:=by
 have y:=K (Φ hv P);have p:=K a;have q:=K (a.part .lB).1;obtain⟨-,ap,ao,rfl, -⟩:=hv;have aa:=q.out;obtain⟨-,ag,af,C, -⟩:=aa;have ab:=K C;have h:=a.aA.cell 5;have s:=a.aA.frozen 5;simp only[bg,gz_] at h;rw[C] at h;clear a P C;have I:=K (Ws afw (w:=w.alloc (ζ #[V ag z.dl.length af,V ap m.length ao] 33)) (θ.new _ _ _) (ag2 (Aa (by rw[<-ab.out];exact q.out) ((Y.refl w γ).alloc _) λ_ _ a=>a)) (Rr (zZ y.out.1 ((Y.refl w γ).alloc _) λ_ _ a=>a)) (by obtain⟨-, -, -, -, -,a, -⟩:=q.out;omega) (by have:=y.out.2;omega));go_enter func9,ntmps9;go_wp2_with fail;refine I.out.mono ?_;rintro aB o ⟨aC,rfl,n,W⟩;rw[<-lP,dN] at n;have L:=K (kk ((Y.refl w γ).alloc _) W)
 have B:η (∀g∈z.dl++m,0<=g/\g<18446744073709551616):=K λg l=>by
  obtain a|a:=dO.1 l
  .exact q.out.1 g a
  exact y.out.1.1 g a
 obtain⟨c,T⟩:∃c,z.dl++m=c:=⟨_,rfl⟩;rw[T] at n B;clear T;have M:=K n;obtain⟨f,b,rfl,av, -, -⟩:=PI n B.out (m:=0) (ai _) (by decide);clear n W h s I;have t:=K (L.out.blk p.out.aA id);have h:=t.out.cell 5;have s:=t.out.frozen 5;simp only[bg,gz_] at h;go_upto_region 2 with fail
 have ac:η (Y w (o.setCell (U e.g 5 A) (V f c.length b)) (·=e.g)):=K (L.out.any.trans ((Y.refl o (·=e.g)).χ (p:=(U e.g 5 A)) (.inl rfl) _) λ_ a=> .inl a);have u:η (θ (o.setCell (U e.g 5 A) (V f c.length b)) e.g 66 (bg e (fj z (V f c.length b) []))):=K ((t.out.χ 5 _).to (by simp[bg,fj]));have Q:∀r,(V f c.length b).ownBlock=N r->¬r=e.g:=λr k ar=>by have E:=(M.out.lt r k).1;have au:=p.out.aA.lt;simp at E;omega
 have ad:=K (aD (F:=(·=e.g)) M.out ((Y.refl o (·=e.g)).χ (p:=(U e.g 5 A)) (.inl rfl) (V f c.length b)) Q);clear Q h s;generalize eH o _ _=j at*;have h:=u.out.drew.cell 5;have s:=u.out.drew.frozen 5;simp only[bg,fj,gz_] at h;obtain⟨d,hm,S,R⟩:∃d:Nat,min (c.length:Int) 1000=d/\d<=c.length/\d<=1000:=⟨min c.length 1000,by omega,by omega,by omega⟩;have J:=K (Φ S R);have ax:(c.length:Int)<=b:=by omega
 have ay:(d:Int)<=b:=by omega
 clear S R;have ae:η (∃i H G,Α (j.setCell (U e.g 5 A) (V f d b)).drew e i (fj z H G)/\Ε w (j.setCell (U e.g 5 A) (V f d b)).drew v i):=K (by obtain⟨az,aq,ak, -,am,O⟩:=PI ad.out B.out J.out.1 (by have:=J.out.2;omega);injection ak with ah _ aj;subst ah aj;have F:Y j (j.setCell (U e.g 5 A) (V f d b)).drew (·=e.g):=((Y.refl j (·=e.g)).χ (p:=(U e.g 5 A)) (.inl rfl) _).drew;have aw:=p.out.aA.lt;obtain⟨i,al,an⟩:=acM p.out (ac.out.trans F λ_ a=> .inl a) (v':=V f d b) (l':=c.take d) (((u.out.χ 5 _).to (by simp[bg,fj])):θ (j.setCell (U e.g 5 A) (V f d b)) e.g 66 _) (Aa am F λg l k=>by have:=(O g l).1;have k:g=e.g:=k;simp at this;omega) (λg l=>by have E:=O g l;have:=F.size;simp at E;exact⟨.inr (by omega),by omega⟩);exact⟨i,_,_,al,an⟩);go_region
 all_goals
  go_wp2;go_end0
  exact⟨rfl,ae.out⟩
def back(a:Int)(b:υ):υ:= {b with Δ:=a,aH:=0}
def rT(a:HS)(id b:Int)(c:Ss):HS:= {a with ss:=aP a.ss id (N {c with ar:=false}),τ:=ee a.τ id (back b)}
theorem ZP(f:Υ z)(u:h∈z.τ)(w:z.ss h.2.id=N J)(y:0<=m)(A:m<16)(C:(z.cl m).isSome=true)(t:∀d∈z.τ,d.2.Δ≠m):Υ (rT z h.2.id m J):=by
 have E:∀i:υ,(back m i).id=i.id/\(back m i).ψ=i.ψ/\(back m i).ah=i.ah:=λi=>⟨rfl,rfl,rfl⟩;have j:(rT z h.2.id m J).τ=ee z.τ h.2.id (back m):=rfl;obtain⟨R,r,F,Q,G⟩:=f.state h u;rw[w] at r;injection r with r;subst r;have tk:∀d:Nat×υ,(if d.2.id==h.2.id then(d.1,back m d.2) else d).2.ax=d.2.ax:=λd=>by split<;>rfl
 have P:∀ {d c:Nat×υ},d∈z.τ->c∈z.τ->d.2.id=h.2.id->c.2.id=h.2.id->d=c:=λb H k l=>sU f.dM b H (k.trans l.symm)
 exact {f with
  bj:=λd b=>by rw[j] at b;obtain⟨c,e,g,B,_⟩:=Jc E b;rw[B];exact f.bj c e
  dM:=by rw[j];exact Jd (λi=>rfl) f.dM
  aR:=λd b=>by
   rw[j] at b;obtain⟨c,e,rfl⟩:=hZ b;have:=f.aR c e;split
   .exact this
   .exact this
  ij:=λO=>by rw[j,Jb (f:=back m) (λi=>rfl)];exact f.ij O
  state:=λd b=>by
   rw[j] at b;obtain⟨c,e,g⟩:=hZ b;obtain⟨s,n,I,K,L⟩:=f.state c e;by_cases a:c.2.id=h.2.id
   .have x:=sU f.dM e u a;subst x;rw[ahM (by simp)] at g;subst g;exact⟨{J with ar:=false},bI _ _ _,F,by show false=(m== -1);exact(ahO (by omega)).symm,G⟩
   .rw[WB (by simpa using a)] at g;subst g;exact⟨s,(bU _ _ _ a).trans n,I,K,L⟩
  eC:=λd b=>by
   rw[j] at b;obtain⟨c,e,rfl⟩:=hZ b;by_cases a:c.2.id=h.2.id
   .rw[ahM (by simpa using a)];exact .inr ⟨y,A,C⟩
   .rw[WB (by simpa using a)];exact f.eC c e
  iq:=λd b M q a p=>by
   rw[j] at b q;obtain⟨c,e,rfl⟩:=hZ b;obtain⟨o,g,rfl⟩:=hZ q;by_cases k:c.2.id=h.2.id
   .by_cases l:o.2.id=h.2.id
    .rw[P e g k l]
    rw[ahM (by simpa using k),WB (by simpa using l)] at a;exact ahN a.symm (t o g)
   .by_cases l:o.2.id=h.2.id
    .rw[WB (by simpa using k),ahM (by simpa using l)] at a;exact ahN a (t c e)
    rw[WB (by simpa using k),WB (by simpa using l)] at a;rw[WB (by simpa using k)] at p;rw[f.iq c e o g a p]
  lh:=λd b M q a p=>by rw[j] at b q;obtain⟨c,e,rfl⟩:=hZ b;obtain⟨o,g,rfl⟩:=hZ q;rw[tk,tk] at a;rw[tk] at p;rw[f.lh c e o g a p]
  fS:=λid s n=>by
   by_cases a:id=h.2.id
   .subst a;have:(rT z h.2.id m J).ss h.2.id=N {J with ar:=false} :=bI _ _ _;rw[this] at n;injection n with n;subst n;exact f.fS _ J w
   .exact f.fS id s ((bU _ _ _ a).symm.trans n)}
def gV(c:HS)(a:Nat×υ)(b:Int)(d:Ss):HS:=if 0<=a.2.Δ then cK (rT c a.2.id b d) a.2.Δ else rT c a.2.id b d
theorem N5(f:Υ z){a:Nat×υ}(d:a∈z.τ)(q:z.ss a.2.id=N J)(k:0<=m)(n:m<16)(o:(z.cl m).isSome=true)(e:∀i∈z.τ,i.2.Δ≠m):Υ (gV z a m J):=by
 have g:=ZP f d q k n o e;unfold gV;split
 .next h=>
  refine wI g λi p=> ?_;obtain⟨j,l,rfl⟩:=hZ p;by_cases c:j.2.id=a.2.id
  .rw[ahM (by simpa using c)];exact λb=>e a d (by rw[<-b];rfl)
  rw[WB (by simpa using c)];exact λb=>c (by rw[f.iq j l a d b (by rw[b];omega)])
 exact g
def Hm:Bt:=[117,115,101,114]
def uJ:Bt:=[100,101,118,105,99,101]
def pO(b:Bt)(a:At):Option (BA×BA):=if(decide (b=[115,116,114,101,97,109])&&decide (a.length=if(gi a uJ).isSome then 2 else 1))&&du us (bK a Hm)&&(!(gi a uJ).isSome||aN (bK a uJ)) then N (bK a Hm,bK a uJ) else A
def kU(a:HS)(b:Int)(d:Cl)(e c:BA):HS:= {a with cl:=aP a.cl b (N {d with ψ:=e,ah:=c})}
theorem acO(o:Α w e v z){a:Cl}(p:z.cl m=N a)(h f:BA):∃q,Α ((w.setCell (U a.q 2 A) (H h)).setCell (U a.q 3 A) (H f)) e q (kU z m a h f)/\Ε w ((w.setCell (U a.q 2 A) (H h)).setCell (U a.q 3 A) (H f)) v q:=by
 obtain⟨k,j,g⟩:=o.uH p;have i:Y w ((w.setCell (U a.q 2 A) (H h)).setCell (U a.q 3 A) (H f)) (·=a.q):=((Y.refl w (·=a.q)).χ (p:=(U a.q 2 A)) (.inl rfl) _).χ (p:=(U a.q 3 A)) (.inl rfl) _;have u:of v (.cl m) a.q:=(g.ak _).2 (.inl rfl);have r:Ψ w ((w.setCell (U a.q 2 A) (H h)).setCell (U a.q 3 A) (H f)) (of v (.cl m)) (of v (.cl m)):=⟨i.mono λc d=> .inl (by have d:c=a.q:=d;rw[d];exact u),λc d=> .inl d⟩
 have t:∃k j,lr ((w.setCell (U a.q 2 A) (H h)).setCell (U a.q 3 A) (H f)) {a with ψ:=h,ah:=f} (of v (.cl m)) k j:=by
  refine⟨k,j,{blk:=((g.blk.χ 2 _).χ 3 _).to (by simp[BM]),reader:=(jA _ _).keeps g.reader i λc d b=>g.q1 (by have b:c=a.q:=b;rw[<-b];exact d),builder:= ?_,q1:=g.q1,q2:=g.q2,apart:=g.apart,ak:=g.ak}⟩;have n:=g.builder;simp only;split at n
  .exact λc d=>dQ (n c d) i.size
  exact(jf _ _).keeps n i λc d b=>g.q2 (by have b:c=a.q:=b;rw[<-b];exact d)
 have:=o.put (s':=kU z m a h f) (.cl m) r (by simp only[dq,kU,bI];exact t) λx s=> ?_
 .exact⟨_,this.1,this.2⟩
 cases x with
 |hY=>
  have b:(λc=>((kU z m a h f).cl c).map λa=>Ζ a.q)=λc=>(z.cl c).map λa=>Ζ a.q:=by
   funext c;unfold kU;by_cases b:c=m
   .subst b;simp only[bI];rw[p];rfl
   simp only;rw[bU _ _ _ b]
  funext W F;simp only[dq,b];rfl
 |cl l=>have b:l≠m:=λb=>s (by rw[b]);funext W F;have:(kU z m a h f).cl l=z.cl l:=bU _ _ _ b;simp only[dq,this]
 |_=>rfl
theorem ZU(b:Υ z){c:Cl}(k:z.cl m=N c)(g f:BA):Υ (kU z m c g f):=by
 have h:∀a,((kU z m c g f).cl a).isSome=(z.cl a).isSome:=λa=>by
  unfold kU;by_cases d:a=m
  .subst d;simp only[bI];rw[k];rfl
  simp only;rw[bU _ _ _ d]
 exact {b with
  eC:=λq n=>by rw[h];exact b.eC q n
  open_:=λp l=>by rw[h];exact b.open_ p l
  range:=λa o=>b.range a (by rw[<-h];exact o)
  jQ:=λa r i e j=>by
   by_cases d:a=m
   .subst d;have:(kU z a c g f).cl a=N {c with ψ:=g,ah:=f} :=bI _ _ _;rw[this] at e;injection e with e;subst e;exact b.jQ a c i k j
   .exact b.jQ a r i ((bU _ _ _ d).symm.trans e) j}
theorem Ru(a:n.ownsRow w.heap.size 9 1 x us.length (us.map H)):eU n x us:=eU.dw a (by decide)
theorem Zf(O:Α w e v z)(am:Υ z)(aO:z.ο<aL){an:Cl}(al:z.cl m=N an){n:Bt}(ak:aU w j x W)(aP:W.length<=1000)(hv:∀X∈W,X.2.length<=10000)(bh:∀X,j X->v X=A):ν δ 63 #[Ζ e.g,I E m,we n x [] (V A 0 0)] w λa S=>a=ξ (σ #[])/\∃k ar,Α S e k ar/\Ε w S v k/\((∃b c,pO n W=N (b,c)/\ar=kU z m an b c)\/(pO n W=A/\∃ap aq,ar=kg z m ap aq)):=by
 have l:=K (Φ O (Φ am aO));have ad:=K al;have ac:=K (Φ ak (Φ aP hv));have aW:=K (show aF m from by have:=am.range m (by rw[al];rfl);unfold aF;omega);obtain⟨aH,aG,rfl⟩:=ak.form;obtain⟨bl,bn,be,bo,bf,bj,bi⟩:=an;simp only[we] at*;clear O am aO al ak aP hv;go_enter func63,ntmps63;go_upto_region 1 with fail
 generalize aM:bm w _=J at*;have f:η (Y w J γ/\θ J w.heap.size 84 #[H (D n.toArray),V aH W.length aG,H (D #[]),V A 0 0]):=K (by subst aM;exact⟨(Y.refl w γ).alloc _,θ.new _ _ _⟩);clear aM;have aB:=K (l.out.1.still f.out.1);have aK:=aB.out.aA.cell 6;simp only[bg,gz_] at aK;have ao:=aB.out.uL aW.out;rw[ad.out] at ao;simp only[gx,gK] at ao;obtain⟨av,aw,ax,ay⟩:=aj f.out.2
 have aa:η (∀(nm:BA) G,Y J G γ->ν δ 94 #[Μ #[H (D n.toArray),V aH W.length aG,H (D #[]),V A 0 0],H nm] G λa S=>a=ξ (σ #[H (bK W nm.data.toList),ι (gi W nm.data.toList).isSome])/\Y G S γ):=K λnm G a6=>by
  have:=Kb (n:=n) (x:=[]) (nm:=nm.data.toList) (kp:=A) (kn:=0) (kc:=0) (ac.out.1.keeps (kk f.out.1 a6) λ_ _ O=>O) ac.out.2.1;have M:((D nm.data.toList.toArray):BA)=nm:=by cases nm;simp
  rw[M] at this;exact this
 go_wp2_with fail;clear aK ao;refine(aa.out _ _ (Y.refl _ _)).mono ?_;rintro i bp ⟨rfl,aQ⟩;have af:=K aQ;clear aQ av aw ax ay;obtain⟨av,aw,ax,ay⟩:=aj (af.out.blk f.out.2 id);go_wp2_with fail;refine(aa.out _ _ af.out).mono ?_;rintro i ba ⟨rfl,aR⟩;have g:=K (kk af.out aR);clear aR av aw ax ay aa;have M:bK W ((D #[100,101,118,105,99,101]):BA).data.toList=bK W [100,101,118,105,99,101]:=rfl;have aI:(gi W ((D #[100,101,118,105,99,101]):BA).data.toList)=gi W [100,101,118,105,99,101]:=rfl;rw[M,aI];clear M aI;have aX:η ((bK W [100,101,118,105,99,101]).size<=1000000000000):=K (aJ (D7 ac.out.2.2 _) (by decide));have d:=K (show pO n W=if(decide (n=[115,116,114,101,97,109])&&decide (W.length=if(gi W [100,101,118,105,99,101]).isSome then 2 else 1))&&du us (bK W [117,115,101,114])&&(!(gi W [100,101,118,105,99,101]).isSome||aN (bK W [100,101,118,105,99,101])) then N (bK W [117,115,101,114],bK W [100,101,118,105,99,101]) else A from rfl);have C:=K (show(((D n.toArray):BA).toList==[115,116,114,101,97,109])=decide (n=[115,116,114,101,97,109]) from by rw[iy,Bool.eq_iff_iff];simp);generalize bK W [117,115,101,114]=b at*;generalize bK W [100,101,118,105,99,101]=c at*;generalize(gi W [117,115,101,114]).isSome=bk at*;generalize(gi W [100,101,118,105,99,101]).isSome=R at*;generalize((D n.toArray):BA)=aV at*;have y:=K (l.out.1.still (kk f.out.1 g.out));obtain⟨y0,az, -, -⟩:=aj (g.out.blk f.out.2 id);go_upto_if 28 with fail
 go_cut [11] (λa7 au=>∃T:Int,a7=I E T/\au=ba/\η ((R=false->T=1)/\(R=true->T=2)))
 case first=>
  cases R
  .go_wp2_with fail;go_meet;exact⟨1,rfl,rfl,K ⟨λ_=>rfl,nofun⟩⟩
  go_wp2_with fail;go_meet;exact⟨2,rfl,rfl,K ⟨nofun,λ_=>rfl⟩⟩
 case rest=>
 obtain⟨T,rfl,rfl,aC⟩:=hcut;go_upto_region 7 with fail
 go_cut [56] (λa8 au=>∃L:Bool,a8=ι L/\η (Y J au γ/\pO n W=if L then A else N (b,c)))
 case first=>
  cases R
  .have ai:=aC.out.1 rfl;subst ai;cases q:(aV.toList==[115,116,114,101,97,109])
   .go_wp2_with fail;go_meet;exact⟨true,rfl,K ⟨g.out,by rw[d.out,<-C.out,q];simp⟩⟩
   cases h:((W.length:Int)!=1)
   rotate_left
   .go_wp2_with fail;go_meet
    exact⟨true,rfl,K ⟨g.out,by
     have a:¬W.length=1:=λa=>by rw[a] at h;cases h
     rw[d.out];simp[a]⟩⟩
   have p:=y.out.aA.cell 1;simp only[bg,gz_] at p;have ah:=K (Gf (y.out.part .aE));go_wp2_with fail;refine ah.out.mono ?_;rintro i bb ⟨a9,rfl,u,t⟩;have ae:=K (Ru u);have o:=K (kk g.out t);clear u t p y0 az;go_wp2_with fail;refine(yY ae.out b).mono ?_;rintro i aT ⟨rfl,rfl⟩;cases r:du us b
   .go_wp2_with fail;go_meet;exact⟨true,rfl,K ⟨o.out,by rw[d.out,r];simp⟩⟩
   go_wp2_with fail;go_meet
   exact⟨false,rfl,K ⟨o.out,by
    rw[d.out,r,<-C.out,q];have a5:(W.length:Int)=1:=by simpa using h
    have a:W.length=1:=by omega
    simp[a]⟩⟩
  have ai:=aC.out.2 rfl;subst ai;cases q:(aV.toList==[115,116,114,101,97,109])
  .go_wp2_with fail;go_meet;exact⟨true,rfl,K ⟨g.out,by rw[d.out,<-C.out,q];simp⟩⟩
  cases h:((W.length:Int)!=2)
  rotate_left
  .go_wp2_with fail;go_meet
   exact⟨true,rfl,K ⟨g.out,by
    have a:¬W.length=2:=λa=>by rw[a] at h;cases h
    rw[d.out];simp[a]⟩⟩
  have p:=y.out.aA.cell 1;simp only[bg,gz_] at p;have ah:=K (Gf (y.out.part .aE));go_wp2_with fail;refine ah.out.mono ?_;rintro i bb ⟨a9,rfl,u,t⟩;have ae:=K (Ru u);have o:=K (kk g.out t);clear u t p y0 az;go_wp2_with fail;refine(yY ae.out b).mono ?_;rintro i aT ⟨rfl,rfl⟩;cases r:du us b
  .go_wp2_with fail;go_meet;exact⟨true,rfl,K ⟨o.out,by rw[d.out,r];simp⟩⟩
  have aZ:=K (nT aT c aX.out);go_wp2_with fail;refine aZ.out.mono ?_;rintro i bq ⟨rfl,aS⟩;have aY:=K (kk o.out aS);clear aS;go_wp2_with fail;go_meet
  exact⟨!aN c,rfl,K ⟨aY.out,by
   rw[d.out,r,<-C.out,q];have a5:(W.length:Int)=2:=by simpa using h
   have a:W.length=2:=by omega
   cases aN c<;>simp[a]⟩⟩
 case rest=>
 obtain⟨L,rfl,B⟩:=hcut;generalize wc=br at*;have ab:=K (l.out.1.still (kk f.out.1 B.out.1));have aD:=K (Ε.bu v (kk f.out.1 B.out.1));clear y0 az;cases L
 .obtain⟨bd,bc,s⟩:=ab.out.uH ad.out;have a1:=s.blk.cell 2;have a2:=s.blk.cell 3;have a3:=s.blk.frozen 2;have a4:=s.blk.frozen 3;simp only[BM,gz_] at a1 a2 a3 a4;clear s;have F:=K (acO ab.out ad.out b c);go_wp2;go_end0
  obtain⟨k,P,Q⟩:=F.out;exact⟨rfl,k,_,P,aD.out.trans Q,.inl ⟨b,c,B.out.2,rfl⟩⟩
 have a0:=K (Af ab.out l.out.2.1.room l.out.2.2 m);go_wp2_with fail;refine a0.out.mono ?_;rintro i bs ⟨rfl,k,ap,aq,P,Q⟩;have F:=K (Φ P (aD.out.trans Q));clear P Q;go_wp2;refine Ω (v:=σ #[]) (by simp[ag,results63,go_sem]) rfl ?_;exact⟨rfl,k,_,F.out.1,F.out.2,.inr ⟨B.out.2,ap,aq,rfl⟩⟩
structure df (s s':HS):Prop where
 Ι:s'.Ι=s.Ι
 cl:∀x,s'.cl x=s.cl x\/s'.cl x=A
 whole:∀i,i<16->(s.Κ i).br=false->(s.Κ i).left= -1->(s'.Κ i).br=false/\(s'.Κ i).left= -1
theorem df.refl(a:HS):df a a:=⟨rfl,λ_=> .inl rfl,λ_ _ b c=>⟨b,c⟩⟩
theorem df.trans{b:HS}(a:df z b)(g:df b c):df z c:=
 ⟨g.Ι.trans a.Ι,λj=>(g.cl j).elim (λh=>(a.cl j).elim (λd=> .inl (h.trans d)) λd=> .inr (h.trans d)) .inr,λf e i v=>g.whole f e (a.whole f e i v).1 (a.whole f e i v).2⟩
theorem ci.dH(a:ci z c):df z c:=⟨a.Ι,λb=> .inl (by rw[a.cl]),a.whole⟩
theorem eJ.dH(a:eJ z c y):df z c:=⟨a.Ι,λb=> .inl (by rw[a.cl]),a.whole⟩
theorem wO(b:HS)(a:Int):df b (cK b a):=by
 refine⟨rfl,λj=> ?_,λi h d e=> ?_⟩
 .by_cases c:j=a
  .exact .inr (by rw[c];exact bI _ _ _)
  exact .inl (bU _ _ _ c)
 obtain⟨k,f,g,l⟩:=vW b.Κ a i h;exact⟨f.trans d,g.trans e⟩
theorem Pn(a:HS)(c:υ):df a (cZ a c):=by
 have b:df a (if 0<=c.Δ then cK a c.Δ else a):=by
  split
  .exact wO _ _
  exact df.refl _
 exact⟨b.Ι,b.cl,b.whole⟩
theorem Pm(a:HS)(id:Int)(c:υ):df a (ei a id c):=by have b:=Pn {a with τ:=bY a.τ id} c;exact⟨b.Ι,b.cl,b.whole⟩
theorem dX.dH(a:dX z c m):df z c:=by
 unfold dX at a;split at a
 .subst a;exact df.refl _
 exact(Pm _ _ _).trans a.dH
theorem aaY(b:HS)(c id:Int)(d:Ss):df b (qi b c id d):=by have a:=wO b c;exact⟨a.Ι,a.cl,a.whole⟩
theorem aaW(b:HS)(c id:Int)(d:Ss):df b (lE b c id d):=by have a:=wO b c;exact⟨a.Ι,a.cl,a.whole⟩
theorem fC.dH(a:fC z c m):df z c:=by
 unfold fC at a;split at a
 .subst a;exact df.refl _
 split at a
 .subst a;exact wO _ _
 obtain⟨d,b,a⟩:=a;split at a
 .subst a;exact aaY _ _ _ _
 exact(aaW _ _ _ _).trans (dX.dH a)
theorem Po(a:HS)(d:List (Int×Int))(e:ε):df a (jY a d e):=⟨rfl,λ_=> .inl rfl,λ_ _ b c=>⟨b,c⟩⟩
theorem rO.dH(a:rO z c):df z c:=by
 obtain⟨b,d,g,h,f,a,e⟩:=a;obtain⟨_,a⟩|⟨_,a⟩:=a
 .exact(Po _ _ _).trans (dX.dH a)
 exact(Po _ _ _).trans (fC.dH a)
theorem eh.dH(a:eh z c):df z c:=by
 induction a with
 |nil z _=>exact df.refl _
 |cons z e f b _ d=>exact(rO.dH b).trans d
theorem lS.dH(a:lS z c m):df z c:=by
 unfold lS at a;split at a
 .subst a;exact wO _ _
 exact dX.dH a
theorem Pq(b:HS)(c:Int){a:List BA}(h:ε)(f:∀i∈a,i.size<=most):df b (cF b c a h):=
 ⟨rfl,λ_=> .inl rfl,λg _ d e=>(D' c a b.Κ f).whole g d e⟩
theorem aaX(a:HS)(d:Nat×υ)(b:Int)(e:Ss):df a (gV a d b e):=by
 have c:df a (rT a d.2.id b e):=⟨rfl,λ_=> .inl rfl,λ_ _ f g=>⟨f,g⟩⟩;unfold gV;split
 .exact c.trans (wO _ _)
 exact c
structure iD (s s':HS):Prop where
 aE:s'.aE=s.aE
 bj:∀q∈s'.τ,∃r∈s.τ,r.2.id=q.2.id
 out:∀i,i<16->(s.Κ i).op=false->(s'.Κ i).out=(s.Κ i).out/\(s'.Κ i).op=false
theorem iD.refl(a:HS):iD a a:=⟨rfl,λd c=>⟨d,c,rfl⟩,λ_ _ b=>⟨rfl,b⟩⟩
theorem iD.trans{b:HS}(a:iD z b)(d:iD b c):iD z c:=
 ⟨d.aE.trans a.aE,λq n=>by
  obtain⟨r,o,k⟩:=d.bj q n;obtain⟨s,p,l⟩:=a.bj r o;exact⟨s,p,l.trans k⟩,λf e m=>by
  obtain⟨g,h⟩:=a.out f e m;obtain⟨i,j⟩:=d.out f e h;exact⟨i.trans g,j⟩⟩
theorem ci.sinks(a:ci z c):iD z c:=⟨a.aE,λg d=>⟨g,by rw[a.τ] at d;exact d,rfl⟩,λf e b=>by rw[a.shut f e b];exact⟨rfl,b⟩⟩
theorem Qo(a:HS)(b:Int):iD a (cK a b):=⟨rfl,λi g=>⟨i,g,rfl⟩,λh e f=>by obtain⟨c,j,k,d⟩:=vW a.Κ b h e;exact⟨c,d.trans (by rw[f];rfl)⟩⟩
theorem adC(a:HS)(c:υ):iD a (cZ a c):=by
 have b:iD a (if 0<=c.Δ then cK a c.Δ else a):=by
  split
  .exact Qo _ _
  exact iD.refl _
 exact⟨b.aE,b.bj,b.out⟩
theorem Qn(a:HS)(id:Int)(c:υ):iD a (ei a id c):=by have b:=adC {a with τ:=bY a.τ id} c;refine⟨b.aE,λg e=> ?_,b.out⟩;obtain⟨h,f,d⟩:=b.bj g e;exact⟨h,(dE.1 f).1,d⟩
theorem dX.sinks(a:dX z c m):iD z c:=by
 unfold dX at a;split at a
 .subst a;exact iD.refl _
 exact(Qn _ _ _).trans a.sinks
theorem adE{s:HS}{id:Int}{f:υ->υ}(d:∀b,(f b).id=b.id)(e:h∈ee s.τ id f):∃a∈s.τ,a.2.id=h.2.id:=by
 obtain⟨a,g,c⟩:=CZ e;refine⟨a,g,?_⟩;rw[c];split
 .exact(d _).symm
 rfl
theorem fC.sinks(a:fC z c m):iD z c:=by
 unfold fC at a;have b:=Qo z m;split at a
 .subst a;exact iD.refl _
 split at a
 .subst a;exact b
 next pr _=>
 obtain⟨e,f,a⟩:=a;split at a
 .subst a;exact⟨b.aE,λg d=>adE (s:=z) (id:=pr.2.id) (f:=oG z.Ι) (λ_=>rfl) d,b.out⟩
 exact iD.trans (b:=lE z m pr.2.id e) ⟨b.aE,b.bj,b.out⟩ (dX.sinks a)
theorem eh.sinks(a:eh z c):iD z c:=by
 induction a with
 |nil z _=>exact iD.refl _
 |cons z n o d _ f=>
  refine iD.trans ?_ f;obtain⟨j,k,h,i,m,a,l⟩:=d;have b:iD z (jY z h i):=⟨rfl,λg e=>⟨g,e,rfl⟩,λ_ _ a=>⟨rfl,a⟩⟩;obtain⟨_,a⟩|⟨_,a⟩:=a
  .exact b.trans (dX.sinks a)
  exact b.trans (fC.sinks a)
def fq(b a:Nat):Ss:=⟨b,a,false,false,false,false,(D #[])⟩
def eL(c:HS)(d b:BA)(a:Int):υ:=⟨c.last+1,d,b,(D #[]),a,0⟩
def jI(a:HS)(b:Nat)(c:υ)(d:Ss):HS:= {a with last:=a.last+1,τ:=a.τ++[(b,c)],ss:=aP a.ss (a.last+1) (N d),ο:=a.ο+1}
theorem Hh(c:Υ z)(h l o:Nat)(y:z.ο<aL)(E:p∈us)(B:aN L=true)(k:0<=m)(w:m<16)(A:(z.cl m).isSome=true)(q:∀a∈z.τ,a.2.Δ≠m)(G:(z.τ.filter λa=>same a.2.ψ p).length<4):Υ (jI z h (eL z p L m) (fq l o)):=by
 have f:∀ {a:Nat×υ},a∈z.τ++[(h,eL z p L m)]->a∈z.τ\/a=(h,eL z p L m):=λb=>(dO.1 b).imp id cj.1;have I:=c.last;have H:z.ο<66000000:=y
 exact {
  iu:=λF C=>aJ (c.iu F C) (pg _ (cV _))
  rows:=aJ c.rows (Fg _ (cV _))
  fits:=c.fits
  clock:=c.clock
  last:=by show 0<=z.last+1/\z.last+1<=((z.ο+1:Nat):Int)/\z.last+1<=1000000000;omega
  bj:=λa b=>by
   show 0<a.2.id/\a.2.id<=z.last+1;obtain b|rfl:=f b
   .have:=c.bj a b;omega
   .show 0<z.last+1/\z.last+1<=z.last+1;omega
  dM:=by refine List.pairwise_append.2 ⟨c.dM,List.pairwise_singleton _ _,λa b l r=> ?_⟩;rw[cj] at r;subst r;show a.2.id<z.last+1;have:=c.bj a b;omega
  aR:=λa b=>by
   obtain b|rfl:=f b
   .exact c.aR a b
   .exact⟨E,B,ai _⟩
  ij:=λv=>by
   show((z.τ++[(h,eL z p L m)]).filter λa=>same a.2.ψ v).length<=4;rw[EP,cL];have:=c.ij v;by_cases d:same p v=true
   .have t:=oN d;subst t;have:([(h,eL z p L m)].filter λa=>same a.2.ψ p).length<=1:=jo _ _;omega
   .have:([(h,eL z p L m)].filter λa=>same a.2.ψ v)=[]:=by rw[List.filter_cons_of_neg (by exact d)];rfl
    rw[this];simpa using c.ij v
  state:=λa b=>by
   obtain b|rfl:=f b
   .obtain⟨g,u,x⟩:=c.state a b;refine⟨g,?_,x⟩;have:=c.bj a b;exact(bU _ _ _ (by omega)).trans u
   .refine⟨fq l o,bI _ _ _,(by show false= !(ByteArray.toList ⟨#[]⟩).isEmpty;rw[iy];rfl),?_,nofun⟩;show false=(m== -1);exact(ahO (by omega)).symm
  eC:=λa b=>by
   obtain b|rfl:=f b
   .exact c.eC a b
   .exact .inr ⟨k,w,A⟩
  iq:=λa b n e d j=>by
   obtain b|rfl:=f b
   .obtain e|rfl:=f e
    .exact c.iq a b n e d j
    exact ahN d (q a b)
   .obtain e|rfl:=f e
    .exact ahN d.symm (q n e)
    rfl
  lh:=λa b n e d j=>by
   have k:∀ {g:υ},g.ax=(eL z p L m).ax->g.ax.toList.isEmpty=false->False:=λd i=>by rw[d] at i;have i:(ByteArray.toList ⟨#[]⟩).isEmpty=false:=i;rw[iy] at i;cases i
   obtain b|rfl:=f b
   .obtain e|rfl:=f e
    .exact c.lh a b n e d j
    exact(k d j).elim
   .exact(k rfl j).elim
  open_:=c.open_
  range:=c.range
  jQ:=c.jQ
  fS:=λid g s=>by
   by_cases d:id=z.last+1
   .subst d;have:N (fq l o)=N g:=(bI z.ss _ _).symm.trans s;injection this with this;subst this;exact ai _
   .exact c.fS id g ((bU _ _ _ d).symm.trans s)}
theorem ads(d:Int->Option Ss){a b:Int}(g:a≠b)(v e:Option Ss):aP (aP d a v) b e=aP (aP d b e) a v:=by
 funext x;unfold aP;by_cases c:x=b
 .subst c;rw[ahM rfl,WB (λf=>g f.symm),ahM rfl]
 rw[WB c,WB c]
theorem ab0(a:HS)(d:Nat)(e:υ)(c:Ss)(v:υ)(f:v.id≠a.last+1):cZ (jI {a with τ:=bY a.τ v.id} d e c) v=jI (ei a v.id v) d e c:=by
 have b:=ads a.ss (a:=a.last+1) (b:=v.id) (λb=>f b.symm) (N c) A;unfold cZ jI ei cZ;split
 .simp only[cK];rw[b]
 simp only[];rw[b]
theorem aay(a:List (Nat×υ))(id:Int)(b:Nat×υ->Bool):(bY a id).filter b=bY (a.filter b) id:=by
 unfold bY;rw[EZ,EZ]
 congr 1
 funext x;exact Bool.and_comm _ _
theorem CV(d:Υ z)(b:h∈z.τ)(c:same h.2.ψ p=true):((bY z.τ h.2.id).filter λa=>same a.2.ψ p).length<4:=by rw[aay];have:=OJ (L:=z.τ.filter λa=>same a.2.ψ p) (pr:=h) (dE.2 ⟨b,c⟩);have:=d.ij p;omega
theorem GP(e:Υ z)(d:h∈z.τ)(b:m=h.2.id)(a:dX z c m):ci (ei z h.2.id h.2) c:=by subst b;unfold dX at a;rw[rZ e d] at a;exact a
theorem Wc{s:HS}{a:υ}(c:a.Δ≠m):(cZ s a).cl m=s.cl m:=by
 unfold cZ;split
 .exact bU _ _ _ λb=>c b.symm
 rfl
theorem BO{a:υ}(b:a.Δ≠C):(ei z m a).cl C=z.cl C:=Wc (s:= {z with τ:=bY z.τ m}) b
theorem CQ(a:HS)(b:υ):(cZ a b).last=a.last:=by unfold cZ;split<;>rfl
theorem N1(a:Υ z)(c:h∈z.τ):Υ (ei z h.2.id h.2):=by obtain⟨_,_,_,_,b⟩:=wh a h.2.id h (rZ a c);exact b
def jM(a:HS)(b:BA):List BA:=(uR a b).map (·.ah)
def tP(a:HS)(g:Int)(b:Cl)(e:HS):Prop:=
 ∃(c:BA) (f j h:Nat),aN c=true/\(aN b.ah=true->c=b.ah)/\e.ο<=a.ο+40/\
  ((du (jM a b.ψ) c=false/\(a.τ.filter λi=>same i.2.ψ b.ψ).length<4/\e=jI a f (eL a b.ψ c g) (fq j h))\/
   (du (jM a b.ψ) c=true/\∃d∈a.τ,same d.2.ψ b.ψ=true/\∃k,dX a k d.2.id/\e=jI k f (eL k b.ψ c g) (fq j h))\/
   (du (jM a b.ψ) c=false/\4<=(a.τ.filter λi=>same i.2.ψ b.ψ).length/\∃d∈a.τ,same d.2.ψ b.ψ=true/\ci (jI (ei a d.2.id d.2) f (eL a b.ψ c g) (fq j h)) e))
structure Kg (s s':HS) (c:Int) (u:BA):Prop where
 inv:Υ s'
 dH:df s s'
 cl:s'.cl c=s.cl c
 known:∀but,bJ s but->bJ s' but
 ο:s'.ο<=s.ο+40
 II:∃pr∈s'.τ,pr.2.Δ=c/\pr.2.id=s.last+1/\pr.2.ψ=u/\∃xs,s'.ss pr.2.id=N xs/\xs.ae=false
theorem Gt{s s1:HS}{k:Cl}{d:BA}{b q fb:Nat}(u:Υ s1)(l:s1.ο<aL)(t:k.ψ∈us)(o:aN d=true)(g:0<=m)(i:m<16)(n:(s.cl m).isSome=true)(f:s1.cl m=s.cl m)(r:∀e∈s1.τ,e.2.Δ≠m)(j:(s1.τ.filter λe=>same e.2.ψ k.ψ).length<4)(p:s1.last=s.last)(c:df s s1)(w:∀a,bJ s a->bJ s1 a)(x:s1.ο<=s.ο+39):Kg s (jI s1 b (eL s1 k.ψ d m) (fq q fb)) m k.ψ where
 inv:=Hh u b q fb l t o g i (by rw[f];exact n) r j
 dH:=⟨c.Ι,c.cl,c.whole⟩
 cl:=f
 known a h:=w a h
 ο:=by show s1.ο+1<=_;omega
 II:=⟨(b,eL s1 k.ψ d m),E' _ (cj.2 rfl),rfl,(by show s1.last+1=_;rw[p]),rfl,fq q fb,bI _ _ _,rfl⟩
theorem tP.bound{e:Cl}(g:Υ z)(Z:z.ο+100<=aL)(S:z.cl m=N e)(C:e.ψ∈us)(u:0<=m)(w:m<16)(k:∀o∈z.τ,o.2.Δ≠m)(b:tP z m e c):Kg z c m e.ψ:=by
 obtain⟨q,I,p,i,A,_,B,b⟩:=b;have x:(z.cl m).isSome=true:=by rw[S];rfl
 have ac:∀a:Nat×υ,(bY z.τ a.2.id).length<=z.τ.length:=λ_=>jo _ _;obtain⟨_,J,rfl⟩|⟨_,a,f,E,s,r,rfl⟩|⟨_,J,a,f,E,d⟩:=b
 .exact Gt g (by omega) C A u w x rfl k J rfl (df.refl z) (λ_ b=>b) (by omega)
 .have H:=GP g f rfl r;have G:=yQ (wh g _) (λ_=>g) r;have y:s.cl m=z.cl m:=by rw[H.cl];exact BO (k a f)
  have n:s.τ=bY z.τ a.2.id:=by rw[H.τ];exact uY _ _
  have j:s.last=z.last:=by rw[H.last];exact CQ _ _
  have B:s.ο+1<=z.ο+40:=B;refine Gt G (by omega) C A u w x y (λo l=> ?_) ?_ j (dX.dH r) (λt b=>Ce b r) (by omega)
  .rw[n] at l;exact k o (dE.1 l).1
  rw[n];exact CV g f E
 have G:=N1 g f;have y:(ei z a.2.id a.2).cl m=z.cl m:=BO (k a f);have n:(ei z a.2.id a.2).τ=bY z.τ a.2.id:=uY _ _;have j:(ei z a.2.id a.2).last=z.last:=CQ _ _;have P:eL z e.ψ q m=eL (ei z a.2.id a.2) e.ψ q m:=by unfold eL;rw[j]
 have ab:(ei z a.2.id a.2).ο=z.ο:=wT _ _;rw[P] at d;have h:=Gt (s:=z) (s1:=ei z a.2.id a.2) (k:=e) (d:=q) (b:=I) (q:=p) (fb:=i) G (by omega) C A u w x y (λo l=>by rw[n] at l;exact k o (dE.1 l).1) (by rw[n];exact CV g f E) j (Pm _ _ _) (λt b=>Ht (s:= {z with τ:=bY z.τ a.2.id}) b a.2) (by omega);refine⟨d.inv h.inv,h.dH.trans d.dH,(by rw[d.cl];exact h.cl),λt b=>d.known (h.known t b),B,?_⟩;obtain⟨L,V,W,M,X,O,F,T⟩:=h.II;obtain⟨Y,K,aa⟩:=d.sT F;refine⟨L,(by rw[d.τ];exact V),W,M,X,Y,K,?_⟩
 have Q:O=fq p i:=by
  have:N (fq p i)=N O:=by
   have R:(jI (ei z a.2.id a.2) I (eL (ei z a.2.id a.2) e.ψ q m) (fq p i)).ss L.2.id=N (fq p i):=by rw[M,<-j];exact bI _ _ _
   exact R.symm.trans F
  injection this with this;exact this.symm
 have:=(d.ae _ _ _ F K).2.2 (by rw[Q];rfl);exact this.trans T
structure om (t:aG):Prop where
 name:t.name.length<=600
 bP:t.Γ.length<=6
 Γ:∀x∈t.Γ,x.1.length<=600/\x.2.length<=600
 Β:t.Β.length<=512
theorem GF(a b:Bt):(cut a b).1.length<=a.length/\(cut a b).2.1.length<=a.length:=by
 unfold cut;split
 .simp only[lO,vw];omega
 simp
theorem Mr(a:Bt)(b:UInt8)(c:(cut a [b]).2.2=true):(cut a [b]).1.length+1+(cut a [b]).2.1.length<=a.length:=by
 unfold cut at c⊢;split
 .next h0=>
  have:=index_room a [b] h0;simp only[lO,vw,jF] at this⊢;omega
 next h0=>rw[WB h0] at c;cases c
theorem abg{c b:Bt}(a:oF c=N b):b.length=1:=by
 unfold oF at a;repeat (split at a;(injection a with a;subst a;rfl))
 cases a
theorem Rt:∀(d:Nat) (c b e:Bt),nS d c b=N e->e.length<=c.length+b.length
 |0,_,_,_,a=>by cases a
 |d+1,c,b,e,a=>by
  unfold nS at a;split at a
  .next h1=>
   have f:=Mr b 38 h1;split at a
   .next sg hs=>
    split at a
    .next h2=>
     have g:=Mr (cut b [38]).2.1 59 h2;have:=Rt d _ _ _ a;rw[cL,cL,abg hs] at this;omega
    cases a
   cases a
  .injection a with a;subst a;rw[cL];have:=(GF b [38]).1;omega
theorem Rs(a:Bt):(gG a).1.length<=a.length:=by
 unfold gG;split
 .split
  .exact ai _
  unfold C';split
  .next t h=>have:=Rt _ _ _ _ h;simpa using this
  exact ai _
 exact ai _
theorem QG{a:Bt}(d:a.length<=512):∀b∈(ii a).1,om b/\b.Θ=3:=by
 unfold ii;split
 .exact nofun
 split
 .intro b c;rw[cj] at c;subst c;exact⟨⟨ai _,ai _,nofun,aJ (Rs a) d⟩,rfl⟩
 exact nofun
theorem Pv{b:Bt}(a:iH b=true):b.length<=16:=by unfold iH at a;simp only[i6,decide_eq_true_eq] at a;exact a.2
theorem ahg(a:Bt):(iL a).1.length<=a.length/\(iL a).2.1.length<=a.length:=by
 match a with
 |[]=>exact⟨ai _,ai _⟩
 |b::a=>
  simp only[iL];split
  .split
   .have c:=Rs (cut a [b]).1;have d:=GF a [b];simp only[eI];omega
   exact⟨ai _,ai _⟩
  exact⟨ai _,ai _⟩
theorem Vr(a:Bt):(iT a).1.1.length<=16/\(iT a).1.2.length<=a.length/\(iT a).2.1.length<=a.length:=by
 unfold iT;split
 .next h=>
  simp only[i6] at h;have b:=Pv h.2;have c:=GF a [61];have d:=ahg (cut a [61]).2.1;simp only;omega
 exact⟨ai _,ai _,ai _⟩
theorem aeW(a b:Bt):(trimLeftS a b).length<=a.length:=by unfold trimLeftS;exact(J3 _).length_le
theorem aeZ(a b:Bt):(trimRightS a b).length<=a.length:=by unfold trimRightS;rw[List.length_reverse];exact aJ (J3 _).length_le (by rw[List.length_reverse];exact Ο _)
theorem LG:∀(g:Nat) (f:List (Bt×Bt)) (e:Bt) (d:List (Bt×Bt)×Bool),e.length<=512->f.length<=6->(∀b∈f,b.1.length<=600/\b.2.length<=600)->lZ g f e=N d->d.1.length<=6/\∀b∈d.1,b.1.length<=600/\b.2.length<=600
 |0,_,_,_,_,_,_,a=>by cases a
 |g+1,f,e,d,k,i,h,a=>by
  unfold lZ at a;have l:=aeW e de;split at a
  .injection a with a;subst a;exact⟨i,h⟩
  .split at a
   .injection a with a;subst a;exact⟨i,h⟩
   split at a
   .cases a
   next hn=>
   simp only[not_or] at hn;have j:=Vr (trimLeftS e de);refine LG g _ _ d (by omega) (by rw[cL,jF];omega) (λb c=> ?_) a;obtain c|c:=dO.1 c
   .exact h b c
   rw[cj] at c;subst c;omega
theorem Qz{d:Bt}(m:d.length<=512):∀a∈(fA d).1,om a/\a.Θ≠3:=by
 have e:∀a∈([]:List aG),om a/\a.Θ≠3:=nofun;unfold fA;split
 .split
  .next c _=>
   unfold kP;split
   .intro a b;rw[cj] at b;subst b;have:=aeZ c de;simp only[eI] at m;exact⟨⟨by show(trimRightS c de).length<=600;omega,ai _,nofun,ai _⟩,(by decide:((2:Int)≠3))⟩
   exact e
  unfold iU;split
  .next hn=>
   have p:=Pv hn
   have o:∀f:Option (List (Bt×Bt)×Bool),(∀c,f=N c->c.1.length<=6/\∀g∈c.1,g.1.length<=600/\g.2.length<=600)->∀a∈(pF (d.take (indexAny (d++[32]) (de++[47])).toNat) f).1,om a/\a.Θ≠3:=by
    intro f k;match f with
    |none=>exact e
    |some (l,false)=>obtain⟨h,i⟩:=k _ rfl;intro a b;simp only[pF,cj] at b;subst b;exact⟨⟨by show(d.take _).length<=600;omega,h,i,ai _⟩,(by decide:((1:Int)≠3))⟩
    |some (l,true)=>
     obtain⟨h,i⟩:=k _ rfl;intro a b;simp only[pF,dD,List.not_mem_nil,or_false] at b;obtain rfl|rfl:=b
     .exact⟨⟨by show(d.take _).length<=600;omega,h,i,ai _⟩,(by decide:((1:Int)≠3))⟩
     exact⟨⟨by show(d.take _).length<=600;omega,ai _,(λg j=>by cases j),ai _⟩,(by decide:((2:Int)≠3))⟩
   exact o _ λc n=>LG _ _ _ c (by rw[vw];omega) (ai _) (λg j=>by cases j) n
  exact e
 exact e
theorem XV(b:Bt):(kP b).2=0->(kP b).1≠[]:=by
 unfold kP;split
 .exact λ_ a=>by cases a
 exact λa=>by cases a
theorem VN(c:Bt)(b:Option (List (Bt×Bt)×Bool)):(pF c b).2=0->(pF c b).1≠[]:=by
 match b with
 |none=>exact λa=>by cases a
 |some (_,false)=>exact λ_ a=>by cases a
 |some (_,true)=>exact λ_ a=>by cases a
theorem VB(a:Bt):(iU a).2=0->(iU a).1≠[]:=by
 unfold iU;split
 .exact VN _ _
 exact λb=>by cases b
theorem aer(a:Bt):(fA a).2=0->(fA a).1≠[]:=by
 unfold fA;split
 .split
  .exact XV _
  exact VB _
 exact λb=>by cases b
def fF:Bool->List aG->Bool->Prop
 |a,[],b=>b=true->a=true
 |a,c::d,b=>om c/\(c.Θ=3->a=true)/\fF (decide (c.Θ≠3)) d b
theorem fF.ve{c d:Bool}(a:fF c O f)(e:c=true->d=true):fF d O f:=by
 cases O with
 |nil=>exact λb=>e (a b)
 |cons g O=>exact⟨a.1,λb=>e (a.2.1 b),a.2.2⟩
theorem fF.append{d:Bool}:∀ {l e:List aG} {c:Bool},fF c l f->fF f e d->fF c (l++e) d
 |[],_,_,a,b=>fF.ve b a
 |_::l,_,_,a,b=>⟨a.1,a.2.1,fF.append (l:=l) a.2.2 b⟩
theorem Pz{a:Rd}(f:UInt8)(j:a.held.length<=512)(b:(cY a f).1.err=0):fF (!a.within) (cY a f).2 (!(cY a f).1.within)/\(cY a f).1.held.length<=512:=by
 unfold cY at b⊢;split
 .next e=>rw[ahM e] at b;cases b
 next e=>
 rw[WB e] at b;split
 .next h1=>
  have m:a.within=false:=by
   cases g:a.within
   .rfl
   exact ahN ⟨h1,g⟩ e
  refine⟨?_,ai _⟩;rw[m];have d:=QG j;show fF true (ii a.held).1 false;unfold ii at d⊢;split
  .exact nofun
  next h2=>
  rw[WB h2] at d;split
  .next h3=>
   rw[ahM h3] at d;exact⟨(d _ (cj.2 rfl)).1,λ_=>rfl,nofun⟩
  exact nofun
 next h1=>
 rw[WB h1] at b;split
 .next h2=>
  rw[ahM h2] at b;refine⟨?_,ai _⟩;rw[h2.2];have d:=Qz j;have b:(fA a.held).2=0:=b;show fF false (fA a.held).1 true;have k:=aer a.held b;generalize(fA a.held).1=c at d k
  have p:∀(c:List aG) (h:Bool),(∀i∈c,om i/\i.Θ≠3)->(c=[]->h=true)->fF h c true:=by
   intro c;induction c with
   |nil=>exact λh _ e _=>e rfl
   |cons i c o=>intro h l _;obtain⟨t1,t2⟩:=l i (dP ..);refine⟨t1,λg=>ahN g t2,o _ (λq n=>l q (eZ _ n)) λ_=> ?_⟩;exact decide_eq_true t2
  exact p c _ d λg=>ahN g k
 next h2=>
 rw[WB h2] at b;split
 .next h3=>rw[ahM h3] at b;cases b
 next h3=>
 refine⟨?_,?_⟩
 .show(!a.within)=true->(!a.within)=true;exact id
 show(a.held++[f]).length<=512;rw[cL,jF];omega
theorem Nl:∀(c:Bt) (a:Rd) (d:List aG) (e:Bool),a.held.length<=512->fF e d (!a.within)->(iX a d c).1.err=0->fF e (iX a d c).2 (!(iX a d c).1.within)/\(iX a d c).1.held.length<=512
 |[],a,d,e,i,j,_=>⟨j,i⟩
 |f::c,a,d,e,i,j,b=>by
  unfold iX at b⊢;split
  .next h=>
   rw[ahM h] at b
   have k:(cY a f).1.err=0:=by
    cases c with
    |nil=>exact b
    |cons n c=>
     unfold iX at b;by_cases g:(cY a f).1.err=0
     .exact g
     rw[WB g] at b;exact ahN b g
   obtain⟨l,m⟩:=Pz f i k;exact Nl c _ _ e m (fF.append j l) b
  .next h=>rw[WB h] at b;exact ahN b h
theorem No{a:Rd}(b:Bt)(d:a.held.length<=512)(c:(cP a b).1.err=0):fF (!a.within) (cP a b).2 (!(cP a b).1.within)/\(cP a b).1.held.length<=512:=
 Nl b a [] (!a.within) d id c
theorem aby{c:Rd}(d:UInt8)(a:(cY c d).1.err≠0):(cY c d).2=[]:=by
 unfold cY at a⊢;split
 .rfl
 next b=>
 rw[WB b] at a;split
 .next h1=>
  rw[ahM h1] at a;have a:(ii c.held).2≠0:=a;show(ii c.held).1=[];unfold ii at a⊢;split
  .rfl
  next h2=>
  rw[WB h2] at a;split
  .next h3=>rw[ahM h3] at a;exact ahN rfl a
  rfl
 next h1=>
 rw[WB h1] at a;split
 .next h2=>
  rw[ahM h2] at a;have a:(fA c.held).2≠0:=a;show(fA c.held).1=[];revert a;unfold fA;split
  .split
   .unfold kP;split
    .exact λb=>ahN rfl b
    exact λ_=>rfl
   unfold iU;split
   .generalize lZ _ _ _=o;match o with
    |none=>exact λ_=>rfl
    |some (_,false)=>exact λb=>ahN rfl b
    |some (_,true)=>exact λb=>ahN rfl b
   exact λ_=>rfl
  exact λ_=>rfl
 next h2=>
 split<;>rfl
theorem fF.low{b:Bool}(a:fF f O b):fF f O false:=by
 induction O generalizing f with
 |nil=>exact nofun
 |cons d O c=>exact⟨a.1,a.2.1,c a.2.2⟩
theorem Nk:∀(b:Bt) (c:Rd) (g:List aG) (d:Bool),c.held.length<=512->fF d g (!c.within)->fF d (iX c g b).2 false
 |[],_,_,_,_,a=>a.low
 |e::b,c,g,d,h,a=>by
  unfold iX;split
  .by_cases f:(cY c e).1.err=0
   .obtain⟨i,j⟩:=Pz e h f;exact Nk b _ _ d j (fF.append a i)
   rw[aby e f,AA];cases b with
   |nil=>exact a.low
   |cons k b=>unfold iX;rw[WB f];exact a.low
  .exact a.low
theorem Yg{a:Rd}(b:Bt)(c:a.held.length<=512):fF (!a.within) (cP a b).2 false:=Nk b a [] (!a.within) c id
theorem abz{c:Rd}(d:UInt8)(b:c.held.length<=512):(∀a∈(cY c d).2,om a)/\(cY c d).1.held.length<=512:=by
 unfold cY;split
 .exact⟨nofun,b⟩
 split
 .exact⟨λa e=>(QG b a e).1,ai _⟩
 split
 .exact⟨λa e=>(Qz b a e).1,ai _⟩
 split
 .exact⟨nofun,b⟩
 refine⟨nofun,?_⟩;show(c.held++[d]).length<=512;rw[cL,jF];omega
theorem Nm:∀(d:Bt) (e:Rd) (f:List aG),e.held.length<=512->(∀a∈f,om a)->∀a∈(iX e f d).2,om a
 |[],_,_,_,c=>c
 |g::d,e,f,h,c=>by
  unfold iX;split
  .obtain⟨i,j⟩:=abz g h;refine Nm d _ _ j λa b=> ?_;obtain b|b:=dO.1 b
   .exact c a b
   exact i a b
  .exact c
theorem Yh{a:Rd}(b:Bt)(c:a.held.length<=512):∀d∈(cP a b).2,om d:=Nm b a [] c nofun
theorem Nj:∀(b:Bt) (a:Rd) (c:List aG),(iX a c b).2.length<=c.length+2*b.length
 |[],_,_=>by simp[iX]
 |d::b,a,c=>by
  unfold iX;split
  .have e:=Nj b (cY a d).1 (c++(cY a d).2)
   have f:(cY a d).2.length<=2:=by
    unfold cY;split
    .exact ai _
    split
    .show(ii a.held).1.length<=2;unfold ii;repeat (split;· simp)
     simp
    split
    .show(fA a.held).1.length<=2;unfold fA;split
     .split
      .unfold kP;split<;>simp
      unfold iU;split
      .generalize lZ _ _ _=o;match o with
       |none=>exact ai _
       |some (_,false)=>exact cV 1
       |some (_,true)=>exact Ο 2
      exact ai _
     exact ai _
    split<;>exact ai _
   rw[cL] at e;simp only[eI];omega
  .simp only[eI];omega
theorem Ye(b:Rd)(a:Bt):(cP b a).2.length<=2*a.length:=by have:=Nj a b [];unfold cP;simpa using this
structure uh (e:El) (a:Bool):Prop where
 name:e.name.length<=600
 bP:e.Γ.length<=6
 Γ:∀x∈e.Γ,x.1.length<=600/\x.2.length<=600
 Β:e.Β.length<=512*(e.Ξ.length+(if a then 0 else 1))
 most:e.Ξ.length<=16
 Ξ:∀k∈e.Ξ,fW k
theorem uh.ve(a:uh Q f):uh Q false:= {a with Β:=aJ a.Β (Fg _ (by split<;>simp))}
theorem uh.small(a:uh Q f):fW Q:=by have a:=a.ve;have j:=a.name;have k:=a.bP;have b:=a.Γ;have l:=a.Β;have m:=a.most;have c:=a.Ξ;obtain⟨g,at_,h,e⟩:=Q;simp only[El.name,El.Γ,El.Β,El.Ξ,rB,if_false] at*;exact .mk g at_ h e (by omega) (by omega) (λi d=>by have:=b i d;omega) (by omega) (by omega) c
structure Lc (e:El):Prop where
 Ξ:e.Ξ=[]
 Β:e.Β=[]
def Kz:List El->Prop
 |[]=>True
 |[a]=>Lc a
 |a::c::b=>(uh a false/\a.Ξ.length<=15)/\Kz (c::b)
def px:Bool->List El->Prop
 |_,[]=>True
 |_,[a]=>Lc a
 |b,a::d::c=>uh a b/\Kz (d::c)
theorem px.ve{b:List El}(a:px f b):px false b:=by
 match b,a with
 |[],_=>trivial
 |[_],a=>exact a
 |_::_::_,a=>exact⟨a.1.ve,a.2⟩
theorem px.to{a:Bool}{c:List El}(b:px f c)(d:a=true->f=true):px a c:=by
 cases a
 .exact b.ve
 rw[d rfl] at b;exact b
theorem abq{g u:Bd}{c:aG}{o:Option Ev}(G:g.aV.length<=5)(b:px f g.aV)(m:om c)(y:c.Θ=3->f=true)(a:fR g c= .inr (u,o)):px (decide (c.Θ≠3)) u.aV/\(∀d,o=N (.item d)->fW d)/\(∀k r,o=N (.head k r)->k=c.name/\r=c.Γ):=by
 unfold fR at a;split at a
 .cases a
 next p=>
 have p:gj g c=0:=JB.1 p;obtain⟨_,J,L,_,_⟩:=se p;unfold wQ at a;generalize jL g=cn at a;generalize g.ae=ov at a;generalize g.aV=t at*;split at a
 .next e1=>
  have j:decide (c.Θ≠3)=true:=decide_eq_true (by omega);rw[j];unfold vM at a;simp only at a;split at a
  .cases a
  match t,a with
  |[],a=>
   cases a
   exact⟨⟨rfl,rfl⟩,nofun,λk r d=>by cases d;exact⟨rfl,rfl⟩⟩
  |d::n,a=>
   simp only at a;split at a
   .cases a
   next hh=>
   cases a
   refine⟨⟨⟨m.name,m.bP,m.Γ,ai _,ai _,(λl q=>by cases q)⟩,?_⟩,nofun,nofun⟩;match n,b with
   |[],b=>exact b
   |s::n,b=>have e:=b.1.most;have:d.Ξ.length≠16:=λl=>hh ⟨List.cons_ne_nil _ _,l⟩;exact⟨⟨b.1.ve,by omega⟩,b.2⟩
 split at a
 .next e1 e2=>
  have j:decide (c.Θ≠3)=true:=decide_eq_true (by omega);rw[j];unfold yP at a;simp only at a;match t,a with
  |[],a=>cases a
  |[d],a=>
   simp only at a;split at a
   .cases a
   cases a;exact⟨trivial,nofun,nofun⟩
  |[d,s],a=>
   simp only at a;split at a
   .cases a
   cases a
   exact⟨b.2,λl q=>by cases q;exact b.1.small,nofun⟩
  |d:: .mk k at_ l C::s::n,a=>
   simp only at a;split at a
   .cases a
   cases a
   obtain⟨e,⟨h,w⟩,x⟩:=b;refine⟨⟨⟨h.name,h.bP,h.Γ,?_,?_,λF i=> ?_⟩,x⟩,nofun,nofun⟩
   .have t1:=h.Β;simp only[El.Β,El.Ξ,cL,jF,if_true,rB,if_false] at t1⊢;omega
   .simp only[El.Ξ,cL,jF] at w⊢;omega
   obtain i|i:=dO.1 i
   .exact h.Ξ F i
   rw[cj] at i;subst i;exact e.small
 next e1 e2=>
 have B:c.Θ=3:=by omega
 have j:decide (c.Θ≠3)=false:=decide_eq_false (by omega);rw[j];have z:=y B;subst z;match t,a with
 |[],a=>
  simp only[sV] at a;split at a
  .cases a;exact⟨trivial,nofun,nofun⟩
  cases a
 |[⟨_,_,_,_⟩],a=>
  simp only[sV] at a;split at a
  .cases a;exact⟨b,nofun,nofun⟩
  cases a
 | .mk k at_ l C::s::n,a=>
  simp only[sV] at a;cases a
  obtain⟨e,h⟩:=b;refine⟨⟨⟨e.name,e.bP,e.Γ,?_,e.most,e.Ξ⟩,h⟩,nofun,nofun⟩;have t1:=e.Β;have t2:=m.Β;simp only[El.Β,El.Ξ,cL,if_true,rB,if_false] at t1⊢;omega
theorem aex{b g:Bd}{f:aG}{d:Option Ev}(a:fR b f= .inr (g,d))(h:∀k j,d≠N (.head k j)):b.aV≠[]:=by
 intro e;unfold fR at a;split at a
 .cases a
 next c=>
 have c:gj b f=0:=JB.1 c;obtain⟨_,_,_,i,_⟩:=se c;unfold wQ at a;rw[ahM (i e)] at a;unfold vM at a;simp only at a;rw[e] at a;simp only[eN,Nat.not_lt_zero,if_false] at a;cases a
 exact h _ _ rfl
theorem Cm{own:Nat->Option Ν}{d:Ν}{c:Bs}{b:Nat}(e:¬c b)(a:own b=N d\/own b=A):fH own d c b=A:=by
 unfold fH;rw[WB e];obtain a|a:=a
 .rw[ahM a]
 rw[WB (by rw[a];exact nofun),a]
section
variable {w w':Z} {p:Pl} {own:Nat->Option Ν} {s:HS}
theorem Iu(h:Α w p own s){a:Int}{c x':Cl}(m:s.cl a=N c)(l:x'.q=c.q){F':Bs}(k:∃e d,lr w' x' F' e d)(g:Ψ w w' (of own (.cl a)) F'):Α w' p (fH own (.cl a) F') {s with cl:=aP s.cl a (N x')} /\Ε w w' own (fH own (.cl a) F'):=by
 refine h.put (s':= {s with cl:=aP s.cl a (N x')}) (.cl a) g (by simp only[dq,bI];exact k) λn j=> ?_;cases n with
 |hY=>have:=IK s.cl a (N x') (λb=>Ζ b.q) (by rw[m];simp[l]);funext W G;simp only[dq,this]
 |cl b=>have i:b≠a:=λf=>j (by rw[f]);funext W G;simp only[dq,bU _ _ _ i]
 |_=>rfl
def dh(s:HS)(a:Int)(b:Cl):HS:= {s with cl:=aP s.cl a (N b)}
theorem acP(g:Α w p own s){m:Int}{d:Cl}(z:s.cl m=N d){l e:Bs}(c:lr w d (of own (.cl m)) l e){rd:Rd}{f:Bs}(y:fV w' d.rb rd f)(i:Ψ w w' l f):∃q,Α w' p q (dh s m {d with rd:=rd})/\Ε w w' own q/\∀a,w.heap.size<=a->¬f a->q a=A:=by
 have G:=c.blk.lt;have t:∀a,e a->a<w.heap.size:=λa b=>c.lt a ((c.ak a).2 (.inr (.inr b)));have n:∀a,f a->l a\/w.heap.size<=a:=i.fresh
 obtain⟨x,F⟩:=Iu (w':=w') g z (x':= {d with rd:=rd}) rfl (F':=λa=>a=d.q\/f a\/e a) ⟨f,e,{
  blk:=i.keeps.blk c.blk c.q1
  reader:=y
  builder:=by
   have o:=c.builder;show(match d.bd with|none=>∀a,e a->a<w'.heap.size|some r=>gX w' d.bb r e);split at o
   .next h=>rw[h];exact λa b=>dQ (o a b) i.keeps.size
   .next r h=>rw[h];exact(jf _ _).keeps o i.keeps λa b k=>c.apart a k b
  q1:=λb=>(n _ b).elim c.q1 λg=>by have g:w.heap.size<=d.q:=g;omega
  q2:=c.q2
  apart:=λa b u=>(n _ b).elim (λk=>c.apart a k u) λg=>by have:=t a u;omega
  ak:=λ_=>fT}⟩ ⟨i.keeps.mono λa b=> .inl ((c.ak a).2 (.inr (.inl b))),λa b=>by
   obtain rfl|b|b:=b
   .exact .inl ((c.ak _).2 (.inl rfl))
   .exact(n a b).imp (λk=>(c.ak a).2 (.inr (.inl k))) id
   .exact .inl ((c.ak a).2 (.inr (.inr b)))⟩
 refine⟨_,x,F,λa b B=>Cm (λj=> ?_) (.inr ?_)⟩
 .obtain rfl|j|j:=j
  .omega
  .exact B j
  have:=t a j;omega
 cases h:own a with
 |none=>rfl
 |some C=>have:=g.ik a C h;omega
theorem acK(g:Α w p own s){l:Int}{e:Cl}(z:s.cl l=N e){i h:Bs}(c:lr w e (of own (.cl l)) i h){k:Bd}{f:Bs}(y:gX w' e.bb k f)(j:Ψ w w' h f):∃q,Α w' p q (dh s l {e with bd:=N k})/\Ε w w' own q/\∀a,(h a\/w.heap.size<=a)->¬f a->q a=A:=by
 have F:=c.blk.lt;have t:∀a,i a->a<w.heap.size:=λa b=>c.lt a ((c.ak a).2 (.inr (.inl b)));have m:∀a,f a->h a\/w.heap.size<=a:=j.fresh
 obtain⟨x,C⟩:=Iu (w':=w') g z (x':= {e with bd:=N k}) rfl (F':=λa=>a=e.q\/i a\/f a) ⟨i,f,{
  blk:=j.keeps.blk c.blk c.q2
  reader:=(jA _ _).keeps c.reader j.keeps λa b o=>c.apart a b o
  builder:=y
  q1:=c.q1
  q2:=λb=>(m _ b).elim c.q2 λg=>by have g:w.heap.size<=e.q:=g;omega
  apart:=λa b o=>(m _ o).elim (λn=>c.apart a b n) λg=>by have:=t a b;omega
  ak:=λ_=>fT}⟩ ⟨j.keeps.mono λa b=> .inl ((c.ak a).2 (.inr (.inr b))),λa b=>by
   obtain rfl|b|b:=b
   .exact .inl ((c.ak _).2 (.inl rfl))
   .exact .inl ((c.ak a).2 (.inr (.inl b)))
   .exact(m a b).imp (λn=>(c.ak a).2 (.inr (.inr n))) id⟩
 refine⟨_,x,C,λa b r=> ?_⟩;obtain b|b:=b
 .refine Cm (λd=> ?_) (.inl ((c.ak a).2 (.inr (.inr b))));obtain rfl|d|d:=d
  .exact c.q2 b
  .exact c.apart a d b
  exact r d
 refine Cm (λd=> ?_) (.inr ?_)
 .obtain rfl|d|d:=d
  .omega
  .have:=t a d;omega
  exact r d
 cases u:own a with
 |none=>rfl
 |some B=>have:=g.ik a B u;omega
theorem acN(j:Α w p own s){e:Int}{f:Cl}(n:s.cl e=N f){h d:Bs}(c:lr w f (of own (.cl e)) h d)(g:Y w w' d):∃i,Α w' p i (dh s e {f with bd:=A})/\Ε w w' own i:=by
 have l:∀a,d a->a<w.heap.size:=λa b=>c.lt a ((c.ak a).2 (.inr (.inr b)))
 obtain⟨k,o⟩:=Iu (w':=w') j n (x':= {f with bd:=A}) rfl (F':=of own (.cl e)) ⟨h,d,{c with
  blk:=g.blk c.blk c.q2
  reader:=(jA _ _).keeps c.reader g λa b m=>c.apart a b m
  builder:=λa b=>dQ (l a b) g.size}⟩ ⟨g.mono λa b=> .inl ((c.ak a).2 (.inr (.inr b))),λa b=> .inl b⟩
 exact⟨_,k,o⟩
end
theorem Cq{s:HS}(e:Υ s){c:Int}{o f:Cl}(l:s.cl c=N o)(q:∀g,f.bd=N g->oe g):Υ (dh s c f):= {e with
 eC:=λp n=>by
  obtain h|⟨h1,h2,h3⟩:=e.eC p n
  .exact .inl h
  .refine .inr ⟨h1,h2,?_⟩;show(aP s.cl c (N f) p.2.Δ).isSome=true;by_cases b:p.2.Δ=c
   .rw[b,bI];rfl
   rw[bU _ _ _ b];exact h3
 open_:=λi k=>by
  show(s.Κ i).op=(aP s.cl c (N f) i).isSome;by_cases b:(i:Int)=c
  .rw[b,bI,e.open_ i k,b,l];rfl
  .rw[bU _ _ _ b];exact e.open_ i k
 range:=λd a=>by
  have a:(aP s.cl c (N f) d).isSome=true:=a;by_cases b:d=c
  .subst b;exact e.range d (by rw[l];rfl)
  .rw[bU _ _ _ b] at a;exact e.range d a
 jQ:=λd m g a j=>by
  have a:aP s.cl c (N f) d=N m:=a;by_cases b:d=c
  .subst b;rw[bI] at a;injection a with a;subst a;exact q g j
  .rw[bU _ _ _ b] at a;exact e.jQ d m g a j}
theorem CP{s:HS}(e:Υ s)(d:bJ s (-1))(c:Int):bJ s c:=λb f a _=>d b f a λg=>by have:=e.range b (by rw[a];rfl);omega
theorem CM{s:HS}{a:Int}(g:bJ s a)(d:Cl):bJ (dh s a d) a:=λe f b c=>by have b:aP s.cl a (N d) e=N f:=b;rw[bU _ _ _ c] at b;exact g e f b c
theorem zx{s:HS}{a:Int}(g:bJ s a)(h:∀d,s.cl a=N d->FJ s a d):bJ s (-1):=λe f c _=>by
 by_cases b:e=a
 .subst b;exact h f c
 exact g e f c b
noncomputable def uN:HS:=⟨Dv,BJ,0,[],0,V A 0 0,[],V A 0 0,[],λ_=>A,λ_=>A,0⟩
open Classical in
noncomputable def kY(c d e:Bs)(f b:Nat):Nat->Option Ν:=λa=>if c a then N .aE else if a=f then N .Κ else if d a then N .table else if e a then N .box else if a=b then N .hY else if a=b+1 then N .gE else if a=b+1+1 then N .ca else A
theorem ab1{h i:Bs}(m:∀b,j b->b<y)(p:y<d)(n:∀b,h b->d<=b/\b<M)(o:∀b,i b->M<=b/\b<k)(q:d<=M)(r:M<=k)(b:Nat)(l:Ν):kY j h i y k b=N l↔match l with
 | .aE=>j b
 | .Κ=>b=y
 | .table=>h b
 | .box=>i b
 | .hY=>b=k
 | .gE=>b=k+1
 | .ca=>b=k+1+1
 |_=>False:=by
 have e:=m b;have f:=n b;have g:=o b;unfold kY;constructor
 .intro c
  repeat' split at c
  all_goals first
   |(injection c with c;subst c;assumption)
   |cases c
 .intro c;cases l<;>simp only at c
  case aE=>rw[ahM c]
  case Κ=>rw[WB (λa=>by have:=e a;omega),ahM c]
  case table=>rw[WB (λa=>by have:=e a;have:=f c;omega),WB (by have:=f c;omega),ahM c]
  case box=>rw[WB (λa=>by have:=e a;have:=g c;omega),WB (by have:=g c;omega),WB (λa=>by have:=f a;have:=g c;omega),ahM c]
  case hY=>rw[WB (λa=>by have:=e a;omega),WB (by omega),WB (λa=>by have:=f a;omega),WB (λa=>by have:=g a;omega),ahM c]
  case gE=>rw[WB (λa=>by have:=e a;omega),WB (by omega),WB (λa=>by have:=f a;omega),WB (λa=>by have:=g a;omega),WB (by omega),ahM c]
  case ca=>rw[WB (λa=>by have:=e a;omega),WB (by omega),WB (λa=>by have:=f a;omega),WB (λa=>by have:=g a;omega),WB (by omega),WB (by omega),ahM c]
theorem KJ(al:aT w){cap:Nat}(ad:lT w y):ν δ 5 #[V (N (U y 0 A)) 4 cap] w λd av=>∃n m,d=ξ (Ζ n.g)/\Α av n m uN/\Y w av γ/\∀a,m a≠A->w.heap.size<=a:=by
 have ba:= @run_makeMap δ;have S:=K al;have W:=K (adg (cap:=cap) ad);clear al ad;go_enter func5,ntmps5;go_wp2_with fail;refine W.out.mono ?_;rintro d e ⟨l,i,rfl,M,O⟩;have q:=K (Φ M O);clear M O W;go_wp2_with fail;refine(TJ e).mono ?_;rintro d C ⟨rfl,T,P⟩;have G:=K (Φ T (Y.jy (F:=γ) P (λ_ c=>by cases c)));clear T P;go_wp2_with fail;refine(aeI C).mono ?_;rintro d F ⟨o,j,rfl,X,Q⟩;have r:=K (Φ X Q);clear X Q;go_wp2_with fail;refine(ahy F).mono ?_;rintro d b ⟨p,k,rfl,ab,R⟩;have s:=K (Φ ab R);clear ab R
 have aw:η (∃n m,b.heap.size+1+1=n.g/\Α (((b.alloc (.map #[] 0)).alloc (.map #[] 0)).alloc (ζ #[Ζ e.heap.size,Ζ l,Ζ o,Ζ p,I E 0,V A 0 0,ω (N b.heap.size),ω (N (b.heap.size+1)),V A 0 0] 66)) n m uN/\Y w (((b.alloc (.map #[] 0)).alloc (.map #[] 0)).alloc (ζ #[Ζ e.heap.size,Ζ l,Ζ o,Ζ p,I E 0,V A 0 0,ω (N b.heap.size),ω (N (b.heap.size+1)),V A 0 0] 66)) γ/\∀a,m a≠A->w.heap.size<=a):=K (by
  have a3:Y b (b.alloc (.map #[] 0)) γ:=(Y.refl b γ).alloc _;have am:Y (b.alloc (.map #[] 0)) ((b.alloc (.map #[] 0)).alloc (.map #[] 0)) γ:=(Y.refl _ γ).alloc _;have L:Y ((b.alloc (.map #[] 0)).alloc (.map #[] 0)) (((b.alloc (.map #[] 0)).alloc (.map #[] 0)).alloc (ζ #[Ζ e.heap.size,Ζ l,Ζ o,Ζ p,I E 0,V A 0 0,ω (N b.heap.size),ω (N (b.heap.size+1)),V A 0 0] 66)) γ:=(Y.refl _ γ).alloc _;have a4:aC cM (b.alloc (.map #[] 0)) b.heap.size (λ_=>A) 0:=aC.made cM b;have a5:aC cM ((b.alloc (.map #[] 0)).alloc (.map #[] 0)) (b.heap.size+1) (λ_=>A) 0:=by have:=aC.made cM (b.alloc (.map #[] 0));simpa using this
  have ac:θ (((b.alloc (.map #[] 0)).alloc (.map #[] 0)).alloc (ζ #[Ζ e.heap.size,Ζ l,Ζ o,Ζ p,I E 0,V A 0 0,ω (N b.heap.size),ω (N (b.heap.size+1)),V A 0 0] 66)) (b.heap.size+1+1) 66 #[Ζ e.heap.size,Ζ l,Ζ o,Ζ p,I E 0,V A 0 0,ω (N b.heap.size),ω (N (b.heap.size+1)),V A 0 0]:=by have:=θ.new ((b.alloc (.map #[] 0)).alloc (.map #[] 0)) 66 #[Ζ e.heap.size,Ζ l,Ζ o,Ζ p,I E 0,V A 0 0,ω (N b.heap.size),ω (N (b.heap.size+1)),V A 0 0];simpa using this
  generalize bm (bm (bm b _) _) _=t at*;have au:Y b t γ:=kk (kk a3 am) L;have aq:Y F t γ:=kk (s.out.2.keeps.mono Η) au;have ap:Y C t γ:=kk (r.out.2.keeps.mono Η) aq;have ao:Y e t γ:=kk G.out.2 ap;have an:Y w t γ:=kk (q.out.2.keeps.mono Η) ao;have x:∀a,i a->w.heap.size<=a/\a<e.heap.size:=λa g=>⟨(q.out.2.fresh a g).resolve_left id,(fG _ _).lt q.out.1 a g⟩;have z:∀a,j a->C.heap.size<=a/\a<F.heap.size:=λa g=>⟨(r.out.2.fresh a g).resolve_left id,(lJ _ _ _).lt r.out.1 a g⟩;have B:∀a,k a->F.heap.size<=a/\a<b.heap.size:=λa g=>⟨(s.out.2.fresh a g).resolve_left id,(vO _ _).lt s.out.1 a g⟩;have a0:e.heap.size<C.heap.size:=(Dd _ _).lt G.out.1 _ rfl;have bb:=q.out.2.keeps.size;have a6:=r.out.2.keeps.size;have a7:=s.out.2.keeps.size;have bc:=ac.lt;have f:=ab1 (λa g=>(x a g).2) a0 z B a6 a7;have bd:=S.out.size;refine⟨⟨b.heap.size+1+1,e.heap.size,l,o,p,b.heap.size,b.heap.size+1⟩,kY i j k e.heap.size b.heap.size,rfl,⟨λa h g=> ?_,λh=> ?_,S.out.still an,λu a9=> ?_⟩,an,λa g=> ?_⟩
  .have:=(f a h).1 g;cases h<;>simp only at this
   .omega
   .omega
   .have:=x a this;omega
   .have:=z a this;omega
   .have:=B a this;omega
   .omega
   omega
  .cases h with
   |ca=>exact⟨ac,λa=>f a .ca⟩
   |Κ=>
    have d:of (kY i j k e.heap.size b.heap.size) .Κ=λa=>a=e.heap.size:=by funext a;exact propext (f a .Κ)
    rw[d];exact(Dd _ _).keeps G.out.1 ap λ_ _ c=>c
   |aE=>
    have d:of (kY i j k e.heap.size b.heap.size) .aE=i:=by funext a;exact propext (f a .aE)
    rw[d];exact(fG _ _).keeps q.out.1 ao λ_ _ c=>c
   |table=>
    have d:of (kY i j k e.heap.size b.heap.size) .table=j:=by funext a;exact propext (f a .table)
    rw[d];exact(lJ _ _ _).keeps r.out.1 aq λ_ _ c=>c
   |box=>
    have d:of (kY i j k e.heap.size b.heap.size) .box=k:=by funext a;exact propext (f a .box)
    rw[d];exact⟨0,Ο _,(vO _ _).keeps s.out.1 au λ_ _ c=>c⟩
   |lB=>exact⟨⟨nofun,A,0,rfl,Ο _,by decide,λ_=>⟨rfl,rfl⟩,nofun⟩,λa=>⟨λc=>((f a .lB).1 c).elim,nofun⟩,λa c=>((f a .lB).1 c).elim⟩
   |hY=>exact⟨⟨0,Ο _,(a4.keeps am id).keeps L id⟩,λa=>f a .hY⟩
   |gE=>exact⟨⟨0,Ο _,a5.keeps L id⟩,λa=>f a .gE⟩
   |row=>exact⟨.inl ⟨rfl,rfl⟩,λa=>⟨λc=>((f a .row).1 c).elim,nofun⟩⟩
   |cl J=>exact λa c=>((f a (.cl J)).1 c).elim
   |ss J=>exact λa c=>((f a (.ss J)).1 c).elim
  .cases d:kY i j k e.heap.size b.heap.size u with
   |none=>rfl
   |some h=>
    have:=(f u h).1 d;cases h<;>simp only at this
    .omega
    .omega
    .have:=x u this;omega
    .have:=z u this;omega
    .have:=B u this;omega
    .omega
    omega
  cases d:kY i j k e.heap.size b.heap.size a with
  |none=>exact ahN d g
  |some h=>
   have:=(f a h).1 d;cases h<;>simp only at this
   .omega
   .omega
   .have:=x a this;omega
   .have:=z a this;omega
   .have:=B a this;omega
   .omega
   omega)
 go_wp2;go_ret;obtain⟨n,m,d,c,a2,a1⟩:=aw.out;exact⟨n,m,congrArg (λa8=>ξ (Ζ a8)) d,c,a2,a1⟩
def Sr(k:Z)(i:Pl)(h:Nat->Option Ν)(f:HS)(id:Int)(c:Ss)(g:aI)(b:Z):Prop:=
 ∃v a d e,g=ξ (σ #[v,I E d])/\Α b i e {f with ss:=aP f.ss id (N {c with ar:=c.ar&&decide (d≠0)})} /\Ε k b h e/\iP b e v a/\a.length<=12/\(∀j∈a,j.size<=most)/\(d=0->c.kept=true/\c.ae=false)/\fD b v a.length (a.map H)
theorem Vx{k:Nat->Option Ν}(d:Α w e k z)(j:z.ss m=N J)(h:Int)(g:eB h):ν δ 163 #[Ζ J.fb,I Λ h] w (Sr w e k z m J):=by obtain⟨n,f⟩:=d.gq j;refine(Vw f.front h g).mono ?_;rintro H P ⟨v,L,E,rfl,r,K,u,q,x⟩;obtain⟨F,y,A,C,c⟩:=r.list (by omega);obtain⟨G,o,p,l⟩:=rf d j f u q;have B:∀a,n a->a<w.heap.size:=λa s=>d.ik a _ ((f.ak a).2 (.inr s));exact⟨v,F,E,G,rfl,o,p,pN C c λb i=>l b (.inr ((c.lt b i).1)) (λt=>by have:=B b t;have:=(c.lt b i).1;omega),by omega,A,x,by rw[y];exact fD.dw c λO g=>by obtain⟨M,_,rfl⟩:=eO.1 g;rfl⟩
theorem ac3{o:Int->Option Ss}(q:Α w e v {z with ss:=o})(c:Υ z){pr:Nat×υ}(g:kQ z p L=N pr)(S:z.ss pr.2.id=N J)(G:J.kept=true)(y:0<=m)(M:∀a∈z.τ,a.2.Δ≠m):ν δ 165 #[Ζ e.tb,H L,I E m,I E z.Ι] w λb l=>b=ξ (σ #[I E pr.2.id,I E pr.2.Δ,I E 0])/\∃t,Α l e t {z with ss:=o,τ:=ee z.τ pr.2.id (back m)} /\Ε w l v t:=by
 unfold kQ at g;have d:pr∈z.τ:=(dE.1 (rE g)).1;have h:=xT g;unfold nI at h;simp only[i6,Ei,decide_eq_true_eq] at h;obtain⟨r,j⟩:=h;have n:=oN r;obtain⟨ab,f,i,W,X⟩:=c.state pr d;rw[S] at f;injection f with f;subst f
 have s:pr.2.ax.toList.isEmpty=false:=by
  rw[G] at i;cases b:pr.2.ax.toList.isEmpty
  .rfl
  rw[b] at i;cases i
 have R:mR pr.2 L=true:=by unfold mR;rw[r,<-n,s];rfl
 have B:z.τ.find? (λa=>mR a.2 L)=N pr:=by
  cases b:z.τ.find? (λa=>mR a.2 L) with
  |none=>exact ahN R (by simpa using lM.1 b pr d)
  |some T=>have P:=rE b;have k:=xT b;unfold mR at k;simp only[i6] at k;have u:=oN k.1;rw[c.lh pr d T P (n.trans u.symm) s]
 have C:mF pr.2 z.Ι=false:=by
  unfold mF;obtain j|j:=j
  .have:(pr.2.Δ== -1)=false:=ahO (by omega);rw[this];rfl
  have:decide (pr.2.aH<=z.Ι)=false:=decide_eq_false (by omega);rw[this,JA]
 have F:∀a∈z.τ,dW a.2 m=false:=λa O=>by unfold dW;rw[ahO (M a O)];rfl
 refine(Ue (q.part .table) (by have:=jl c;show z.τ.length<=1000;omega) d L m z.Ι B C F y ⟨c.clock.1,by have:=c.clock.2;omega⟩).mono ?_;rintro b l ⟨rfl,Q,x⟩;exact⟨rfl,q.Dk Q x⟩
theorem Vu(d:Α w e v z)(a:BA)(l:a.size<=3000):ν δ 112 #[Ζ e.xb,H a] w λc b=>c=ξ (σ #[])/\∃f,Α b e f z/\Ε w b v f:=by obtain⟨m,j,i⟩:=d.part .box;refine(RB i a (by unfold Χ;omega)).mono ?_;rintro c b ⟨rfl,n,h,g,k⟩;exact⟨rfl,d.Di (by omega) h g⟩
theorem zF{a b a' b' c' d' e' f':ε}(c:θ w y 42 #[x,i,t,B,a,b]):θ ((((((w.setCell (U y 0 A) a').setCell (U y 1 A) b').setCell (U y 2 A) c').setCell (U y 3 A) d').setCell (U y 4 A) e').setCell (U y 5 A) f') y 42 #[a',b',c',d',e',f']:=
 ((((((c.χ 0 a').χ 1 b').χ 2 c').χ 3 d').χ 4 e').χ 5 f').to (by simp)
def Bj(n:Z)(l:Pl)(k:Nat->Option Ν)(b:HS)(c:Int)(j:aI)(h:Z):Prop:=
 j=ξ (σ #[])/\∃f e a g,Α h l f e/\Ε n h k f/\a.length<=16/\(∀m∈a,m.size<=most)/\(e=cF b c a g\/∃d i,d∈b.τ/\b.ss d.2.id=N i/\e=cF (gV b d c i) c a g)
theorem ac1{l:Nat->Option Ν}(F:Α w e l z)(dm:Υ z)(M:z.ο+100<=aL){i:Cl}(cl:z.cl m=N i)(bw:0<=m)(c5:m<16)(ab:∀u∈z.τ,u.2.Δ≠m){d:cp}(dl:fh d)(dn:ε):ν δ 97 #[Ζ e.g,I E m,aK d dn] w (Bj w e l z m):=by
 have r:=K (Φ dm M);have a5:=K (Φ cl ab);have cb:η (∀j,w.heap.size<=j->l j=A):=K λj M=>F.dZ M;have ea:=K (show aF m from by unfold aF;omega);have b2:=K (Φ bw c5);have en:=K dl;have eo:=K F;clear F dm M cl ab bw c5 dl;unfold aK;go_enter func97,ntmps97;go_upto_region 1 with fail
 generalize c8:bm w _=p at*;have an:η (Y w p γ/\θ p w.heap.size 171 #[I E d.Θ,H d.bV,H d.id,H d.src,H d.dst,H d.cE,H d.bQ,H d.dK,I Λ d.h,I E d.bl,ι d.di,dn]):=K (by subst c8;exact⟨(Y.refl w γ).alloc _,θ.new _ _ _⟩);clear c8;have a2:=K (eo.out.still an.out.1);have es:=K (Ε.bu l an.out.1);have bk:η (∀a,Y p a γ->a.cell? (U e.g 6 A)=N (ω (N e.cm))/\a.cell? (U i.q 2 A)=N (H i.ψ)/\a.cell? (U w.heap.size 6 A)=N (H d.bQ)):=K λa y=>by obtain⟨gn,gk,fs⟩:=(a2.out.still y).uH a5.out.1;have aq:=(a2.out.still y).aA.cell 6;have j:=fs.blk.cell 2;have e8:=(y.blk an.out.2 λF=>F).cell 6;exact⟨aq,j,e8⟩
 have b4:η (∀a,Y p a γ->_):=K λa y=>by have aw:=(a2.out.still y).uL ea.out;rw[a5.out.1] at aw;simp only[gx,gK] at aw;exact aw
 have a1:η (∀a,Y p a γ->ν δ 162 #[Ζ e.g,H i.ψ,H d.bQ] a (vE a (kQ z i.ψ d.bQ))):=K λa y=>Ym (a2.out.still y) r.out.1 i.ψ d.bQ;have ap:=K (Y.refl p γ).drew;have ao:=K (show Y p (bm p (ζ #[I E 0,H (D #[]),H (D #[]),H (D #[]),I E 0,I E 0] 42)).drew γ from((Y.refl p γ).alloc _).drew);have e9:=bk.out _ ap.out;have f6:=b4.out _ ap.out;have fe:=bk.out _ ao.out;have f7:=b4.out _ ao.out;obtain⟨fa,fb,fd⟩:=e9;obtain⟨ff,fg,fi⟩:=fe;obtain⟨bv,hfs⟩:∃bv,kQ z i.ψ d.bQ=bv:=⟨_,rfl⟩
 have cI:η (∃b:υ,∃bb,(bb=true->∃J,kQ z i.ψ d.bQ=N (J,b))/\rq (kQ z i.ψ d.bQ)=Μ b.cells/\(kQ z i.ψ d.bQ).isSome=bb):=K (by
  rw[hfs];cases bv with
  |none=>exact⟨_,false,nofun,rfl,rfl⟩
  |some d5=>exact⟨d5.2,true,λ_=>⟨d5.1,rfl⟩,rfl,rfl⟩)
 clear hfs bv;obtain⟨b,bb,b3,dd,dg⟩:=cI.out;have b3:=K b3;unfold vE at a1;rw[dd,dg] at a1;unfold υ.cells at a1;clear dd dg cI;have cy:=K (show θ (bm p (ζ #[I E 0,H (D #[]),H (D #[]),H (D #[]),I E 0,I E 0] 42)).drew p.heap.size 42 #[I E 0,H (D #[]),H (D #[]),H (D #[]),I E 0,I E 0] from(θ.new _ _ _).drew);have s:=K (Ο p.heap.size);go_cut [6,7] (λbB ge O=>∃h:Nat,bB=Ζ h/\ge=ι bb/\η (Y p O γ/\θ O h 42 #[I E b.id,H b.ψ,H b.ah,H b.ax,I E b.Δ,I E b.aH]/\l h=A))
 case first=>
  go_region_held3 (λO=>O.cell? (U e.g 6 A)=N (ω (N e.cm))/\O.cell? (U i.q 2 A)=N (H i.ψ)/\O.cell? (U w.heap.size 6 A)=N (H d.bQ))
   (first|(refine bk.out _ ?_;(with_reducible first|exact au.out|exact Y.alloc au.out _|exact Y.bG (Y.bG (Y.bG (Y.bG (Y.bG (Y.bG au.out s.out) s.out) s.out) s.out) s.out) s.out|exact ap.out|exact ao.out)))
   (first|(go_at_call 162;refine(a1.out _ (by with_reducible first|exact ap.out|exact ao.out)).mono ?_;rintro g5 cu ⟨rfl,dv⟩;have au:η (Y p cu γ):=K (kk (by with_reducible first|exact ap.out|exact ao.out) dv);(first|(have P:=K (dv.blk cy.out λF=>F))|(have P:=K (θ.new cu 42 #[I E 0,H (D #[]),H (D #[]),H (D #[]),I E 0,I E 0])));have g3:=P.out.frozen 0;have gR:=P.out.frozen 1;have gW:=P.out.frozen 2;have g0:=P.out.frozen 3;have g1:=P.out.frozen 4;have g2:=P.out.frozen 5;have e7:=gS P.out;obtain⟨go,gr,gs,gt,gw,gz⟩:=e7))
  all_goals
   go_wp2_with fail;go_meet
   first
    |(refine⟨p.heap.size,rfl,rfl,?_⟩;with_reducible exact K ⟨Y.bG (Y.bG (Y.bG (Y.bG (Y.bG (Y.bG au.out s.out) s.out) s.out) s.out) s.out) s.out,zF P.out,cb.out _ an.out.1.size⟩)
    |(refine⟨cu.heap.size,rfl,rfl,?_⟩;with_reducible exact K ⟨Y.alloc au.out _,θ.new _ _ _,cb.out _ (aJ an.out.1.size au.out.size)⟩)
 case rest=>
 obtain⟨h,rfl,rfl,a4⟩:=hcut;have br:=K (a2.out.still a4.out.1);have b5:=K (es.out.still a4.out.1);have cv:=K a4.out.2.1;have cS:=K a4.out.2.2;have cx:=K (a4.out.1.blk an.out.2 λF=>F);have cU:=K (cb.out _ (Ο w.heap.size));clear a1 b4 bk ap ao cy s fa fb fd ff fg fi f6 f7;have ce:η (∀a g o,Α a e g o->Υ o->o.ο<aL->∀v k,iP a g v k->k.length<=16->(∀G∈k,G.size<=most)->ν δ 66 #[Ζ e.g,I E m,v] a (Lm a e g o m k)):=K λa g o fm f5 fr v k av fE f1=>Ea fm f5.room fr m av fE f1;have cc:η (∀a,aT a->∀i a0 G,(i=12\/i=11)->eB a0->G.size<=64->ν δ 164 #[Μ #[I E i,H (D #[]),H (D #[]),H (D #[]),H (D #[]),H (D #[]),H G,H (D #[]),I Λ a0,I E 0,ι false,V A 0 0]] a λf al=>(∃G:BA,f=ξ (H G)/\G.size<=most)/\Y a al γ):=K λa fk i a0 G cl ab f3=>oR (z:=⟨i,(D #[]),(D #[]),(D #[]),(D #[]),(D #[]),G,(D #[]),a0,0,false,[]⟩) (⟨e0,e0,e0,e0,e0,aJ f3 (by decide),e0,ab,ai _,nofun⟩) (aZ.nil a) fk;cases bb with
 |false=>
  go_wp2_with fail;refine(cc.out _ br.out.eE 12 0 ⟨#[]⟩ (.inl rfl) mP (ai _)).mono ?_;rintro f bf ⟨⟨n,rfl,W⟩,ad⟩;have a3:=K (br.out.still ad);have b6:=K (b5.out.still ad);have a6:=K W;clear ad W;go_wp2_with fail;refine(ce.out _ _ _ (a3.out.still ((Y.refl bf γ).alloc _)) r.out.1 (by have:=r.out.2;omega) _ _ (G9 a3.out n) (xY rfl) (by intro be q;rw[cj] at q;subst q;exact a6.out)).mono ?_;rintro f am ⟨rfl,t,bd,T,Q⟩;have a8:=K (show Bj w e l z m (ξ (σ #[])) am from⟨rfl,t,_,[n],bd,T,(b6.out.still ((Y.refl bf γ).alloc _)).trans Q,xY rfl,(by intro be q;rw[cj] at q;subst q;exact a6.out),.inl rfl⟩);clear T Q;go_wp2;go_end0
  exact a8.out
 |true=>
  obtain⟨J,av⟩:=b3.out rfl;have a9:(J,b)∈z.τ:=(dE.1 (rE (by unfold kQ at av;exact av))).1;obtain⟨c,dk,fv,fp,f0⟩:=r.out.1.state _ a9;have B:=K (Φ av (Φ a9 dk));have ec:=K (gm r.out.1 a9);have e1:=K (r.out.1.zQ a9);clear av a9 dk fv fp f0;go_upto_region 5 with fail
  have bN:η (∀a g o bi,Α a e g o->Ε wc a l g->o.ss b.id=N bi->bi.q=c.q->bi.fb=c.fb->a.cell? (U e.g 7 A)=N (ω (N e.sm))/\a.cell? (U h 0 A)=N (I E b.id)/\(cw 63 (ω (N e.sm)) (I E b.id) false).run δ a= .ok (Ζ c.q) a/\a.cell? (U c.q 0 A)=N (Ζ c.fb)/\a.cell? (U w.heap.size 8 A)=N (I Λ d.h)):=K λa g o bi L S dc ac ft=>by obtain⟨gl,f2⟩:=L.gq dc;have aw:=L.jP ec.out;rw[dc] at aw;have e5:=(bo S cv.out cS.out).1;have e6:=(bo S cx.out cU.out).1;have u:=f2.blk.cell 0;rw[ac] at u;have d6:a.cell? (U c.q 0 A)=N (Ζ bi.fb):=u;rw[ft] at d6;refine⟨L.aA.cell 7,e5.cell 0,?_,d6,e6.cell 8⟩;rw[<-ac];exact aw
  have cA:η (∀a,Y wc a γ->a.cell? (U e.g 7 A)=N (ω (N e.sm))/\a.cell? (U h 0 A)=N (I E b.id)/\(cw 63 (ω (N e.sm)) (I E b.id) false).run δ a= .ok (Ζ c.q) a/\a.cell? (U c.q 0 A)=N (Ζ c.fb)/\a.cell? (U w.heap.size 8 A)=N (I Λ d.h)):=K λa y=>bN.out a l z c (br.out.still y) (Ε.bu l y) B.out.2.2 rfl rfl
  go_region_held3 (λa=>a.cell? (U e.g 7 A)=N (ω (N e.sm))/\a.cell? (U h 0 A)=N (I E b.id)/\(cw 63 (ω (N e.sm)) (I E b.id) false).run δ a= .ok (Ζ c.q) a/\a.cell? (U c.q 0 A)=N (Ζ c.fb)/\a.cell? (U w.heap.size 8 A)=N (I Λ d.h))
   (first|(with_reducible exact bN.out _ _ _ _ X.out bs.out (bI _ _ _) rfl rfl)|(refine cA.out _ ?_;with_reducible exact(Y.refl _ _).drew))
   (first|(go_at_call 163;refine(Vx (br.out.still (Y.refl _ γ).drew) B.out.2.2 d.h en.out.h).mono ?_;rintro f bF ⟨v,k,u,bc,rfl,c6,d1,ch,dx,bB,dt,d7⟩;obtain⟨g7,g8,rfl, -⟩:=id ch.strs;have X:=K c6;have bs:=K ((Ε.bu l (Y.refl _ γ).drew).trans d1);have R:=K (Φ ch (Φ dx (Φ bB (Φ dt d7))));clear c6 d1 ch dx bB dt d7))
  have et:=K (b5.out.trans bs.out);clear cA;cases ac:(u==0) with
  |false=>
   have ba:¬u=0:=by intro f;rw[f] at ac;cases ac
   have bn:η (({z with ss:=aP z.ss b.id (N {c with ar:=c.ar&&decide (u≠0)})} :HS)=z):=K (by
    have:({c with ar:=c.ar&&decide (u≠0)} :Ss)=c:=by rw[decide_eq_true ba,Bool.and_true]
    rw[this,Ql B.out.2.2])
   rw[bn.out] at X;have gF:(u==(0:Int))=false:=ac;go_wp2_with fail;refine(cc.out _ X.out.eE 12 0 ⟨#[]⟩ (.inl rfl) mP (ai _)).mono ?_;rintro f bf ⟨⟨n,rfl,W⟩,ad⟩;have a3:=K (X.out.still ad);have b6:=K (et.out.still ad);have a6:=K W;clear ad W;go_wp2_with fail;refine(ce.out _ _ _ (a3.out.still ((Y.refl bf γ).alloc _)) r.out.1 (by have:=r.out.2;omega) _ _ (G9 a3.out n) (xY rfl) (by intro be q;rw[cj] at q;subst q;exact a6.out)).mono ?_;rintro f am ⟨rfl,t,bd,T,Q⟩;have a8:=K (show Bj w e l z m (ξ (σ #[])) am from⟨rfl,t,_,[n],bd,T,(b6.out.still ((Y.refl bf γ).alloc _)).trans Q,xY rfl,(by intro be q;rw[cj] at q;subst q;exact a6.out),.inl rfl⟩);clear T Q;go_wp2;go_end0
   exact a8.out
  |true=>
   have ba:u=0:=beq_iff_eq.1 ac;have R:=K (Φ R.out (R.out.2.2.2.1 ba))
   have bn:η (({z with ss:=aP z.ss b.id (N {c with ar:=c.ar&&decide (u≠0)})} :HS)= {z with ss:=aP z.ss b.id (N {c with ar:=false})}):=K (by
    have:({c with ar:=c.ar&&decide (u≠0)} :Ss)= {c with ar:=false} :=by rw[decide_eq_false (by rw[ba];simp),JA]
    rw[this])
   rw[bn.out] at X;have eS:η (∀a,Y bF a γ->ν δ 165 #[Ζ e.tb,H d.bQ,I E m,I E z.Ι] a λf al=>f=ξ (σ #[I E b.id,I E b.Δ,I E 0])/\∃d3,Α al e d3 (rT z b.id m c)/\Ε a al bc d3):=K λa y=>ac3 (pr:=(J,b)) (X.out.still y) r.out.1 B.out.1 B.out.2.2 R.out.2.1 b2.out.1 a5.out.2;have cW:η (∀a g o,Α a e g o->o.Ι=z.Ι->Ε wc a l g->(a.cell? (U e.g 2 A)=N (Ζ e.tb)/\a.cell? (U w.heap.size 6 A)=N (H d.bQ)/\a.cell? (U e.g 4 A)=N (I E z.Ι))):=K λa g o L f S=>⟨L.aA.cell 2,(bo S cx.out cU.out).1.cell 6,by rw[<-f];exact L.aA.cell 4⟩;have bt:η (∀a g o,Α a e g o->Ε wc a l g->(a.cell? (U e.g 3 A)=N (Ζ e.xb)/\a.cell? (U h 0 A)=N (I E b.id)/\a.cell? (U h 1 A)=N (H b.ψ)/\a.cell? (U h 2 A)=N (H b.ah)/\a.cell? (U h 3 A)=N (H b.ax)/\a.cell? (U h 4 A)=N (I E b.Δ)/\a.cell? (U h 5 A)=N (I E b.aH))):=K λa g o L S=>by have j:=(bo S cv.out cS.out).1;exact⟨L.aA.cell 3,j.cell 0,j.cell 1,j.cell 2,j.cell 3,j.cell 4,j.cell 5⟩
   have c0:η ((gV z (J,b) m c).ss b.id=N {c with ar:=false}):=K (by unfold gV;split<;>exact bI _ _ _);have eq:=K (N5 r.out.1 B.out.2.1 B.out.2.2 b2.out.1 b2.out.2 (by rw[a5.out.1];rfl) a5.out.2);have ek:η ((gV z (J,b) m c).ο=z.ο):=K (by unfold gV;split<;>rfl);have e2:=K (r.out.1.aR _ B.out.2.1).2.2;have eb:η (0<=b.Δ->aF b.Δ):=K λbw=>(yN r.out.1 B.out.2.1 bw).1;clear ba bn;go_upto_region 8 with fail
   go_region_held3 (λa=>a.cell? (U e.g 2 A)=N (Ζ e.tb)/\a.cell? (U w.heap.size 6 A)=N (H d.bQ)/\a.cell? (U e.g 4 A)=N (I E z.Ι))
    (with_reducible first|exact cW.out _ _ _ b1.out rfl b9.out|exact cW.out _ _ _ (X.out.still (Y.refl _ γ).drew) rfl (bs.out.still (Y.refl _ γ).drew))
    (first|(go_at_call 165;refine(eS.out _ (Y.refl _ γ).drew).mono ?_;rintro f ct ⟨rfl,bA,c7,co⟩;have b1:=K c7;have b9:=K ((bs.out.still (Y.refl _ γ).drew).trans co);have cR:=K ((Ε.bu bc (Y.refl _ γ).drew).trans co);clear c7 co))
   go_upto_if 72 with fail
   go_cut [] (λO=>∃t,η (Α O e t (gV z (J,b) m c)/\Ε wc O l t/\Ε bF O bc t))
   case first=>
    by_cases ck:b.Δ≥0
    .have eT:=K (Dt b1.out b.Δ (eb.out ck));go_wp2_with fail;refine eT.out.mono ?_;rintro f am ⟨rfl,t,T,Q⟩;have C:=K (show Α am e t (gV z (J,b) m c)/\Ε wc am l t/\Ε bF am bc t from⟨by unfold gV;rw[ahM ck];exact T,b9.out.trans Q,cR.out.trans Q⟩);clear T Q;go_wp2_with fail;go_meet;exact⟨t,C⟩
    have C:=K (show Α ct e bA (gV z (J,b) m c)/\Ε wc ct l bA/\Ε bF ct bc bA from⟨by unfold gV;rw[WB ck];exact b1.out,b9.out,cR.out⟩);go_wp2_with fail;go_meet;exact⟨bA,C⟩
   case rest=>
   obtain⟨t,C⟩:=hcut;have d8:η (∀a,ν δ 44 #[Μ #[I E b.id,H b.ψ,H b.ah,H b.ax,I E b.Δ,I E b.aH]] a λf al=>(∃aq:BA,f=ξ (H aq)/\aq.size<=3000)/\Y a al γ):=K λa=>(vK b e1.out a).mono (by rintro f al ⟨⟨aq,fn,fo,_⟩,i⟩;exact⟨⟨aq,fn,fo⟩,i⟩);go_upto_region 11 with fail
   go_region_held3 (λa=>a.cell? (U e.g 3 A)=N (Ζ e.xb)/\a.cell? (U h 0 A)=N (I E b.id)/\a.cell? (U h 1 A)=N (H b.ψ)/\a.cell? (U h 2 A)=N (H b.ah)/\a.cell? (U h 3 A)=N (H b.ax)/\a.cell? (U h 4 A)=N (I E b.Δ)/\a.cell? (U h 5 A)=N (I E b.aH))
    (with_reducible first|exact bt.out _ _ _ b0.out b7.out|exact bt.out _ _ _ (C.out.1.still a7.out) (C.out.2.1.still a7.out)|exact bt.out _ _ _ (C.out.1.still (Y.refl _ γ).drew) (C.out.2.1.still (Y.refl _ γ).drew))
    (first|(go_at_call 44;refine(d8.out _).mono ?_;rintro f g9 ⟨⟨e4,rfl,c9⟩,dp⟩;have a7:=K (kk (Y.refl _ γ).drew dp);have eg:=K c9;clear dp c9)|(go_at_call 112;refine(Vu (C.out.1.still a7.out) e4 eg.out).mono ?_;rintro f ha ⟨rfl,g4,c2,cm⟩;have b0:=K c2;have b7:=K ((C.out.2.1.still a7.out).trans cm);have ev:=K ((C.out.2.2.still a7.out).trans cm);clear c2 cm))
   go_upto_region 12 with fail
   have cB:η (∀a g,Α a e g (gV z (J,b) m c)->Ε _ a l g->a.cell? (U e.g 7 A)=N (ω (N e.sm))/\a.cell? (U h 0 A)=N (I E b.id)/\(cw 63 (ω (N e.sm)) (I E b.id) false).run δ a= .ok (Ζ c.q) a/\a.cell? (U c.q 0 A)=N (Ζ c.fb)):=K λa g L S=>by obtain⟨f9,ga,gb,gc, -⟩:=bN.out a g _ _ L S c0.out rfl rfl;exact⟨f9,ga,gb,gc⟩
   go_region_held3 (λa=>a.cell? (U e.g 7 A)=N (ω (N e.sm))/\a.cell? (U h 0 A)=N (I E b.id)/\(cw 63 (ω (N e.sm)) (I E b.id) false).run δ a= .ok (Ζ c.q) a/\a.cell? (U c.q 0 A)=N (Ζ c.fb))
    (with_reducible first|exact cB.out _ _ bq.out b8.out|exact cB.out _ _ (b0.out.still (Y.refl _ γ).drew) (b7.out.still (Y.refl _ γ).drew))
    (first|(go_at_call 100;refine(Co (b0.out.still (Y.refl _ γ).drew) c0.out 0 (by decide)).mono ?_;rintro f hb ⟨⟨hv,rfl,a0,rfl,ab⟩,d4,c3,cn⟩;have bq:=K c3;have b8:=K ((b7.out.still (Y.refl _ γ).drew).trans cn);have ew:=K ((ev.out.still (Y.refl _ γ).drew).trans cn);have el:=K ab;clear c3 cn ab))
   obtain⟨-, -, -, -,gg, -, -⟩:=bt.out _ _ _ bq.out b8.out;go_wp2_with fail;refine(cc.out _ bq.out.eE 11 a0 b.ax (.inr rfl) el.out e2.out).mono ?_;rintro f x ⟨⟨n,rfl,W⟩,bx⟩;have em:=K W;have cD:=K (bq.out.still bx);have ex:=K (b8.out.still bx);have eD:=K (ew.out.still bx);clear bx W gg;have bz:Y x (x.alloc (ζ #[H n] 9)) γ:=(Y.refl x γ).alloc _;have d2:(x.alloc (ζ #[H n] 9)).ownsRow x.heap.size 9 1 (V (N (U x.heap.size 0 A)) 1 1) 1 [H n]:=⟨rfl,.inr ⟨x.heap.size,1,#[H n],rfl,Ο _,θ.new x 9 #[H n],Ο _,(by unfold Χ;omega),rfl,rfl⟩⟩;have da:=(R.out.1.2.2.2.2.keeps (eD.out.keeps) λj M fJ=>fJ (R.out.1.1.free j M).1).keeps bz λ_ _ F=>F;have gB:=R.out.1.2.1;obtain⟨g6,bE,gd,cq,ds,n14⟩:=yH x.heap.size 26 9 Jq DK rfl d2 da (by unfold Χ;omega) (by omega) bz.size;obtain⟨cf,cg,f4⟩:=cC cq;subst f4;have cJ:η (Y x bE γ):=K (bz.trans ds λj M=> .inr (by have f:x.heap.size=j:=cr M;omega));have ef:=K (cD.out.still cJ.out);have d9:η (iP bE d4 (V cf (1+k.length) cg) (n::k)):=K (by have cs:bE.ownsRow x.heap.size 9 1 (V cf (1+k.length) cg) (1+k.length) ((n::k).map H):=cq;refine pN (eU.dw (l:=n::k) (v:=V cf (1+k.length) cg) (B:=x.heap.size) (by rw[show(n::k).length=1+k.length from Nat.add_comm _ _];exact cs) (by rw[eI];omega)) cs λj M=>cD.out.dZ (cs.lt j M).1)
   have c1:η (∀G∈n::k,G.size<=most):=K (by
    intro be q;obtain rfl|q:=dD.1 q
    .exact em.out
    exact R.out.1.2.2.1 be q)
   have e3:=K (ce.out bE d4 _ ef.out eq.out (by rw[ek.out];have:=r.out.2;omega) _ _ d9.out (by rw[eI];omega) c1.out);have er:η ((n::k).length<=16):=K (by rw[eI];omega);clear bz d2 da cq ds n14;go_wp2_with (first|(at_builtin;refine dy rfl (.tmp 101) (.tmp 102) 26 rfl rfl rfl gd ?_)|fail);refine e3.out.mono ?_;rintro f gf ⟨rfl,f8,bd,c4,d0⟩;have a8:=K (show Bj w e l z m (ξ (σ #[])) gf from⟨rfl,f8,_,n::k,bd,c4,(b5.out.trans ((ex.out.still cJ.out).trans d0)),er.out,c1.out,.inr ⟨(J,b),c,B.out.2.1,B.out.2.2,rfl⟩⟩);clear c4 d0;go_wp2;go_end0
   exact a8.out
def bD:Bt:=[112,114,101,115,101,110,99,101]
def nh(a:Cl):Prop:=a.ψ∈us/\(a.ah.toList.isEmpty=true\/aN a.ah=true)
def Ke(a:HS)(b:Int)(d:HS)(c:Nat×υ):Prop:=
 (d=a/\c∈a.τ/\c.2.Δ=b)\/((∀f∈a.τ,f.2.Δ≠b)/\∃e,a.cl b=N e/\tP a b e d/\c∈d.τ/\c.2.id=a.last+1)
def Uf(b:HS)(c:Int)(f:HS):Prop:=
 ∃a e,a.length<=16/\(∀h∈a,h.size<=most)/\(f=cF b c a e\/∃d g,d∈b.τ/\b.ss d.2.id=N g/\f=cF (gV b d c g) c a e)
def rG(c b:HS)(d:υ)(e:Ss)(a:cp):Prop:=(a.Θ=1/\a.cE.size<=40/\pB c b d e a/\b.ο<=c.ο+100)\/(a.Θ≠1/\eJ c b 200)
def qH(b:HS)(a:Int)(c:El)(f:HS):Prop:=
 ((∃k l,f=kg b a k l)/\(c.name=bD->eu c=A\/((∀e∈b.τ,e.2.Δ≠a)/\∀h,b.cl a=N h->aN h.ah=false)))\/
 (c.name≠bD/\(∀e∈b.τ,e.2.Δ≠a)/\Uf b a f)\/
 (∃g d i j,Ke b a g d/\g.ss d.2.id=N i/\(c.name=bD->eu c=N j)/\rG g f d.2 i j)
structure Kt (s s':HS) (c:Int):Prop where
 inv:Υ s'
 dH:df s s'
 cl:s'.cl c=s.cl c
 known:∀but,bJ s but->bJ s' but
 ο:s'.ο<=s.ο+300
theorem Ou(b:bJ z m)(a:Int)(g:List BA)(h:ε):bJ (cF z a g h) m:=λi f d c=>by
 obtain⟨e,h1,h2⟩|h1:=b i f d c
 .exact .inl ⟨e,qy _ h1,h2⟩
 exact .inr h1
theorem aap(e:bJ z m)(c:Nat×υ)(a:Int)(d:Ss):bJ (gV z c a d) m:=by
 have b:bJ (rT z c.2.id a d) m:=e;unfold gV;split
 .exact wM b _
 exact b
theorem N8(g:Υ z)(b:0<=m)(c:m<16){a:List BA}(d:a.length<=16)(f:∀h∈a,h.size<=most)(e:(z.Κ m.toNat).op=true):Υ (cF z m a x):=
 (IU (s:=z) (rv:=x) (show aF m by unfold aF;omega) d f λ_=> .inr ⟨b,c,e⟩).inv g
theorem nO(c:Υ z){e:Cl}(b:z.cl m=N e):0<=m/\m<16/\(z.Κ m.toNat).op=true:=by obtain⟨a,d⟩:=c.range m (by rw[b];rfl);refine⟨a,d,?_⟩;rw[c.open_ m.toNat (by omega),EJ a,b];rfl
theorem RV(b:Υ z)(h:z.ο<aL){k:Cl}(i:z.cl m=N k)(c d:ε):Kt z (kg z m c d) m:=by obtain⟨f,g,j⟩:=nO b i;have a:=MG b h (show aF m by unfold aF;omega) f g j c d;exact⟨a.inv,a.dH,(by rw[a.cl]),λl e=>a.known e,aJ a.ο (by omega)⟩
theorem We(c:HS)(b:Nat×υ)(a:Int)(f:Ss)(e:b.2.Δ≠a):(gV c b a f).cl a=c.cl a:=by
 unfold gV;split
 .exact bU _ _ _ λd=>e d.symm
 rfl
theorem NJ(a:HS)(c:Nat×υ)(b:Int)(d:Ss):(gV a c b d).ο=a.ο:=by unfold gV;split<;>rfl
theorem rG.did(i:Υ z){a:υ}(g:z.ss a.id=N J){j:cp}(b:rG z c a J j):eJ z c 200:=by
 obtain⟨_,h,f,e⟩|⟨_,d⟩:=b
 .exact(acz i g h e f).mono (by omega)
 exact d
theorem qH.aae{w:Cl}(e:Υ z)(E:z.ο+1000<=aL)(d:z.cl m=N w)(x:nh w)(b:qH z m Q c):Kt z c m:=by
 obtain⟨i,j,y⟩:=nO e d;obtain⟨⟨C,H,rfl⟩,_⟩|⟨_,l,G,C,t,n,b⟩|⟨I,g,p,J,q,o,_,s⟩:=b
 .exact RV e (by omega) d _ _
 .obtain rfl|⟨g,p,hp,o,rfl⟩:=b
  .exact⟨N8 e i j t n y,Pq _ _ _ n,rfl,λh b=>Ou b _ _ _,(by show z.ο+1<=_;omega)⟩
  have u:=N5 e hp o i j (by rw[d];rfl) l;have r:=We z g m p (l g hp);obtain⟨_,_,A⟩:=nO u (r.trans d);have B:=aaX z g m p;refine⟨N8 u i j t n A,B.trans (Pq _ _ _ n),r,λh b=>Ou (aap b _ _ _) _ _ _,?_⟩;show(gV z g m p).ο+1<=_;rw[NJ];omega
 obtain⟨rfl,_,_⟩|⟨l,F,k,q,_,_⟩:=q
 .have a:=rG.did e o s;have:=a.ο;exact⟨a.inv,a.dH,by rw[a.cl],λh b=>a.known b,by omega⟩
 rw[d] at k;injection k with k;subst k;have f:=tP.bound e (by omega) d x.1 i j l q;have a:=rG.did f.inv o s;refine⟨a.inv,f.dH.trans a.dH,(by rw[a.cl];exact f.cl),λh b=>a.known (f.known h b),?_⟩;have:=f.ο;have:=a.ο;omega
structure gN (c:Int) (s s':HS):Prop where
 Ι:s'.Ι=s.Ι
 cl:∀x,x≠c->s'.cl x=s.cl x\/s'.cl x=A
 whole:∀i,i<16->(s.Κ i).br=false->(s.Κ i).left= -1->(s'.Κ i).br=false/\(s'.Κ i).left= -1
theorem gN.refl(d:Int)(a:HS):gN d a a:=⟨rfl,λ_ _=> .inl rfl,λ_ _ b c=>⟨b,c⟩⟩
theorem gN.trans{b:HS}(a:gN m z b)(g:gN m b c):gN m z c:=
 ⟨g.Ι.trans a.Ι,λk i=>(g.cl k i).elim (λh=>(a.cl k i).elim (λd=> .inl (h.trans d)) λd=> .inr (h.trans d)) .inr,λf e j v=>g.whole f e (a.whole f e j v).1 (a.whole f e j v).2⟩
theorem df.near(a:df z c)(b:Int):gN b z c:=⟨a.Ι,λd _=>a.cl d,a.whole⟩
theorem C4(b:HS)(a:Int)(f:Cl):gN a b (dh b a f):=⟨rfl,λ_ e=> .inl (bU _ _ _ e),λ_ _ c d=>⟨c,d⟩⟩
theorem abp(b:HS)(a:Int)(d:Cl)(e c:BA):gN a b (kU b a d e c):=C4 b a _
def lv(b a:Cl):Prop:=a= {b with ψ:=a.ψ,ah:=a.ah}
theorem lv.refl(a:Cl):lv a a:=rfl
theorem lv.rd{a b:Cl}(c:lv a b):b.rd=a.rd:=by rw[c]
theorem lv.bd{a b:Cl}(c:lv a b):b.bd=a.bd:=by rw[c]
theorem lv.q{a b:Cl}(c:lv a b):b.q=a.q:=by rw[c]
theorem lv.bb{a b:Cl}(c:lv a b):b.bb=a.bb:=by rw[c]
theorem lv.rb{a b:Cl}(c:lv a b):b.rb=a.rb:=by rw[c]
def vD(b:Int)(c:HS):Ev->HS->Prop
 | .head g d,a=>∃f,c.cl b=N f/\((∃h e,pO g d=N (h,e)/\a=kU c b f h e)\/(pO g d=A/\∃j k,a=kg c b j k))
 | .item i,a=>qH c b i a
 | .ak,a=>lS c a b
def tQ(b:Int)(d:HS)(c:Ev)(e:HS):Prop:=∃a,vD b d c a/\eh a e
inductive dR (er:Int) (c:Int):HS->List aG->HS->Prop
 |done (s:HS):er=0->dR er c s [] s
 |fail (s s':HS) (rv rv':ε):er≠0->eh (kg s c rv rv') s'->dR er c s [] s'
 |step (s s':HS) (k:Cl) (b b':Bd) (t:aG) (l:List aG):s.cl c=N k->k.bd=N b->fR b t= .inr (b',A)->dR er c (dh s c {k with bd:=N b'}) l s'->dR er c s (t::l) s'
 |Ch (s s1 s':HS) (k:Cl) (b b':Bd) (ev:Ev) (t:aG) (l:List aG):s.cl c=N k->k.bd=N b->fR b t= .inr (b',N ev)->tQ c (dh s c {k with bd:=N b'}) ev s1->(s1.cl c).isSome=true->dR er c s1 l s'->dR er c s (t::l) s'
 |gone (s s1:HS) (k:Cl) (b b':Bd) (ev:Ev) (t:aG) (l:List aG):s.cl c=N k->k.bd=N b->fR b t= .inr (b',N ev)->tQ c (dh s c {k with bd:=N b'}) ev s1->s1.cl c=A->dR er c s (t::l) s1
 |bad (s s':HS) (k:Cl) (b:Bd) (t:aG) (l:List aG) (x:Int) (rv rv':ε):s.cl c=N k->k.bd=N b->fR b t= .inl x->eh (kg (dh s c {k with bd:=A}) c rv rv') s'->dR er c s (t::l) s'
def pL(a:Bd):List aG->Option Bd
 |[]=>N a
 |d::c=>match fR a d with
  | .inl _=>A
  | .inr (b,_)=>pL b c
theorem MV{d e:Bd}{f:aG}{g:Option Ev}:∀ {l:List aG} {b:Bd},pL b l=N d->fR d f= .inr (e,g)->pL b (l++[f])=N e
 |[],b,a,c=>by injection a with a;subst a;simp only[List.nil_append,pL,c]
 |h::l,b,a,c=>by
  simp only[List.cons_append,pL] at a⊢;split at a
  .cases a
  .exact MV (l:=l) a c
def tO(e:Int)(g:HS)(f:BA)(h:HS):Prop:=∀b,h.cl e=N b->∃a c d,g.cl e=N a/\a.bd=N c/\pL c (cP a.rd f.data.toList).2=N d/\b.bd=N d/\b.rd=(cP a.rd f.data.toList).1
theorem Gn(b:c.cl m=A):tO m z p c:=λd a=>by rw[b] at a;cases a
def gL(b:Int)(d:HS)(c:BA)(e:HS):Prop:=∃a,d.cl b=N a/\dR (cP a.rd c.data.toList).1.err b (dh d b {a with rd:=(cP a.rd c.data.toList).1}) (cP a.rd c.data.toList).2 e
def FQ(a:Cl):Prop:=a.rd.held.length<=512/\a.rd.err=0/\∃b,a.bd=N b/\px (!a.rd.within) b.aV
def ug(c:HS):Prop:=∀b a,c.cl b=N a->FQ a
theorem gN.fK(f:gN m z c)(h:ug z)(g:∀a,c.cl m=N a->FQ a):ug c:=λd a b=>by
 by_cases e:d=m
 .subst e;exact g a b
 obtain h1|h1:=f.cl d e
 .exact h d a (h1.symm.trans b)
 rw[h1] at b;cases b
theorem df.fK(d:df z c)(f:ug z):ug c:=λb e a=>by
 obtain h1|h1:=d.cl b
 .exact f b e (h1.symm.trans a)
 rw[h1] at a;cases a
theorem Nf(a:dX z c m):∀b∈z.row,b∈c.row:=by
 unfold dX at a;split at a
 .subst a;exact λ_ a=>a
 next pr _=>
 obtain⟨ext,e,_⟩:=a.row;intro b d;rw[e];refine qy _ ?_;rw[show(ei z m pr.2).row=z.row from Qa _ _];exact d
theorem aaT(a:fC z c m):∀b∈z.row,b∈c.row:=by
 unfold fC at a;split at a
 .subst a;exact λ_ a=>a
 split at a
 .subst a;exact λ_ a=>a
 obtain⟨f,e,a⟩:=a;split at a
 .subst a;exact λ_ a=>a
 exact λb d=>Nf a b d
theorem GG{e:HS}(a:eh z e){c x:Int}(p:0<=c)(d:(c,x)∈z.row):e.cl c=A:=by
 induction a with
 |nil z b=>rw[b] at d;cases d
 |cons z l u g h k=>
  obtain⟨m,n,s,t,j,a,q⟩:=g;rw[j] at d;obtain b|d:=dD.1 d
  .injection b with f o;subst f
   have i:l.cl c=A:=by
    obtain⟨r,_⟩|⟨_,a⟩:=a
    .omega
    exact Pe a
   obtain b|b:=(eh.dH h).cl c
   .rw[b,i]
   exact b
  refine k ?_;obtain⟨_,a⟩|⟨_,a⟩:=a
  .exact Nf a _ d
  exact aaT a _ d
structure Kn (c:Int) (s s':HS) (k:Cl):Prop where
 inv:Υ s'
 known:bJ s' (-1)
 row:s'.row=[]
 near:gN c s s'
 own:s'.cl c=A\/∃k',s'.cl c=N k'/\lv k k'/\nh k'
structure Bq (c:Int) (s s1:HS) (k:Cl):Prop where
 inv:Υ s1
 known:bJ s1 (-1)
 near:gN c s s1
 own:s1.cl c=A\/(∃k',s1.cl c=N k'/\lv k k'/\nh k')\/(c,0)∈s1.row
 ο:s1.ο<=s.ο+300
theorem Bq.done{a:HS}{h:Cl}(i:0<=m)(f:Bq m z c h)(b:eh c a)(l:Υ a)(n:bJ a (-1))(j:a.row=[]):Kn m z a h where
 inv:=l
 known:=n
 row:=j
 near:=f.near.trans ((eh.dH b).near m)
 own:=by
  have g:∀d,c.cl m=d->a.cl m=d\/a.cl m=A:=λd k=>by
   obtain e|e:=(eh.dH b).cl m
   .exact .inl (e.trans k)
   exact .inr e
  obtain h1|⟨k',h1,h2⟩|h1:=f.own
  .exact .inl ((g _ h1).elim id id)
  .obtain e|e:=g _ h1
   .exact .inr ⟨k',e,h2⟩
   exact .inl e
  .exact .inl (GG b i h1)
theorem Eb(d:HS)(a:Int)(b c:ε):(a,0)∈(kg d a b c).row:=E' _ (cj.2 rfl)
theorem Hs{a:Cl}{b:Bd}(c:a.bd=N b)(d:nh a):FJ z m a:= .inr ⟨b,c,λ_=>d⟩
theorem RX{d:Cl}(g:Υ z)(e:z.ο<aL)(f:z.cl m=N d)(h:bJ z m)(b c:ε):Bq m z (kg z m b c) d:=by have a:=RV g e f b c;refine⟨a.inv,zx (a.known m h) λi _=> .inl ⟨_,Eb z m b c,rfl⟩,a.dH.near m,.inr (.inr (Eb z m b c)),a.ο⟩
theorem Zd{h:Bt}(a:pO h W=N (p,L)):p∈us/\(L.toList.isEmpty=true\/aN L=true):=by
 unfold pO at a;generalize(if(gi W uJ).isSome=true then 2 else 1)=X at a;split at a
 .next hc=>
  injection a with a;injection a with e f;subst e f;simp only[i6,Ei,Eg] at hc;obtain⟨⟨_,d⟩,b⟩:=hc;refine⟨?_,?_⟩
  .unfold du at d;obtain⟨i,g,c⟩:=tL.1 d;have:=oN (a:=bK W Hm) (b:=i) c;rw[this];exact g
  obtain b|b:=b
  .left
   have:gi W uJ=A:=by
    cases c:gi W uJ with
    |none=>rfl
    |some _=>rw[c] at b;cases b
   unfold bK;rw[this];show(ByteArray.toList ⟨#[]⟩).isEmpty=true;rw[iy];rfl
  exact .inr b
 cases a
theorem vD.stepped{n:Ev}{d:Cl}{C:Bd}(h:Υ z)(G:z.ο+1000<=aL)(g:z.cl m=N d)(s:d.bd=N C)(r:bJ z m)(u:(∀y J,n≠.head y J)->nh d)(o:c.ο<=z.ο+300)(a:vD m z n c):Bq m z c d:=by
 have q:nh d->bJ z (-1):=λb=>zx r λi f=>by rw[g] at f;injection f with f;subst f;exact Hs s b
 match n,a with
 | .head y P,a=>
  obtain⟨i,f,a⟩:=a;rw[g] at f;injection f with f;subst f;obtain⟨k,j,p,rfl⟩|⟨_,M,O,rfl⟩:=a
  .have b:=Zd p;have t:(kU z m d k j).cl m=N {d with ψ:=k,ah:=j} :=bI _ _ _;refine⟨ZU h g k j,zx (CM r _) λi f=> ?_,abp z m d k j,.inr (.inl ⟨_,t,rfl,b⟩),o⟩;have e:N {d with ψ:=k,ah:=j} =N i:=t.symm.trans f;injection e with e;subst e;exact Hs s b
  exact RX h (by omega) g r M O
 | .item e,a=>have b:=u nofun;have a:qH z m e c:=a;have l:=qH.aae h G g b a;exact⟨l.inv,l.known _ (q b),l.dH.near m,.inr (.inl ⟨d,l.cl.trans g,rfl,b⟩),o⟩
 | .ak,a=>
  have b:=u nofun;have a:lS z c m:=a;have x:=lS.dH a
  have L:c.cl m=A\/(∃i,c.cl m=N i/\lv d i/\nh i)\/(m,0)∈c.row:=by
   obtain e|e:=x.cl m
   .exact .inr (.inl ⟨d,e.trans g,rfl,b⟩)
   exact .inl e
  have w:Υ c/\bJ c (-1):=by
   unfold lS at a;split at a
   .next hno=>
    subst a;have Q:=(nO h g).1;refine⟨wI h λB p e=> ?_,wM (q b) m⟩;have F:=lM.1 hno B p;apply F;unfold dW;rw[e,beq_self_eq_true,tB,ahO (show m≠ -1 by omega)];rfl
   next B _=>
   exact⟨yQ (wh h _) (λ_=>h) a,Ce (q b) a⟩
  exact⟨w.1,w.2,x.near m,L,o⟩
structure Ur (s s':HS) (n:Int):Prop where
 inv:Υ s'
 known:bJ s' (-1)
 row:s'.row=[]
 Ι:s'.Ι=n
 cl:∀x,s'.cl x=s.cl x\/s'.cl x=A
 whole:∀i,i<16->(s.Κ i).br=false->(s.Κ i).left= -1->(s'.Κ i).br=false/\(s'.Κ i).left= -1
def Ga(i:Z)(h:Pl)(g:Nat->Option Ν)(c:HS)(f:Int)(e:aI)(d:Z):Prop:=
 e=ξ (I E 0)/\∃b a,Α d h b a/\Ε i d g b/\Ur c a f/\a.ο<=c.ο+2000
theorem MP:∀(a b:List (Nat×υ)) {e:Nat×υ},e∈kO b a->∀c∈a,e.2.id≠c.2.id
 |[],_,_,_=>nofun
 |g::a,b,e,f=>λc d=>by
  obtain rfl|d:=dD.1 d
  .have:=Cb a (bY b c.2.id) f;have:=(dE.1 this).2;simpa using this
  .exact MP a (bY b g.2.id) f c d
theorem N0:∀(a:List (Nat×υ)) {s:HS},Υ s->Υ {s with τ:=kO s.τ a}
 |[],_,b=>b
 |c::a,s,b=>N0 a (s:= {s with τ:=bY s.τ c.2.id}) (zf b c.2.id)
def uQ(b:HS)(a:Int):HS:= {b with Ι:=a}
theorem ZV(b:Υ z){n:Int}(a:0<=n/\n<=1000000):Υ (uQ z n):= {b with clock:=a}
theorem ZT(a:Υ z)(b:z.ο<=y):Υ {z with ο:=y} := {a with
 iu:=λd c=>aJ (a.iu d c) (pg _ b)
 rows:=aJ a.rows (Fg _ b)
 last:=by have:=a.last;show 0<=z.last/\z.last<=(y:Int)/\z.last<=1000000000;omega}
structure Tk (s2 sr:HS) (N0:List (Nat×υ)) (j:Nat):Prop where
 inv:Υ sr
 known:bJ sr (-1)
 τ:sr.τ=s2.τ
 dH:df s2 sr
 ο:sr.ο<=s2.ο+32*j
 ss:∀l (hl:l<N0.length),j<=l->∃xs,sr.ss N0[l].2.id=N xs
theorem Tk.next{s':HS}{a:List (Nat×υ)}(b:Tk z c a y)(k:y<a.length)(j:a.Pairwise λh i=>h.2.id≠i.2.id)(d:ci (cZ c a[y].2) s')(r:s'.ο<=c.ο+32)(o:Υ (cZ c a[y].2)):Tk z s' a (y+1) where
 inv:=d.inv o
 known:=d.known (Ht b.known _)
 τ:=by rw[d.τ,uY];exact b.τ
 dH:=(b.dH.trans (Pn _ _)).trans d.dH
 ο:=by have:=b.ο;omega
 ss:=λe g s=>by
  obtain⟨q,m⟩:=b.ss e g (by omega);have l:a[e].2.id≠a[y].2.id:=by have:=List.pairwise_iff_getElem.1 j y e k g (by omega);exact λf=>this f.symm
  have f:(cZ c a[y].2).ss a[e].2.id=N q:=by
   have:(cZ c a[y].2).ss=aP c.ss a[y].2.id A:=by unfold cZ;split<;>rfl
   rw[this,bU _ _ _ l];exact m
  obtain⟨p,n,_⟩:=d.sT f;exact⟨p,n⟩
theorem aeF{a:List (Nat×υ)}(e:Tk z c a y)(f:y<a.length)(h:∀b∈z.τ,∀d∈a,b.2.id≠d.2.id)(g:∀d∈a,d.2.Δ= -1):Υ (cZ c a[y].2):=by refine Cu e.inv (λb i=>h b (by rw[<-e.τ];exact i) _ (eA f)) λj=> ?_;have:=g _ (eA f);omega
theorem aas{b:υ}(a:mF b m=true):b.Δ= -1:=by unfold mF at a;rw[i6] at a;exact beq_iff_eq.1 a.1
theorem adn{a:List (Nat×υ)}(l:w.ownsRow y 42 6 x a.length (xl a))(h:a.length<=1000000):og w x (a.map (·.2)):=by
 have k:jW (a.map (·.2))=xl a:=by unfold jW xl;rw[List.flatMap_map];rfl
 obtain⟨rfl,f⟩|⟨e,i,j,rfl,g,n,q,r,s,m⟩:=l.2
 .refine⟨A,0,(by rw[dN,f]),(by rw[dN];exact h),λ_=> ?_,nofun⟩;rw[kG.1 f];rfl
 refine⟨N (U e 0 A),i,(by rw[dN]),(by rw[dN];exact h),nofun,λp c=> ?_⟩;injection c with c;subst c;refine⟨rfl,λd t b=> ?_⟩;rw[k,<-m] at b;have g:θ w e 42 j:=n;rw[eP];refine(g.cell d).trans ?_
 have o:d<a.length*6:=by
  obtain h5|h5:=fU d (a.length*6)
  .exact h5
  rw[List.getElem?_eq_none (by rw[lO];omega)] at b;cases b
 rw[vu o] at b;rw[<-b];simp
theorem aep{c:List (Nat×υ)}{d:Array ε}(a:fw w y m c j)(f:θ w k 42 d)(i:k≠y)(h:∀b∈c,b.1≠k):¬j k:=by
 obtain⟨l,a⟩:=a;intro g;obtain e|e|⟨b,jO,e⟩:=(a.ak k).1 g
 .exact i e
 .exact a.map.no (e▸f)
 exact h b jO e
theorem Us{m:Nat->Option Ν}(i:Α w e m z)(j:Υ z)(a0:bJ z (-1))(aT:z.row=[]){n:Int}(bZ:z.Ι<=n)(bC:n<=1000000)(c:z.ο+3000<=aL):ν δ 39 #[Ζ e.g,I E n] w (Ga w e m z n):=by
 have y:=K (show Α (w.setCell (U e.g 4 A) (I E n)) e (fH m .ca (·=e.g)) (uQ z n) from(i.Qm n).1);have bn:=K (show Ε w (w.setCell (U e.g 4 A) (I E n)) m (fH m .ca (·=e.g)) from(i.Qm n).2);have au:=K (ZV j (n:=n) ⟨by have:=j.clock.1;omega,bC⟩);have bm:=K a0;have X:=K c;have ab:=K aT;have q:¬n<z.Ι:=by omega
 have bX:¬n>1099511627776:=by omega
 have bv:=i.aA.cell 4;simp only[bg,gz_] at bv;have bV:=i.aA.frozen 4;have aP:e.g<w.heap.size:=i.aA.lt;have bS:=K i;have J:=K j;clear i j a0 aT c;go_enter func39,ntmps39;go_upto_region 4 with fail
 generalize b0:w.setCell (U e.g 4 A) (I E n)=ba at*;have aw:=K (aar (y.out.part .table) (by have:=jl J.out;show z.τ.length<=1000;omega) n);have aE:=y.out.aA.cell 2;simp only[bg,gz_] at aE;go_wp2_with fail;refine aw.out.mono ?_;rintro h R ⟨v,a,aq,rfl,T,O,ao,aI⟩;obtain⟨a8,a9,rfl⟩:=cC O;have aS:=y.out.put (s':= {uQ z n with τ:=kO z.τ a}) .table aI ao λbM bB=>by cases bM<;>first|rfl|exact ahN rfl bB
 obtain⟨Q,aj⟩:∃bN,bN=fH (fH m .ca (·=e.g)) .table aq:=⟨_,rfl⟩;rw[<-aj] at aS;obtain⟨p,a1⟩:=aS;have ac:=K (show ∀s∈a,s∈z.τ/\s.2.Δ= -1 from λs r=>by have:=dE.1 (T.mem_iff.1 r);exact⟨this.1,aas this.2⟩);have B:η (a.length<=16):=K (by rw[T.length_eq];exact aJ (jo _ _) (jl au.out));have bq:η (a.Pairwise λad g=>ad.2.id≠g.2.id):=K (by refine(T.pairwise_iff (R:=λad g:Nat×υ=>ad.2.id≠g.2.id) λi h=>i h.symm).2 ?_;refine(List.Pairwise.filter _ J.out.dM).imp λi=> ?_;omega);have ar:η (Α R e Q {uQ z n with τ:=kO z.τ a}):=K p;have bo:=K (bn.out.trans a1)
 have az:η (og R (V a8 a.length a9) (a.map (·.2))/\∀g,dS (V a8 a.length a9)=N g->Q g=A):=K (by
  refine⟨adn O (by have:=B.out;omega),λg c=> ?_⟩;have q:=(O.lt g c);obtain⟨h,_⟩|⟨af,bU,bu,h,_,aP,_⟩:=O.2
  .rw[h] at c;cases c
  rw[h] at c;have c:af=g:=cr c;subst c;have S:∃a3,gP ba e.tb a3 z.last z.τ (of (fH m .ca (·=e.g)) .table):=y.out.part .table;obtain⟨a3,S⟩:=S;have aQ:∀x,of (fH m .ca (·=e.g)) .table x->x<ba.heap.size:=λx al=>y.out.ik x _ al
  have l:¬aq af:=aep ao (show θ R af 42 bu from aP) (λh=>by
   have:=aQ e.tb ((S.ak _).2 (.inl rfl));omega) (λs r h=>by
   have:=aQ s.1 ((S.ak _).2 (.inr (.inr ⟨s,Cb _ _ r,rfl⟩)));omega)
  rw[aj];exact Cm l (.inr (y.out.dZ q.1)))
 clear aw aE O ao aI p a1 T aj;have bi:=K (λ(e:Nat×υ) (bG:e∈kO z.τ a)=>MP a z.τ bG);have aC:η (Tk {uQ z n with τ:=kO z.τ a} {uQ z n with τ:=kO z.τ a} a 0):=K ⟨N0 a au.out,bm.out,rfl,df.refl _,by omega,λb1 bz _=>by obtain⟨bb,al,_⟩:=J.out.state _ (ac.out _ (eA bz)).1;exact⟨bb,al⟩⟩;obtain⟨f,hs2⟩:∃f,f= {uQ z n with τ:=kO z.τ a} :=⟨_,rfl⟩;rw[<-hs2] at ar aC;have C:=K hs2;clear hs2;go_wp2;go_loopw [32] (λj wr=>∃d:Nat,d<=a.length/\j=I E d/\η (∃F G,Α wr e F G/\Ε R wr Q F/\Tk f G a d)) (λj _=>a.length-(aB j).toNat)
 case atStart=>exact⟨0,by omega,rfl,K ⟨Q,f,ar.out,Ε.refl _ _,aC.out⟩⟩
 obtain⟨d,bY,rfl,ab⟩:=hrel;obtain⟨F,G,aU,aV,aW⟩:=ab.out;have b:=K (Φ aU (Φ aV aW));clear aU aV aW ab;have bW:=B.out;by_cases q:d<a.length
 .have bA:(d:Int)<a.length:=by omega
  obtain⟨b2,b4,b3,bE,y0,bc,bd,be,bf,bh⟩:=(az.out.1.uK b.out.2.1.keeps (λg c bF=>bF (az.out.2 g c))).at_ (k:=d) (by rw[dN];exact q);injection bE with bI bL bK;clear bL;subst bI bK;simp only[List.getElem_map] at y0 bc bd be bf bh;have r:=ac.out _ (eA q);have av:=K (aeF b.out.2.2 q (by rw[C.out];exact bi.out) λs r=>(ac.out s r).2);have br:=K (λbP bH bw=>b.out.2.2.next (s':=bP) q bq.out bH bw av.out);obtain⟨bb,aX⟩:=b.out.2.2.ss d q (Ο _);have bl:=K aX;have aa:=K r;clear r aX;generalize a[d]=o at*;have an:=J.out.aR o aa.out.1;have am:Y wr (wr.alloc (ζ #[I E o.2.id,H o.2.ψ,H o.2.ah,H o.2.ax,I E o.2.Δ,I E o.2.aH] 42)) γ:=(Y.refl wr γ).alloc _
  have ay:=K (IV (b.out.1.still am) o.2 av.out (by
   have L:=b.out.2.2.ο;have p:=B.out;have l:=X.out;have ag:f.ο=z.ο:=by rw[C.out];rfl
   omega) an.1 an.2.1 (gm J.out aa.out.1) (by have:=aa.out.2;unfold aF;omega) bl.out)
  have bp:=K (b.out.2.1.still am);obtain⟨b5,x⟩:=o;unfold υ.cells at ay;simp only at*;clear am an;go_wp2_with fail;refine ay.out.mono ?_;rintro h ap ⟨rfl,a5,t,u,P,a7,M⟩;have k:=K (show ∃F G,Α ap e F G/\Ε R ap Q F/\Tk f G a (d+1) from⟨a5,t,u,bp.out.trans P,br.out t a7 M⟩);clear u P a7 M y0 bc bd be bf bh;go_wp2;go_roundw
  case rel=>exact⟨d+1,by omega,by go_num,k⟩
  case measure=>simp[aB];omega
 have bA:¬(d:Int)<a.length:=by omega
 have bj:=K (Ca b.out.1 b.out.2.2.inv b.out.2.2.known (by
  have L:=b.out.2.2.ο;have p:=B.out;have l:=X.out;have ag:f.ο=z.ο:=by rw[C.out];rfl
  omega))
 go_wp2_with fail;refine bj.out.mono ?_;rintro h ap ⟨rfl,a5,t,u,P,aD,aY,aZ,a6,M⟩;have W:=K u;have k:=K (Φ (bo.out.trans (b.out.2.1.trans P)) (Φ aD (Φ aY (Φ aZ (Φ a6 M)))));clear u P aD aY aZ a6 M;have aG:=W.out.aA.cell 3;simp only[bg,gz_] at aG;obtain⟨bT,aN,aO⟩:=W.out.part .box
 have bt:=K (aeE aO n (by
  have L:=b.out.2.2.ο;have p:=B.out;have l:=X.out;have u:=k.out.2.2.2.2.2
  have ag:f.ο=z.ο:=by rw[C.out];rfl
  have ai:z.ο+3000<=66000000:=l;omega))
 have bk:=K aN;clear aN aO;go_wp2_with fail;refine bt.out.mono ?_;rintro h bQ ⟨rfl,a4,bR,aM,aK,bD⟩;obtain⟨bO,ai,a2⟩:=(W.out.more (n:=t.ο+64) (by omega)).Di (n:=a4) (by have:=bk.out;show a4<=t.ο+64;omega) aM aK
 have bs:=K (show Ga w e m z n (ξ (I E 0)) bQ from⟨rfl,bO,{t with ο:=t.ο+64},ai,k.out.1.trans a2,by
  have L:=b.out.2.2.dH;have p:=eh.dH k.out.2.1;have l:=L.trans p;have ae:f.cl=z.cl/\f.Κ=z.Κ/\f.Ι=n:=by rw[C.out];exact⟨rfl,rfl,rfl⟩
  refine⟨ZT k.out.2.2.1 (by omega),k.out.2.2.2.1,k.out.2.2.2.2.1,l.Ι.trans ae.2.2,λx=>by rw[<-ae.1];exact l.cl x,λj bx=>by rw[<-ae.2.1];exact l.whole j bx⟩,by
  have L:=b.out.2.2.ο;have p:=B.out;have u:=k.out.2.2.2.2.2
  have ag:f.ο=z.ο:=by rw[C.out];rfl
  show t.ο+64<=z.ο+2000;omega⟩)
 clear aM aK bD ai a2 aG;go_wp2;go_ret;exact bs.out
def uW(a:HS)(b:υ):Bool:=((a.ss b.id).map (·.iK)).getD false
def fM(b:HS)(a:List υ):List BA:=(a.filter (uW b)).map gh
theorem adz(a:HS)(c:List υ)(b:υ):fM a (c++[b])=fM a c++(if uW a b then[gh b] else[]):=by
 unfold fM;rw[EP,lP]
 congr 1
 cases d:uW a b<;>simp[d]
def Le(c:Z)(a:HS)(d:aI)(b:Z):Prop:=∃v,d=ξ v/\b.ownsRow c.heap.size 9 1 v (fM a (cH a)).length ((fM a (cH a)).map H)/\Y c b γ
theorem adA(b:HS)(a:List υ):(fM b a).length<=a.length:=by unfold fM;rw[dN];exact jo _ _
theorem Uk{bt:Nat->Option Ν}(h:Α w e bt z)(f:Υ z):ν δ 20 #[Ζ e.g] w (Le w z):=by
 have T:=K (yB h f);have b9:(cH z).length<=16:=by unfold cH;rw[dN];exact jl f
 have a4:η (∀c∈cH z,(∃l,z.ss c.id=N l)/\aN c.ψ=true/\aN c.ah=true/\aF c.id/\rN c):=K λc ao=>by
  unfold cH at ao;obtain⟨au,t,rfl⟩:=eO.1 ao;obtain⟨l,p,_⟩:=f.state au t;have nm:=f.aR au t;have bx:∀bw∈us,aN bw=true:=by decide+kernel
  exact⟨⟨l,p⟩,bx _ nm.1,nm.2.1,gm f t,f.zQ t⟩
 have a1:=K h;have a0:η (∀v d,d.ownsRow w.heap.size 9 1 v (fM z (cH z)).length ((fM z (cH z)).map H)->Y w d γ->Le w z (ξ v) d):=K λv d s ba=>⟨v,rfl,s,ba⟩;generalize cH z=a at*;have b7:=h.aA.lt;clear h f;go_enter func20,ntmps20;go_wp2_with fail;refine T.out.mono ?_;rintro a9 d ⟨ck,rfl,al,J,F⟩;have aw:=K al;have S:=K J;have bq:=J.size;obtain⟨ch,cg,rfl,_⟩:=al;clear J F T;go_wp2;go_loopw [3,9] (λc f wr=>∃(b:Nat) (j:Option ay) (k:Nat),b<=a.length/\f=I E b/\c=V j (fM z (a.take b)).length k/\η (wr.ownsRow d.heap.size 9 1 (V j (fM z (a.take b)).length k) (fM z (a.take b)).length ((fM z (a.take b)).map H)/\Y d wr γ)) (λ_ f _=>a.length-(aB f).toNat)
 case atStart=>exact⟨0,A,0,by omega,rfl,rfl,K ⟨db _ _ _ _,Y.refl _ _⟩⟩
 obtain⟨b,j,k,b8,rfl,rfl,g⟩:=hrel;by_cases G:b<a.length
 .have bd:(b:Int)<a.length:=by omega
  obtain⟨cc,cf,ce,be,y0,bz,bA,bB,bE,bF⟩:=(aw.out.uK g.out.2 (λ_ _ h=>h)).at_ G;injection be with bf bn bi;clear bn;subst bf bi;have a7:=K (show a.take (b+1)=a.take b++[a[b]] from lq G);have n:=K (a4.out _ (eA G));generalize a[b]=c at*;have i:=K (adz z (a.take b) c);rw[<-a7.out] at i;have a6:=K (adA z (a.take b));have cb:(fM z (a.take b)).length<=16:=aJ a6.out (by rw[lO];omega);generalize fM z (a.take b)=O at*;obtain⟨⟨l,p⟩, -⟩:=n.out;have q:=K (show uW z c=l.iK from by unfold uW;rw[p];rfl);have R:=K p;have a2:=K (kk S.out g.out.2);clear p;go_upto_region 5 with fail
  generalize ac:bm wr _=o at*;have m:η (Y wr o γ/\θ o wr.heap.size 42 #[I E c.id,H c.ψ,H c.ah,H c.ax,I E c.Δ,I E c.aH]):=K (by subst ac;exact⟨(Y.refl wr γ).alloc _,θ.new _ _ _⟩);clear ac y0 bz bA bB bE bF;have y:=K (a1.out.still (kk a2.out m.out.1.drew));obtain⟨b4,an⟩:=y.out.gq R.out;have L:=y.out.jP n.out.2.2.2.1;rw[R.out] at L;simp only[gx,gK] at L;have ab:=y.out.aA.cell 7;simp only[bg,gz_] at ab;have u:=an.blk.cell 1;simp only[mN,gz_] at u;obtain⟨z0,bN,b0,b1,b2,b3⟩:=gS m.out.2.drew;clear an;cases am:l.iK with
  |true=>
   rw[am] at u q;rw[q.out,ahM rfl] at i;have P:=K (vK c n.out.2.2.2.2 o.drew);unfold υ.cells at P;go_region
   go_wp2_with fail;refine P.out.mono ?_;rintro a9 x ⟨⟨r,rfl,bb,ad⟩,ap⟩;obtain rfl:=ad n.out.2.1 n.out.2.2.1;have B:=K (show Y wr x γ from kk m.out.1.drew ap);clear ap bb ad;generalize b6:gh c=r at*;have br:Y x (x.alloc (ζ #[H r] 9)) γ:=(Y.refl x γ).alloc _;obtain⟨cl,av,bv,M,aq,bs⟩:=nB d.heap.size (aD g.out.1 B.out λ_ _ h=>h) r (by omega) (by have:=g.out.2.size;have:=B.out.size;omega);obtain⟨W,X,bk⟩:=cC M;subst bk;have Q:η (fM z (a.take (b+1))=O++[r]):=K i.out;have C:η (av.ownsRow d.heap.size 9 1 (V W (fM z (a.take (b+1))).length X) (fM z (a.take (b+1))).length ((fM z (a.take (b+1))).map H)/\Y d av γ):=K (by rw[Q.out,lP,cL,jF];exact⟨M,(kk g.out.2 B.out).trans aq λa8 F=> .inr (g.out.1.lt a8 F).1⟩);have a3:η ((fM z (a.take (b+1))).length=O.length+1):=K (by rw[Q.out,cL];rfl);clear M aq bs br ab u L z0 bN b0 b1 b2 b3;go_wp2_with (first|(at_builtin;refine dy rfl (.tmp 23) (.tmp 26) 26 rfl rfl rfl bv ?_)|fail);go_roundw
   case rel=>exact⟨b+1,W,X,by omega,by go_num,by rw[a3.out],C⟩
   case measure=>simp[aB];omega
  |false=>
   rw[am] at u q;rw[q.out,WB (by decide),AA] at i;have C:η (o.drew.ownsRow d.heap.size 9 1 (V j (fM z (a.take (b+1))).length k) (fM z (a.take (b+1))).length ((fM z (a.take (b+1))).map H)/\Y d o.drew γ):=K (by rw[i.out];exact⟨aD g.out.1 m.out.1.drew λ_ _ h=>h,kk g.out.2 m.out.1.drew⟩);go_region
   go_wp2;go_roundw
   case rel=>exact⟨b+1,j,k,by omega,by go_num,by rw[i.out],C⟩
   case measure=>simp[aB];omega
 have bd:¬(b:Int)<a.length:=by omega
 have bc:b=a.length:=by omega
 subst bc;have a5:=K (a0.out (V j (fM z a).length k) wr (by have s:=g.out.1;rw[pd] at s;exact Ij s bq) (kk S.out g.out.2));have b5:η ((fM z (a.take a.length))=fM z a):=K (by rw[pd]);go_wp2;go_ret;exact a5.out
def Kj(h:Z)(f:Pl)(e:Nat->Option Ν)(g:HS)(i:υ)(j:Ss)(k:cp)(d:aI)(c:Z):Prop:=
 d=ξ (σ #[])/\∃a b,Α c f a b/\Ε h c e a/\rG g b i j k
theorem rX{j:υ}{b:cp}(f:b.Θ≠1)(d:y<=200)(a:iO w e v z y X n):Kj w e v z j J b X n:=by obtain⟨rfl,h,i,a,g,c⟩:=a;exact⟨rfl,h,i,a,g,.inr ⟨f,c.mono d⟩⟩
theorem MO(d:Α w e v z)(i:Υ z)(M:z.ο+300<=aL)(f:h∈z.τ)(j:z.ss h.2.id=N J)(t:J.ae=false)(k:0<=h.2.Δ){c:cp}(g:fh c)(s:aZ w x c.aM)(q:c.Θ=3->c.aM.length=1)(n:c.Θ=1->c.cE.size<=40)(b:pJ c.Θ=N (eK y)):ν δ y #[Ζ e.g,Μ h.2.cells,aK c x] w (Kj w e v z h.2 J c):=by
 have inj:∀ {l m:Nat},N (eK l)=N (eK m)->l=m:=by intro l m d;injection d with d;unfold eK at d;injection d with d;injection d
 unfold pJ at b;by_cases a:c.Θ=10
 .rw[a,dJ] at b;rw[<-inj b];exact(UR d i (by omega) f j k c x g.h).mono λ_ _=>rX (by omega) (by decide)
 rw[dI _ _ _ _ a] at b;by_cases a:c.Θ=14
 .rw[a,dJ] at b;rw[<-inj b];exact(L6 d i (by omega) f j k c x g.h).mono λ_ _=>rX (by omega) (by decide)
 rw[dI _ _ _ _ a] at b;by_cases a:c.Θ=13
 .rw[a,dJ] at b;rw[<-inj b];exact(L6 d i (by omega) f j k c x g.h).mono λ_ _=>rX (by omega) (by decide)
 rw[dI _ _ _ _ a] at b;by_cases a:c.Θ=9
 .rw[a,dJ] at b;rw[<-inj b];exact(UH d i (by omega) f j k c x g.h).mono λ_ _=>rX (by omega) (by decide)
 rw[dI _ _ _ _ a] at b;by_cases a:c.Θ=8
 .rw[a,dJ] at b;rw[<-inj b];exact(Vf d i (by omega) f j k c x g.h).mono λ_ _=>rX (by omega) (by decide)
 rw[dI _ _ _ _ a] at b;by_cases a:c.Θ=6
 .rw[a,dJ] at b;rw[<-inj b];exact(XN d i (by omega) f j t k c x).mono λ_ _=>rX (by omega) (by decide)
 rw[dI _ _ _ _ a] at b;by_cases a:c.Θ=3
 .rw[a,dJ] at b;rw[<-inj b];obtain⟨G,o⟩:=List.length_eq_one_iff.1 (q a);obtain⟨L,I,K,H⟩:=G;obtain⟨C,E⟩:=g.aM _ (by rw[o];exact cj.2 rfl);exact(adw d i (by omega) f c x g.id (by rw[<-o];exact s) C E).mono λ_ _=>rX (by omega) (by decide)
 rw[dI _ _ _ _ a] at b;by_cases a:c.Θ=2
 .rw[a,dJ] at b;rw[<-inj b];exact(YL d i (by omega) f j c x g.id).mono λ_ _=>rX (by omega) (by decide)
 rw[dI _ _ _ _ a] at b;by_cases a:c.Θ=1
 .rw[a,dJ] at b;rw[<-inj b];refine(acC d i (by omega) f j c x (n a) g.dst).mono ?_;rintro O P ⟨rfl,B,F,p,A,u,r⟩;exact⟨rfl,B,F,p,A,.inl ⟨a,n a,u,r⟩⟩
 rw[dI _ _ _ _ a] at b;cases b
noncomputable def qY(b:List (Nat×υ)):BA->Option ε:=b.foldl (λc a=>put c a.2.ah (N (Μ a.2.cells))) λ_=>A
noncomputable def pE(b:List (Nat×υ)):Int->Option ε:=b.foldl (λc a=>put c a.2.id (N (Μ a.2.cells))) λ_=>A
theorem ab4(b:List (Nat×υ))(a:Nat×υ):qY (b++[a])=put (qY b) a.2.ah (N (Μ a.2.cells)):=by unfold qY;rw[List.foldl_append];rfl
theorem UW(b:List (Nat×υ))(a:Nat×υ):pE (b++[a])=put (pE b) a.2.id (N (Μ a.2.cells)):=by unfold pE;rw[List.foldl_append];rfl
theorem GY{j:Type}(e:Nat×υ->j)(d:j):∀(f:List (Nat×υ)) (b:j->Option ε),(∃a∈f,e a=d)->∃a∈f,e a=d/\(f.foldl (λb a=>put b (e a) (N (Μ a.2.cells))) b) d=N (Μ a.2.cells)
 |[],_,k=>by obtain⟨a,c,_⟩:=k;cases c
 |l::f,b,k=>by
  by_cases h:∃a∈f,e a=d
  .obtain⟨a,c,o,p⟩:=GY e d f (put b (e l) (N (Μ l.2.cells))) h;exact⟨a,eZ _ c,o,p⟩
  .have q:∀(g:List (Nat×υ)) (b:j->Option ε),(∀a∈g,e a≠d)->(g.foldl (λb a=>put b (e a) (N (Μ a.2.cells))) b) d=b d:=by
    intro g;induction g with
    |nil=>exact λ_ _=>rfl
    |cons n g s=>intro b m;rw[List.foldl_cons,s _ λa c=>m a (eZ _ c)];exact dI _ _ _ _ λh=>m n (dP ..) h.symm
   obtain⟨a,c,i⟩:=k;obtain rfl|c:=dD.1 c
   .refine⟨a,dP ..,i,?_⟩;rw[List.foldl_cons,q f _ λt r i=>h ⟨t,r,i⟩,<-i];exact dJ _ _ _
   exact ahN ⟨a,c,i⟩ h
theorem ab3(b:List (Nat×υ))(c:BA)(d:du (b.map λa=>a.2.ah) c=true):∃a∈b,qY b c=N (Μ a.2.cells):=by unfold du at d;obtain⟨k,i,e⟩:=tL.1 d;obtain⟨a,g,rfl⟩:=eO.1 i;have:=oN (a:=c) (b:=a.2.ah) e;obtain⟨j,h,_,f⟩:=GY (λa=>a.2.ah) c b (λ_=>A) ⟨a,g,this.symm⟩;exact⟨j,h,f⟩
theorem UV(f:Υ z)(b:h∈z.τ.filter λa=>same a.2.ψ p):pE (z.τ.filter λa=>same a.2.ψ p) h.2.id=N (Μ h.2.cells):=by obtain⟨g,e,c,d⟩:=GY (λa=>a.2.id) h.2.id _ (λ_=>A) ⟨h,b,rfl⟩;have:=sU f.dM (dE.1 e).1 (dE.1 b).1 c;subst this;exact d
def AZ(i:Z)(g:Pl)(f:Nat->Option Ν)(c:HS)(j:Int)(e:Cl)(d:aI)(b:Z):Prop:=
 (d=ξ (σ #[I E 0,ι false])/\aN e.ah=false/\∃a,Α b g a c/\Ε i b f a)\/
 (d=ξ (σ #[I E (c.last+1),ι true])/\∃a h,Α b g a h/\Ε i b f a/\tP c j e h)
theorem Xc(g:Υ z)(d:BA):du (jM z d) ⟨#[]⟩=false:=by
 cases a:du (jM z d) ⟨#[]⟩
 .rfl
 unfold du jM uR at a;obtain⟨h,b,a⟩:=tL.1 a;rw[tM] at b;obtain⟨c,f,rfl⟩:=eO.1 b;have:=Ob (g.aR c (dE.1 f).1).2.1;have e:=oN (a:=(D #[])) (b:=c.2.ah) a;rw[<-e,iy] at this;cases this
theorem Rf:prog.underlying 250=N (.map 9 42):=by kernel_rfl
theorem Rh:prog.underlying 251=N (.map 3 42):=by kernel_rfl
theorem Sf(a:Z):(zeroValue 42).run δ a= .ok (Μ #[I E 0,H (D #[]),H (D #[]),H (D #[]),I E 0,I E 0]) a:=by kernel_rfl
theorem ad1(d:Α w e v z)(s:z.ο<aL)(k:Y w n γ)(t:aF m)(i:eR n y false false false j)(o:∀a,j a->w.heap.size<=a):∃b,(Instr.mapUpdate 63 (ω (N e.sm)) (I E m) (π (N (U n.heap.size 0 A)))).run δ (n.alloc (ζ #[π (N (U y 0 A)),ι false,H (D #[])] 101))= .ok () b/\∃p,Α b e p {z with ss:=aP z.ss m (N (fq n.heap.size y)),ο:=z.ο+1} /\Ε w b v p:=by
 have L:Y n (n.alloc (ζ #[π (N (U y 0 A)),ι false,H (D #[])] 101)) γ:=(Y.refl n γ).alloc _;have l:Y w (n.alloc (ζ #[π (N (U y 0 A)),ι false,H (D #[])] 101)) γ:=k.alloc _;have r:=θ.new n 101 #[π (N (U y 0 A)),ι false,H (D #[])];have C:¬j n.heap.size:=λg=>AS _ ((uF _ _ _ _).lt i _ g);have F:=(uF _ _ _ _).keeps i L λ_ _ d=>d;generalize(n.alloc (ζ #[π (N (U y 0 A)),ι false,H (D #[])] 101))=M at*;obtain⟨⟨P,B,u⟩,g⟩:=(d.still l).part .gE;have O:e.sm<w.heap.size:=d.ik e.sm .gE ((g e.sm).2 rfl);obtain⟨b,G,x,h⟩:=u.store fI (t:=63) Jn (by unfold aL at s;unfold Χ;omega) (x:=m) t (Ζ n.heap.size);refine⟨b,G,?_⟩;have J:=k.size
 have K:∃q,nx b (fq n.heap.size y) (λa=>a=n.heap.size\/j a) q:=⟨j,{
  blk:=h.blk r λc=>by have c:n.heap.size=e.sm:=c;omega
  front:=(uF _ _ _ _).keeps F h λa f c=>by have:=o a f;omega
  q1:=C
  ak:=λ_=>fT}⟩
 exact Zw d (x:=fq n.heap.size y) x (Nat.succ_le_succ B) K (λa f=>by obtain rfl|f:=f;exact J;exact o a f) ((l.mono Η).trans h λ_ c=> .inl c)
theorem adY{c:List (Nat×υ)}(f:fw w y m c j)(g:c.length<=1000)(b d:BA)(a:Int)(n:aN b=true)(i:aN d=true)(h:0<=a)(l:∀p∈c,dW p.2 a=false)(k:m<1000000000000):ν δ 167 #[π (N (U y 0 A)),H b,H d,I E a] w (vH w y m c j b d a):=by
 obtain e|e:=fU (c.filter λo=>same o.2.ψ b).length 4
 .exact adZ f g b d a n i h l k e
 exact ad0 f g b d a n i h l k e
theorem ag8:∀a∈us,aN a=true:=by decide+kernel
def I6(a:HS)(e:Option (Nat×υ))(b:Nat)(g d:BA)(c:Int):HS:= {a with last:=a.last+1,τ:=(match e with|none=>a.τ|some f=>bY a.τ f.2.id)++[(b,eL a g d c)]}
def Gc(a b:HS)(tk:Bool)(d:BA):Prop:=(tk=false/\b=a)\/(tk=true/\∃c∈a.τ,same c.2.ψ d=true/\dX a b c.2.id/\b.ο<=a.ο+32)
theorem VU{n:Nat->Option Ν}(k:Α w e n z)(ac:Υ z)(h:z.ο+100<=aL){a:Cl}(b9:z.cl m=N a)(dv:a.ψ∈us)(dc:a.ah.toList.isEmpty=true\/aN a.ah=true)(dm:∀r∈z.τ,r.2.Δ≠m):ν δ 98 #[Ζ e.g,I E m] w (AZ w e n z m a):=by
 have g5:= @run_makeMap δ;have bc:=K (ac.range m (by rw[b9];rfl));have es:=K (show aF m from by have:=bc.out;unfold aF;omega);have g:=K (Φ ac h);have s:=K (Φ b9 (Φ dv (Φ dc dm)));have cA:η (∀c,w.heap.size<=c->n c=A):=K λc h=>k.dZ h;have a8:=K k;have fo:(z.τ.filter λe=>same e.2.ψ a.ψ).length<=16:=aJ (jo _ _) (jl ac);have a6:=K (show jM z a.ψ=(z.τ.filter λe=>same e.2.ψ a.ψ).map (λe=>e.2.ah) from by unfold jM uR;rw[tM];rfl);have bb:=K (show ∀r∈(z.τ.filter λe=>same e.2.ψ a.ψ),r∈z.τ/\same r.2.ψ a.ψ=true from λr u=>dE.1 u);have et:=K (show(z.τ.filter λe=>same e.2.ψ a.ψ)=(z.τ.filter λe=>same e.2.ψ a.ψ) from rfl);clear k ac h b9 dv dc dm;have br:η (∀d l,Α d e l z->d.cell? (U e.g 6 A)=N (ω (N e.cm))/\(cw 62 (ω (N e.cm)) (I E m) false).run δ d= .ok (Ζ a.q) d/\d.cell? (U e.g 2 A)=N (Ζ e.tb)/\d.cell? (U a.q 2 A)=N (H a.ψ)/\d.cell? (U a.q 3 A)=N (H a.ah)):=K λd l x=>by obtain⟨eS,eD,be⟩:=x.uH s.out.1;have S:=x.uL es.out;rw[s.out.1] at S;exact⟨x.aA.cell 6,S,x.aA.cell 2,be.blk.cell 2,be.blk.cell 3⟩
 obtain⟨b2,b3,b4,b5,b6⟩:=br.out w n a8.out;go_enter func98,ntmps98;go_upto_region 5 with fail
 generalize c9:bm (bm w _) _=P at*;have X:η (Y w P γ/\aC bR P w.heap.size (qY []) 0/\aC cM P (w.heap.size+1) (pE []) 0/\P.heap.size=w.heap.size+2):=K (by subst c9;have d6:=aC.made cM (w.alloc (.map #[] 0));rw[show(w.alloc (.map #[] 0)).heap.size=w.heap.size+1 by simp] at d6;exact⟨((Y.refl w γ).alloc _).alloc _,(aC.made bR w).alloc _,d6,by simp⟩);clear c9 b2 b3 b4 b5 b6;have bx:=K (a8.out.still X.out.1);have e8:=K (Ε.bu n X.out.1);have gW:η (∀c,w.heap.size<=c->n c=A):=cA;have cJ:η (∀d,Y P d γ->d.cell? (U e.g 2 A)=N (Ζ e.tb)/\d.cell? (U a.q 2 A)=N (H a.ψ)):=K λd al=>by obtain⟨hc,hd,f9,ga,he⟩:=br.out d n (bx.out.still al);exact⟨f9,ga⟩
 have bN:η (∀d,Y P d γ->ν δ 46 #[Ζ e.tb,H a.ψ] d (KL d (z.τ.filter λe=>same e.2.ψ a.ψ))):=K λd al=>Bg ((bx.out.still al).part .table) (by have:=jl g.out.1;show z.τ.length<=1000;omega) a.ψ;generalize c8:(z.τ.filter λe=>same e.2.ψ a.ψ)=M at fo bN a6 bb;have eT:=K c8;clear c8 et
 go_region_held3 (λd=>d.cell? (U e.g 2 A)=N (Ζ e.tb)/\d.cell? (U a.q 2 A)=N (H a.ψ))
  (first|(refine cJ.out _ ?_;(with_reducible first|exact W.out|exact(Y.refl _ γ).drew)))
  (first|(go_at_call 46;refine(bN.out _ (Y.refl _ γ).drew).mono ?_;rintro p J ⟨hb,rfl,bk,d1⟩;have e2:=K (Hg bk (by omega));obtain⟨f6,f5,ce⟩:=cC bk;subst ce;have fb:=K bk.lt;have W:=K (kk (Y.refl P γ).drew d1);clear bk d1))
 have gF:=K (bx.out.still W.out);have gR:=K (e8.out.still W.out);have e4:=K (X.out.2.1.keeps W.out id);have e3:=K (X.out.2.2.1.keeps W.out id);have au:η (w.heap.size+2<=J.heap.size):=K (by rw[<-X.out.2.2.2];exact W.out.size);have fa:η (∀c,dS (V f6 M.length f5)=N c->w.heap.size+2<=c):=K (λc h=>by have q:=(fb.out c h).1;have b8:=X.out.2.2.2;have g1:P.drew.heap.size=P.heap.size:=rfl;omega);clear bN cJ;go_wp2;go_loopw [9,38] (λf ac wr=>∃(C:Nat) (an:Option ay) (ao:Nat),C<=M.length/\ac=I E C/\f=V an C ao/\η (Y J wr (λc=>c=w.heap.size\/c=w.heap.size+1)/\aC bR wr w.heap.size (qY (M.take C)) C/\aC cM wr (w.heap.size+1) (pE (M.take C)) C/\wr.ownsRow J.heap.size 9 1 (V an C ao) C ((M.take C).map λf=>H f.2.ah))) (λ_ ac _=>M.length-(aB ac).toNat)
 case atStart=>exact⟨0,A,0,by omega,rfl,rfl,K ⟨Y.refl _ _,e4.out,e3.out,db _ _ _ _⟩⟩
 obtain⟨j,an,ao,g4,rfl,rfl,t⟩:=hrel;by_cases cb:j<M.length
 .have fs:(j:Int)<M.length:=by omega
  obtain⟨g8,ha,g9,ce,y0⟩:=(e2.out.uK t.out.1 (λc h Q=>by have:=fa.out c h;omega)).at_ (k:=j) (by simpa using cb);injection ce with fE f1 fJ;clear f1;subst fE fJ;simp only[List.getElem_map] at y0;have cS:=K (show M.take (j+1)=M.take j++[M[j]] from lq cb);have a4:=bb.out _ (eA cb);generalize M[j]=F at*;have ba:=K (show Y w wr γ from(kk X.out.1 W.out).trans t.out.1 λc h=> .inr (by omega));have a0:=K (a8.out.still ba.out);have c2:=a0.out.aA.cell 2;simp only[bg,gz_] at c2;have O:=rH (a0.out.part .table) F.2.id (gm g.out.1 a4.1);rw[rZ g.out.1 a4.1,xp] at O;simp only[mX] at O;have O:=K O;have fk:=K (g.out.1.zQ a4.1);have ex:=K (gm g.out.1 a4.1);obtain⟨hi,f⟩:=F;simp only at*;clear a4;unfold υ.cells at O;go_wp2_with fail;refine O.out.mono ?_;rintro p cq ⟨rfl,d2⟩;have cx:=K d2;clear d2 y0 c2 O;go_upto_region 9 with fail
  generalize da:bm cq _=cU at*;have L:η (Y wr cU γ/\θ cU cq.heap.size 42 #[I E f.id,H f.ψ,H f.ah,H f.ax,I E f.Δ,I E f.aH]/\J.heap.size<=cq.heap.size):=K (by subst da;exact⟨cx.out.alloc _,θ.new _ _ _,aJ t.out.1.size cx.out.size⟩);clear da;obtain⟨hh,d8,d3,a5⟩:=((t.out.2.1.keeps L.out.1 id).drew).store dG (t:=250) Rf (by unfold Χ;omega) (x:=f.ah) (by have:=fk.out.2;show f.ah.size<=Χ;unfold Χ;omega) (Μ f.cells);obtain⟨am,d9,d4,bf⟩:=(((t.out.2.2.1.keeps L.out.1 id).drew).keeps a5 (by omega)).store fI (t:=251) Rh (by unfold Χ;omega) (x:=f.id) ex.out (Μ f.cells);have cy:η (aC bR am w.heap.size (qY (M.take (j+1))) (j+1)/\aC cM am (w.heap.size+1) (pE (M.take (j+1))) (j+1)):=K (by rw[cS.out,ab4,UW];exact⟨d3.keeps bf (by omega),d4⟩);have bA:η (Y wr am (λc=>c=w.heap.size\/c=w.heap.size+1)):=K (((L.out.1.drew.any).trans a5 λc h=> .inl (.inl h)).trans bf λc h=> .inl (.inr h));have em:=K (bf.blk (a5.blk L.out.2.1.drew (by have:=L.out.2.2;have:=au.out;omega)) (by have:=L.out.2.2;have:=au.out;omega));simp only[bR,cM,υ.cells] at d8 d9;obtain⟨z0,gg,el,gn,gr,gt⟩:=gS L.out.2.1.drew;obtain⟨gf,gk,gl,go,gs,gw⟩:=gS (a5.blk L.out.2.1.drew (by have:=L.out.2.2;have:=au.out;omega));clear d3 d4 a5 bf;go_region
  have el:=em.out.cell 2;simp only[gz_] at el;have d7:=aD t.out.2.2.2 bA.out (λc h Q=>by have:=(t.out.2.2.2.lt c h).1;have:=au.out;omega);have fv:J.heap.size<=am.heap.size:=aJ t.out.1.size bA.out.size;have f3:Y am (am.alloc (ζ #[H f.ah] 9)) γ:=(Y.refl am γ).alloc _;obtain⟨hg,bq,gc,ck,bi,f4⟩:=nB J.heap.size d7 f.ah (by omega) fv;obtain⟨cW,c0,f0⟩:=cC ck;subst f0
  have ff:η (Y J bq (λc=>c=w.heap.size\/c=w.heap.size+1)/\aC bR bq w.heap.size (qY (M.take (j+1))) (j+1)/\aC cM bq (w.heap.size+1) (pE (M.take (j+1))) (j+1)/\bq.ownsRow J.heap.size 9 1 (V cW (j+1) c0) (j+1) ((M.take (j+1)).map λf=>H f.2.ah)):=K (by
   have cc:∀c,(V an j ao).ownBlock=N c->J.heap.size<=c:=λc h=>(t.out.2.2.2.lt c h).1;have g2:=au.out;refine⟨((t.out.1.trans bA.out λc h=> .inl h).trans bi λc h=> .inr (cc c h)),cy.out.1.keeps bi λh=> ?_,cy.out.2.keeps bi λh=> ?_,by rw[cS.out,lP];exact ck⟩
   .have:=cc _ h;omega
   have:=cc _ h;omega)
  clear d7 f3 ck bi f4 z0 gg gn gr gt gf gk gl go gs gw d8 d9;go_wp2_with (first|(at_builtin;refine dy rfl (.tmp 58) (.tmp 61) 26 rfl rfl rfl gc ?_)|fail);go_roundw
  case rel=>exact⟨j+1,cW,c0,by omega,by go_num,rfl,ff⟩
  case measure=>simp[aB];omega
 have fs:¬(j:Int)<M.length:=by omega
 have fr:j=M.length:=by omega
 subst fr;have ba:=K (show Y w wr γ from(kk X.out.1 W.out).trans t.out.1 λc h=> .inr (by omega));have a0:=K (a8.out.still ba.out);have e9:=K (Ε.bu n ba.out)
 have aw:η (aC bR wr w.heap.size (qY M) M.length/\aC cM wr (w.heap.size+1) (pE M) M.length/\wr.ownsRow J.heap.size 9 1 (V an M.length ao) M.length ((jM z a.ψ).map H)/\(jM z a.ψ).length=M.length):=K (by
  have q:=t.out.2;rw[pd] at q;refine⟨q.1,q.2.1,?_,?_⟩
  .rw[a6.out,tM];exact q.2.2
  rw[a6.out,dN])
 have cB:=K (aci (w:=wr) (tv:=V an M.length ao) (oQ:=jM z a.ψ) a.ah s.out.2.2.1 (by
  obtain h0|h0:=s.out.2.2.1
  .have:a.ah.toList=[]:=by simpa using h0
   rw[Cg this];exact ai _
  .unfold aN at h0;simp only[i6,decide_eq_true_eq] at h0;omega) (λd al=>by
  have l:=aD aw.out.2.2.1 al λ_ _ k=>k;refine eU.dw (by rw[aw.out.2.2.2];exact l) (by rw[aw.out.2.2.2];omega)) (Xc g.out.1 a.ψ))
 obtain⟨b2,b3,b4,b5,b6⟩:=br.out wr n a0.out;go_wp2_with fail;refine cB.out.mono ?_;rintro p T ⟨i,g7,rfl,dd,dg,fp,d0⟩;have a9:=K d0;have bt:=K (a0.out.still a9.out);have bE:=K (e9.out.still a9.out);have a7:=K (Φ dd dg);clear d0 dd dg b2 b3 b4 b5 b6 cB;obtain rfl|⟨rfl,rfl⟩:=fp
 .have av:=K (a7.out.1 rfl);have cg:=K (show du (jM z a.ψ) i=du (jM z a.ψ) i from rfl);generalize dl:du (jM z a.ψ) i=tk;have bd:=K dl;clear dl cg;go_upto_if 76 with fail
  go_cut [] (λeg=>∃cl b,η (Α eg e cl b/\Ε T eg n cl/\Gc z b tk a.ψ))
  case first=>
   cases tk with
   |true=>
    obtain⟨F,cf,ds⟩:=ab3 M i (by rw[<-a6.out];exact bd.out);have S:=(aw.out.1.keeps a9.out id).look dG (t:=250) Rf (Sf T) (x:=i) (by have:=av.out;unfold aN at this;simp only[i6,decide_eq_true_eq] at this;show i.size<=Χ;unfold Χ;omega);rw[ds] at S;simp only[bR,gK,υ.cells] at S;have er:=K (Cd bt.out F.2.id (gm g.out.1 (bb.out _ cf).1) (by have:=g.out.2;omega) (wh g.out.1 _));have cD:=K (bb.out _ cf);obtain⟨gb,f⟩:=F;simp only at*;clear cf ds;have hf:(Instr.field 42 (Μ #[I E f.id,H f.ψ,H f.ah,H f.ax,I E f.Δ,I E f.aH]) 0).run δ T= .ok (I E f.id) T:=by kernel_rfl
    go_wp2_with fail;refine er.out.mono ?_;rintro p ef ⟨rfl,cm,cn,c4,m14,Q,R⟩;have b0:=K (show Α ef e cm cn/\Ε T ef n cm/\Gc z cn true a.ψ from⟨c4,m14,.inr ⟨rfl,(gb,f),cD.out.1,cD.out.2,Q,R⟩⟩);clear c4 m14 Q R S;go_wp2_with fail;go_meet;exact⟨cm,cn,b0⟩
   |false=>have b0:=K (show Α T e n z/\Ε T T n n/\Gc z z false a.ψ from⟨bt.out,Ε.refl _ _,.inl ⟨rfl,rfl⟩⟩);go_wp2_with fail;go_meet;exact⟨n,z,b0⟩
  case rest=>
  obtain⟨cl,b,ad⟩:=hcut
  have y:η (Υ b/\b.cl m=N a/\b.last=z.last/\(∀r∈b.τ,r∈z.τ)/\b.ο<=z.ο+32/\(tk=true->(b.τ.filter λe=>same e.2.ψ a.ψ).length<4)):=K (by
   obtain⟨q,rfl⟩|⟨q,F,a3,ch,Q,R⟩:=ad.out.2.2
   .exact⟨g.out.1,s.out.1,rfl,λ_ k=>k,by omega,λb8=>by rw[q] at b8;cases b8⟩
   have aq:=GP g.out.1 a3 rfl Q;have dt:b.τ=bY z.τ F.2.id:=by rw[aq.τ];exact uY _ _
   refine⟨yQ (wh g.out.1 _) (λ_=>g.out.1) Q,?_,by rw[aq.last];exact CQ _ _,λr u=>by rw[dt] at u;exact(dE.1 u).1,R,λ_=>by rw[dt];exact CV g.out.1 a3 ch⟩;rw[aq.cl];exact(BO (s.out.2.2.2 F a3)).trans s.out.1)
  have fm:η (∀d l,Α d e l b->ν δ 167 #[Ζ e.tb,H a.ψ,H i,I E m] d (vH d e.tb b.last b.τ (of l .table) a.ψ i m)):=K λd l x=>adY (x.part .table) (by have:=jl y.out.1;omega) a.ψ i m (ag8 _ s.out.2.1) av.out bc.out.1 (λr u=>by have:=s.out.2.2.2 r (y.out.2.2.2.1 r u);unfold dW;rw[ahO this];rfl) (by have:=y.out.1.last;omega);have cI:η (∀d l ap,Α d e l ap->ap.cl m=N a->d.cell? (U e.g 2 A)=N (Ζ e.tb)/\d.cell? (U a.q 2 A)=N (H a.ψ)):=K λd l ap x p=>by obtain⟨eS,eD,be⟩:=x.uH p;exact⟨x.aA.cell 2,be.blk.cell 2⟩
  go_upto_region 17 with fail
  go_region_held3 (λd=>d.cell? (U e.g 2 A)=N (Ζ e.tb)/\d.cell? (U a.q 2 A)=N (H a.ψ))
   (with_reducible first|exact cI.out _ _ _ bv.out eo.out|exact cI.out _ _ _ (ad.out.1.still (Y.refl _ γ).drew) y.out.2.1)
   (first|(go_at_call 167;refine(fm.out _ _ (ad.out.1.still (Y.refl _ γ).drew)).mono ?_;rintro p co ⟨l,c,gz,rfl,dn,dp,eb,c3⟩;obtain⟨f7,c5,d5⟩:=(ad.out.1.still (Y.refl _ γ).drew).Dk eb c3;have bv:=K (show Α co e f7 (I6 b l c a.ψ i m) from c5);have e7:=K ((ad.out.2.1.still (Y.refl _ γ).drew).trans d5);have bz:=K (Φ dn dp);have eo:=K (show(I6 b l c a.ψ i m).cl m=N a from y.out.2.1);clear dn dp eb c3 c5 d5))
  have ev:η (aF (b.last+1)):=K (by have:=y.out.1.last;unfold aF;omega);have fg:η (∀d,Y co d γ->d.cell? (U e.g 7 A)=N (ω (N e.sm))):=K λd al=>(bv.out.still al).aA.cell 7;have fi:η (∀d l ap,Α d e l ap->d.cell? (U e.g 7 A)=N (ω (N e.sm))):=K λd l ap x=>x.aA.cell 7;have ew:η (∀d,ν δ 168 #[] d λp ec=>∃c1 cu,p=ξ (π (N (U c1 0 A)))/\eR ec c1 false false false cu/\Ψ d ec γ cu):=K Yw;go_upto_region 18 with fail
  go_region_held3 (λd=>d.cell? (U e.g 7 A)=N (ω (N e.sm)))
   (first|(refine fg.out _ ?_;(with_reducible first|exact bB.out|exact Y.alloc bB.out _|exact(Y.refl _ γ).drew))|(with_reducible exact fi.out _ _ _ bw.out))
   (first|(go_at_call 168;refine(ew.out _).mono ?_;rintro p G ⟨B,gB,rfl,dk,b7⟩;have bB:=K (kk (Y.refl co γ).drew b7.keeps);obtain⟨a2,g6,bn,c6,m16⟩:=ad1 bv.out (by have:=y.out.2.2.2.2.1;have:=g.out.2;show b.ο<aL;omega) bB.out ev.out dk (λf f2=>(b7.fresh f f2).resolve_left id);have bw:=K (show Α a2 e bn {I6 b l c a.ψ i m with ss:=aP b.ss (b.last+1) (N (fq G.heap.size B)),ο:=b.ο+1} from c6);have bF:=K (e7.out.trans m16);clear dk b7 c6 m16))
  cases l with
  |none=>
   have bs:η (Α a2 e bn (jI b c (eL b a.ψ i m) (fq G.heap.size B))):=K bw.out
   have e5:η ((b.τ.filter λe=>same e.2.ψ a.ψ).length<4):=K (by
    obtain ab|ab:=fU (b.τ.filter λe=>same e.2.ψ a.ψ).length 4
    .exact ab
    obtain⟨_,_,k⟩:=bz.out.2 ab;cases k)
   have en:η (tP z m a (jI b c (eL b a.ψ i m) (fq G.heap.size B))):=K (by
    refine⟨i,c,G.heap.size,B,av.out,λk=>(a7.out.2 k).2,?_,?_⟩
    .show b.ο+1<=_;have:=y.out.2.2.2.2.1;omega
    obtain⟨q,rfl⟩|⟨q,F,a3,ch,Q,R⟩:=ad.out.2.2
    .exact .inl ⟨bd.out.trans q,e5.out,rfl⟩
    exact .inr (.inl ⟨bd.out.trans q,F,a3,ch,b,Q,rfl⟩))
   have a1:=K (show AZ w e n z m a (ξ (σ #[I E (z.last+1),ι true])) a2 from .inr ⟨rfl,bn,_,bs.out,bE.out.trans bF.out,en.out⟩);have e6:η (b.last=z.last):=K y.out.2.2.1;unfold nK υ.zero;simp only[vy,pj];go_wp2;go_ret2;rw[e6.out];exact a1.out
  |some v=>
   have o:η (v∈b.τ/\same v.2.ψ a.ψ=true/\4<=(b.τ.filter λe=>same e.2.ψ a.ψ).length):=K (by
    obtain ab|ab:=fU (b.τ.filter λe=>same e.2.ψ a.ψ).length 4
    .have:=bz.out.1 ab;cases this
    obtain⟨r,u,p⟩:=bz.out.2 ab;injection p with p;subst p;exact⟨(dE.1 u).1,(dE.1 u).2,ab⟩)
   have fd:η (tk=false/\b=z):=K (by
    obtain k|⟨q,_⟩:=ad.out.2.2
    .exact k
    have:=y.out.2.2.2.2.2 q;have:=o.out.2.2;omega)
   obtain⟨cg,ft⟩:=fd.out;subst cg ft;have b1:=K (g.out.1.bj v o.out.1);have fn:η (pE M v.2.id=N (Μ v.2.cells)):=K (by rw[<-eT.out];exact UV g.out.1 (dE.2 ⟨o.out.1,o.out.2.1⟩));have cv:=K (gm g.out.1 o.out.1);have S:=((aw.out.2.1.keeps a9.out id).keeps bF.out.keeps λk=>k (cA.out _ (cV _))).look fI (t:=251) Rh (Sf a2) (x:=v.2.id) cv.out;rw[fn.out] at S;simp only[cM,gK,υ.cells] at S;have cs:η (cZ (jI {b with τ:=bY b.τ v.2.id} c (eL b a.ψ i m) (fq G.heap.size B)) v.2=jI (ei b v.2.id v.2) c (eL b a.ψ i m) (fq G.heap.size B)):=K (ab0 b c _ _ v.2 (by have:=b1.out;omega));have e1:=K (N1 g.out.1 o.out.1);have eq:η (eL b a.ψ i m=eL (ei b v.2.id v.2) a.ψ i m):=K (by unfold eL;rw[show(ei b v.2.id v.2).last=b.last from CQ _ _]);have ct:η ((ei b v.2.id v.2).τ=bY b.τ v.2.id):=K (uY _ _)
   have e0:η (Υ (cZ (jI {b with τ:=bY b.τ v.2.id} c (eL b a.ψ i m) (fq G.heap.size B)) v.2)):=K (by
    rw[cs.out,eq.out];refine Hh e1.out c _ _ (by rw[show(ei b v.2.id v.2).ο=b.ο from wT _ _];have:=g.out.2;omega) s.out.2.1 av.out bc.out.1 bc.out.2 ?_ (λr u=> ?_) ?_
    .rw[show(ei b v.2.id v.2).cl m=b.cl m from BO (s.out.2.2.2 v o.out.1),s.out.1];rfl
    .rw[ct.out] at u;exact s.out.2.2.2 r (dE.1 u).1
    rw[ct.out];exact CV g.out.1 o.out.1 o.out.2.1)
   have bs:η (Α a2 e bn (jI {b with τ:=bY b.τ v.2.id} c (eL b a.ψ i m) (fq G.heap.size B))):=K bw.out;obtain⟨ek,dx, -⟩:=g.out.1.state v o.out.1
   have cR:=K (IV bs.out v.2 e0.out (by have:=g.out.2;show b.ο+1+32<=aL;omega) (g.out.1.aR v o.out.1).1 (g.out.1.aR v o.out.1).2.1 cv.out (by
    obtain k|k:=g.out.1.eC v o.out.1
    .unfold aF;omega
    .unfold aF;omega) (xs:=ek) (by
    show aP b.ss (b.last+1) (N (fq G.heap.size B)) v.2.id=N ek;rw[bU _ _ _ (by have:=b1.out;omega)];exact dx))
   have O:η (v.2.id>0):=K b1.out.1;have g0:=K o.out.1;clear dx;obtain⟨gd,f⟩:=v;simp only at*;unfold υ.cells at cR;have g3:=O.out;simp only[nK,gx,gK];go_wp2_with fail;refine cR.out.mono ?_;rintro p ge ⟨rfl,f8,ea,c7,m17,aq,R⟩;have a1:=K (show AZ w e n b m a (ξ (σ #[I E (b.last+1),ι true])) ge from .inr ⟨rfl,f8,ea,c7,(bE.out.trans bF.out).trans m17,i,c,G.heap.size,B,av.out,λk=>(a7.out.2 k).2,(by have R:ea.ο<=b.ο+1+32:=R;omega),.inr (.inr ⟨bd.out,o.out.2.2,(gd,f),o.out.1,o.out.2.1,by rw[<-cs.out];exact aq⟩)⟩);clear c7 m17 aq R;go_wp2;go_ret2;exact a1.out
 have fe:η (aN a.ah=false):=K (by
  cases p:aN a.ah
  .rfl
  have:=(a7.out.2 p).1;cases this)
 have a1:=K (show AZ w e n z m a (ξ (σ #[I E 0,ι false])) T from .inl ⟨rfl,fe.out,n,bt.out,bE.out⟩);go_wp2;go_ret2;exact a1.out
def rI(j:Z)(i:Pl)(h:Nat->Option Ν)(c:HS)(e:Int)(g:El)(f:aI)(d:Z):Prop:=
 f=ξ (σ #[])/\∃b a,Α d i b a/\Ε j d h b/\qH c e g a/\a.ο<=c.ο+300
structure Lb (w0 W:Z) (p:Pl) (own own1:Nat->Option Ν) (s:HS) (c:Int) (s1:HS) (pr:Nat×υ) (xs:Ss):Prop where
 bp:Α W p own1 s1
 aW:Ε w0 W own own1
 binds:Ke s c s1 pr
 inv:Υ s1
 ο:s1.ο<=s.ο+40
 mem:pr∈s1.τ
 Δ:pr.2.Δ=c
 ss:s1.ss pr.2.id=N xs
 ae:xs.ae=false
theorem MH(c:pJ m=N x):∃b,x=eK b/\∀args a,(callFunc b args).run δ a= .ok (.enter b args) a:=by
 unfold pJ at c
 have d:∀ {f:Int->Option ε} {e:Int} {b:Nat},(∀args a,(callFunc b args).run δ a= .ok (.enter b args) a)->(f m=N x->∃b,x=eK b/\∀args a,(callFunc b args).run δ a= .ok (.enter b args) a)->put f e (N (eK b)) m=N x->∃b,x=eK b/\∀args a,(callFunc b args).run δ a= .ok (.enter b args) a:=by
  intro f e b q r c;by_cases g:m=e
  .subst g;rw[dJ] at c;injection c with c;exact⟨b,c.symm,q⟩
  rw[dI _ _ _ _ g] at c;exact r c
 have i:∀args a,(callFunc 171 args).run δ a= .ok (.enter 171 args) a:=enters_of func171 (by kernel_rfl) rfl;have j:∀args a,(callFunc 172 args).run δ a= .ok (.enter 172 args) a:=enters_of func172 (by kernel_rfl) rfl;have k:∀args a,(callFunc 173 args).run δ a= .ok (.enter 173 args) a:=enters_of func173 (by kernel_rfl) rfl;have l:∀args a,(callFunc 174 args).run δ a= .ok (.enter 174 args) a:=enters_of func174 (by kernel_rfl) rfl;have n:∀args a,(callFunc 175 args).run δ a= .ok (.enter 175 args) a:=enters_of func175 (by kernel_rfl) rfl;have o:∀args a,(callFunc 176 args).run δ a= .ok (.enter 176 args) a:=enters_of func176 (by kernel_rfl) rfl;have h:∀args a,(callFunc 177 args).run δ a= .ok (.enter 177 args) a:=enters_of func177 (by kernel_rfl) rfl;have p:∀args a,(callFunc 178 args).run δ a= .ok (.enter 178 args) a:=enters_of func178 (by kernel_rfl) rfl;exact d p (d h (d h (d o (d n (d l (d k (d j (d i (λc=>by cases c))))))))) c
theorem acw{c:cp}(a:eu Q=N c):c.Θ=1:=by
 unfold eu at a;split at a
 .cases b:oI Q with
  |none=>rw[b] at a;cases a
  |some d=>rw[b] at a;injection a with a;rw[<-a]
 cases a
theorem R'(a:Z):(zeroValue 179).run δ a= .ok Value.nilFunc a:=by kernel_rfl
theorem MI:pJ 1=N (eK 171):=by simp[pJ,put]
theorem rG.NI{b:υ}{d:cp}(a:rG z c b J d):c.ο<=z.ο+200:=by
 obtain⟨_,_,_,a⟩|⟨_,a⟩:=a
 .omega
 exact a.ο
theorem Z'(B:Α w e v z)(c9:Υ z)(T:z.ο+2000<=aL)(en:z.row=[]){da:Cl}(c6:z.cl m=N da)(eb:nh da)(c5:bX w j Q x i)(eq:fW Q)(ec:∀d,j d->v d=A):ν δ 64 #[Ζ e.g,I E m,bM Q x i] w (rI w e v z m Q):=by
 obtain⟨⟨e5,e4,rfl⟩,fn,fm,rfl⟩:=c5.form;have k:=K (Φ c9 (Φ T en));have an:=K (Φ c6 eb);have cD:=K (Φ c5 (Φ eq ec));have eT:=K B;have c0:η (∀n,w.heap.size<=n->v n=A):=K λn T=>B.dZ T;have a1:=K (show aF m/\0<=m/\m<16 from by have:=nO c9 c6;unfold aF;omega);clear B c9 T en c6 eb c5 eq ec;unfold bM;go_enter func64,ntmps64;go_upto_region 1 with fail
 generalize ao:bm w _=d7 at*;have bs:η (Y w d7 γ/\θ d7 w.heap.size 84 #[H (D Q.name.toArray),V e5 Q.Γ.length e4,H (D Q.Β.toArray),V fn Q.Ξ.length fm]):=K (by subst ao;exact⟨(Y.refl w γ).alloc _,θ.new _ _ _⟩);clear ao;have cy:=K (eT.out.still bs.out.1);have d3:=K (Ε.bu v bs.out.1);have c1:=K (La (cD.out.1.keeps bs.out.1 λ_ _ B=>B) cD.out.2.1.LF cD.out.2.1 cy.out.eE);unfold bM at c1;obtain⟨s,t,u,y⟩:=aj bs.out.2;go_wp2_with fail;refine c1.out.mono ?_;rintro fv r ⟨fi,es⟩;have bF:=K es;clear es s t u y c1;obtain⟨a,fk,rfl,er,hit,ek,cu,d9,b5,eg⟩|⟨e6,ef,rfl,b5⟩:=fi
 .have o:=K (Φ er (Φ hit (Φ ek (Φ cu (Φ d9 b5)))));have d1:η (∀n,fk.ownBlock=N n->w.heap.size<=n):=K λn T=>aJ bs.out.1.size (eg n T);have d0:=K (show aF a.Θ from by unfold aF;omega);obtain⟨aq,ap,rfl, -⟩:=id hit;clear er hit ek cu d9 b5 eg;unfold aK;go_upto_region 4 with fail
  generalize ao:bm r _=ct at*;have a4:η (Y r ct γ/\θ ct r.heap.size 171 #[I E a.Θ,H a.bV,H a.id,H a.src,H a.dst,H a.cE,H a.bQ,H a.dK,I Λ a.h,I E a.bl,ι a.di,V aq a.aM.length ap]):=K (by subst ao;exact⟨(Y.refl r γ).alloc _,θ.new _ _ _⟩);clear ao;have bB:=K (cy.out.still (kk bF.out a4.out.1));have cS:=K (d3.out.still (kk bF.out a4.out.1));have d4:=K (c0.out _ (aJ bs.out.1.size bF.out.size));have d2:=K (nL o.out.2.1 a4.out.1);have d5:=K (FU (bB.out.part .table) (by have:=jl k.out.1;omega) m);have d8:=bB.out.aA.cell 2;simp only[bg,gz_] at d8;go_wp2_with fail;refine d5.out.mono ?_;rintro fv ck ⟨rfl,et⟩;have bN:=K et;clear et d8 d5;have cA:=K (bB.out.still bN.out);have cs:=K (cS.out.still bN.out);have aw:=K (bN.out.blk a4.out.2 λB=>B);cases cv:z.τ.find? (λcg=>dW cg.2 m) with
  |some av=>
   simp only[nK,gx,gK,mX];obtain⟨W,bv,e9⟩:=wo cv;obtain⟨h,b7,_,_,b4⟩:=k.out.1.state av W
   have c:η (Lb w ck e v v z m z av h):=K ⟨cA.out,cs.out,.inl ⟨rfl,W,bv⟩,k.out.1,by omega,W,bv,b7,by
    cases f:h.ae
    .rfl
    have:=b4 f;rw[k.out.2.2] at this;cases this⟩
   have bz:=K (gm k.out.1 W);have cW:=K d4.out;have cI:η (∀b q,Ε ck b v q->aZ b (V aq a.aM.length ap) a.aM):=K λb q a7=>qV (nL d2.out bN.out) a7.keeps λn T _ B=>B (c0.out n (d1.out n T));clear W bv e9 b7 b4 cv;obtain⟨cq,d⟩:=av;simp only at*;have ad:η (∀b q bk,Α b e q bk->bk.ss d.id=N h->Ε ck b v q->(b.cell? (U e.g 7 A)=N (ω (N e.sm))/\(cw 63 (ω (N e.sm)) (I E d.id) false).run δ b= .ok (Ζ h.q) b/\b.cell? (U h.q 0 A)=N (Ζ h.fb)/\b.cell? (U e.g 2 A)=N (Ζ e.tb))/\θ b r.heap.size 171 #[I E a.Θ,H a.bV,H a.id,H a.src,H a.dst,H a.cE,H a.bQ,H a.dK,I Λ a.h,I E a.bl,ι a.di,V aq a.aM.length ap]):=K λb q bk ab b6 a7=>by obtain⟨ex,c8⟩:=ab.gq b6;have cc:=ab.jP bz.out;rw[b6] at cc;exact⟨⟨ab.aA.cell 7,cc,c8.blk.cell 0,ab.aA.cell 2⟩,(bo a7 aw.out cW.out).1⟩
   obtain⟨s,t,u,y,L,M,O,P,R,S,G,J⟩:=aS aw.out;have a0:=K (Kh a (V aq a.aM.length ap) ck);unfold aK at a0;go_wp2_with fail;refine a0.out.mono ?_;rintro f cl ⟨rfl,bd⟩;have a3:=K (c.out.bp.still bd);have a8:=K (Ε.bu v bd);clear bd s t u y L M O P R S G J a0;go_upto_if 57 with fail
   go_cut [] (λco=>∃g,η (Α co e g z/\Ε ck co v g))
   case first=>
    cases fa:BU a
    .have l:=K (Φ a3.out a8.out);go_wp2_with fail;go_meet;exact⟨v,l⟩
    obtain⟨⟨dt,dx,dv,br⟩, -⟩:=ad.out cl v _ a3.out c.out.ss a8.out;have cB:=K (Co a3.out c.out.ss 1 (by decide));go_wp2_with fail;refine cB.out.mono ?_;rintro f fJ ⟨⟨hv,rfl,fs,rfl,_⟩,g,b1,ce⟩;have l:=K (Φ b1 (a8.out.trans ce));clear b1 ce dt dx dv br;go_wp2_with fail;go_meet;exact⟨g,l⟩
   case rest=>
   obtain⟨g,l⟩:=hcut;have b0:η (∀b,Y wc b γ->b.cell? (U r.heap.size 0 A)=N (I E a.Θ)):=K λb cb=>(ad.out b g _ (l.out.1.still cb) c.out.ss (l.out.2.still cb)).2.cell 0;obtain⟨bc,hdm⟩:∃bc,pJ a.Θ=bc:=⟨_,rfl⟩;have X:=K hdm;clear hdm;go_upto_region 13 with fail
   go_region_held3 (λb=>b.cell? (U r.heap.size 0 A)=N (I E a.Θ))
    (with_reducible first|exact b0.out _ a5.out|exact b0.out _ (Y.refl _ γ).drew)
    (first|(go_at_call 101;refine(MN _).mono ?_;rintro f am ⟨fp,fr,rfl,cf,b8⟩;have a5:=K (kk (Y.refl wc γ).drew b8);have be:=cf.look fI (t:=180) oS (R' am) (x:=a.Θ) d0.out;rw[X.out] at be;simp only[cM] at be;clear cf b8))
   have ac:=K (l.out.1.still a5.out);have a9:=K (l.out.2.still a5.out);cases bc with
   |none=>
    have nq:∀b,(binOp .neq 179 .nilFunc .nilFunc).run δ b= .ok (ι false) b:=λb=>by kernel_rfl
    have p:=K (show rI w e v z m Q (ξ (σ #[])) am from⟨rfl,g,z,ac.out,c.out.aW.trans a9.out,.inr (.inr ⟨z,(cq,d),h,a,c.out.binds,c.out.ss,o.out.2.2.2.2.2,.inr ⟨(λf=>by have:=X.out;rw[f,MI] at this;cases this),eJ.refl c.out.inv 200⟩⟩),by have:=c.out.ο;omega⟩);simp only[pj];go_wp2;go_end0
    exact p.out
   |some e7=>
    obtain⟨dc,rfl,e8⟩:=MH X.out;have nq:∀b,(binOp .neq 179 (eK dc) .nilFunc).run δ b= .ok (ι true) b:=λb=>by kernel_rfl
    have a2:=K (rH (ac.out.part .table) d.id bz.out);have bA:η (rq (z.τ.find? λe=>e.2.id==d.id)=Μ #[I E d.id,H d.ψ,H d.ah,H d.ax,I E d.Δ,I E d.aH]/\(z.τ.find? λe=>e.2.id==d.id).isSome=true):=K (by rw[rZ c.out.inv c.out.mem];exact⟨rfl,rfl⟩);rw[bA.out.1,bA.out.2] at a2;obtain⟨⟨-, -, -,br⟩, -⟩:=ad.out am g _ ac.out c.out.ss a9.out;simp only[gK];unfold eK at nq⊢;go_wp2_with fail;refine a2.out.mono ?_;rintro f cn ⟨rfl,b9⟩;have cR:=K b9;clear b9 br a2 be;go_upto_region 16 with fail
    generalize b3:bm cn _=al at*;have a6:=K (show Y am al γ/\θ al cn.heap.size 42 #[I E d.id,H d.ψ,H d.ah,H d.ax,I E d.Δ,I E d.aH] from by subst b3;exact⟨cR.out.alloc _,θ.new _ _ _⟩);clear b3;have bE:=K (ac.out.still a6.out.1);have ba:=K (a9.out.still a6.out.1);have cx:=K (ad.out al g _ bE.out c.out.ss ba.out).2;have cJ:=K (cI.out al g ba.out);have bx:=K (MO bE.out c.out.inv (by have:=c.out.ο;have:=k.out.2.1;omega) c.out.mem c.out.ss c.out.ae (by rw[show d.Δ=m from c.out.Δ];exact a1.out.2.1) o.out.1 cJ.out o.out.2.2.2.1 o.out.2.2.2.2.1 X.out);unfold aK υ.cells at bx;obtain⟨s,t,u,y,L,M,O,P,R,S,G,J⟩:=aS cx.out;obtain⟨dd,dg,dk,dl,dm,dn⟩:=gS a6.out.2;go_wp2_with fail;refine bx.out.mono ?_;rintro f bq ⟨rfl,bi,ds,C,F,bb⟩;have p:=K (show rI w e v z m Q (ξ (σ #[])) bq from⟨rfl,bi,ds,C,(c.out.aW.trans ba.out).trans F,.inr (.inr ⟨z,(cq,d),h,a,c.out.binds,c.out.ss,o.out.2.2.2.2.2,bb⟩),by have:=c.out.ο;have:=bb.NI;omega⟩);clear C F bb s t u y L M O P R S G J dd dg dk dl dm dn;go_wp2;go_end0
    exact p.out
  |none=>
   simp only[nK,vy,pj,tN,υ.zero];have bt:η (∀cg∈z.τ,cg.2.Δ≠m):=K λcg fg f=>by have cu:=lM.1 cv cg fg;apply cu;unfold dW;have:=a1.out.2.1;rw[f,beq_self_eq_true,tB,ahO (show m≠ -1 by omega)];rfl
   clear cv;have e3:=K d4.out;obtain⟨s,t,u,y,L,M,O,P,R,S,G,J⟩:=aS aw.out;cases fd:(a.Θ==10) with
   |true=>
    have fe:a.Θ=10:=beq_iff_eq.1 fd;have e1:η (Q.name≠bD):=K λf=>by have:=acw (o.out.2.2.2.2.2 f);omega
    have d6:=K (ac1 cA.out k.out.1 (by have:=k.out.2.1;omega) an.out.1 a1.out.2.1 a1.out.2.2 bt.out o.out.1 (V aq a.aM.length ap));unfold aK at d6;clear fe;go_wp2_with fail;refine d6.out.mono ?_;rintro f cl ⟨rfl,ft,fE,fo,ch,ea,ev,el,eo,c4⟩
    have p:=K (show rI w e v z m Q (ξ (σ #[])) cl from⟨rfl,ft,fE,ea,cs.out.trans ev,.inr (.inl ⟨e1.out,bt.out,fo,ch,el,eo,c4⟩),by
     obtain rfl|⟨av,h,_,_,rfl⟩:=c4
     .show z.ο+1<=_;omega
     show(gV z av m h).ο+1<=_;rw[NJ];omega⟩)
    clear ea ev el eo c4 s t u y L M O P R S G J;go_wp2;go_end0
    exact p.out
   |false=>
    have ew:=K (VU cA.out k.out.1 (by have:=k.out.2.1;omega) an.out.1 an.out.2.1 an.out.2.2 bt.out);go_wp2_with fail;refine ew.out.mono ?_;rintro f cm (⟨rfl,em,au,b2,bf⟩|⟨rfl,au,bn,b2,bf,c3⟩)
    .have eD:=K b2;have e0:=K (cs.out.trans bf);have e2:=K em;clear b2 bf em s t u y L M O P R S G J;have c2:=K (Af eD.out k.out.1.room (by have:=k.out.2.1;omega) m);go_wp2_with fail;refine c2.out.mono ?_;rintro f bq ⟨rfl,bi,ch,dp,C,F⟩;have p:=K (show rI w e v z m Q (ξ (σ #[])) bq from⟨rfl,bi,_,C,e0.out.trans F,.inl ⟨⟨ch,dp,rfl⟩,λ_=> .inr ⟨bt.out,λf1 fb=>by have:=an.out.1;rw[fb] at this;injection this with this;rw[this];exact e2.out⟩⟩,(by show z.ο+1<=_;omega)⟩);clear C F;go_wp2;go_end0
     exact p.out
    have bw:=tP.bound k.out.1 (by have:=k.out.2.1;omega) an.out.1 an.out.2.1 a1.out.2.1 a1.out.2.2 bt.out c3;obtain⟨av,W,bv,c7,ff,h,b7,b4⟩:=bw.II;have c:η (Lb w cm e v au z m bn av h):=K ⟨b2,cs.out.trans bf,.inr ⟨bt.out,da,an.out.1,c3,W,c7⟩,bw.inv,bw.ο,W,bv,b7,b4⟩;have bz:=K (gm bw.inv W);have cU:=bo bf aw.out e3.out;have aw:=K cU.1;have cW:=K cU.2;have cI:η (∀b q,Ε cm b au q->aZ b (V aq a.aM.length ap) a.aM):=K λb q a7=>qV (nL d2.out bN.out) (bf.trans a7).keeps λn T _ B=>B (c0.out n (d1.out n T));clear bw b2 bf c3 W bv ff b7 b4 cU s t u y L M O P R S G J;obtain⟨cq,d⟩:=av;simp only at*;rw[<-c7];clear c7;have ad:η (∀b q bk,Α b e q bk->bk.ss d.id=N h->Ε cm b au q->(b.cell? (U e.g 7 A)=N (ω (N e.sm))/\(cw 63 (ω (N e.sm)) (I E d.id) false).run δ b= .ok (Ζ h.q) b/\b.cell? (U h.q 0 A)=N (Ζ h.fb)/\b.cell? (U e.g 2 A)=N (Ζ e.tb))/\θ b r.heap.size 171 #[I E a.Θ,H a.bV,H a.id,H a.src,H a.dst,H a.cE,H a.bQ,H a.dK,I Λ a.h,I E a.bl,ι a.di,V aq a.aM.length ap]):=K λb q bk ab b6 a7=>by obtain⟨ex,c8⟩:=ab.gq b6;have cc:=ab.jP bz.out;rw[b6] at cc;exact⟨⟨ab.aA.cell 7,cc,c8.blk.cell 0,ab.aA.cell 2⟩,(bo a7 aw.out cW.out).1⟩
    obtain⟨s,t,u,y,L,M,O,P,R,S,G,J⟩:=aS aw.out;have a0:=K (Kh a (V aq a.aM.length ap) cm);unfold aK at a0;go_wp2_with fail;refine a0.out.mono ?_;rintro f cl ⟨rfl,bd⟩;have a3:=K (c.out.bp.still bd);have a8:=K (Ε.bu au bd);clear bd s t u y L M O P R S G J a0;go_upto_if 57 with fail
    go_cut [] (λco=>∃g,η (Α co e g bn/\Ε cm co au g))
    case first=>
     cases fa:BU a
     .have l:=K (Φ a3.out a8.out);go_wp2_with fail;go_meet;exact⟨au,l⟩
     obtain⟨⟨dt,dx,dv,br⟩, -⟩:=ad.out cl au _ a3.out c.out.ss a8.out;have cB:=K (Co a3.out c.out.ss 1 (by decide));go_wp2_with fail;refine cB.out.mono ?_;rintro f fJ ⟨⟨hv,rfl,fs,rfl,_⟩,g,b1,ce⟩;have l:=K (Φ b1 (a8.out.trans ce));clear b1 ce dt dx dv br;go_wp2_with fail;go_meet;exact⟨g,l⟩
    case rest=>
    obtain⟨g,l⟩:=hcut;have b0:η (∀b,Y wc b γ->b.cell? (U r.heap.size 0 A)=N (I E a.Θ)):=K λb cb=>(ad.out b g _ (l.out.1.still cb) c.out.ss (l.out.2.still cb)).2.cell 0;obtain⟨bc,hdm⟩:∃bc,pJ a.Θ=bc:=⟨_,rfl⟩;have X:=K hdm;clear hdm;go_upto_region 13 with fail
    go_region_held3 (λb=>b.cell? (U r.heap.size 0 A)=N (I E a.Θ))
     (with_reducible first|exact b0.out _ a5.out|exact b0.out _ (Y.refl _ γ).drew)
     (first|(go_at_call 101;refine(MN _).mono ?_;rintro f am ⟨fp,fr,rfl,cf,b8⟩;have a5:=K (kk (Y.refl wc γ).drew b8);have be:=cf.look fI (t:=180) oS (R' am) (x:=a.Θ) d0.out;rw[X.out] at be;simp only[cM] at be;clear cf b8))
    have ac:=K (l.out.1.still a5.out);have a9:=K (l.out.2.still a5.out);cases bc with
    |none=>
     have nq:∀b,(binOp .neq 179 .nilFunc .nilFunc).run δ b= .ok (ι false) b:=λb=>by kernel_rfl
     have p:=K (show rI w e v z m Q (ξ (σ #[])) am from⟨rfl,g,bn,ac.out,c.out.aW.trans a9.out,.inr (.inr ⟨bn,(cq,d),h,a,c.out.binds,c.out.ss,o.out.2.2.2.2.2,.inr ⟨(λf=>by have:=X.out;rw[f,MI] at this;cases this),eJ.refl c.out.inv 200⟩⟩),by have:=c.out.ο;omega⟩);simp only[pj];go_wp2;go_end0
     exact p.out
    |some e7=>
     obtain⟨dc,rfl,e8⟩:=MH X.out;have nq:∀b,(binOp .neq 179 (eK dc) .nilFunc).run δ b= .ok (ι true) b:=λb=>by kernel_rfl
     have a2:=K (rH (ac.out.part .table) d.id bz.out);have bA:η (rq (bn.τ.find? λe=>e.2.id==d.id)=Μ #[I E d.id,H d.ψ,H d.ah,H d.ax,I E d.Δ,I E d.aH]/\(bn.τ.find? λe=>e.2.id==d.id).isSome=true):=K (by rw[rZ c.out.inv c.out.mem];exact⟨rfl,rfl⟩);rw[bA.out.1,bA.out.2] at a2;obtain⟨⟨-, -, -,br⟩, -⟩:=ad.out am g _ ac.out c.out.ss a9.out;simp only[gK];unfold eK at nq⊢;go_wp2_with fail;refine a2.out.mono ?_;rintro f cn ⟨rfl,b9⟩;have cR:=K b9;clear b9 br a2 be;go_upto_region 16 with fail
     generalize b3:bm cn _=al at*;have a6:=K (show Y am al γ/\θ al cn.heap.size 42 #[I E d.id,H d.ψ,H d.ah,H d.ax,I E d.Δ,I E d.aH] from by subst b3;exact⟨cR.out.alloc _,θ.new _ _ _⟩);clear b3;have bE:=K (ac.out.still a6.out.1);have ba:=K (a9.out.still a6.out.1);have cx:=K (ad.out al g _ bE.out c.out.ss ba.out).2;have cJ:=K (cI.out al g ba.out);have bx:=K (MO bE.out c.out.inv (by have:=c.out.ο;have:=k.out.2.1;omega) c.out.mem c.out.ss c.out.ae (by rw[show d.Δ=m from c.out.Δ];exact a1.out.2.1) o.out.1 cJ.out o.out.2.2.2.1 o.out.2.2.2.2.1 X.out);unfold aK υ.cells at bx;obtain⟨s,t,u,y,L,M,O,P,R,S,G,J⟩:=aS cx.out;obtain⟨dd,dg,dk,dl,dm,dn⟩:=gS a6.out.2;go_wp2_with fail;refine bx.out.mono ?_;rintro f bq ⟨rfl,bi,ds,C,F,bb⟩;have p:=K (show rI w e v z m Q (ξ (σ #[])) bq from⟨rfl,bi,ds,C,(c.out.aW.trans ba.out).trans F,.inr (.inr ⟨bn,(cq,d),h,a,c.out.binds,c.out.ss,o.out.2.2.2.2.2,bb⟩),by have:=c.out.ο;have:=bb.NI;omega⟩);clear C F bb s t u y L M O P R S G J dd dg dk dl dm dn;go_wp2;go_end0
     exact p.out
 have f0:(e6==(0:Int))=false:=ahO ef;have eS:=K b5;clear ef b5;unfold aK z0;go_upto_region 3 with fail
 generalize ao:bm r _=ct at*;have a4:η (Y r ct γ):=K (by subst ao;exact(Y.refl r γ).alloc _);clear ao;have bB:=K (cy.out.still (kk bF.out a4.out));have cS:=K (d3.out.still (kk bF.out a4.out));have c2:=K (Af bB.out k.out.1.room (by have:=k.out.2.1;omega) m);go_wp2_with fail;refine c2.out.mono ?_;rintro f bq ⟨rfl,bi,ch,dp,C,F⟩;have p:=K (show rI w e v z m Q (ξ (σ #[])) bq from⟨rfl,bi,_,C,cS.out.trans F,.inl ⟨⟨ch,dp,rfl⟩,λf=> .inl (eS.out f)⟩,(by show z.ο+1<=_;omega)⟩);clear C F;go_wp2;go_end0
 exact p.out
def Km:Ev->Prop
 | .head _ a=>a.length<=1000/\∀c∈a,c.2.length<=10000
 | .item b=>fW b
 | .ak=>True
def Fq(k:Z)(j:Pl)(i:Nat->Option Ν)(b:HS)(c:Int)(h:Cl)(g:Ev)(f:aI)(e:Z):Prop:=
 f=ξ (σ #[])/\∃d a,Α e j d a/\Ε k e i d/\tQ c b g a/\Kn c b a h/\a.ο<=b.ο+1330
theorem X8{a:Cl}{j:Bd}{b:Ev}(i:Υ z)(I:z.ο+3000<=aL)(h:z.cl m=N a)(p:a.bd=N j)(x:bJ z m)(r:(∀C y,b≠.head C y)->nh a)(q:c.ο<=z.ο+300)(l:Α n e s c)(A:Ε w n v s)(g:vD m z b c):ν δ 36 #[Ζ e.g] n (Fq w e v z m a b):=by have k:=(nO i h).1;have d:=vD.stepped i (by omega) h p x r q g;refine(Ca l d.inv d.known (by omega)).mono ?_;rintro H K ⟨rfl,E,G,o,B,f,t,u,F,J⟩;exact⟨rfl,E,G,o,A.trans B,⟨c,g,f⟩,d.done k f t u F,by omega⟩
theorem X9(s:Α w e v z)(ab:Υ z)(aw:bJ z m)(T:z.ο+3000<=aL)(av:z.row=[]){t:Cl}{a6:Bd}(W:z.cl m=N t)(aq:t.bd=N a6){p:Ev}(h:nZ w j (N p) x)(ap:∀a1,j a1->v a1=A)(au:Km p)(X:(∀J bb,p≠.head J bb)->nh t):ν δ 34 #[Ζ e.g,I E m,x] w (Fq w e v z m t p):=by
 have M:η (∀(f:Z) (i:Nat->Option Ν) (L:HS),L.ο<=z.ο+300->Α f e i L->Ε w f v i->vD m z p L->ν δ 36 #[Ζ e.g] f (Fq w e v z m t p)):=K λf i L a8 c d a7=>X8 ab T W aq aw X a8 c d a7;have k:=K (Φ ab (Φ T av));have F:=K W;have a3:=K X;have ao:=K ap;have Q:=K s;have P:=K au;clear ab T av W aq aw X ap s au;match p,h with
 | .head J a4,h=>
  obtain⟨a5,rfl,q⟩:=h;have O:=K q;obtain⟨S,R,rfl⟩:=q.form;clear q;unfold dT;go_enter func34,ntmps34;go_upto_region 3 with fail
  generalize l:bm w _=o at*;have a:η (Y w o γ/\θ o w.heap.size 86 #[I E 1,H (D J.toArray),V S a4.length R,H ⟨([]:Bt).toArray⟩,V A 0 0]):=K (by subst l;exact⟨(Y.refl w γ).alloc _,θ.new _ _ _⟩);clear l;have n:=K (Zf (Q.out.still a.out.1) k.out.1 (by have:=k.out.2.1;omega) F.out (n:=J) (O.out.keeps a.out.1 λ_ _ s=>s) P.out.1 P.out.2 ao.out);unfold we at n;obtain⟨ac,ad,al,am,an⟩:=(pD a.out.2).2;go_wp2_with fail;refine n.out.mono ?_;rintro C f ⟨rfl,i,u,c,d,g⟩
  have r:u.ο<=z.ο+300:=by
   obtain⟨bi,bc,_,rfl⟩|⟨_,be,bf,rfl⟩:=g
   .exact AR _ _
   show z.ο+1<=_;omega
  have y:=K (M.out f i u r c ((Ε.bu v a.out.1).trans d) ⟨t,F.out,g⟩);clear c d g r ac ad al am an;go_wp2_with fail;refine y.out.mono ?_;rintro C a0 b;obtain⟨rfl,_⟩:=id b;have B:=K b;clear b;go_wp2;go_end0
  exact B.out
 | .item G,h=>
  obtain⟨a5,bd,rfl,q⟩:=h;have O:=K q;obtain⟨⟨S,R,rfl⟩,ba,a9,rfl⟩:=q.form;clear q;unfold dT;go_enter func34,ntmps34;go_upto_region 5 with fail
  generalize l:bm w _=o at*;have a:η (Y w o γ/\θ o w.heap.size 86 #[I E 2,H (D G.name.toArray),V S G.Γ.length R,H (D G.Β.toArray),V ba G.Ξ.length a9]):=K (by subst l;exact⟨(Y.refl w γ).alloc _,θ.new _ _ _⟩);clear l;have n:=K (Z' (Q.out.still a.out.1) k.out.1 (by have:=k.out.2.1;omega) k.out.2.2 F.out (a3.out nofun) (O.out.keeps a.out.1 λ_ _ s=>s) P.out ao.out);unfold bM at n;obtain⟨ac,ad,al,am,an⟩:=(pD a.out.2).2;go_wp2_with fail;refine n.out.mono ?_;rintro C f ⟨rfl,i,u,c,d,g,r⟩;have y:=K (M.out f i u r c ((Ε.bu v a.out.1).trans d) g);clear c d g r ac ad al am an;go_wp2_with fail;refine y.out.mono ?_;rintro C a0 b;obtain⟨rfl,_⟩:=id b;have B:=K b;clear b;go_wp2;go_end0
  exact B.out
 | .ak,h=>
  have h:x=_:=h;subst h;unfold dT;go_enter func34,ntmps34;go_upto_region 7 with fail
  generalize l:bm w _=o at*;have a:η (Y w o γ):=K (by subst l;exact(Y.refl w γ).alloc _);clear l;have a2:η (aF m):=K (by have:=nO k.out.1 F.out;unfold aF;omega);have n:=K (Yz (Q.out.still a.out) k.out.1 m a2.out (by have:=k.out.2.1;omega));go_wp2_with fail;refine n.out.mono ?_;rintro C f ⟨rfl,i,u,c,d,g,r⟩;have y:=K (M.out f i u (by omega) c ((Ε.bu v a.out).trans d) g);clear c d g r;go_wp2_with fail;refine y.out.mono ?_;rintro C a0 b;obtain⟨rfl,_⟩:=id b;have B:=K b;clear b;go_wp2;go_end0
  exact B.out
def rF(j:Z)(i:Pl)(h:Nat->Option Ν)(b:HS)(c:Int)(d:BA)(g:aI)(f:Z):Prop:=
 g=ξ (I E (ji b c))/\∃e a,Α f i e a/\Ε j f h e/\(ji b c≠0->a=b)/\(ji b c=0->gL c b d a)/\Υ a/\bJ a (-1)/\ug a/\a.row=[]/\gN c b a/\a.ο<=b.ο+1330*(2*d.size)+2000/\(ji b c=0->tO c b d a)
structure Bf (p:Pl) (w2 wr:Z) (own2 ownr:Nat->Option Ν) (s2 sr:HS) (c:Int) (k0 kr:Cl) (br:Bd) (a b0:Bool) (er:Int) (ts:List aG) (b1:Bd) (j:Nat):Prop where
 bp:Α wr p ownr sr
 aW:Ε w2 wr own2 ownr
 inv:Υ sr
 known:bJ sr (-1)
 row:sr.row=[]
 cl:sr.cl c=N kr
 q:kr.q=k0.q
 rd:kr.rd=k0.rd
 bd:kr.bd=N br
 fK:px a br.aV
 seq:fF a (ts.drop j) b0
 near:gN c s2 sr
 uq:pL b1 (ts.take j)=N br
 rY:∀s',dR er c sr (ts.drop j) s'->dR er c s2 ts s'
 ο:sr.ο<=s2.ο+1330*j
theorem kM.form(a:kM w y j R X n):∃v c b,X=ξ (σ #[v,ι c,I E b])/\A' v/\Y w n j:=by
 match R,a with
 | .inl b,a=>exact⟨_,_,_,a.1,Ic,a.2.2⟩
 | .inr (h,i),⟨v,g,d,e,k,f⟩=>exact⟨_,_,_,d,e.form,f.keeps⟩
theorem kM.later{h:Z}(g:Y w n γ)(s:n.heap.size=w.heap.size)(a:kM n y j R X G)(b:Y G h γ):kM w y j R X h:=by
 match R,a with
 | .inl q,⟨c,l,d⟩=>exact⟨c,l,(g.any.trans d λ_ a=> .inl a).trans b Η⟩
 | .inr (k,r),⟨v,i,c,d,m,e⟩=>
  refine⟨v,i,c,(d.keeps b λ_ _ _ a=>a).mono λq f _=>⟨f.1,f.2.elim .inl λa=> .inr (by omega)⟩,(jf y k).keeps m b λ_ _ a=>a,⟨(g.any.trans e.keeps λ_ a=> .inl a).trans b Η,λp o=> ?_⟩⟩;obtain a|a:=e.fresh p o
  .exact .inl a
  exact .inr (by omega)
theorem Yf(b:Rd)(a:Bt)(e:b.held.length<=512):∃c,fF (!b.within) (cP b a).2 c/\((cP b a).1.err=0->c= !(cP b a).1.within):=by
 by_cases d:(cP b a).1.err=0
 .exact⟨_,(No a e d).1,λ_=>rfl⟩
 exact⟨false,Yg a e,λf=>ahN f d⟩
theorem acJ{f a b c d e:ε}(g:θ w y 86 #[x,i,t,B,f]):θ (((((w.setCell (U y 0 A) a).setCell (U y 1 A) b).setCell (U y 2 A) c).setCell (U y 3 A) d).setCell (U y 4 A) e) y 86 #[a,b,c,d,e]:=
 (((((g.χ 0 a).χ 1 b).χ 2 c).χ 3 d).χ 4 e).to (by simp)
theorem QN{b:Bool}(a:ξ (σ #[x,ι f,I E m])=ξ (σ #[i,ι b,I E C])):x=i/\f=b/\m=C:=by injection a with a;injection a with a;simpa using a
theorem RZ(o:Α w e v z)(g:Υ z)(u:bJ z m){s:Cl}(l:z.cl m=N s)(C:z.ο+1200<=aL):ν δ 35 #[Ζ e.g,I E m] w λj n=>j=ξ (σ #[])/\ν δ 36 #[Ζ e.g] n λk i=>k=ξ (σ #[])/\∃d a b c,Α i e d a/\Ε w i v d/\eh (kg z m b c) a/\Υ a/\bJ a (-1)/\a.row=[]/\a.ο<=z.ο+1100/\a.cl m=A/\gN m z a:=by refine(Af o g.room (by omega) m).mono ?_;rintro j n ⟨rfl,H,b,c,p,x⟩;have h:=RX g (by omega) l u b c;have F:(kg z m b c).ο=z.ο+1:=rfl;refine⟨rfl,(Ca p h.inv h.known (by omega)).mono ?_⟩;rintro k i ⟨rfl,d,a,q,y,f,r,t,B,G⟩;exact⟨rfl,d,a,b,c,q,x.trans y,f,r,t,B,by omega,GG f (nO g l).1 (Eb z m b c),h.near.trans ((eh.dH f).near m)⟩
theorem abh{b:Cl}{c:Bd}(k:bJ z (-1))(j:Υ z)(i:z.row=[])(d:z.cl m=N b)(f:b.bd=N c)(h:c.aV≠[]):nh b:=by
 rcases k m b d (by have:=nO j d;omega) with⟨n,e,_⟩|⟨l,a,g⟩
 .rw[i] at e;cases e
 rw[f] at a;injection a with a;subst a;exact g (.inl h)
theorem agR:prog.underlying 68=N (.pointer 74):=by kernel_rfl
theorem ae8:∃a,prog.info? 74=N a:=by
 cases b:prog.info? 74 with
 |none=>
  have:(prog.info? 74).isSome=true:=by kernel_rfl
  rw[b] at this;cases this
 |some a=>exact⟨a,rfl⟩
theorem Pw(b:Nat)(a:Z):(binOp .neq 68 (Ζ b) (Ζ b)).run δ a= .ok (ι false) a:=by
 obtain⟨f,e⟩:=ae8;have d:∀c:Nat,(Op.equalIn (c+1) 68 (Ζ b) (Ζ b)).run δ a= .ok true a:=λc=>by simp[Op.equalIn,run_underlying agR,sizeOf,typeInfo,e,run_sameAddr_same]
 simp only[binOp];simp[Op.equal,Op.maxDepth,d 9999]
theorem abt(b:Nat)(a:Z):(binOp .neq 68 (π A) (Ζ b)).run δ a= .ok (ι true) a:=by kernel_rfl
theorem adl{a:Bool}(b:fF f [] a):a=true->f=true:=b
theorem XA{ts:List aG}{j:Nat}(a:j<ts.length):ts.drop j=ts[j]::ts.drop (j+1):=List.drop_eq_getElem_cons a
theorem qB{aw:Nat->Option Ν}(l:Α w e aw z)(b1:Υ z)(av:bJ z (-1))(gz:ug z)(ge:z.row=[])(c:Int)(ab:aF c)(j:BA)(gg:j.size<=1000)(J:z.ο+1330*(2*j.size)+8000<=aL):ν δ 10 #[Ζ e.g,I E c,H j] w (rF w e aw z c j):=by
 have fe:=K (NN l c);obtain⟨m0,hm0⟩:∃hx,ji z c=hx:=⟨_,rfl⟩;rw[hm0] at fe;have P:=K hm0;have ba:=K l;have m:=K (Φ b1 (Φ av (Φ gz (Φ ge J))));have ds:=K ab;have fo:=K gg;clear l b1 av gz ge ab gg J hm0;go_enter func10,ntmps10;go_wp2_with fail;refine fe.out.mono ?_;rintro f ib ⟨rfl,rfl⟩;cases ek:(m0==0) with
 |false=>
  have cq:m0≠0:=by intro f;rw[f] at ek;cases ek
  have ap:=K (show rF w e aw z c j (ξ (I E m0)) w from⟨by rw[P.out],aw,z,ba.out,Ε.refl _ _,λ_=>rfl,(λf=>ahN (P.out.symm.trans f) cq),m.out.1,m.out.2.1,m.out.2.2.1,m.out.2.2.2.1,gN.refl _ _,by omega,λf=>ahN (P.out.symm.trans f) cq⟩);clear cq;go_wp2;go_ret;exact ap.out
 |true=>
  have cq:m0=0:=beq_iff_eq.1 ek;subst cq
  have g2:η (∃h,z.cl c=N h):=K (by
   have:=P.out;unfold ji lG at this;split at this
   .cases this
   next h0=>
   split at this
   .next g=>
    simp only[i6,decide_eq_true_eq] at g;have s:=m.out.1.open_ c.toNat (by omega);rw[g.2.2,EJ g.1] at s;exact Option.isSome_iff_exists.1 s.symm
   cases this)
  obtain⟨h,x⟩:=g2.out;have a9:=K x;obtain⟨hK,hJ,bk⟩:=ba.out.uH x;have g3:=K bk;obtain⟨cB,gs,a3,gt,gw⟩:=m.out.2.2.1 c h x;have d6:=K (Φ cB (Φ gs (Φ gt gw)));have M:=ba.out.uL ds.out;rw[x] at M;simp only[gx,gK] at M;have bF:=ba.out.aA.cell 6;simp only[bg,gz_] at bF;have gF:=bk.blk.cell 0;simp only[BM,List.getElem?_toArray,List.getElem?_cons_zero] at gF;have dt:=K (Yd bk.reader (λn J ef=>by have:aw n=N (.cl c):=(bk.ak n).2 (.inr (.inl ef));rw[ba.out.low n J] at this;cases this) ba.out.eE j fo.out);obtain⟨c4,gf,b0⟩:=Yf h.rd j.data.toList cB;have Q:=K (Φ gf (Φ b0 (Φ (Yh j.data.toList cB) (Ye h.rd j.data.toList))));have e5:=K (λa4:(cP h.rd j.data.toList).1.err=0=>(No j.data.toList cB a4).2);have a2:η (j.data.toList.length=j.size):=K (by show j.data.toList.length=j.data.size;simp);have eT:η (∀q,dR (cP h.rd j.data.toList).1.err c (dh z c {h with rd:=(cP h.rd j.data.toList).1}) (cP h.rd j.data.toList).2 q->gL c z j q):=K λq a4=>⟨h,a9.out,a4⟩;clear x bk cB gs gt gw gf b0;obtain⟨ea,eg⟩:∃ea,cP h.rd j.data.toList=ea:=⟨_,rfl⟩;rw[eg] at dt Q e5 eT;obtain⟨an,i⟩:=ea;have e2:=K eg;clear eg;simp only at*;go_wp2_with fail;refine dt.out.mono ?_;rintro f T ⟨v,cb,rfl,hs,f2,fE⟩;obtain⟨O,ck,cs,c6⟩:=hs;have ck:O.map (·.1)=i:=ck;have cs:=bL.mono (S':=λb=>(w.heap.size<=b/\¬cb b)/\b<T.heap.size) cs λb g s=>⟨g,s⟩;have c6:=λe hq=>aU.mono (S':=λb=>(w.heap.size<=b/\¬cb b)/\b<T.heap.size) (c6 e hq) λb g s=>⟨g,s⟩;obtain⟨gR,ev,rfl⟩:=bL.form cs;have hm:O.length=i.length:=by rw[<-ck,dN]
  obtain⟨bq,be,go,f9⟩:=acP ba.out a9.out g3.out f2 fE;have dv:=K be;have c2:=K go;have cf:=K (Φ ck (Φ cs (Φ c6 (λb (o:(w.heap.size<=b/\¬cb b)/\b<T.heap.size)=>f9 b o.1.1 o.1.2))));clear ck cs c6 be go f9 f2 fE M bF gF dt;have y:=K hm;obtain⟨S,hk0⟩:∃S:Cl,S= {h with rd:=an} :=⟨_,rfl⟩;have d1:=K hk0;obtain⟨u,b0⟩:∃u,u=dh z c {h with rd:=an} :=⟨_,rfl⟩;have bc:=K b0;have dv:η (Α T e bq u):=K (by rw[b0];exact dv.out);clear hk0 b0
  have fd:η (Bf e T T bq bq u u c S S a3 (!h.rd.within) c4 an.err i a3 0):=K (by
   have bk:u.cl c=N S:=by rw[bc.out,d1.out];exact bI _ _ _
   refine⟨dv.out,Ε.refl _ _,?_,?_,?_,bk,rfl,rfl,?_,d6.out.2.2.2,Q.out.1,gN.refl _ _,rfl,λq l=>l,by omega⟩
   .rw[bc.out];exact Cq m.out.1 a9.out λn J=>m.out.1.jQ c h n a9.out J
   .rw[bc.out];refine zx (CM (CP m.out.1 m.out.2.1 c) _) λc8 a5=> ?_;have f:c8= {h with rd:=an} :=by have:aP z.cl c (N {h with rd:=an}) c=N c8:=a5;rw[bI] at this;injection this with this;exact this.symm
    rcases m.out.2.1 c h a9.out (by have:=nO m.out.1 a9.out;omega) with⟨b,o,_⟩|⟨n,J,el⟩
    .rw[m.out.2.2.2.1] at o;cases o
    refine .inr ⟨n,by rw[f];exact J,λl=> ?_⟩;rw[f];exact el l
   .rw[bc.out];exact m.out.2.2.2.1
   rw[d1.out];exact d6.out.2.2.1)
  have b9:η (∀q,dR an.err c u i q->gL c z j q):=K (by rw[bc.out];exact eT.out);have d2:=K (show gN c z u from by rw[bc.out];exact C4 _ _ _);have a8:η (u.ο=z.ο):=K (by rw[bc.out];rfl);have ce:η (S.q=h.q/\S.rd=an):=K (by rw[d1.out];exact⟨rfl,rfl⟩);simp only;obtain⟨B,her⟩:∃B,an.err=B:=⟨_,rfl⟩;rw[her] at fd b9⊢;have g6:=K her;clear her;have hU:i.length<=4000:=by have g:=Q.out.2.2.2;have s:=a2.out;have be:=fo.out;omega
  go_wp2;go_loopw [10,39] (λb b1 wr=>∃(d:Nat),d<=O.length/\b1=I E d/\b=I E B/\η (∃cI t p G fp,Bf e T wr bq cI u t c S p G fp c4 B i a3 d)) (λ_ b1 _=>O.length-(aB b1).toNat)
  case atStart=>exact⟨0,by omega,rfl,rfl,K ⟨bq,u,S,a3,_,fd.out⟩⟩
  obtain⟨d,hV,rfl,rfl,e6⟩:=hrel;obtain⟨cI,t,p,G,fp,gd⟩:=e6.out;have a:=K gd;clear gd e6;by_cases ac:d<O.length
  .have ho:(d:Int)<O.length:=by omega
   have fm:η (gQ wr (λb=>(w.heap.size<=b/\¬cb b)/\b<T.heap.size) (V gR O.length ev) i):=K (gQ.keeps (w:=T) ⟨O,cf.out.1,cf.out.2.1,cf.out.2.2.1⟩ a.out.aW.keeps λb o hp=>hp (cf.out.2.2.2 b o))
   have eS:η (∃(et:ε) (n bn:Nat),(V gR O.length ev)=V (N (U n bn A)) O.length ev/\wr.cell? ⟨n,bn+d*4,A⟩=N (I E (i[d]'(by rw[<-y.out];exact ac)).Θ)/\wr.cell? ⟨n,bn+d*4+1,A⟩=N (H ⟨(i[d]'(by rw[<-y.out];exact ac)).name.toArray⟩)/\wr.cell? ⟨n,bn+d*4+2,A⟩=N et/\wr.cell? ⟨n,bn+d*4+3,A⟩=N (H ⟨(i[d]'(by rw[<-y.out];exact ac)).Β.toArray⟩)/\aU wr (λb=>(w.heap.size<=b/\¬cb b)/\b<T.heap.size) et (i[d]'(by rw[<-y.out];exact ac)).Γ):=K (by
    obtain⟨br,f1,hr,hn⟩:=fm.out;have hW:br.length=O.length:=by rw[y.out,<-f1,dN]
    have co:d<br.length:=by omega
    obtain⟨n,bn,_,_,_,⟨hT,hv,_⟩,ab⟩:=hr.cell co;have f:=cT co;obtain⟨hB,t1,t2,t3⟩:=aeJ br d _ f
    have hl:(br[d]'co).1=i[d]'(by rw[<-y.out];exact ac):=by
     have:(br.map (·.1))[d]? =i[d]? :=by rw[f1]
     rw[ml,f,cT (by rw[<-y.out];exact ac)] at this;exact cr this
    refine⟨(br[d]'co).2,n,bn,by injection hv with g s be;rw[g],?_⟩;rw[<-hl];exact⟨ab _ _ hB,ab _ _ t1,ab _ _ t2,ab _ _ t3,hn _ (eA co)⟩)
   have b8:=K (XA (ts:=i) (j:=d) (by rw[<-y.out];exact ac));have hi:=K (show i.take (d+1)=i.take d++[i[d]'(by rw[<-y.out];exact ac)] from lq (by rw[<-y.out];exact ac));have bt:=K (Q.out.2.2.1 _ (eA (l:=i) (n:=d) (by rw[<-y.out];exact ac)));generalize i[d]'(by rw[<-y.out];exact ac)=tk at*;obtain⟨et,h7,h8,hw,y0,hC,hD,hE,em⟩:=eS.out;have hc:=K em;obtain⟨dg,dd,rfl⟩:=em.form;injection hw with en ht hu;clear ht hu em eS fm;subst en;obtain⟨ha,ao,f5⟩:=a.out.bp.uH a.out.cl;have a0:=K f5;clear f5;go_upto_region 9 with fail
   generalize f3:bm wr _=k at*;have a1:η (Y wr k γ/\θ k wr.heap.size 81 #[I E tk.Θ,H (D tk.name.toArray),V dg tk.Γ.length dd,H (D tk.Β.toArray)]/\k.heap.size=wr.heap.size+1):=K (by subst f3;exact⟨(Y.refl wr γ).alloc _,θ.new _ _ _,by simp⟩);clear f3 y0 hC hD hE;have e3:=K (a.out.bp.still a1.out.1);have dp:η (∀b,ao b->b<wr.heap.size):=K λb o=>a0.out.lt b ((a0.out.ak b).2 (.inr (.inr o)));have fi:η (p.q=h.q):=K (a.out.q.trans ce.out.1);have he:η (∀r,Y k r ao->r.cell? (U h.q 1 A)=N (Ζ p.bb)/\r.cell? (U wr.heap.size 0 A)=N (I E tk.Θ)/\r.cell? (U wr.heap.size 1 A)=N (H (D tk.name.toArray))/\r.cell? (U wr.heap.size 2 A)=N (V dg tk.Γ.length dd)/\r.cell? (U wr.heap.size 3 A)=N (H (D tk.Β.toArray))):=K λr c9=>by have n:=c9.blk a1.out.2.1 λl=>AS _ (dp.out _ l);have dc:=(c9.blk (a1.out.1.blk a0.out.blk id) a0.out.q2).cell 1;rw[fi.out] at dc;exact⟨dc,n.cell 0,n.cell 1,n.cell 2,n.cell 3⟩
   have hh:η (∀r,Y k r γ->ν δ 33 #[Ζ p.bb,Μ #[I E tk.Θ,H (D tk.name.toArray),V dg tk.Γ.length dd,H (D tk.Β.toArray)]] r (kM r p.bb ao (fR G tk))):=K λr c9=>by have f4:=a0.out.builder;rw[a.out.bd] at f4;have gn:=kk a1.out.1 c9;refine Uq ((jf _ _).keeps f4 gn λ_ _ l=>l) (a.out.inv.jQ c p G a.out.cl a.out.bd) tk (hc.out.keeps gn λ_ _ l=>l) (λb o ef=> ?_) (by have:=bt.out.bP;omega) (by have:=bt.out.Β;omega);have g:cI b=N (.cl c):=(a0.out.ak b).2 (.inr (.inr ef));have s:=(a.out.aW.free o.2 (cf.out.2.2.2 b o)).2;rw[g] at s;cases s
   have c1:=K (Y.refl k γ).drew;have c0:=K (show Y k (bm k (ζ #[I E 0,H (D #[]),V A 0 0,H (D #[]),V A 0 0] 86)).drew γ from((Y.refl k γ).alloc _).drew);have g1:=K (show θ (bm k (ζ #[I E 0,H (D #[]),V A 0 0,H (D #[]),V A 0 0] 86)).drew k.heap.size 86 #[I E 0,H (D #[]),V A 0 0,H (D #[]),V A 0 0] from(θ.new _ _ _).drew);have g8:η (¬ao k.heap.size):=K λl=>by have:=dp.out _ l;have:=a1.out.2.2;omega
   have g7:η (∀b,ao b->b<k.heap.size):=K λb l=>by have:=dp.out _ l;have:=a1.out.2.2;omega
   have hf:η (k.heap.size<(bm k (ζ #[I E 0,H (D #[]),V A 0 0,H (D #[]),V A 0 0] 86)).drew.heap.size):=K (by simp);have hg:η (k.drew.heap.size=k.heap.size):=K rfl;go_cut [13,14,15] (λhy hz hA gW=>∃(ex:Nat) (bz:Int) (bA:Bt) (bx:Option ay) (bw bv:Nat) (bB:Bt) (b3:Option ay) (av b2:Nat) (bE:Bool) (b:Int),hy=Ζ ex/\hz=ι bE/\hA=I E b/\η (kM k p.bb ao (fR G tk) (ξ (σ #[Μ #[I E bz,H (D bA.toArray),V bx bw bv,H (D bB.toArray),V b3 av b2],ι bE,I E b])) gW/\θ gW ex 86 #[I E bz,H (D bA.toArray),V bx bw bv,H (D bB.toArray),V b3 av b2]))
   case first=>
    go_region_held3 (λr=>r.cell? (U h.q 1 A)=N (Ζ p.bb)/\r.cell? (U wr.heap.size 0 A)=N (I E tk.Θ)/\r.cell? (U wr.heap.size 1 A)=N (H (D tk.name.toArray))/\r.cell? (U wr.heap.size 2 A)=N (V dg tk.Γ.length dd)/\r.cell? (U wr.heap.size 3 A)=N (H (D tk.Β.toArray)))
     (first|(refine he.out _ ?_;(with_reducible first|exact d9.out|exact Y.alloc d9.out _|exact Y.bG (Y.bG (Y.bG (Y.bG (Y.bG d9.out cc.out) cc.out) cc.out) cc.out) cc.out|exact c1.out.any|exact c0.out.any)))
     (first|(go_at_call 33;refine(hh.out _ (by with_reducible first|exact c1.out|exact c0.out)).mono ?_;rintro h6 cR dk;obtain⟨ia,bE,b,rfl,⟨bz,bA,bx,bw,bv,bB,b3,av,b2,rfl⟩,gl⟩:=kM.form dk;unfold dT at dk;unfold dT;have cc:=K (Ο k.heap.size);have d9:η (Y k cR ao):=K (Y.trans (Y.any (by with_reducible first|exact c1.out|exact c0.out)) gl λ_ l=> .inl l);have fn:=K dk;clear dk;(first|(have dl:=K (gl.blk g1.out g8.out))|(have dl:=K (θ.new cR 86 #[I E 0,H (D #[]),V A 0 0,H (D #[]),V A 0 0])));have hk:=pD dl.out;obtain⟨b4,hO,hP,hQ,hR,hS⟩:=hk;have h1:=b4 0 (by decide);have h2:=b4 1 (by decide);have h3:=b4 2 (by decide);have h4:=b4 3 (by decide);have h5:=b4 4 (by decide);clear b4))
    all_goals
     go_wp2_with fail;go_meet
     first
      |(refine⟨k.heap.size,bz,bA,bx,bw,bv,bB,b3,av,b2,bE,b,rfl,rfl,rfl,?_⟩;with_reducible exact K ⟨kM.after g7.out c0.out.any (Ο _) hf.out fn.out (Y.five (Y.refl cR _)),acJ dl.out⟩)
      |(refine⟨cR.heap.size,bz,bA,bx,bw,bv,bB,b3,av,b2,bE,b,rfl,rfl,rfl,?_⟩;with_reducible exact K ⟨kM.later c1.out hg.out fn.out (Y.alloc (Y.refl cR _) _),θ.new _ _ _⟩)
   case rest=>
   obtain⟨ex,bz,bA,bx,bw,bv,bB,b3,av,b2,bE,b,rfl,rfl,rfl,dx⟩:=hcut;have e0:η (lr k p (of cI (.cl c)) ha ao):=K (a0.out.stay λb o=>a1.out.1.block b (a0.out.lt b o) id);have fb:=K (a.out.aW.still a1.out.1);cases L:fR G tk with
   |inl ic=>have e7:=K L;have g:=dx.out.1;rw[L] at g;obtain⟨g,gk,gc⟩:=g;obtain⟨-,rfl,rfl⟩:=QN g;obtain⟨da,R,cx⟩:=acN e3.out a.out.cl e0.out gc;have f6:(dh t c {p with bd:=A}).cl c=N {p with bd:=A} :=bI _ _ _;have d8:=K (RZ R (Cq a.out.inv a.out.cl nofun) (CM (CP a.out.inv a.out.known c) _) f6 (by have g:=a.out.ο;have s:=a8.out;have be:=m.out.2.2.2.2;have bN:=Q.out.2.2.2;have R:=a2.out;show t.ο+1200<=aL;omega));have c3:=K (c2.out.trans (fb.out.trans cx));have hX:(b==(0:Int))=false:=ahO gk;clear g gc R cx f6 gk L;go_wp2_with fail;refine d8.out.mono ?_;rintro f b7 ⟨rfl,cm⟩;have d0:=K cm;clear cm;go_wp2_with fail;refine d0.out.mono ?_;rintro f ew ⟨rfl,eq,b6,er,es,bf,cy,cg,ct,cu,cJ,cn,bi,cD⟩;have W:=(d2.out.trans (a.out.near.trans ((C4 t c _).trans cD)));have ap:=K (show rF w e aw z c j (ξ (I E 0)) ew from⟨by rw[P.out],eq,b6,bf,c3.out.trans cy,(λf=>ahN P.out f),λ_=>b9.out _ (a.out.rY _ (by rw[b8.out];exact .bad t b6 p G tk _ b er es a.out.cl a.out.bd e7.out cg)),ct,cu,W.fK m.out.2.2.1 (λh x=>by rw[bi] at x;cases x),cJ,W,by have g:=a.out.ο;have s:=a8.out;have bN:=Q.out.2.2.2;have R:=a2.out;have cn:b6.ο<=t.ο+1100:=cn;omega,λ_=>Gn bi⟩);clear bf cy cg ct cu cJ cn bi cD W;go_wp2;go_ret;exact ap.out
   |inr hj=>
    obtain⟨X,au⟩:=hj;have e7:=K L;have eD:η (pL a3 (i.take (d+1))=N X):=K (by rw[hi.out];exact MV a.out.uq L);have g:=dx.out.1;rw[L] at g;obtain⟨h9,g9,g,f8,fJ,fv⟩:=g;obtain⟨en,rfl,rfl⟩:=QN g;subst en;obtain⟨da,R,cx,ga⟩:=acK e3.out a.out.cl e0.out fJ fv;have d7:=a.out.inv.jQ c p G a.out.cl a.out.bd;have fg:=aew d7 (by have:=bt.out.Β;omega) L;have aq:=a.out.seq;rw[b8.out] at aq;have bb:=K (abq d7.deep a.out.fK bt.out aq.2.1 L);have fk:=K aq.2.2;obtain⟨ad,hki⟩:∃ad:Cl,ad= {p with bd:=N X} :=⟨_,rfl⟩;have hM:=K hki;obtain⟨C,hsi⟩:∃C,C=dh t c ad:=⟨_,rfl⟩;have hN:=K hsi;have cU:η (Α wc e da C):=K (by rw[hsi,hki];exact R);have c3:=K (fb.out.trans cx);have cS:η (C.cl c=N ad):=K (by rw[hsi];exact bI _ _ _);have e8:η (Υ C):=K (by rw[hsi];exact Cq a.out.inv a.out.cl λn J=>by rw[hki] at J;injection J with J;subst J;exact fg);have e9:η (bJ C c):=K (by rw[hsi];exact CM (CP a.out.inv a.out.known c) _);have ff:η ((∀cA cv,au≠N (.head cA cv))->nh ad):=K λl=>by have:=abh a.out.known a.out.inv a.out.row a.out.cl a.out.bd (aex L l);rw[hki];exact this
    have al:η (ad.bd=N X/\ad.q=h.q/\ad.rd=S.rd):=K (by rw[hki];exact⟨rfl,fi.out,a.out.rd⟩);have bs:η (C.row=[]/\C.ο=t.ο):=K (by rw[hsi];exact⟨a.out.row,rfl⟩);have d5:η (gN c u C):=K (by rw[hsi];exact a.out.near.trans (C4 t c ad));have e4:=K (Φ f8 (λb (o:¬g9 b/\(ao b\/k.heap.size<=b))=>ga b o.2 o.1))
    have dn:η (∀q,(au=A->dR B c C (i.drop (d+1)) q->dR B c u i q)/\(∀am a7,au=N am->tQ c C am a7->((a7.cl c).isSome=true->dR B c a7 (i.drop (d+1)) q->dR B c u i q)/\(a7.cl c=A->dR B c u i a7))):=K λq=>by
     have f0:∀ch,tQ c C ch=tQ c (dh t c {p with bd:=N X}) ch:=λch=>by rw[hsi,hki]
     refine⟨λa4 c7=>a.out.rY _ (by rw[b8.out];exact .step t q p G X tk _ a.out.cl a.out.bd (by rw[L,a4]) (by rw[hsi,hki] at c7;exact c7)),λam a7 a4 a6=>⟨λab c7=>a.out.rY _ (by rw[b8.out];rw[f0] at a6;exact .Ch t a7 q p G X am tk _ a.out.cl a.out.bd (by rw[L,a4]) a6 ab c7),λab=>a.out.rY _ (by rw[b8.out];rw[f0] at a6;exact .gone t a7 p G X am tk _ a.out.cl a.out.bd (by rw[L,a4]) a6 ab)⟩⟩
    clear g f8 fJ fv R cx ga d7 fg aq hki hsi L;cases au with
    |none=>
     have d3:η (Bf e T wc bq da u C c S ad X (decide (tk.Θ≠3)) c4 B i a3 (d+1)):=K {
      bp:=cU.out
      aW:=c3.out
      inv:=e8.out
      known:=zx e9.out λc8 a5=>by rw[cS.out] at a5;injection a5 with a5;subst a5;exact Hs al.out.1 (ff.out nofun)
      row:=bs.out.1
      cl:=cS.out
      q:=al.out.2.1.trans ce.out.1.symm
      rd:=al.out.2.2
      bd:=al.out.1
      fK:=bb.out.1
      seq:=fk.out
      near:=d5.out
      uq:=eD.out
      rY:=λq=>(dn.out q).1 rfl
      ο:=by rw[bs.out.2];have:=a.out.ο;omega}
     have bF:=cU.out.aA.cell 6;simp only[bg,gz_] at bF;have M:=cU.out.uL ds.out;rw[cS.out] at M;simp only[gx,gK] at M;rw[al.out.2.1] at M;have gB:=Pw h.q wc;simp only[tN];go_wp2;go_roundw
     case rel=>exact⟨d+1,by omega,by go_num,rfl,K ⟨da,C,ad,X,_,d3.out⟩⟩
     case measure=>simp[aB];omega
    |some au=>
     have g5:η (Km au):=K (by
      match au,bb with
      | .head cA cv,bb=>obtain⟨-,ch⟩:=bb.out.2.2 cA cv rfl;subst ch;exact⟨by have:=bt.out.bP;omega,λb o=>by have:=(bt.out.Γ b o).2;omega⟩
      | .item f,bb=>exact bb.out.2.1 f rfl
      | .ak,_=>trivial)
     have g4:=K (X9 cU.out e8.out e9.out (by rw[bs.out.2];have g:=a.out.ο;have s:=a8.out;have be:=m.out.2.2.2.2;have bN:=Q.out.2.2.2;have R:=a2.out;omega) bs.out.1 cS.out al.out.1 e4.out.1 (λb o=>e4.out.2 b o) g5.out (λl=>ff.out λcA cv f=>l cA cv (cr f)));obtain⟨-,z0,hF,hG,hH,hI⟩:=pD dx.out.2;simp only[mX];go_wp2_with fail;refine g4.out.mono ?_;rintro f b7 ⟨rfl,eo,b5,c5,gr,fs,ft,gb⟩;have cW:=K c5;have fa:=K (c3.out.trans gr);have F:=K (Φ fs (Φ ft gb));clear c5 gr fs ft gb z0 hF hG hH hI;have bF:=cW.out.aA.cell 6;simp only[bg,gz_] at bF;have M:=cW.out.uL ds.out;obtain hc6|⟨k6,hc6,hsc,el⟩:=F.out.2.1.own
     .have hL:=K hc6;rw[hc6] at M;simp only[vy,pj] at M;have W:=(d2.out.trans (d5.out.trans F.out.2.1.near));have ap:=K (show rF w e aw z c j (ξ (I E 0)) b7 from⟨by rw[P.out],eo,b5,cW.out,c2.out.trans fa.out,(λf=>ahN P.out f),λ_=>b9.out _ (((dn.out b5).2 au b5 rfl F.out.1).2 hc6),F.out.2.1.inv,F.out.2.1.known,W.fK m.out.2.2.1 (λh x=>by rw[hc6] at x;cases x),F.out.2.1.row,W,by have g:=a.out.ο;have s:=a8.out;have bN:=Q.out.2.2.2;have R:=a2.out;have c5:=F.out.2.2;have bf:=bs.out.2;omega,λ_=>Gn hc6⟩);clear W hc6;have gB:=abt h.q b7;go_wp2;go_ret;exact ap.out
     have d3:η (Bf e T b7 bq eo u b5 c S k6 X (decide (tk.Θ≠3)) c4 B i a3 (d+1)):=K {
      bp:=cW.out
      aW:=fa.out
      inv:=F.out.2.1.inv
      known:=F.out.2.1.known
      row:=F.out.2.1.row
      cl:=hc6
      q:=hsc.q.trans (al.out.2.1.trans ce.out.1.symm)
      rd:=hsc.rd.trans al.out.2.2
      bd:=hsc.bd.trans al.out.1
      fK:=bb.out.1
      seq:=fk.out
      near:=d5.out.trans F.out.2.1.near
      uq:=eD.out
      rY:=λq=>((dn.out q).2 au b5 rfl F.out.1).1 (by rw[hc6];rfl)
      ο:=by have g:=a.out.ο;have c5:=F.out.2.2;have bf:=bs.out.2;omega}
     rw[hc6] at M;simp only[gx,gK] at M;rw[hsc.q,al.out.2.1] at M;clear hc6 hsc el;have gB:=Pw h.q b7;go_wp2;go_roundw
     case rel=>exact⟨d+1,by omega,by go_num,rfl,K ⟨eo,b5,k6,X,_,d3.out⟩⟩
     case measure=>simp[aB];omega
  have ho:¬(d:Int)<O.length:=by omega
  have dm:η (i.drop d=[]):=K (List.drop_eq_nil_of_le (by rw[<-y.out];omega));have aq:=a.out.seq;rw[dm.out] at aq;have aq:=K (adl aq);have W:=K (d2.out.trans a.out.near);cases ec:(B==0) with
  |true=>have f7:B=0:=beq_iff_eq.1 ec;have e1:=K f7;have hd:η (FQ p):=K (by have a6:p.rd=an:=a.out.rd.trans ce.out.2;have eb:an.err=0:=g6.out.trans e1.out;refine⟨by rw[a6];exact e5.out eb,by rw[a6];exact eb,G,a.out.bd,?_⟩;rw[a6,<-Q.out.2.1 eb];exact a.out.fK.to aq.out);have g0:η (tO c z j t):=K (λc8 a5=>by have am:=a.out.cl;rw[a5] at am;injection am with am;subst am;have tk:i.take d=i:=mo (by rw[<-y.out];omega);have fr:=a.out.uq;rw[tk] at fr;exact⟨h,a3,G,a9.out,d6.out.2.2.1,by rw[e2.out];exact fr,a.out.bd,by rw[e2.out];exact a.out.rd.trans ce.out.2⟩);have ap:=K (show rF w e aw z c j (ξ (I E 0)) wr from⟨by rw[P.out],cI,t,a.out.bp,c2.out.trans a.out.aW,(λf=>ahN P.out f),λ_=>b9.out _ (a.out.rY _ (by rw[dm.out];exact .done t e1.out)),a.out.inv,a.out.known,W.out.fK m.out.2.2.1 (λh x=>by have:=a.out.cl;rw[x] at this;injection this with this;rw[this];exact hd.out),a.out.row,W.out,by have g:=a.out.ο;have s:=a8.out;have bN:=Q.out.2.2.2;have R:=a2.out;omega,λ_=>g0.out⟩);clear f7;go_wp2;go_ret;exact ap.out
  |false=>have hb:η (B≠0):=K (by intro f;rw[f] at ec;cases ec);have d8:=K (RZ a.out.bp a.out.inv (CP a.out.inv a.out.known c) a.out.cl (by have g:=a.out.ο;have s:=a8.out;have be:=m.out.2.2.2.2;have bN:=Q.out.2.2.2;have R:=a2.out;omega));go_wp2_with fail;refine d8.out.mono ?_;rintro f b7 ⟨rfl,cm⟩;have d0:=K cm;clear cm;go_wp2_with fail;refine d0.out.mono ?_;rintro f ew ⟨rfl,eq,b6,er,es,bf,cy,cg,ct,cu,cJ,cn,bi,cD⟩;have d4:=W.out.trans cD;have ap:=K (show rF w e aw z c j (ξ (I E 0)) ew from⟨by rw[P.out],eq,b6,bf,c2.out.trans (a.out.aW.trans cy),(λf=>ahN P.out f),λ_=>b9.out _ (a.out.rY _ (by rw[dm.out];exact .fail t b6 er es hb.out cg)),ct,cu,d4.fK m.out.2.2.1 (λh x=>by rw[bi] at x;cases x),cJ,d4,by have g:=a.out.ο;have s:=a8.out;have bN:=Q.out.2.2.2;have R:=a2.out;omega,λ_=>Gn bi⟩);clear bf cy cg ct cu cJ cn bi cD d4;go_wp2;go_ret;exact ap.out
structure mz where
 Θ:Int
 Δ:Int
 n:Int
 Β:BA
 dv:ε
def oP(a:mz):List ε:=[I E a.Θ,I E a.Δ,I E a.n,H a.Β,a.dv]
theorem Rv(a:Z):ν δ 6 #[] a λf e=>∃d,f=ξ (V (N (U d 0 A)) 4 4)/\lT e d/\Y a e γ:=by
 go_enter func6,ntmps6;go_wp2;go_ret;have c:=θ.new a 9 #[H dY,H eV,H cy,H aO];refine⟨a.heap.size,rfl,λb g=> ?_,(Y.refl a γ).alloc _⟩;refine⟨?_,c.frozen b⟩;have:=c.cell b;match b,g with
 |0,_=>exact this
 |1,_=>exact this
 |2,_=>exact this
 |3,_=>exact this
theorem Jr(a:Int):0<=IntKind.u64.wrap a/\IntKind.u64.wrap a<18446744073709551616:=by simp[IntKind.wrap,IntKind.bits,IntKind.signed];omega
def oD(a:Int):Int:=wrap64 ((IntKind.u64.wrap a).tmod 6)
theorem aal(a:Int):0<=oD a/\oD a<6:=by
 unfold oD;have b:=Jr a;rw[EI b.1];have c:0<=(IntKind.u64.wrap a)%6/\(IntKind.u64.wrap a)%6<6:=by omega
 generalize(IntKind.u64.wrap a)%6=r at c⊢;unfold wrap64;omega
theorem Oq(a:Z)(c d e f:ε)(b:Int):ν δ 12 #[Μ #[I E b,c,d,e,f]] a λg h=>g=ξ (I E (oD b))/\Y a h γ:=by go_enter func12,ntmps12;go_wp2;go_ret;exact⟨rfl,(Y.refl a γ).alloc _⟩
def yW(a:Option υ):ε:=Μ (a.getD υ.zero).cells
def pw(d:Z)(a:Option υ)(b:aI)(c:Z):Prop:=b=ξ (σ #[yW a,ι a.isSome])/\Y d c γ
theorem abT(C:Α w e v z)(g:Υ z)(d:Int):ν δ 14 #[Ζ e.g,I E d] w (pw w ((cH z).find? λa=>a.Δ==d)):=by
 have k:Y w (w.alloc (ζ #[I E 0,H (D #[]),H (D #[]),H (D #[]),I E 0,I E 0] 42)) γ:=(Y.refl w γ).alloc _;have x:=K (yB (C.still k) g);have a7:(cH z).length<=16:=by unfold cH;rw[dN];exact jl g
 have a3:=K (show(cH z).find? (λa=>a.Δ==d)=(cH z).find? (λa=>a.Δ==d) from rfl);generalize a5:cH z=b at*;have P:=K k;have t:=K (θ.new w 42 #[I E 0,H (D #[]),H (D #[]),H (D #[]),I E 0,I E 0]);clear C g k;go_enter func14,ntmps14;go_wp2_with fail;refine x.out.mono ?_;rintro a4 au ⟨bd,rfl,F,l,al⟩;have L:=K F;have u:=K (kk P.out l);have M:=K (l.blk t.out id);obtain⟨bc,bb,rfl,_⟩:=F;clear l al x t;go_wp2;go_loopw [7] (λg wr=>wr=au/\∃c:Nat,c<=b.length/\g=I E c/\η ((b.take c).find? (λa=>a.Δ==d)=A)) (λg _=>b.length-(aB g).toNat)
 case atStart=>exact⟨rfl,0,by omega,rfl,K rfl⟩
 obtain⟨rfl,c,a6,rfl,h⟩:=hrel;have f:=M.out;obtain⟨z0,av,aw,a0,a1,a2⟩:=gS f;have T:=f.frozen 0;have W:=f.frozen 1;have X:=f.frozen 2;have ab:=f.frozen 3;have ac:=f.frozen 4;have ad:=f.frozen 5;have B:=K f;clear f;by_cases G:c<b.length
 .have am:(c:Int)<b.length:=by omega
  obtain⟨a8,ba,a9,an,y0,be,bf,bi,bk,bn⟩:=L.out.at_ G;injection an with ao aq ap;clear aq;subst ao ap;have y:=K (show b.take (c+1)=b.take c++[b[c]] from lq G);have S:=K (AQ (c+1) b);generalize b[c]=a at*;cases J:(a.Δ==d) with
  |false=>
   have R:η ((b.take (c+1)).find? (λa=>a.Δ==d)=A):=K (by rw[y.out,rD,h.out];simp[J]);clear z0 av aw a0 a1 a2 T W X ab ac ad;go_wp2;go_roundw
   case rel=>exact⟨trivial,c+1,by omega,by go_num,R⟩
   case measure=>simp[aB];omega
  |true=>have O:η (b.find? (λa=>a.Δ==d)=N a):=K (by rw[<-S.out,y.out,vm,rD,h.out];simp[J]);go_wp2;have j:=zF (a':=I E a.id) (b':=H a.ψ) (c':=H a.ah) (d':=H a.ax) (e':=I E a.Δ) (f':=I E a.aH) B.out;have m:=(((((((u.out).bG (k:=w.heap.size) (i:=0) (u:=(I E a.id)) (Ο _)).bG (k:=w.heap.size) (i:=1) (u:=(H a.ψ)) (Ο _)).bG (k:=w.heap.size) (i:=2) (u:=(H a.ah)) (Ο _)).bG (k:=w.heap.size) (i:=3) (u:=(H a.ax)) (Ο _)).bG (k:=w.heap.size) (i:=4) (u:=(I E a.Δ)) (Ο _)).bG (k:=w.heap.size) (i:=5) (u:=(I E a.aH)) (Ο _));obtain⟨n,o,p,q,r,s⟩:=gS j;have i:=K (show pw w (b.find? (λa=>a.Δ==d)) (ξ (σ #[Μ #[I E a.id,H a.ψ,H a.ah,H a.ax,I E a.Δ,I E a.aH],ι true])) _ from⟨by rw[O.out];rfl,m⟩);refine Ω (v:=σ #[Μ #[I E a.id,H a.ψ,H a.ah,H a.ax,I E a.Δ,I E a.aH],ι true]) (by simp[ag,results14,go_sem,n,o,p,q,r,s]) rfl ?_;exact i.out
 have am:¬(c:Int)<b.length:=by omega
 have Q:η (b.find? (λa=>a.Δ==d)=A):=K (by have:=h.out;rwa [mo (by omega)] at this);go_wp2;have j:=zF (a':=I E 0) (b':=H (D #[])) (c':=H (D #[])) (d':=H (D #[])) (e':=I E 0) (f':=I E 0) B.out;have m:=(((((((u.out).bG (k:=w.heap.size) (i:=0) (u:=(I E 0)) (Ο _)).bG (k:=w.heap.size) (i:=1) (u:=(H (D #[]))) (Ο _)).bG (k:=w.heap.size) (i:=2) (u:=(H (D #[]))) (Ο _)).bG (k:=w.heap.size) (i:=3) (u:=(H (D #[]))) (Ο _)).bG (k:=w.heap.size) (i:=4) (u:=(I E 0)) (Ο _)).bG (k:=w.heap.size) (i:=5) (u:=(I E 0)) (Ο _));obtain⟨n,o,p,q,r,s⟩:=gS j;have i:=K (show pw w (b.find? (λa=>a.Δ==d)) (ξ (σ #[Μ #[I E 0,H (D #[]),H (D #[]),H (D #[]),I E 0,I E 0],ι false])) _ from⟨by rw[Q.out];rfl,m⟩);refine Ω (v:=σ #[Μ #[I E 0,H (D #[]),H (D #[]),H (D #[]),I E 0,I E 0],ι false]) (by simp[ag,results14,go_sem,n,o,p,q,r,s]) rfl ?_;exact i.out
theorem ado(C:Α w e v z)(g:Υ z)(d:Int):ν δ 18 #[Ζ e.g,I E d] w (pw w ((cH z).find? λa=>a.id==d)):=by
 have k:Y w (w.alloc (ζ #[I E 0,H (D #[]),H (D #[]),H (D #[]),I E 0,I E 0] 42)) γ:=(Y.refl w γ).alloc _;have x:=K (yB (C.still k) g);have a7:(cH z).length<=16:=by unfold cH;rw[dN];exact jl g
 have a3:=K (show(cH z).find? (λa=>a.id==d)=(cH z).find? (λa=>a.id==d) from rfl);generalize a5:cH z=b at*;have P:=K k;have t:=K (θ.new w 42 #[I E 0,H (D #[]),H (D #[]),H (D #[]),I E 0,I E 0]);clear C g k;go_enter func18,ntmps18;go_wp2_with fail;refine x.out.mono ?_;rintro a4 au ⟨bd,rfl,F,l,al⟩;have L:=K F;have u:=K (kk P.out l);have M:=K (l.blk t.out id);obtain⟨bc,bb,rfl,_⟩:=F;clear l al x t;go_wp2;go_loopw [7] (λg wr=>wr=au/\∃c:Nat,c<=b.length/\g=I E c/\η ((b.take c).find? (λa=>a.id==d)=A)) (λg _=>b.length-(aB g).toNat)
 case atStart=>exact⟨rfl,0,by omega,rfl,K rfl⟩
 obtain⟨rfl,c,a6,rfl,h⟩:=hrel;have f:=M.out;obtain⟨z0,av,aw,a0,a1,a2⟩:=gS f;have T:=f.frozen 0;have W:=f.frozen 1;have X:=f.frozen 2;have ab:=f.frozen 3;have ac:=f.frozen 4;have ad:=f.frozen 5;have B:=K f;clear f;by_cases G:c<b.length
 .have am:(c:Int)<b.length:=by omega
  obtain⟨a8,ba,a9,an,y0,be,bf,bi,bk,bn⟩:=L.out.at_ G;injection an with ao aq ap;clear aq;subst ao ap;have y:=K (show b.take (c+1)=b.take c++[b[c]] from lq G);have S:=K (AQ (c+1) b);generalize b[c]=a at*;cases J:(a.id==d) with
  |false=>
   have R:η ((b.take (c+1)).find? (λa=>a.id==d)=A):=K (by rw[y.out,rD,h.out];simp[J]);clear z0 av aw a0 a1 a2 T W X ab ac ad;go_wp2;go_roundw
   case rel=>exact⟨trivial,c+1,by omega,by go_num,R⟩
   case measure=>simp[aB];omega
  |true=>have O:η (b.find? (λa=>a.id==d)=N a):=K (by rw[<-S.out,y.out,vm,rD,h.out];simp[J]);go_wp2;have j:=zF (a':=I E a.id) (b':=H a.ψ) (c':=H a.ah) (d':=H a.ax) (e':=I E a.Δ) (f':=I E a.aH) B.out;have m:=(((((((u.out).bG (k:=w.heap.size) (i:=0) (u:=(I E a.id)) (Ο _)).bG (k:=w.heap.size) (i:=1) (u:=(H a.ψ)) (Ο _)).bG (k:=w.heap.size) (i:=2) (u:=(H a.ah)) (Ο _)).bG (k:=w.heap.size) (i:=3) (u:=(H a.ax)) (Ο _)).bG (k:=w.heap.size) (i:=4) (u:=(I E a.Δ)) (Ο _)).bG (k:=w.heap.size) (i:=5) (u:=(I E a.aH)) (Ο _));obtain⟨n,o,p,q,r,s⟩:=gS j;have i:=K (show pw w (b.find? (λa=>a.id==d)) (ξ (σ #[Μ #[I E a.id,H a.ψ,H a.ah,H a.ax,I E a.Δ,I E a.aH],ι true])) _ from⟨by rw[O.out];rfl,m⟩);refine Ω (v:=σ #[Μ #[I E a.id,H a.ψ,H a.ah,H a.ax,I E a.Δ,I E a.aH],ι true]) (by simp[ag,results18,go_sem,n,o,p,q,r,s]) rfl ?_;exact i.out
 have am:¬(c:Int)<b.length:=by omega
 have Q:η (b.find? (λa=>a.id==d)=A):=K (by have:=h.out;rwa [mo (by omega)] at this);go_wp2;have j:=zF (a':=I E 0) (b':=H (D #[])) (c':=H (D #[])) (d':=H (D #[])) (e':=I E 0) (f':=I E 0) B.out;have m:=(((((((u.out).bG (k:=w.heap.size) (i:=0) (u:=(I E 0)) (Ο _)).bG (k:=w.heap.size) (i:=1) (u:=(H (D #[]))) (Ο _)).bG (k:=w.heap.size) (i:=2) (u:=(H (D #[]))) (Ο _)).bG (k:=w.heap.size) (i:=3) (u:=(H (D #[]))) (Ο _)).bG (k:=w.heap.size) (i:=4) (u:=(I E 0)) (Ο _)).bG (k:=w.heap.size) (i:=5) (u:=(I E 0)) (Ο _));obtain⟨n,o,p,q,r,s⟩:=gS j;have i:=K (show pw w (b.find? (λa=>a.id==d)) (ξ (σ #[Μ #[I E 0,H (D #[]),H (D #[]),H (D #[]),I E 0,I E 0],ι false])) _ from⟨by rw[Q.out];rfl,m⟩);refine Ω (v:=σ #[Μ #[I E 0,H (D #[]),H (D #[]),H (D #[]),I E 0,I E 0],ι false]) (by simp[ag,results18,go_sem,n,o,p,q,r,s]) rfl ?_;exact i.out
structure fc (s:HS):Prop where
 inv:Υ s
 known:bJ s (-1)
 fK:ug s
 row:s.row=[]
structure iR (s s':HS):Prop where
 cl:s'.cl 12=s.cl 12\/s'.cl 12=A
 whole:(s.Κ 12).br=false->(s.Κ 12).left= -1->(s'.Κ 12).br=false/\(s'.Κ 12).left= -1
theorem iR.refl(a:HS):iR a a:=⟨.inl rfl,λb c=>⟨b,c⟩⟩
theorem iR.trans{b:HS}(d:iR z b)(f:iR b c):iR z c:=
 ⟨f.cl.elim (λe=>d.cl.elim (λa=> .inl (e.trans a)) λa=> .inr (e.trans a)) .inr,λg v=>f.whole (d.whole g v).1 (d.whole g v).2⟩
theorem df.kept(a:df z c):iR z c:=⟨a.cl 12,a.whole 12 (by decide)⟩
theorem gN.kept(a:gN m z c)(b:m<12):iR z c:=⟨a.cl 12 (by omega),a.whole 12 (by decide)⟩
def rP(h:Z)(g:Pl)(f:Nat->Option Ν)(c:HS)(Ι:Int)(e:aI)(d:Z):Prop:=
 e=ξ (σ #[])/\∃b a,Α d g b a/\Ε h d f b/\fc a/\iR c a/\a.Ι=Ι/\a.ο<=c.ο+1610000
theorem ad4(g:fc z)(y:0<=m/\m<8)(q:vB w e v z m X n):∃i b,Α n e i b/\Ε w n v i/\fc b/\iR z b/\b.Ι=z.Ι/\b.ο<=z.ο+1610000:=by
 obtain⟨rfl,i,b,r,x,s,t⟩:=q;refine⟨i,b,r,x,?_⟩;by_cases e0:(at_ ep z.Κ m).1=0
 .obtain⟨d,f,c,rfl⟩:=t e0;obtain⟨_,_,_,u⟩:=C9 z.Κ m e0;have j:∀a,a≠m->(lx (jR z m) m d f c).cl a=z.cl a:=λa h=>bU _ _ _ h;refine⟨⟨Cr g.inv e0 d f c,Hr g.known m d f c,λa l k=> ?_,g.row⟩,⟨.inl (j 12 (by omega)),λo p=> ?_⟩,rfl,(by show z.ο+1<=_;omega)⟩
  .by_cases h:a=m
   .subst h;have:N (jj d f c)=N l:=(bI z.cl a (N (jj d f c))).symm.trans k;injection this with this;subst this;exact⟨ai _,rfl,_,rfl,trivial⟩
   exact g.fK a l ((j a h).symm.trans k)
  have:(lx (jR z m) m d f c).Κ 12=z.Κ 12:=by show(at_ ep z.Κ m).2 12=z.Κ 12;rw[u,WB (by omega)]
  rw[this];exact⟨o,p⟩
 rw[s e0,abY e0];exact⟨g,iR.refl z,rfl,by omega⟩
theorem Qq{n:Int}(a:fc z)(d:0<=m/\m<8):fc (uy z m n)/\iR z (uy z m n):=by refine⟨⟨ZQ a.inv m n,a.known,a.fK,a.row⟩,.inl rfl,λb c=> ?_⟩;have:(uy z m n).Κ 12=z.Κ 12:=(Gu z.Κ m n 12).2.2.2 (by omega);rw[this];exact⟨b,c⟩
theorem ad5(d:fc z)(i:A9 w e v z m X n):∃b a,Α n e b a/\Ε w n v b/\fc a/\iR z a/\a.Ι=z.Ι/\a.ο<=z.ο+1610000:=by
 obtain⟨rfl,b,a,j,r,k,l,x⟩:=i;refine⟨b,a,j,r,?_⟩;by_cases e0:ji z m=0
 .obtain⟨⟨u,h⟩,o,p,t⟩:=l e0;have q:=eh.dH h;have s:df z (vZ z m u):=⟨rfl,λ_=> .inl rfl,λ_ _ f g=>⟨f,g⟩⟩;have c:=s.trans q;exact⟨⟨o,p,c.fK d.fK,t⟩,c.kept,c.Ι,by omega⟩
 rw[k e0];exact⟨d,iR.refl z,rfl,by omega⟩
theorem ad3(l:0<=m/\m<8)(q:p.size<=600)(d:rF w e v z m p X n):∃b a,Α n e b a/\Ε w n v b/\fc a/\iR z a/\a.Ι=z.Ι/\a.ο<=z.ο+1610000:=by obtain⟨rfl,b,a,f,i,_,_,g,h,j,k,c,o,_⟩:=d;exact⟨b,a,f,i,⟨g,h,j,k⟩,c.kept (by omega),c.Ι,by omega⟩
theorem ad8(g:fc z)(h:Ga w e v z m X n):∃c a,Α n e c a/\Ε w n v c/\fc a/\iR z a/\a.Ι=m/\a.ο<=z.ο+1610000:=by
 obtain⟨rfl,c,a,i,k,b,l⟩:=h;refine⟨c,a,i,k,⟨b.inv,b.known,λf j d=> ?_,b.row⟩,⟨b.cl 12,b.whole 12 (by decide)⟩,b.Ι,by omega⟩;obtain X|X:=b.cl f
 .exact g.fK f j (X.symm.trans d)
 rw[X] at d;cases d
theorem IY(a:fc z)(v:ε)(b:List Int):fc (fj z v b)/\iR z (fj z v b):=⟨⟨Hi a.inv v b,a.known,a.fK,a.row⟩,.inl rfl,λc d=>⟨c,d⟩⟩
theorem Qs(g:Α w e v z)(ab:fc z){x:mz}(ae:0<=x.Δ/\x.Δ<8)(ag:x.n<=9223372036854775807)(ai:x.Β.size<=600){L:List Int}(S:uk w x.dv L)(af:L.length<=100){Ι:Int}(ah:if oD x.Θ=4 then z.Ι<=Ι/\Ι<=1000000 else Ι=z.Ι)(ad:z.ο+1610000+10000<=aL):ν δ 13 #[Ζ e.g,Μ (oP x).toArray,I E Ι] w (rP w e v z Ι):=by
 obtain⟨F,r,G,N,aI⟩:=x;unfold oP;simp only at*;obtain⟨ac,Q,P,rfl,aB⟩:=id S;have M:Y w (w.alloc (ζ #[I E F,I E r,I E G,H N,V Q L.length P] 37)) γ:=(Y.refl w γ).alloc _;have aq:=K (g.still M);have av:=K (Ε.bu v M);have s:=K (θ.new w 37 #[I E F,I E r,I E G,H N,V Q L.length P]);have d:=K ab;have h:=K (Φ ad (Φ ae (Φ ai (Φ af ag))));have ar:=K (zZ S M λ_ _ g=>g);have O:=K (show aF r from by unfold aF;omega);clear g ab S aB ac M;generalize T:oD F=J at*;have aw:=aal F;rw[T] at aw;have aa:=K (λax ay r aA y=>Oq ax ay r aA y F);rw[T] at aa;have u:=K ah;clear ah T ad ae ai af ag;go_enter func13,ntmps13;go_upto_region 1 with fail
 generalize(w.alloc (ζ #[I E F,I E r,I E G,H N,V Q L.length P] 37))=aC at*;have z0:=s.out.cell 0;have am:=s.out.cell 1;have an:=s.out.cell 2;have ao:=s.out.cell 3;have ap:=s.out.cell 4;simp only[gz_] at z0 am an ao ap;go_wp2_with fail;refine(aa.out aC _ _ _ _).mono ?_;rintro y al ⟨rfl,A⟩;have B:=K (aq.out.still A);have C:=K (av.out.still A);have au:=K (zZ ar.out A λ_ _ g=>g);have aD:=(A.blk s.out λg=>g).cell 1;have aE:=(A.blk s.out λg=>g).cell 2;have aG:=(A.blk s.out λg=>g).cell 3;have aH:=(A.blk s.out λg=>g).cell 4;simp only[gz_] at aD aE aG aH;clear z0 am an ao ap A;have az:J=0\/J=1\/J=2\/J=3\/J=4\/J=5:=by omega
 obtain rfl|rfl|rfl|rfl|rfl|rfl:=az
 .have i:=K (ye B.out r O.out (by have:=h.out.1;omega));have q:η (Ι=z.Ι):=K (by have:=u.out;simpa using this);go_wp2_with fail;refine i.out.mono ?_;rintro y f a;have t:=K a;obtain⟨rfl, -⟩:=id a;clear a;have j:=K (show rP w e v z Ι (ξ (σ #[])) f from by obtain⟨c,b,l,o,k,n,p,m⟩:=ad4 d.out h.out.2.1 t.out;exact⟨rfl,c,b,l,C.out.trans o,k,n,p.trans q.out.symm,m⟩);go_wp2;go_end0
  exact j.out
 .have i:=K (qB B.out d.out.inv d.out.known d.out.fK d.out.row r O.out N (by have:=h.out.2.2.1;omega) (by have ac:=h.out.1;have aJ:=h.out.2.2.1;omega));have q:η (Ι=z.Ι):=K (by have:=u.out;simpa using this);go_wp2_with fail;refine i.out.mono ?_;rintro y f a;have t:=K a;obtain⟨rfl, -⟩:=id a;clear a;have j:=K (show rP w e v z Ι (ξ (σ #[])) f from by obtain⟨c,b,l,o,k,n,p,m⟩:=ad3 h.out.2.1 h.out.2.2.1 t.out;exact⟨rfl,c,b,l,C.out.trans o,k,n,p.trans q.out.symm,m⟩);go_wp2;go_end0
  exact j.out
 .have i:=K (Tg B.out d.out.inv d.out.known r O.out (by have:=h.out.1;omega));have q:η (Ι=z.Ι):=K (by have:=u.out;simpa using this);go_wp2_with fail;refine i.out.mono ?_;rintro y f a;have t:=K a;obtain⟨rfl, -⟩:=id a;clear a;have j:=K (show rP w e v z Ι (ξ (σ #[])) f from by obtain⟨c,b,l,o,k,n,p,m⟩:=ad5 d.out t.out;exact⟨rfl,c,b,l,C.out.trans o,k,n,p.trans q.out.symm,m⟩);go_wp2;go_end0
  exact j.out
 .have i:=K (Sx B.out r G h.out.2.2.2.2);have q:η (Ι=z.Ι):=K (by have:=u.out;simpa using this);go_wp2_with fail;refine i.out.mono ?_;rintro y f a;have t:=K a;obtain⟨rfl,X,R,W⟩:=id a;clear a;have j:=K (show rP w e v z Ι (ξ (σ #[])) f from by obtain⟨c,b,l,o,k,n,p,m⟩:=(show ∃c b,Α f e c b/\Ε al f v c/\fc b/\iR z b/\b.Ι=z.Ι/\b.ο<=z.ο+1610000 from⟨X,_,R,W,(Qq (n:=G) d.out h.out.2.1).1,(Qq (n:=G) d.out h.out.2.1).2,rfl,AR _ _⟩);exact⟨rfl,c,b,l,C.out.trans o,k,n,p.trans q.out.symm,m⟩);go_wp2;go_end0
  exact j.out
 .have i:=K (Us B.out d.out.inv d.out.known d.out.row (n:=Ι) (by have:=u.out;simp at this;exact this.1) (by have:=u.out;simp at this;exact this.2) (by have:=h.out.1;omega));have q:η (z.Ι<=Ι/\Ι<=1000000):=K (by have:=u.out;simpa using this);go_wp2_with fail;refine i.out.mono ?_;rintro y f a;have t:=K a;obtain⟨rfl, -⟩:=id a;clear a;have j:=K (show rP w e v z Ι (ξ (σ #[])) f from by obtain⟨c,b,l,o,k,n,p,m⟩:=ad8 d.out t.out;exact⟨rfl,c,b,l,C.out.trans o,k,n,p,m⟩);go_wp2;go_end0
  exact j.out
 have i:=K (Kk B.out au.out h.out.2.2.2.1);have q:η (Ι=z.Ι):=K (by have:=u.out;simpa using this);go_wp2_with fail;refine i.out.mono ?_;rintro y f a;have t:=K a;obtain⟨rfl,X,ak,aj,R,W⟩:=id a;clear a;have j:=K (show rP w e v z Ι (ξ (σ #[])) f from by obtain⟨c,b,l,o,k,n,p,m⟩:=(show ∃c b,Α f e c b/\Ε al f v c/\fc b/\iR z b/\b.Ι=z.Ι/\b.ο<=z.ο+1610000 from⟨X,_,R,W,(IY d.out ak aj).1,(IY d.out ak aj).2,rfl,AR _ _⟩);exact⟨rfl,c,b,l,C.out.trans o,k,n,p.trans q.out.symm,m⟩);go_wp2;go_end0
 exact j.out
def fz:Bt:=[115,116,114,101,97,109]
structure Tr (s:HS):Prop where
 inv:Υ s
 hl:qE s
 row:s.row=[]
structure bT (s:HS) (T:List (BA×BA×Int)) (F:BA->BA->Sd) (G:BA->BA->Option BA):Prop where
 dV:Tr s
 τ:s.τ.map (λp=>(p.2.ψ,p.2.ah,p.2.Δ))=T
 aX:s.aE.aX=F
 aR:s.aE.aR=G
def Cs(f:HS)(c:Int)(g d:BA):Prop:=∃a b e,f.cl c=N a/\a.ψ=g/\a.ah=d/\a.rd=cQ/\a.bd=N ⟨[b],e,false⟩/\b.name=fz
theorem Ie(e:El)(a:Nat)(d:a<=100):oe ⟨[e],a,false⟩:=⟨d,by simp,λb=>by simp at b,λf c=>by simp at c⟩
theorem Dy{b:List (BA×BA×Int)}(a:bT z b S l){e k':Cl}(d:z.cl m=N e)(f:∀c,k'.bd=N c->oe c):bT (dh z m k') b S l:=
 ⟨⟨Cq a.dV.inv d f,⟨a.dV.hl.Κ,a.dV.hl.front⟩,a.dV.row⟩,a.τ,a.aX,a.aR⟩
theorem GH(b:eh z c)(e:z.row=[]):c=z:=by
 cases b with
 |nil _ _=>rfl
 |cons _ j _ d _=>obtain⟨f,g,h,i,a,_⟩:=d;rw[e] at a;cases a
theorem Cc(a:dR 0 m z [] c):c=z:=by
 cases a with
 |done _ _=>rfl
 |fail _ _ _ _ b _=>exact ahN rfl b
theorem MW{p:aG}{j:Cl}{k l:Bd}(r:dR m C z (p::O) c)(t:z.cl C=N j)(s:j.bd=N k)(h:fR k p= .inr (l,A)):dR m C (dh z C {j with bd:=N l}) O c:=by
 have i:∀ {e:Cl} {f:Bd},z.cl C=N e->e.bd=N f->e=j/\f=k:=by intro e f b d;rw[t] at b;injection b with b;subst b;rw[s] at d;injection d with d;exact⟨rfl,d.symm⟩
 cases r with
 |step _ _ e f n _ _ b d a g=>obtain⟨rfl,rfl⟩:=i b d;rw[h] at a;injection a with a;injection a with a o;subst a;exact g
 |Ch _ u _ e f n q _ _ b d a g o w=>obtain⟨rfl,rfl⟩:=i b d;rw[h] at a;cases a
 |gone _ u e f n q _ _ b d a g o=>obtain⟨rfl,rfl⟩:=i b d;rw[h] at a;cases a
 |bad _ _ e f _ _ B x y b d a g=>obtain⟨rfl,rfl⟩:=i b d;rw[h] at a;cases a
theorem GM{r:aG}{k:Cl}{l o:Bd}{q:Ev}(t:dR m C z (r::O) c)(x:z.cl C=N k)(w:k.bd=N l)(i:fR l r= .inr (o,N q)):∃f,tQ C (dh z C {k with bd:=N o}) q f/\((f.cl C=A/\c=f)\/((f.cl C).isSome=true/\dR m C f O c)):=by
 have j:∀ {e:Cl} {g:Bd},z.cl C=N e->e.bd=N g->e=k/\g=l:=by intro e g a b;rw[x] at a;injection a with a;subst a;rw[w] at b;injection b with b;exact⟨rfl,b.symm⟩
 cases t with
 |step _ _ e g p _ _ a b d h=>obtain⟨rfl,rfl⟩:=j a b;rw[i] at d;cases d
 |Ch _ f _ e g p s _ _ a b d h n u=>
  obtain⟨rfl,rfl⟩:=j a b;rw[i] at d;cases d
  exact⟨f,h,.inr ⟨n,u⟩⟩
 |gone _ f e g p s _ _ a b d h n=>
  obtain⟨rfl,rfl⟩:=j a b;rw[i] at d;cases d
  exact⟨c,h,.inl ⟨n,rfl⟩⟩
 |bad _ _ e g _ _ F y B a b d h=>obtain⟨rfl,rfl⟩:=j a b;rw[i] at d;cases d
theorem XG{p:aG}{i:Cl}{j:Bd}{x:Int}(r:dR m C z (p::O) c)(u:z.cl C=N i)(t:i.bd=N j)(k:fR j p= .inl x):∃l n,eh (kg (dh z C {i with bd:=A}) C l n) c:=by
 have h:∀ {e:Cl} {f:Bd},z.cl C=N e->e.bd=N f->e=i/\f=j:=by intro e f a b;rw[u] at a;injection a with a;subst a;rw[t] at b;injection b with b;exact⟨rfl,b.symm⟩
 cases r with
 |step _ _ e f o _ _ a b d g=>obtain⟨rfl,rfl⟩:=h a b;rw[k] at d;cases d
 |Ch _ w _ e f o q _ _ a b d g s y=>obtain⟨rfl,rfl⟩:=h a b;rw[k] at d;cases d
 |gone _ w e f o q _ _ a b d g s=>obtain⟨rfl,rfl⟩:=h a b;rw[k] at d;cases d
 |bad _ _ e f _ _ B l n a b d g=>obtain⟨rfl,rfl⟩:=h a b;exact⟨l,n,g⟩
theorem aac{e:cp}(u:Υ z)(g:Q.name=bD)(k:eu Q=N e)(t:e.Θ=1)(i:h∈z.τ)(f:h.2.Δ=m)(n:m≠ -1)(a:qH z m Q c):∃d,z.ss h.2.id=N d/\pB z c h.2 d e/\c.ο<=z.ο+101:=by
 obtain⟨_,a⟩|⟨a,_⟩|⟨A,w,d,x,o,r,s,b⟩:=a
 .obtain a|⟨a,_⟩:=a g
  .rw[k] at a;cases a
  exact ahN f (a h i)
 .exact ahN g a
 obtain⟨rfl,q,j⟩|⟨p,_⟩:=o
 .have:=u.iq w q h i (j.trans f.symm) (by rw[j];exact n);subst this;have l:x=e:=by have:=s g;rw[k] at this;injection this with this;exact this.symm
  subst l;obtain⟨_,_,b,y⟩|⟨b,_⟩:=b
  .exact⟨d,r,b,by omega⟩
  exact ahN t b
 exact ahN f (p h i)
theorem aab{j:cp}{b:Cl}(H:Υ z)(k:Q.name=bD)(q:eu Q=N j)(G:j.Θ=1)(p:z.cl m=N b)(n:aN b.ah=true)(x:∀d∈z.τ,d.2.Δ≠m)(w:du (jM z b.ψ) b.ah=false)(L:(z.τ.filter λI=>same I.2.ψ b.ψ).length<4)(a:qH z m Q c):∃h d f,pB (jI z h (eL z b.ψ b.ah m) (fq d f)) c (eL z b.ψ b.ah m) (fq d f) j/\c.ο<=z.ο+101:=by
 obtain⟨_,a⟩|⟨a,_⟩|⟨O,l,r,J,e,E,F,g⟩:=a
 .obtain a|⟨_,a⟩:=a k
  .rw[q] at a;cases a
  have:=a b p;rw[n] at this;cases this
 .exact ahN k a
 have s:J=j:=by have:=F k;rw[q] at this;injection this with this;exact this.symm
 subst s;obtain⟨rfl,B,C⟩|⟨_,M,i,⟨K,h,d,f,_,u,_,e⟩,A,hid⟩:=e
 .exact ahN C (x l B)
 rw[p] at i;injection i with i;subst i;have:=u n;subst this;obtain⟨_,_,rfl⟩|⟨e,_⟩|⟨_,e,_⟩:=e
 .have y:l=(h,eL z b.ψ b.ah m):=by
   obtain a|a:=dO.1 A
   .have:=H.bj l a;omega
   exact cj.1 a
  subst y;have t:r=fq d f:=by have:N (fq d f)=N r:=(bI z.ss _ _).symm.trans E;injection this with this;exact this.symm
  subst t;obtain⟨_,_,g,o⟩|⟨g,_⟩:=g
  .exact⟨h,d,f,g,by have o:c.ο<=z.ο+1+100:=o;omega⟩
  exact ahN G g
 .rw[w] at e;cases e
 omega
theorem Qy{d:List (BA×BA×Int)}(a:bT z d S l)(b:ci z c):bT c d S l/\c.cl=z.cl:=
 ⟨⟨⟨b.inv a.dV.inv,b.NK a.dV.hl,(b.jK a.dV.hl a.dV.inv).trans a.dV.row⟩,by rw[b.τ];exact a.τ,by rw[b.aE];exact a.aX,by rw[b.aE];exact a.aR⟩,b.cl⟩
theorem acA{g:List (BA×BA×Int)}(b:bT z g S l){e:υ}(k:z.ss e.id=N J){d:cp}(i:d.dst=eS)(h:d.bV=eS)(r:d.cE.size<=40)(a:pB z c e J d):bT c g S l/\c.cl=z.cl/\∃f,c.ss e.id=N f/\f.iK=true:=by
 obtain⟨_,_,a⟩|⟨_,j,_⟩|⟨a,_⟩|⟨_,a,_⟩:=a
 .have m:bT (lH z e.id J true d.cE) g S l:=⟨⟨Cv b.dV.inv k true r,Zh b.dV.hl k true _,b.dV.row⟩,b.τ,b.aX,b.aR⟩;obtain⟨n,o⟩:=Qy m a;obtain⟨f,p,q⟩:=a.sT (bI z.ss e.id (N {J with iK:=true,Β:=d.cE}));exact⟨n,o,f,p,(uB q).2.2.2.2.1⟩
 .rw[h] at j;exact ahN j (by decide)
 .exact ahN ⟨i,h⟩ a
 exact ahN ⟨i,h⟩ a
def jc(d:BA->BA->Sd)(e:BA->BA->Option BA)(c b:BA)(a:Int):BA->BA->Sd:=(iS (oz ⟨d,e,λ_=>0⟩ c b a) c b a).aX
def jd(d:BA->BA->Sd)(e:BA->BA->Option BA)(c b:BA)(a:Int):BA->BA->Option BA:=(iS (oz ⟨d,e,λ_=>0⟩ c b a) c b a).aR
theorem UK(d:BA->BA->Sd)(e:BA->BA->Option BA)(v:BA->Int)(c b:BA)(a:Int):(iS (oz ⟨d,e,v⟩ c b a) c b a).aX=jc d e c b a/\(iS (oz ⟨d,e,v⟩ c b a) c b a).aR=jd d e c b a:=by unfold jc jd oz;split<;>exact⟨rfl,rfl⟩
theorem acy{f:List (BA×BA×Int)}(d:bT z f S l){b:υ}{e:cp}(j:e.dst≠eS)(r:iF e.dst=true)(s:gy e.dst=eS)(k:fZ e.dst=p)(h:dr e.bV=m)(o:0<m)(t:cG ⟨S,l,λ_=>0⟩ b.ψ p (fl m) (m==1)=0)(a:pB z c b J e):bT c f (jc S l b.ψ p m) (jd S l b.ψ p m)/\c.cl=z.cl:=by
 have i:z.aE=⟨S,l,z.aE.bl⟩:=by rw[<-d.aX,<-d.aR]
 have u:cG z.aE b.ψ p (fl m) (m==1)=0:=by rw[i];exact t
 obtain⟨a,_⟩|⟨a,_⟩|⟨_,_,_,_,_,w,a⟩|⟨_,_,a⟩:=a
 .exact ahN a j
 .exact ahN a j
 .rw[k,h] at a;have g:=UK S l z.aE.bl b.ψ p m;rw[<-i] at g;have q:bT (qO z (mh (ul z b.ψ p m) w)) f (jc S l b.ψ p m) (jd S l b.ψ p m):=⟨⟨Cp d.dV.inv _,Zg d.dV.hl _,d.dV.row⟩,d.τ,g.1,g.2⟩;have n:=Qy q a;exact⟨n.1,n.2⟩
 refine ahN ⟨r,s,?_,?_⟩ a
 .rw[h];exact o
 rw[h,k];exact u
theorem aei{i:List (BA×BA×Int)}(b:bT z i S l)(e h f:Nat){u d:BA}{c:Int}(p:z.ο<aL)(t:u∈us)(r:aN d=true)(m:0<=c)(n:c<16)(q:(z.cl c).isSome=true)(s:∀g∈z.τ,g.2.Δ≠c)(o:(z.τ.filter λg=>same g.2.ψ u).length<4):bT (jI z e (eL z u d c) (fq h f)) (i++[(u,d,c)]) S l:=by
 refine⟨⟨Hh b.dV.inv e h f p t r m n q s o,⟨b.dV.hl.Κ,λk w a=> ?_⟩,b.dV.row⟩,?_,b.aX,b.aR⟩
 .have a:aP z.ss (z.last+1) (N (fq h f)) k=N w:=a;by_cases j:k=z.last+1
  .subst j;rw[bI] at a;injection a with a;subst a;exact⟨rfl,rfl⟩
  rw[bU _ _ _ j] at a;exact b.dV.hl.front _ _ a
 show(z.τ++[(e,eL z u d c)]).map _=_;rw[lP,b.τ];rfl
def bC:BA:=(D #[111,119,110])
def WV:Bt:=[117,115,101,114]
def WO:Bt:=[100,101,118,105,99,101]
def WU:Bt:=[116,121,112,101]
def WQ:Bt:=[116,111]
def qM(b a:Bt):At:=[(WV,b),(WO,a)]
def nz(a b:Bt):At:=[(WU,a),(WQ,b)]
def nD:Bt:=[115,117,98,115,99,114,105,98,101]
def nE:Bt:=[115,117,98,115,99,114,105,98,101,100]
abbrev TT:=List (BA×BA×Int)
theorem aem{c:TT}(e:z.τ.map (λa=>(a.2.ψ,a.2.ah,a.2.Δ))=c)(b:BA):(z.τ.filter λa=>same a.2.ψ b).length=(c.filter λd=>same d.1 b).length/\jM z b=(c.filter λd=>same d.1 b).map (·.2.1):=by subst e;unfold jM uR;rw[List.filter_map,dN,tM,tM];exact⟨rfl,rfl⟩
def ng(b:TT)(c e:BA)(d:Int):Bool:=(b.all λa=> !(a.2.2==d))&& !du ((b.filter λa=>same a.1 c).map (·.2.1)) e&&decide ((b.filter λa=>same a.1 c).length<4)
theorem Qd{o w:TT}{I:cp}(an:bT z o S l)(am:Cs z m p L)(aE:p∈us)(P:aN L=true)(ai:0<=m)(ak:m<16)(aI:z.ο<aL)(ab:eu (.mk bD W [] [])=N I)(ac:I.Θ=1)(i:((p,L,m)∈o/\w=o)\/(ng o p L m=true/\w=o++[(p,L,m)]))(x:dR 0 m z (⟨1,bD,W,[]⟩::⟨2,bD,[],[]⟩::O) c):∃f q s ae,bT f w S l/\(∀d,d≠m->f.cl d=z.cl d)/\Cs f m p L/\f.ss s.id=N ae/\s.ψ=p/\s.ah=L/\pB f q s ae I/\(∃r,(r,s)∈f.τ)/\q.ο<=z.ο+101/\(q.row=[]->(q.cl m=A/\c=q)\/dR 0 m q O c):=by
 obtain⟨j,a,aF,T,X,V,aw,av,aB⟩:=am;have t1:fR ⟨[a],aF,false⟩ ⟨1,bD,W,[]⟩= .inr (⟨[.mk bD W [] [],a],1,false⟩,A):=rfl;have ag:=MW x T av t1;have au:(dh z m {j with bd:=N ⟨[.mk bD W [] [],a],1,false⟩}).cl m=N {j with bd:=N ⟨[.mk bD W [] [],a],1,false⟩} :=bI _ _ _;have t2:fR ⟨[.mk bD W [] [],a],1,false⟩ ⟨2,bD,[],[]⟩= .inr (⟨[a],2,false⟩,N (.item (.mk bD W [] []))):=rfl;obtain⟨aK,Q,hend⟩:=GM ag au rfl t2;obtain⟨k,hk2⟩:∃k:Cl,k= {j with bd:=N ⟨[a],2,false⟩} :=⟨_,rfl⟩;obtain⟨b,hs2⟩:∃b,b=dh z m k:=⟨_,rfl⟩
 have aC:dh (dh z m {j with bd:=N ⟨[.mk bD W [] [],a],1,false⟩}) m {j with bd:=N ⟨[a],2,false⟩} =b:=by
  rw[hs2,hk2];unfold dh
  congr 1
  funext d;unfold aP;by_cases e:d=m
  .rw[ahM e,ahM e]
  rw[WB e,WB e];exact WB e
 have aD:dh (dh z m {j with bd:=N ⟨[.mk bD W [] [],a],1,false⟩}) m {{j with bd:=N ⟨[.mk bD W [] [],a],1,false⟩} with bd:=N ⟨[a],2,false⟩} =b:=aC;rw[aD] at Q;have B:b.cl m=N k:=by rw[hs2];exact bI _ _ _
 have h:bT b o S l:=by rw[hs2];refine Dy an T λr t=> ?_;rw[hk2] at t;injection t with t;subst t;exact Ie a 2 (by decide)
 have Z:∀d,d≠m->b.cl d=z.cl d:=λd C=>by rw[hs2];exact bU _ _ _ C
 have M:∀ {f:HS},f.cl m=b.cl m->Cs f m p L:=λe=>⟨k,a,2,e.trans B,by rw[hk2];exact X,by rw[hk2];exact V,by rw[hk2];exact aw,by rw[hk2],aB⟩;have aJ:b.ο=z.ο:=by rw[hs2];rfl
 obtain⟨n,hit,ap⟩:=Q;have hit:qH b m (.mk bD W [] []) n:=hit;have R:n.row=[]->(n.cl m=A/\c=n)\/dR 0 m n O c:=λaA=>by have:=GH ap aA;subst this;exact hend.imp id λx=>x.2
 obtain⟨i,rfl⟩|⟨i,rfl⟩:=i
 .have ax:(p,L,m)∈b.τ.map (λG=>(G.2.ψ,G.2.ah,G.2.Δ)):=by rw[h.τ];exact i
  obtain⟨ad,aa,ay⟩:=eO.1 ax;injection ay with aj y;injection y with y al;obtain⟨aH,C,u,ar⟩:=aac h.dV.inv rfl ab ac aa al (by omega) hit;exact⟨b,n,ad.2,aH,h,Z,M rfl,C,aj,y,u,⟨ad.1,aa⟩,by omega,R⟩
 unfold ng at i;simp only[i6,Eg,decide_eq_true_eq] at i;obtain⟨⟨ao,aq⟩,K⟩:=i;have H:=aem h.τ p;have Y:∀g∈b.τ,g.2.Δ≠m:=λg az e=>by have:=xS.1 ao (g.2.ψ,g.2.ah,g.2.Δ) (by rw[<-h.τ];exact List.mem_map_of_mem az);simp only[Eg,beq_eq_false_iff_ne] at this;exact this e
 have F:k.ψ=p:=by rw[hk2];exact X
 have E:k.ah=L:=by rw[hk2];exact V
 obtain⟨r,g,J,u,ar⟩:=aab h.dV.inv rfl ab ac B (by rw[E];exact P) Y (by rw[F,E,H.2];exact aq) (by rw[F,H.1];exact K) hit;rw[F,E] at u;have af:=aei h r g J (u:=p) (d:=L) (c:=m) (by omega) aE P ai ak (by rw[B];rfl) Y (by rw[H.1];exact K);exact⟨_,n,eL b p L m,fq g J,af,Z,M rfl,bI _ _ _,rfl,rfl,u,⟨r,E' _ (cj.2 rfl)⟩,by omega,R⟩
theorem Qe{e TA:TT}(y:bT z e S l)(w:Cs z m p L)(M:p∈us)(C:aN L=true)(s:0<=m)(t:m<16)(B:z.ο<aL)(A:((p,L,m)∈e/\TA=e)\/(ng e p L m=true/\TA=e++[(p,L,m)]))(h:dR 0 m z (⟨1,bD,[],[]⟩::⟨2,bD,[],[]⟩::O) c):∃a,bT a TA S l/\(∀b,b≠m->a.cl b=z.cl b)/\Cs a m p L/\dR 0 m a O c/\a.ο<=z.ο+101/\∃g b q,(g,b)∈a.τ/\b.ψ=p/\b.ah=L/\a.ss b.id=N q/\q.iK=true:=by
 have T:eu (.mk bD [] [] [])=N ⟨1,(D #[]),(D #[]),(D #[]),(D #[]),(D #[]),(D #[]),(D #[]),0,0,false,[]⟩:=by kernel_rfl
 obtain⟨X,a,Y,aa,r,I,x,i,R,Q,d,⟨g,H⟩,G,E⟩:=Qd y w M C s t B T rfl A h;obtain⟨j,n,Z,P,J⟩:=acA r i rfl rfl (ai _) d;have k:Cs a m p L:=by obtain⟨o,W,V,f,u⟩:=x;exact⟨o,W,V,(by rw[n];exact f),u⟩
 have K:a.τ=X.τ:=by
  obtain⟨_,_,d⟩|⟨_,F,_⟩|⟨d,_⟩|⟨_,d,_⟩:=d
  .exact d.τ
  .exact ahN F (by decide)
  .exact ahN ⟨rfl,rfl⟩ d
  exact ahN ⟨rfl,rfl⟩ d
 refine⟨a,j,λb i=>(by rw[n];exact I b i),k,?_,G,g,Y,Z,(by rw[K];exact H),R,Q,P,J⟩;obtain⟨hn,_⟩|h:=E j.dV.row
 .obtain⟨o,_,_,f,_⟩:=k;rw[hn] at f;cases f
 exact h
theorem Qb{e i:TT}{b:cp}{g:BA}(H:bT z e S l)(F:Cs z m p L)(T:p∈us)(K:aN L=true)(u:0<=m)(w:m<16)(J:z.ο<aL)(V:eu (.mk bD W [] [])=N b)(X:b.Θ=1)(d:b.dst≠eS)(k:iF b.dst=true)(x:gy b.dst=eS)(y:fZ b.dst=g)(A:dr b.bV=C)(B:0<C)(E:cG ⟨S,l,λ_=>0⟩ p g (fl C) (C==1)=0)(I:((p,L,m)∈e/\i=e)\/(ng e p L m=true/\i=e++[(p,L,m)]))(j:dR 0 m z (⟨1,bD,W,[]⟩::⟨2,bD,[],[]⟩::O) c):∃a,bT a i (jc S l p g C) (jd S l p g C)/\(∀f,f≠m->a.cl f=z.cl f)/\Cs a m p L/\dR 0 m a O c/\a.ο<=z.ο+101:=by
 obtain⟨ab,a,ac,ad,t,Q,G,q,r,aa,R,_,P,M⟩:=Qd H F T K u w J V X I j;obtain⟨h,o⟩:=acy t d k x y A B (by rw[r];exact E) R;rw[r] at h;have n:Cs a m p L:=by obtain⟨s,Z,Y,d,k⟩:=G;exact⟨s,Z,Y,(by rw[o];exact d),k⟩
 refine⟨a,h,λf q=>(by rw[o];exact Q f q),n,?_,P⟩;obtain⟨hn,_⟩|j:=M h.dV.row
 .obtain⟨s,_,_,d,_⟩:=n;rw[hn] at d;cases d
 exact j
def my(e:HS)(b:Int):Prop:=∃c d a,e.cl b=N (jj c d a)
theorem Qc{n:TT}{u d:BA}(G:bT z n S l)(F:my z m)(x:pO fz W=N (u,d))(o:dR 0 m z (⟨1,fz,W,[]⟩::O) c):∃i,bT i n S l/\(∀a,a≠m->i.cl a=z.cl a)/\Cs i m u d/\dR 0 m i O c/\i.ο=z.ο:=by
 obtain⟨e,f,b,w⟩:=F;have t1:fR ⟨[],0,false⟩ ⟨1,fz,W,[]⟩= .inr (⟨[.mk fz W [] []],1,false⟩,N (.head fz W)):=rfl;obtain⟨P,⟨Q,p,H⟩,hend⟩:=GM o w rfl t1;have y:=Dy G w (k':= {jj e f b with bd:=N ⟨[.mk fz W [] []],1,false⟩}) λB g=>by injection g with g;subst g;exact Ie _ 1 (by decide)
 have t:(dh z m {jj e f b with bd:=N ⟨[.mk fz W [] []],1,false⟩}).cl m=N {jj e f b with bd:=N ⟨[.mk fz W [] []],1,false⟩} :=bI _ _ _;have J:∀a,a≠m->(dh z m {jj e f b with bd:=N ⟨[.mk fz W [] []],1,false⟩}).cl a=z.cl a:=λa k=>bU _ _ _ k;obtain⟨M,j,p⟩:=p;rw[t] at j;injection j with j;subst j;obtain⟨R,K,h,rfl⟩|⟨h,_⟩:=p
 .rw[x] at h;injection h with h;injection h with C E;subst C E;have A:=Dy y t (k':= {{jj e f b with bd:=N ⟨[.mk fz W [] []],1,false⟩} with ψ:=u,ah:=d}) λB g=>by injection g with g;subst g;exact Ie _ 1 (by decide)
  have q:bT (kU (dh z m {jj e f b with bd:=N ⟨[.mk fz W [] []],1,false⟩}) m {jj e f b with bd:=N ⟨[.mk fz W [] []],1,false⟩} u d) n S l:=A;have:=GH H q.dV.row;subst this;have s:Cs (kU (dh z m {jj e f b with bd:=N ⟨[.mk fz W [] []],1,false⟩}) m {jj e f b with bd:=N ⟨[.mk fz W [] []],1,false⟩} u d) m u d:=⟨_,.mk fz W [] [],1,bI _ _ _,rfl,rfl,rfl,rfl,rfl⟩;refine⟨_,q,λa k=>(bU _ _ _ k).trans (J a k),s,?_,rfl⟩;obtain⟨I,_⟩|⟨_,o⟩:=hend
  .obtain⟨L,_,_,r,_⟩:=s;rw[I] at r;cases r
  exact o
 rw[x] at h;cases h
theorem Wh{b:Int->Option Cl}{c:Cl}(d:b m=N c):aP b m (N c)=b:=by
 funext x;unfold aP;by_cases a:x=m
 .rw[ahM a,a,d]
 rw[WB a]
theorem Wb{a:Cl}(b:z.cl m=N a):dh z m a=z:=by unfold dh;rw[Wh b]
theorem Gw{d:Cl}(e:z.cl m=N d)(f:d.rd=cQ)(h:cP cQ p.data.toList=(cQ,O))(a:gL m z p c):dR 0 m z O c:=by
 obtain⟨i,b,a⟩:=a;rw[e] at b;injection b with b;subst b;rw[f,h] at a;have g:({d with rd:=cQ} :Cl)=d:=by rw[<-f]
 simp only[g] at a;rw[Wb e] at a;exact a
theorem Gv{a:BA}(d:Cs z m p L)(e:cP cQ a.data.toList=(cQ,O))(b:gL m z a c):dR 0 m z O c:=by obtain⟨h,j,i,f,_,_,g,_⟩:=d;exact Gw f g e b
theorem LW(b:my z m)(d:cP cQ p.data.toList=(cQ,O))(a:gL m z p c):dR 0 m z O c:=by obtain⟨g,h,f,e⟩:=b;exact Gw e rfl d a
theorem L5{p:TT}(g:bT z p S l)(q:0<=m)(C:m<16)(J:z.cl m=A)(y:vB w e v z m X n):X=ξ (I E 0)/\∃k b,Α n e k b/\Ε w n v k/\bT b p S l/\my b m/\(∀a,a≠m->b.cl a=z.cl a)/\b.ο=z.ο+1/\(b.Κ m.toNat).br=false/\(b.Κ m.toNat).left= -1/\b.Ι=z.Ι/\(fc z->fc b):=by
 have K:(z.Κ m.toNat).op=false:=by have:=g.dV.inv.open_ m.toNat (by omega);rw[EJ q,J] at this;exact this
 have e0:(at_ ep z.Κ m).1=0:=by unfold at_ ep;rw[ahM ⟨q,C⟩,K];rfl
 obtain⟨rfl,k,b,B,L,M,F⟩:=y;obtain⟨d,f,c,rfl⟩:=F e0;obtain⟨_,_,_,t⟩:=C9 z.Κ m e0;have r:∀a,a≠m->(lx (jR z m) m d f c).cl a=z.cl a:=λa j=>bU _ _ _ j;have u:(lx (jR z m) m d f c).Κ m.toNat=⟨true,false, -1,kj⟩:=by show(at_ ep z.Κ m).2 m.toNat=_;rw[t,ahM rfl]
 refine⟨by rw[e0],k,_,B,L,⟨⟨Cr g.dV.inv e0 d f c,⟨λh G o=> ?_,g.dV.hl.front⟩,g.dV.row⟩,g.τ,g.aX,g.aR⟩,⟨d,f,c,bI _ _ _⟩,r,rfl,by rw[u],by rw[u],rfl,λi=>⟨Cr i.inv e0 d f c,Hr i.known m d f c,λa x s=> ?_,i.row⟩⟩
 .have H:(lx (jR z m) m d f c).Κ h=if h=m.toNat then⟨true,false, -1,kj⟩ else z.Κ h:=t h;rw[H] at o⊢;by_cases X:h=m.toNat
  .rw[ahM X];exact⟨rfl,rfl⟩
  rw[WB X] at o⊢;exact g.dV.hl.Κ h G o
 by_cases j:a=m
 .subst j;have:N (jj d f c)=N x:=(bI z.cl a (N (jj d f c))).symm.trans s;injection this with this;subst this;exact⟨ai _,rfl,_,rfl,trivial⟩
 exact i.fK a x ((r a j).symm.trans s)
theorem BL{d:TT}{f:BA}{a:At}(n:bT z d S l)(e:my z m)(q:pO fz a=N (p,L))(o:cP cQ f.data.toList=(cQ,[⟨1,fz,a,[]⟩]))(g:gL m z f c):bT c d S l/\(∀b,b≠m->c.cl b=z.cl b)/\Cs c m p L:=by obtain⟨r,h,i,j,k,_⟩:=Qc n e q (LW e o g);have:=Cc k;subst this;exact⟨h,i,j⟩
def F0:BA->BA->Sd:=λ_ _=>(0,false,false)
def G0:BA->BA->Option BA:=λ_ _=>A
theorem V8(l:bT z [] F0 G0)(e:my z 0)(C:z.ο+10<aL)(q:p=(D #[60,115,116,114,101,97,109,32,117,115,101,114,61,39,97,110,110,39,32,100,101,118,105,99,101,61,39,112,97,100,39,62,60,112,114,101,115,101,110,99,101,47,62]))(h:gL 0 z p c):∃d a b,c.τ=[(d,a)]/\a.ψ=dY/\a.ah=(D #[112,97,100])/\c.ss a.id=N b/\b.iK=true:=by
 have m:cP cQ p.data.toList=(cQ,[⟨1,fz,qM [97,110,110] [112,97,100],[]⟩,⟨1,bD,[],[]⟩,⟨2,bD,[],[]⟩]):=by rw[q];kernel_rfl
 obtain⟨y,i,A,j,k,B⟩:=Qc l e (u:=dY) (d:=(D #[112,97,100])) (by kernel_rfl) (LW e m h);have n:y.ο<aL:=by omega
 obtain⟨G,r,E,F,s,_,d,a,b,g,t,u,w,x⟩:=Qe (TA:=[(dY,(D #[112,97,100]),0)]) i j (by simp[us]) (by decide+kernel) (by decide) (by decide) n (.inr ⟨by kernel_rfl,rfl⟩) k;have:=Cc s;subst this;have o:c.τ.length=1:=by have:=congrArg List.length r.τ;rw[dN] at this;exact this
 obtain⟨H,f⟩:=List.length_eq_one_iff.1 o;rw[f] at g;have:=cj.1 g;subst this;exact⟨d,a,b,f,t,u,w,x⟩
theorem Gx{b e:TT}{h:BA}{a:cp}{d:BA}(w:bT z b S l)(g:Cs z m p L)(E:p∈us)(A:aN L=true)(j:0<=m)(n:m<16)(y:z.ο<aL)(B:cP cQ h.data.toList=(cQ,[⟨1,bD,W,[]⟩,⟨2,bD,[],[]⟩]))(F:eu (.mk bD W [] [])=N a)(G:a.Θ=1)(k:a.dst≠eS)(o:iF a.dst=true)(q:gy a.dst=eS)(r:fZ a.dst=d)(s:dr a.bV=C)(t:0<C)(u:cG ⟨S,l,λ_=>0⟩ p d (fl C) (C==1)=0)(x:((p,L,m)∈b/\e=b)\/(ng b p L m=true/\e=b++[(p,L,m)]))(i:gL m z h c):bT c e (jc S l p d C) (jd S l p d C)/\(∀f,f≠m->c.cl f=z.cl f)/\Cs c m p L:=by obtain⟨M,H,I,J,K,_⟩:=Qb w g E A j n y F G k o q r s t u x (Gv g B i);have:=Cc K;subst this;exact⟨H,I,J⟩
theorem Gy{e f:TT}{q:BA}{a:cp}{d:BA}(B:bT z e S l)(i:Cs z m p L)(n:p∈us)(k:aN L=true)(g:0<=m)(h:m<16)(R:z.ο+200<aL)(E:cP cQ q.data.toList=(cQ,[⟨1,bD,W,[]⟩,⟨2,bD,[],[]⟩,⟨1,bD,[],[]⟩,⟨2,bD,[],[]⟩]))(F:eu (.mk bD W [] [])=N a)(G:a.Θ=1)(s:a.dst≠eS)(t:iF a.dst=true)(u:gy a.dst=eS)(w:fZ a.dst=d)(x:dr a.bV=C)(y:0<C)(A:cG ⟨S,l,λ_=>0⟩ p d (fl C) (C==1)=0)(j:ng e p L m=true/\f=e++[(p,L,m)])(r:gL m z q c):bT c f (jc S l p d C) (jd S l p d C)/\(∀b,b≠m->c.cl b=z.cl b)/\Cs c m p L:=by obtain⟨V,H,I,J,K,T⟩:=Qb B i n k g h (by omega) F G s t u w x y A (.inr j) (Gv i E r);obtain⟨X,M,O,P,Q,_⟩:=Qe (TA:=f) H J n k g h (by omega) (.inl ⟨by rw[j.2];exact E' _ (cj.2 rfl),rfl⟩) K;have:=Cc Q;subst this;exact⟨M,λb o=>(O b o).trans (I b o),P⟩
theorem V7{h:TT}{C:BA}(J:bT z h S l)(r:Cs z m p L)(F:0<=m)(Q:cP cQ C.data.toList=(cQ,[⟨2,fz,[],[]⟩]))(T:(p,L,m)∈h)(b:gL m z C c):c.aE.aX=S/\c.cl m=A:=by
 have b:=Gv r Q b;obtain⟨n,aq,am,u,a1,aw,a0,R,k⟩:=r;obtain⟨ap,an,au,ao⟩:=aq;have k:ap=fz:=k;subst k;have t1:fR ⟨[.mk fz an au ao],am,false⟩ ⟨2,fz,[],[]⟩= .inr (⟨[],1,true⟩,N .ak):=rfl;obtain⟨y,⟨d,a,t⟩,hend⟩:=GM b u R t1;have g:bT (dh z m {n with bd:=N ⟨[],1,true⟩}) h S l:=Dy J u λav i=>by injection i with i;subst i;exact⟨by decide,by simp,(λ_ b=>by cases b),nofun⟩
 have a:lS (dh z m {n with bd:=N ⟨[],1,true⟩}) d m:=a;generalize dh z m {n with bd:=N ⟨[],1,true⟩} =f at*;unfold lS at a;have W:(p,L,m)∈f.τ.map (λo=>(o.2.ψ,o.2.ah,o.2.Δ)):=by rw[g.τ];exact T
 obtain⟨x,X,ac⟩:=eO.1 W;have ab:x.2.Δ=m:=by injection ac with _ G;injection G
 cases j:f.τ.find? (λq=>dW q.2 m) with
 |none=>have:=lM.1 j x X;refine ahN ?_ this;unfold dW;rw[ab,beq_self_eq_true,tB,ahO (show m≠ -1 by omega)];rfl
 |some q=>
  rw[j] at a;obtain⟨ad,al,_⟩:=wo j;have a:dX f d q.2.id:=a;have B:=GP g.dV.inv ad rfl a;have M:d.aE=f.aE:=B.aE.trans (Qn _ _ _).aE;have P:d.cl m=A:=by rw[B.cl];unfold ei cZ;rw[al,ahM F];exact bI _ _ _
  have O:y.aE=d.aE:=(eh.sinks t).aE
  have s:y.cl m=A:=by
   obtain e|e:=(eh.dH t).cl m
   .rw[e,P]
   exact e
  obtain⟨_,rfl⟩|⟨w,_⟩:=hend
  .exact⟨by rw[O,M];exact g.aX,s⟩
  rw[s] at w;cases w
def nR(a:BA):BA:=(D #[60,112,114,101,115,101,110,99,101,32,116,121,112,101,61,39,115,117,98,115,99,114,105,98,101,39,32,116,111,61,39])++a++⟨#[39,47,62]⟩
def nJ:BA:=(D #[60,112,114,101,115,101,110,99,101,32,116,121,112,101,61,39,115,117,98,115,99,114,105,98,101,100,39,32,116,111,61,39,100,101,101,39,47,62,60,112,114,101,115,101,110,99,101,47,62])
def pP(a:BA):BA:=(D #[60,115,116,114,101,97,109,32,117,115,101,114,61,39])++a++⟨#[39,32,100,101,118,105,99,101,61,39,111,119,110,39,62]⟩
def wu:BA:=(D #[60,47,115,116,114,101,97,109,62])
def fX:Nat->TT
 |0=>[]
 |1=>[(aO,bC,11),(dY,bC,8)]
 |2=>[(aO,bC,11),(dY,bC,8),(eV,bC,9)]
 |_=>[(aO,bC,11),(dY,bC,8),(eV,bC,9),(cy,bC,10)]
def iE:Nat->TT
 |0=>[(aO,bC,11)]
 |a=>fX a
def nm:Nat->BA
 |0=>dY
 |1=>eV
 |_=>cy
def tT:=jc F0 G0 aO dY 1
def tZ:=jd F0 G0 aO dY 1
def tX:=jc tT tZ dY aO 2
def t8:=jd tT tZ dY aO 2
def tV:=jc tX t8 aO eV 1
def t6:=jd tX t8 aO eV 1
def tY:=jc tV t6 eV aO 2
def ud:=jd tV t6 eV aO 2
def tW:=jc tY ud aO cy 1
def t7:=jd tY ud aO cy 1
def To:=jc tW t7 cy aO 2
def Tq:=jd tW t7 cy aO 2
def Fs:Nat->BA->BA->Sd
 |0=>F0
 |1=>tX
 |2=>tY
 |_=>To
def Gs:Nat->BA->BA->Option BA
 |0=>G0
 |1=>t8
 |2=>ud
 |_=>Tq
def Fm:Nat->BA->BA->Sd
 |0=>tT
 |1=>tV
 |_=>tW
def Gm:Nat->BA->BA->Option BA
 |0=>tZ
 |1=>t6
 |_=>t7
theorem xC:dY∈us/\eV∈us/\cy∈us/\aO∈us:=by simp[us]
theorem wV:aN bC=true:=by decide+kernel
theorem wP(b:p.size≠0):p≠eS:=λa=>b (by rw[a];rfl)
theorem aed(j:bT z (fX 0) F0 G0)(i:Cs z 11 aO bC)(l:z.ο<aL)(b:gL 11 z (nR dY) c):bT c (iE 0) (jc F0 G0 aO dY 1) (jd F0 G0 aO dY 1)/\(∀a,a≠11->c.cl a=z.cl a)/\Cs c 11 aO bC:=by
 have m:cP cQ (nR dY).data.toList=(cQ,[⟨1,bD,nz nD [97,110,110],[]⟩,⟨2,bD,[],[]⟩]):=by kernel_rfl
 have n:eu (.mk bD (nz nD [97,110,110]) [] [])=N ⟨1,(D nD.toArray),(D #[]),(D #[]),dY,(D #[]),(D #[]),(D #[]),0,0,false,[]⟩:=by kernel_rfl
 have d:iF dY=true:=by decide+kernel
 have e:gy dY=eS:=by decide+kernel
 have f:fZ dY=dY:=by decide+kernel
 have g:dr ⟨nD.toArray⟩=1:=by kernel_rfl
 have h:cG ⟨F0,G0,λ_=>0⟩ aO dY (fl 1) ((1:Int)==1)=0:=by kernel_rfl
 have k:((aO,bC,(11:Int))∈fX 0/\iE 0=fX 0)\/(ng (fX 0) aO bC 11=true/\iE 0=fX 0++[(aO,bC,11)]):= .inr ⟨by kernel_rfl,rfl⟩;exact Gx j i xC.2.2.2 wV (by decide) (by decide) l m n rfl (wP (by decide)) d e f g (by decide) h k b
theorem aee(j:bT z (fX 1) tX t8)(i:Cs z 11 aO bC)(l:z.ο<aL)(b:gL 11 z (nR eV) c):bT c (iE 1) (jc tX t8 aO eV 1) (jd tX t8 aO eV 1)/\(∀a,a≠11->c.cl a=z.cl a)/\Cs c 11 aO bC:=by
 have m:cP cQ (nR eV).data.toList=(cQ,[⟨1,bD,nz nD [98,111,98],[]⟩,⟨2,bD,[],[]⟩]):=by kernel_rfl
 have n:eu (.mk bD (nz nD [98,111,98]) [] [])=N ⟨1,(D nD.toArray),(D #[]),(D #[]),eV,(D #[]),(D #[]),(D #[]),0,0,false,[]⟩:=by kernel_rfl
 have d:iF eV=true:=by decide+kernel
 have e:gy eV=eS:=by decide+kernel
 have f:fZ eV=eV:=by decide+kernel
 have g:dr ⟨nD.toArray⟩=1:=by kernel_rfl
 have h:cG ⟨tX,t8,λ_=>0⟩ aO eV (fl 1) ((1:Int)==1)=0:=by kernel_rfl
 have k:((aO,bC,(11:Int))∈fX 1/\iE 1=fX 1)\/(ng (fX 1) aO bC 11=true/\iE 1=fX 1++[(aO,bC,11)]):= .inl ⟨dP ..,rfl⟩;exact Gx j i xC.2.2.2 wV (by decide) (by decide) l m n rfl (wP (by decide)) d e f g (by decide) h k b
theorem aef(j:bT z (fX 2) tY ud)(i:Cs z 11 aO bC)(l:z.ο<aL)(b:gL 11 z (nR cy) c):bT c (iE 2) (jc tY ud aO cy 1) (jd tY ud aO cy 1)/\(∀a,a≠11->c.cl a=z.cl a)/\Cs c 11 aO bC:=by
 have m:cP cQ (nR cy).data.toList=(cQ,[⟨1,bD,nz nD [99,121],[]⟩,⟨2,bD,[],[]⟩]):=by kernel_rfl
 have n:eu (.mk bD (nz nD [99,121]) [] [])=N ⟨1,(D nD.toArray),(D #[]),(D #[]),cy,(D #[]),(D #[]),(D #[]),0,0,false,[]⟩:=by kernel_rfl
 have d:iF cy=true:=by decide+kernel
 have e:gy cy=eS:=by decide+kernel
 have f:fZ cy=cy:=by decide+kernel
 have g:dr ⟨nD.toArray⟩=1:=by kernel_rfl
 have h:cG ⟨tY,ud,λ_=>0⟩ aO cy (fl 1) ((1:Int)==1)=0:=by kernel_rfl
 have k:((aO,bC,(11:Int))∈fX 2/\iE 2=fX 2)\/(ng (fX 2) aO bC 11=true/\iE 2=fX 2++[(aO,bC,11)]):= .inl ⟨dP ..,rfl⟩;exact Gx j i xC.2.2.2 wV (by decide) (by decide) l m n rfl (wP (by decide)) d e f g (by decide) h k b
theorem YU(j:bT z (iE 0) tT tZ)(i:Cs z 8 dY bC)(l:z.ο+200<aL)(b:gL 8 z nJ c):bT c (fX 1) (jc tT tZ dY aO 2) (jd tT tZ dY aO 2)/\(∀a,a≠8->c.cl a=z.cl a)/\Cs c 8 dY bC:=by
 have m:cP cQ nJ.data.toList=(cQ,[⟨1,bD,nz nE [100,101,101],[]⟩,⟨2,bD,[],[]⟩,⟨1,bD,[],[]⟩,⟨2,bD,[],[]⟩]):=by kernel_rfl
 have n:eu (.mk bD (nz nE [100,101,101]) [] [])=N ⟨1,(D nE.toArray),(D #[]),(D #[]),aO,(D #[]),(D #[]),(D #[]),0,0,false,[]⟩:=by kernel_rfl
 have d:iF aO=true:=by decide+kernel
 have e:gy aO=eS:=by decide+kernel
 have f:fZ aO=aO:=by decide+kernel
 have g:dr ⟨nE.toArray⟩=2:=by kernel_rfl
 have h:cG ⟨tT,tZ,λ_=>0⟩ dY aO (fl 2) ((2:Int)==1)=0:=by kernel_rfl
 have k:ng (iE 0) dY bC 8=true/\fX 1=iE 0++[(dY,bC,8)]:=⟨by kernel_rfl,rfl⟩;exact Gy j i xC.1 wV (by decide) (by decide) l m n rfl (wP (by decide)) d e f g (by decide) h k b
theorem YV(j:bT z (iE 1) tV t6)(i:Cs z 9 eV bC)(l:z.ο+200<aL)(b:gL 9 z nJ c):bT c (fX 2) (jc tV t6 eV aO 2) (jd tV t6 eV aO 2)/\(∀a,a≠9->c.cl a=z.cl a)/\Cs c 9 eV bC:=by
 have m:cP cQ nJ.data.toList=(cQ,[⟨1,bD,nz nE [100,101,101],[]⟩,⟨2,bD,[],[]⟩,⟨1,bD,[],[]⟩,⟨2,bD,[],[]⟩]):=by kernel_rfl
 have n:eu (.mk bD (nz nE [100,101,101]) [] [])=N ⟨1,(D nE.toArray),(D #[]),(D #[]),aO,(D #[]),(D #[]),(D #[]),0,0,false,[]⟩:=by kernel_rfl
 have d:iF aO=true:=by decide+kernel
 have e:gy aO=eS:=by decide+kernel
 have f:fZ aO=aO:=by decide+kernel
 have g:dr ⟨nE.toArray⟩=2:=by kernel_rfl
 have h:cG ⟨tV,t6,λ_=>0⟩ eV aO (fl 2) ((2:Int)==1)=0:=by kernel_rfl
 have k:ng (iE 1) eV bC 9=true/\fX 2=iE 1++[(eV,bC,9)]:=⟨by kernel_rfl,rfl⟩;exact Gy j i xC.2.1 wV (by decide) (by decide) l m n rfl (wP (by decide)) d e f g (by decide) h k b
theorem YW(j:bT z (iE 2) tW t7)(i:Cs z 10 cy bC)(l:z.ο+200<aL)(b:gL 10 z nJ c):bT c (fX 3) (jc tW t7 cy aO 2) (jd tW t7 cy aO 2)/\(∀a,a≠10->c.cl a=z.cl a)/\Cs c 10 cy bC:=by
 have m:cP cQ nJ.data.toList=(cQ,[⟨1,bD,nz nE [100,101,101],[]⟩,⟨2,bD,[],[]⟩,⟨1,bD,[],[]⟩,⟨2,bD,[],[]⟩]):=by kernel_rfl
 have n:eu (.mk bD (nz nE [100,101,101]) [] [])=N ⟨1,(D nE.toArray),(D #[]),(D #[]),aO,(D #[]),(D #[]),(D #[]),0,0,false,[]⟩:=by kernel_rfl
 have d:iF aO=true:=by decide+kernel
 have e:gy aO=eS:=by decide+kernel
 have f:fZ aO=aO:=by decide+kernel
 have g:dr ⟨nE.toArray⟩=2:=by kernel_rfl
 have h:cG ⟨tW,t7,λ_=>0⟩ cy aO (fl 2) ((2:Int)==1)=0:=by kernel_rfl
 have k:ng (iE 2) cy bC 10=true/\fX 3=iE 2++[(cy,bC,10)]:=⟨by kernel_rfl,rfl⟩;exact Gy j i xC.2.2.1 wV (by decide) (by decide) l m n rfl (wP (by decide)) d e f g (by decide) h k b
theorem aeg(a:Nat)(j:a<3)(f:bT z (fX a) (Fs a) (Gs a))(e:Cs z 11 aO bC)(g:z.ο<aL)(d:gL 11 z (nR (nm a)) c):bT c (iE a) (Fm a) (Gm a)/\(∀h,h≠11->c.cl h=z.cl h)/\Cs c 11 aO bC:=by
 have i:a=0\/a=1\/a=2:=by omega
 obtain rfl|rfl|rfl:=i
 .have b:=aed f e g d;exact b
 .have b:=aee f e g d;exact b
 have b:=aef f e g d;exact b
theorem YX(a:Nat)(j:a<3)(f:bT z (iE a) (Fm a) (Gm a))(e:Cs z (8+a) (nm a) bC)(g:z.ο+200<aL)(d:gL (8+a) z nJ c):bT c (fX (a+1)) (Fs (a+1)) (Gs (a+1))/\(∀h,h≠(8+a:Int)->c.cl h=z.cl h)/\Cs c (8+a) (nm a) bC:=by
 have i:a=0\/a=1\/a=2:=by omega
 obtain rfl|rfl|rfl:=i
 .have b:=YU f e g d;exact b
 .have b:=YV f e g d;exact b
 have b:=YW f e g d;exact b
theorem Ze(a:Nat)(h:a<3){g:TT}(e:bT z g S l)(d:my z (8+a))(b:gL (8+a) z (pP (nm a)) c):bT c g S l/\(∀f,f≠(8+a:Int)->c.cl f=z.cl f)/\Cs c (8+a) (nm a) bC:=by
 match a,h with
 |0,_=>exact BL (a:=qM [97,110,110] [111,119,110]) e d (by kernel_rfl) (by kernel_rfl) b
 |1,_=>exact BL (a:=qM [98,111,98] [111,119,110]) e d (by kernel_rfl) (by kernel_rfl) b
 |2,_=>exact BL (a:=qM [99,121] [111,119,110]) e d (by kernel_rfl) (by kernel_rfl) b
theorem WW{b:TT}(f:bT z b S l)(e:my z 11)(d:gL 11 z (pP aO) c):bT c b S l/\(∀a,a≠11->c.cl a=z.cl a)/\Cs c 11 aO bC:=
 BL (a:=qM [100,101,101] [111,119,110]) f e (by kernel_rfl) (by kernel_rfl) d
theorem Yy(d:bT z (fX 3) (Fs 3) l)(b:Cs z 11 aO bC)(a:gL 11 z wu c):c.aE.aX=Fs 3/\c.cl 11=A:=
 V7 d b (by decide) (by kernel_rfl) (dP ..) a
theorem ahr(a:aY)(c:a.aX=Fs 3):(rA a aO).length=3:=by
 have:rA a aO=rA ⟨Fs 3,G0,λ_=>0⟩ aO:=by unfold rA mQ;rw[c]
 have b:(rA ⟨Fs 3,G0,λ_=>0⟩ aO).length=3:=by kernel_rfl
 rw[this];exact b
theorem N4:Υ uN where
 iu i _:=ai _
 rows:=ai _
 fits:=nofun
 clock:=⟨Int.le_refl _,by decide⟩
 last:=⟨Int.le_refl _,Int.le_refl _,by decide⟩
 bj:=nofun
 dM:= .nil
 aR:=nofun
 ij _:=ai _
 state:=nofun
 eC:=nofun
 iq:=nofun
 lh:=nofun
 open_ _ _:=rfl
 range _ h:=by cases h
 jQ _ _ _ h:=by cases h
 fS _ _ h:=by cases h
theorem Nr:fc uN:=⟨N4,(λ_ _ a=>by cases a),(λ_ _ a=>by cases a),rfl⟩
theorem Qx:bT uN [] F0 G0:=⟨⟨N4,⟨(λ_ _ a=>by cases a),(λ_ _ a=>by cases a)⟩,rfl⟩,rfl,rfl,rfl⟩
theorem Pj(e:Υ z){f:Cl}(c:z.cl m=N f):ji z m=0:=by obtain⟨a,b,d⟩:=nO e c;unfold ji lG;rw[WB (by omega),decide_eq_true a,decide_eq_true b,d];rfl
theorem wK(d:Y w n γ)(b:∀a,v a≠A->w.heap.size<=a)(e:Ε n G v s):Y w G γ:=d.trans e.keeps λa c=> .inr (b a c)
theorem aaG(G:aT w):ν δ 4 #[] w λa bf=>a=ξ (ι true)/\Y w bf γ:=by
 have an:=K G;clear G;go_enter func4,ntmps4;go_wp2_with fail;refine(Rv w).mono ?_;rintro a b2 ⟨bw,rfl,f,k⟩;have n:=K k;have q:=K (KJ (an.out.still k) (cap:=4) f);clear k f;go_wp2_with fail;refine q.out.mono ?_;rintro a b3 ⟨bA,bc,rfl,x,S,t⟩;have ao:=K (kk n.out S);have am:=K (λe (j:bc e≠A)=>aJ n.out.size (t e j));have al:=K (ye x 0 (by unfold aF;decide) (by decide));clear x S t q;go_wp2_with fail;refine al.out.mono ?_;rintro a b4 B;obtain⟨rfl,bx,ab,y,W,r,p,_,g,_,_,_,u⟩:=L5 Qx (by decide) (by decide) rfl B;have b:=u Nr;have g:ab.ο=1:=g;have bk:η (∃be:BA,be=(D #[60,115,116,114,101,97,109,32,117,115,101,114,61,39,97,110,110,39,32,100,101,118,105,99,101,61,39,112,97,100,39,62,60,112,114,101,115,101,110,99,101,47,62])):=K ⟨_,rfl⟩;have ad:=K (qB y b.inv b.known b.fK b.row 0 (by unfold aF;decide) ⟨#[60,115,116,114,101,97,109,32,117,115,101,114,61,39,97,110,110,39,32,100,101,118,105,99,101,61,39,112,97,100,39,62,60,112,114,101,115,101,110,99,101,47,62]⟩ (by decide) (by rw[g];decide));have c:=K (Φ r (Φ p (Φ W (Φ g b))));clear B y W r p g u b;go_wp2_with fail;refine ad.out.mono ?_;rintro a b5 ⟨rfl,bz,h,f,X,_,z,R,a9,ba,bd,bb,a6, -⟩;have o:η (ji ab 0=0):=K (by obtain⟨bE,bF,bt,a7⟩:=c.out.2.1;exact Pj c.out.1.dV.inv a7);have au:=K (V8 c.out.1 c.out.2.1 (by rw[c.out.2.2.2.1];decide) rfl (z o.out));have i:=K (Φ f R);have av:=K (c.out.2.2.1.trans X);clear f X z R a9 ba bd bb a6;rw[o.out];have a0:=K (Uk i.out.1 i.out.2);go_wp2_with fail;refine a0.out.mono ?_;rintro a bi ⟨b0,rfl,m,l⟩;obtain⟨bs,e,b7,P,Q,F,j,L⟩:=au.out
 have s:η (fM h (cH h)=[(D #[97,110,110,47,112,97,100])]/\(cH h).length=1):=K (by
  have a2:cH h=[e]:=by unfold cH;rw[P];rfl
  have a3:uW h e=true:=by unfold uW;rw[j];exact L
  have a4:gh e=(D #[97,110,110,47,112,97,100]):=by unfold gh;rw[Q,F];rfl
  rw[a2];unfold fM;rw[List.filter_cons_of_pos a3,List.filter_nil,List.map_cons,List.map_nil,a4];exact⟨rfl,rfl⟩)
 rw[s.out.1] at m;have a8:=eU.dw (l:=[(D #[97,110,110,47,112,97,100])]) m (by decide);obtain⟨ac,bN,rfl,_,M,J⟩:=a8
 obtain⟨d,rfl⟩:∃d,ac=N d:=by
  cases ac with
  |none=>cases M rfl
  |some d=>exact⟨d,rfl⟩
 obtain⟨O,C⟩:=J d rfl;obtain⟨bn,bq,br⟩:=d;simp only at O;subst O;have a1:=C 0 _ rfl;simp only[Nat.add_zero] at a1;have aw:=K (yB (i.out.1.still l) i.out.2);have ap:=K (show Y w bi γ from kk (wK ao.out am.out av.out) l);clear m J C M l P Q F j L;simp only[eI,eN,eP] at*;go_wp2_with fail;refine aw.out.mono ?_;rintro a b6 ⟨b1,rfl,a5,T,_⟩;obtain⟨bB,bv,rfl, -⟩:=a5;rw[s.out.2];have aq:=K (kk ap.out T);clear T;go_wp2;go_ret;exact⟨rfl,aq.out⟩
structure yC (i:Nat) (s:HS):Prop where
 sum:bT s [] F0 G0
 fit:fc s
 cs:∀j:Nat,j<i->Cs s (8+j) (nm j) bC
 ahP:∀x:Int,8+i<=x->s.cl x=A
 Ι:s.Ι=0
 ο:s.ο<=200000*i
structure yD (i:Nat) (s:HS):Prop where
 sum:bT s (fX i) (Fs i) (Gs i)
 fit:fc s
 cs:∀j:Nat,j<3->Cs s (8+j) (nm j) bC
 aO:Cs s 11 aO bC
 ahP:s.cl 12=A
 Ι:s.Ι=0
 ο:s.ο<=1000000+400000*i
theorem uC(b:Cs z C p L)(g:C≠m)(f:∀a,a≠m->c.cl a=z.cl a):Cs c C p L:=by obtain⟨h,j,i,d,e⟩:=b;exact⟨h,j,i,(f C g).trans d,e⟩
theorem GD(b:Cs z m p L):∃a,z.cl m=N a:=by obtain⟨a,_,_,c,_⟩:=b;exact⟨a,c⟩
theorem pX(a:Nat):(nm a).size<=3:=by
 match a with
 |0=>decide
 |1=>decide
 |b+2=>show cy.size<=3;decide
theorem wG(a:BA)(d:a.size<=3):(pP a).size<=40:=by unfold pP;rw[mj,mj];have b:((D #[60,115,116,114,101,97,109,32,117,115,101,114,61,39]):BA).size=14:=rfl;have c:((D #[39,32,100,101,118,105,99,101,61,39,111,119,110,39,62]):BA).size=15:=rfl;omega
theorem I4(a:BA)(d:a.size<=3):(nR a).size<=40:=by unfold nR;rw[mj,mj];have b:((D #[60,112,114,101,115,101,110,99,101,32,116,121,112,101,61,39,115,117,98,115,99,114,105,98,101,39,32,116,111,61,39]):BA).size=31:=rfl;have c:((D #[39,47,62]):BA).size=3:=rfl;omega
structure Fo (w w':Z) (p:Pl) (own:Nat->Option Ν) (s:HS) (T:TT) (F:BA->BA->Sd) (G:BA->BA->Option BA) (c:Int) (own':Nat->Option Ν) (s':HS):Prop where
 bp:Α w' p own' s'
 aW:Ε w w' own own'
 sum:bT s' T F G
 C7:my s' c
 cl:∀x,x≠c->s'.cl x=s.cl x
 ο:s'.ο=s.ο+1
 Ι:s'.Ι=s.Ι
 fit:fc s'
theorem Mm{c:TT}(t:bT z c S l)(d:fc z)(g:0<=m)(i:m<16)(x:z.cl m=A)(f:vB w e v z m X n):X=ξ (I E 0)/\∃a b,Fo w n e v z c S l m a b:=by obtain⟨u,a,b,h,j,k,o,p,q,_,_,r,s⟩:=L5 t g i x f;exact⟨u,a,b,h,j,k,o,p,q,r,s d⟩
structure yc (w w':Z) (p:Pl) (own:Nat->Option Ν) (s:HS) (c:Int) (Β:BA) (own':Nat->Option Ν) (s':HS):Prop where
 bp:Α w' p own' s'
 aW:Ε w w' own own'
 bytes:gL c s Β s'
 fit:fc s'
 near:gN c s s'
 ο:s'.ο<=s.ο+1330*(2*Β.size)+2000
 uq:tO c s Β s'
theorem uz{Β:BA}(u:Υ z)(a:∃f,z.cl m=N f)(g:rF w e v z m Β X n):X=ξ (I E 0)/\∃c d,yc w n e v z m Β c d:=by obtain⟨t,c,d,h,j,_,k,l,o,p,q,r,s,i⟩:=g;obtain⟨f,a⟩:=a;have b:=Pj u a;exact⟨by rw[t,b],c,d,h,j,k b,⟨l,o,p,q⟩,r,s,i b⟩
theorem abo(a:gN m z c)(d:C≠m)(b:z.cl C=A):c.cl C=A:=by
 obtain e|e:=a.cl C d
 .rw[e,b]
 exact e
theorem adT{l:Nat->Option Ν}{i:HS}(k:y<3)(b:yC y z)(a:Fo w n e v z [] F0 G0 (8+y) s c)(d:yc n G e s c (8+y) (pP (nm y)) l i):yC (y+1) i:=by
 obtain⟨m,h,o⟩:=Ze y k a.sum a.C7 d.bytes;refine⟨m,d.fit,λg u=> ?_,λf x=> ?_,d.near.Ι.trans (a.Ι.trans b.Ι),?_⟩
 .by_cases j:g=y
  .subst j;exact o
  exact uC (uC (b.cs g (by omega)) (by omega) a.cl) (by omega) h
 .rw[h f (by omega),a.cl f (by omega)];exact b.ahP f (by omega)
 have p:=d.ο;have q:=a.ο;have r:=b.ο;have t:=wG _ (pX y);omega
theorem adW{j:Nat->Option Ν}{g:HS}(b:yC 3 z)(a:Fo w n e v z [] F0 G0 11 s c)(d:yc n G e s c 11 (pP aO) j g):yD 0 g:=by
 obtain⟨k,f,l⟩:=WW a.sum a.C7 d.bytes;refine⟨k,d.fit,λi h=>uC (uC (b.cs i h) (by omega) a.cl) (by omega) f,l,?_,d.near.Ι.trans (a.Ι.trans b.Ι),?_⟩
 .rw[f 12 (by decide),a.cl 12 (by decide)];exact b.ahP 12 (by decide)
 have m:=d.ο;have o:=a.ο;have p:=b.ο;have q:=wG aO (by decide);omega
structure Lh (i:Nat) (s:HS):Prop where
 sum:bT s (iE i) (Fm i) (Gm i)
 fit:fc s
 cs:∀j:Nat,j<3->Cs s (8+j) (nm j) bC
 aO:Cs s 11 aO bC
 ahP:s.cl 12=A
 Ι:s.Ι=0
 ο:s.ο<=1000000+400000*i+200000
theorem adX(f:y<3)(a:yD y z)(b:yc w n e v z 11 (nR (nm y)) s c):Lh y c:=by obtain⟨i,d,j⟩:=aeg y f a.sum a.aO (by have:=a.ο;unfold aL;omega) b.bytes;refine⟨i,b.fit,λh g=>uC (a.cs h g) (by omega) d,j,by rw[d 12 (by decide)];exact a.ahP,b.near.Ι.trans a.Ι,?_⟩;have k:=b.ο;have l:=a.ο;have m:=I4 _ (pX y);omega
theorem G':nJ.size=49:=by kernel_rfl
theorem Vd(f:M=49)(c:y<=k+1330*(2*M)+2000)(a:k<=1000000+400000*d+200000):y<=1000000+400000*(d+1):=by
 have e:k<=1200000+400000*d:=by rw[Nat.add_right_comm] at a;exact a
 have b:y<=1400000+400000*d:=by omega
 rw[Nat.mul_succ,<-mW,Nat.add_right_comm];exact b
theorem Ve(c:d<3)(a:y<=1000000+400000*d+200000)(b:k=49):y+1330*(2*k)+8000<=aL:=by unfold aL;omega
theorem adV(f:y<3)(a:Lh y z)(b:yc w n e v z (8+y) nJ s c):yD (y+1) c:=by
 obtain⟨k,d,l⟩:=YX y f a.sum (a.cs y f) (by have:=a.ο;unfold aL;omega) b.bytes;refine⟨k,b.fit,λg j=> ?_,uC a.aO (by omega) d,by rw[d 12 (by omega)];exact a.ahP,b.near.Ι.trans a.Ι,?_⟩
 .by_cases h:g=y
  .subst h;exact l
  exact uC (a.cs g j) (by omega) d
 have i:=b.ο;exact Vd G' i a.ο
def Kp(g:Z)(f:Pl)(e:Nat->Option Ν)(d:aI)(c:Z):Prop:=
 d=ξ (ι true)/\∃b a,Α c f b a/\Ε g c e b/\fc a/\a.cl 12=A/\a.Ι=0/\a.ο<=3000000
theorem YF(Q:Α w e v uN):ν δ 7 #[Ζ e.g] w (Kp w e v):=by
 have bd:=K Q;have br:η (v w.heap.size=A):=K (Q.dZ (Ο _));clear Q;go_enter func7,ntmps7;go_wp2;generalize a4:bm w _=p at*;have J:=K (show Y w p γ/\θ p w.heap.size 9 #[H dY,H eV,H cy] from by subst a4;exact⟨(Y.refl w γ).alloc _,θ.new _ _ _⟩);clear a4;have bc:=K (bd.out.still J.out.1);have bi:=K (Ε.bu v J.out.1)
 have a2:η (∀O a6,Ε p O v a6->∀a,a<3->O.cell? (U w.heap.size a A)=N (H (nm a))):=K λO a6 bf a S=>by
  have P:=(bo bf J.out.2 br.out).1.cell a;match a,S with
  |0,_=>exact P
  |1,_=>exact P
  |2,_=>exact P
 go_loopw [4] (λq wr=>∃a:Nat,a<=3/\q=I E a/\η (∃g h,Α wr e g h/\Ε p wr v g/\yC a h)) (λq _=>3-(aB q).toNat)
 case atStart=>exact⟨0,by omega,rfl,K ⟨v,uN,bc.out,Ε.refl _ _,⟨Qx,Nr,nofun,λ_ _=>rfl,rfl,ai _⟩⟩⟩
 obtain⟨a,S,rfl,t⟩:=hrel;obtain⟨g,h,z,B,C⟩:=t.out;have f:=K (Φ z (Φ B C));clear z B C t;by_cases k:a<3
 .have y:(a:Int)<3:=by omega
  have G:=K (ye f.out.1 (8+a) (by unfold aF;omega) (by have:=f.out.2.2.ο;unfold aL;omega));go_wp2_with fail;refine G.out.mono ?_;rintro l ba x;obtain⟨rfl,a7,am,b⟩:=Mm f.out.2.2.sum f.out.2.2.fit (by omega) (by omega) (f.out.2.2.ahP _ (by omega)) x;have b:=K b;have j:=K (qB b.out.bp b.out.fit.inv b.out.fit.known b.out.fit.fK b.out.fit.row (8+a) (by unfold aF;omega) (pP (nm a)) (by have:=wG _ (pX a);omega) (by have:=wG _ (pX a);have F:=b.out.ο;have o:=f.out.2.2.ο;unfold aL;omega));have ab:=a2.out ba a7 (f.out.2.1.trans b.out.aW) a k;have L:η (∃W,am.cl (8+a)=N W):=K (by obtain⟨bA,bB,bw,T⟩:=b.out.C7;exact⟨_,T⟩);unfold pP at j;have a8:=λw=>run_string_add_sum (P:=δ) w ⟨#[60,115,116,114,101,97,109,32,117,115,101,114,61,39]⟩ (nm a) (by have:=pX a;show 14+_<=_;omega);have a9:=λw=>run_string_add_sum (P:=δ) w ((D #[60,115,116,114,101,97,109,32,117,115,101,114,61,39])++nm a) ⟨#[39,32,100,101,118,105,99,101,61,39,111,119,110,39,62]⟩ (by have:=pX a;rw[mj];show 14+_+15<=_;omega);clear x;go_wp2_with fail;refine j.out.mono ?_;rintro l ao r;obtain⟨rfl,ad,an,i⟩:=uz b.out.sum.dV.inv L.out r;have i:=K i;have M:=K (show ∃g h,Α ao e g h/\Ε p ao v g/\yC (a+1) h from⟨ad,an,i.out.bp,f.out.2.1.trans (b.out.aW.trans i.out.aW),adT k f.out.2.2 b.out i.out⟩);clear r ab;go_wp2;go_roundw
  case rel=>exact⟨a+1,by omega,by go_num,M⟩
  case measure=>simp[aB];omega
 have y:¬(a:Int)<3:=by omega
 obtain rfl:a=3:=by omega
 have G:=K (ye f.out.1 11 (by unfold aF;omega) (by have:=f.out.2.2.ο;unfold aL;omega));go_wp2_with fail;refine G.out.mono ?_;rintro l ba x;obtain⟨rfl,a7,am,b⟩:=Mm f.out.2.2.sum f.out.2.2.fit (by decide) (by decide) (f.out.2.2.ahP _ (by decide)) x;have b:=K b;have j:=K (qB b.out.bp b.out.fit.inv b.out.fit.known b.out.fit.fK b.out.fit.row 11 (by unfold aF;omega) (pP aO) (by have:=wG aO (by decide);omega) (by have:=wG aO (by decide);have F:=b.out.ο;have o:=f.out.2.2.ο;unfold aL;omega));have L:η (∃W,am.cl 11=N W):=K (by obtain⟨bA,bB,bw,T⟩:=b.out.C7;exact⟨_,T⟩);have a0:η (pP aO=(D #[60,115,116,114,101,97,109,32,117,115,101,114,61,39,100,101,101,39,32,100,101,118,105,99,101,61,39,111,119,110,39,62])):=K (by kernel_rfl);rw[a0.out] at j;clear x;go_wp2_with fail;refine j.out.mono ?_;rintro l ao r;rw[<-a0.out] at r;obtain⟨rfl,ad,an,i⟩:=uz b.out.sum.dV.inv L.out r;have i:=K i;have bt:=K (adW f.out.2.2 b.out i.out);have bk:=K (f.out.2.1.trans (b.out.aW.trans i.out.aW));clear r k y;go_wp2;go_loopw [5] (λq wr=>∃a:Nat,a<=3/\q=I E a/\η (∃g h,Α wr e g h/\Ε p wr v g/\yD a h)) (λq _=>3-(aB q).toNat)
 case atStart=>exact⟨0,by omega,rfl,K ⟨ad,an,i.out.bp,bk.out,bt.out⟩⟩
 obtain⟨a,S,rfl,t⟩:=hrel;obtain⟨bz,b1,z,B,C⟩:=t.out;have c:=K (Φ z (Φ B C));clear z B C t;by_cases k:a<3
 .have y:(a:Int)<3:=by omega
  have j:=K (qB c.out.1 c.out.2.2.fit.inv c.out.2.2.fit.known c.out.2.2.fit.fK c.out.2.2.fit.row 11 (by unfold aF;omega) (nR (nm a)) (by have:=I4 _ (pX a);omega) (by have:=I4 _ (pX a);have o:=c.out.2.2.ο;unfold aL;omega));have ab:=a2.out _ bz c.out.2.1 a k;unfold nR at j;have a8:=λw=>run_string_add_sum (P:=δ) w ⟨#[60,112,114,101,115,101,110,99,101,32,116,121,112,101,61,39,115,117,98,115,99,114,105,98,101,39,32,116,111,61,39]⟩ (nm a) (by have:=pX a;show 31+_<=_;omega);have a9:=λw=>run_string_add_sum (P:=δ) w ((D #[60,112,114,101,115,101,110,99,101,32,116,121,112,101,61,39,115,117,98,115,99,114,105,98,101,39,32,116,111,61,39])++nm a) ⟨#[39,47,62]⟩ (by have:=pX a;rw[mj];show 31+_+3<=_;omega);go_wp2_with fail;refine j.out.mono ?_;rintro l bF u;obtain⟨rfl,al,n,d⟩:=uz c.out.2.2.sum.dV.inv (GD c.out.2.2.aO) u;have d:=K d;have m:=K (adX k c.out.2.2 d.out);have aq:=K (qB d.out.bp m.out.fit.inv m.out.fit.known m.out.fit.fK m.out.fit.row (8+a) (by unfold aF;omega) nJ (by rw[G'];decide) (Ve k m.out.ο G'));unfold nJ at aq;clear u ab a8 a9;go_wp2_with fail;refine aq.out.mono ?_;rintro l ap a5;obtain⟨rfl,bx,bE,s⟩:=uz (Β:=nJ) m.out.sum.dV.inv (GD (m.out.cs a k)) a5;have s:=K s;have M:=K (show ∃g h,Α ap e g h/\Ε p ap v g/\yD (a+1) h from⟨bx,bE,s.out.bp,c.out.2.1.trans (d.out.aW.trans s.out.aW),adV k m.out s.out⟩);clear a5;go_wp2;go_roundw
  case rel=>exact⟨a+1,by omega,by go_num,M⟩
  case measure=>simp[aB];omega
 have y:¬(a:Int)<3:=by omega
 obtain rfl:a=3:=by omega
 have j:=K (qB c.out.1 c.out.2.2.fit.inv c.out.2.2.fit.known c.out.2.2.fit.fK c.out.2.2.fit.row 11 (by unfold aF;omega) wu (by decide) (by have o:=c.out.2.2.ο;have R:wu.size=9:=rfl;unfold aL;omega));unfold wu at j;clear k y;go_wp2_with fail;refine j.out.mono ?_;rintro l bF u;obtain⟨rfl,al,n,d⟩:=uz (Β:=wu) c.out.2.2.sum.dV.inv (GD c.out.2.2.aO) u;have d:=K d;have av:=K (Yy c.out.2.2.sum c.out.2.2.aO d.out.bytes);have bv:=K (ahr _ av.out.1);clear u;have bq:η (n.cl 12=A/\n.Ι=0/\n.ο<=3000000):=K (by refine⟨abo d.out.near (by decide) c.out.2.2.ahP,d.out.near.Ι.trans c.out.2.2.Ι,?_⟩;have F:=d.out.ο;have o:=c.out.2.2.ο;have R:wu.size=9:=rfl;omega);have au:=K (Fi d.out.bp);go_wp2_with fail;refine au.out.mono ?_;rintro l ap ⟨rfl,rfl⟩;have a3:=K (Ll (d.out.bp.part .aE) (u:=aO) (by unfold cX;decide));clear au;go_wp2_with fail;refine a3.out.mono ?_;rintro l bb ⟨b2,rfl,ac,X⟩;rw[bv.out] at ac;obtain⟨bN,b0,rfl⟩:=cC ac;have aw:=K (d.out.bp.still X);have a1:=K (Kr aw.out 11);have be:η (lG n.Κ 11=false):=K (by have F:=Hj n.Κ (i:=11) (by decide);have o:=d.out.fit.inv.open_ 11 (by decide);have R:n.cl ((11:Nat):Int)=A:=av.out.2;rw[R] at o;exact F.trans o);rw[be.out] at a1;have bn:=K (show Ε w bb v al from bi.out.trans ((c.out.2.1.trans d.out.aW).still X));clear ac X a3;go_wp2_with fail;refine a1.out.mono ?_;rintro l b3 ⟨rfl,rfl⟩;have bs:=K (show Kp w e v (ξ (ι true)) bb from⟨rfl,al,n,aw.out,bn.out,d.out.fit,bq.out⟩);go_wp2;go_ret;exact bs.out
theorem Mg(c:HS)(a:Int)(b:Cl):(dh c a b).cl a=N b:=bI _ _ _
theorem Mh(e:HS)(b:Int)(c d a:Nat):(lx e b c d a).cl b=N (jj c d a):=bI _ _ _
theorem Wv(g:fc z)(t:z.cl 12=A)(p:vB w e v z 12 X n):X=ξ (I E 0)/\∃i a,Α n e i a/\Ε w n v i/\fc a/\my a 12/\((a.Κ 12).br=false/\(a.Κ 12).left= -1)/\a.Ι=z.Ι/\a.ο=z.ο+1:=by
 have u:(z.Κ 12).op=false:=by have j:=g.inv.open_ 12 (by decide);have k:z.cl ((12:Nat):Int)=A:=t;rw[k] at j;exact j
 have e0:(at_ ep z.Κ 12).1=0:=by have r:(z.Κ (12:Int).toNat).op=false:=u;unfold at_ ep;rw[ahM (by decide),r];rfl
 obtain⟨rfl,i,a,q,y,j,k⟩:=p;obtain⟨d,f,c,rfl⟩:=k e0;obtain⟨_,_,_,x⟩:=C9 z.Κ 12 e0;have s:∀b,b≠12->(lx (jR z 12) 12 d f c).cl b=z.cl b:=λb h=>bU _ _ _ h;have m:(lx (jR z 12) 12 d f c).Κ 12=⟨true,false, -1,kj⟩:=by show(at_ ep z.Κ 12).2 12=_;rw[x,ahM (by decide)]
 refine⟨by rw[e0],i,_,q,y,⟨Cr g.inv e0 d f c,Hr g.known 12 d f c,λb o l=> ?_,g.row⟩,⟨d,f,c,Mh _ _ _ _ _⟩,⟨by rw[m],by rw[m]⟩,rfl,rfl⟩;by_cases h:b=12
 .subst h;have:N (jj d f c)=N o:=(Mh _ _ _ _ _).symm.trans l;injection this with this;subst this;exact⟨ai _,rfl,_,rfl,trivial⟩
 exact g.fK b o ((s b h).symm.trans l)
def Cx(d:HS):Prop:=∃a b c,d.cl 12=N a/\a.rd=cQ/\a.bd=N ⟨[b],c,false⟩/\b.name=fz
def Cy(a:HS):Prop:=a.cl 12=A\/Cx a
theorem WL(b:iR z c)(a:Cy z):Cy c:=by
 obtain e|e:=b.cl
 .obtain a|⟨k,root,m,c1,c2⟩:=a
  .exact .inl (e.trans a)
  exact .inr ⟨k,root,m,e.trans c1,c2⟩
 exact .inl e
theorem Mt{li:List aG}{root:El}{m:Nat}(q:my z 12)(j:tO 12 z p c)(n:cP cQ p.data.toList=(cQ,li))(l:pL ⟨[],0,false⟩ li=N ⟨[root],m,false⟩)(r:root.name=fz):Cy c:=by
 cases f:c.cl 12 with
 |none=>exact .inl f
 |some g=>obtain⟨t,h,i,d,b,a,k,e⟩:=j g f;obtain⟨u,w,s,o⟩:=q;rw[o] at d;injection d with d;subst d;have b:N (⟨[],0,false⟩:Bd)=N h:=b;injection b with b;subst b;have a:pL ⟨[],0,false⟩ (cP cQ p.data.toList).2=N i:=a;have e:g.rd=(cP cQ p.data.toList).1:=e;rw[n] at a e;rw[l] at a;injection a with a;exact .inr ⟨g,root,m,f,e,by rw[k,<-a],r⟩
def pG:BA:=(D #[60,115,116,114,101,97,109,32,117,115,101,114,61,39,99,121,39,32,100,101,118,105,99,101,61,39,111,100,100,39,62,60,112,114,101,115,101,110,99,101,47,62])
def zq:BA:=(D #[60,101,110,97,98,108,101,47,62])
def vL:BA:=(D #[60,112,114,101,115,101,110,99,101,62,60,47,105,113,62])
def Nb:Bt:=[101,110,97,98,108,101]
theorem WM(b:my z 12)(a:tO 12 z pG c):Cy c:=
 Mt (li:=[⟨1,fz,qM [99,121] [111,100,100],[]⟩,⟨1,bD,[],[]⟩,⟨2,bD,[],[]⟩]) (root:= .mk fz (qM [99,121] [111,100,100]) [] []) (m:=2) b a (by kernel_rfl) rfl rfl
theorem WN(b:my z 12)(a:tO 12 z (pG++zq) c):Cy c:=
 Mt (li:=[⟨1,fz,qM [99,121] [111,100,100],[]⟩,⟨1,bD,[],[]⟩,⟨2,bD,[],[]⟩,⟨1,Nb,[],[]⟩,⟨2,Nb,[],[]⟩]) (root:= .mk fz (qM [99,121] [111,100,100]) [] []) (m:=2) b a (by kernel_rfl) rfl rfl
theorem ahB{s:HS}(b:(s.Κ 12).op=true)(c:(s.Κ 12).br=false)(d:(s.Κ 12).left= -1)(a:BA):(gv s.Κ 12 [a]).2=false/\((gv s.Κ 12 [a]).1 12).out=(s.Κ 12).out++a:=by
 have e:(at_ (ey a) s.Κ 12).1=0:=by unfold at_;rw[ahM (by decide)];exact(Ae a _).2.2.2 b c d
 unfold gv;rw[ahM e];refine⟨rfl,?_⟩;show((at_ (ey a) s.Κ 12).2 12).out=_;unfold at_;rw[ahM (by decide)];show(cN s.Κ 12 (ey a (s.Κ 12)).2 12).out=_;rw[lK];unfold ey tz;rw[b,c,d];rfl
structure Tm (s s':HS) (x:υ):Prop where
 gone:s'.cl 12=A
 out:(s'.Κ 12).out=(s.Κ 12).out++gC
 aE:s'.aE=s.aE
 found:x.ax.toList.isEmpty=false->(cH s').find? (λy=>y.id==x.id)=N {x with Δ:= -1,aH:=s.Ι+20}
 lost:x.ax.toList.isEmpty=true->(cH s').find? (λy=>y.id==x.id)=A
theorem Np(id:Int):(cH z).find? (λb=>b.id==id)=(z.τ.find? (λa=>a.2.id==id)).map (·.2):=by unfold cH;rw[List.find?_map];rfl
theorem Yo{b:List (Nat×υ)}{f:υ->υ}(g:∀c,(f c).id=c.id)(e:b.find? (λa=>a.2.id==h.2.id)=N h):(ee b h.2.id f).find? (λa=>a.2.id==h.2.id)=N (h.1,f h.2):=by
 unfold ee;rw[List.find?_map]
 have d:((λa:Nat×υ=>a.2.id==h.2.id)∘λa=>if a.2.id==h.2.id then(a.1,f a.2) else a)=λa=>a.2.id==h.2.id:=by
  funext a;show((if a.2.id==h.2.id then(a.1,f a.2) else a).2.id==h.2.id)=_;split
  .show((f a.2).id==h.2.id)=_;rw[g]
  rfl
 rw[d,e,gx,beq_self_eq_true];rfl
theorem Yb(g:fc z)(an:Cx z)(al:(z.Κ 12).br=false)(am:(z.Κ 12).left= -1)(m:h∈z.τ)(O:h.2.Δ=12)(e:gL 12 z vL c):Tm z c h.2:=by
 obtain⟨C,i,a9,x,a1,aw,bF⟩:=an;have a3:(z.Κ 12).op=true:=(nO g.inv x).2.2;have ap:cP cQ vL.data.toList=(cQ,[⟨1,bD,[],[]⟩,⟨2,[105,113],[],[]⟩]):=by kernel_rfl
 have e0:=Gw x a1 ap e;have t1:fR ⟨[i],a9,false⟩ ⟨1,bD,[],[]⟩= .inr (⟨[.mk bD [] [] [],i],1,false⟩,A):=rfl;have ac:=MW e0 x aw t1;have av:(dh z 12 {C with bd:=N ⟨[.mk bD [] [] [],i],1,false⟩}).cl 12=N {C with bd:=N ⟨[.mk bD [] [] [],i],1,false⟩} :=Mg _ _ _;have t2:fR ⟨[.mk bD [] [] [],i],1,false⟩ ⟨2,[105,113],[],[]⟩= .inl 3:=rfl;obtain⟨F,G,u⟩:=XG ac av rfl t2;generalize S:dh (dh z 12 {C with bd:=N ⟨[.mk bD [] [] [],i],1,false⟩}) 12 _=s1 at u;have bb:s1.Κ=z.Κ/\s1.τ=z.τ/\s1.ss=z.ss/\s1.row=z.row/\s1.aE=z.aE/\s1.Ι=z.Ι/\(s1.cl 12).isSome=true:=by subst S;exact⟨rfl,rfl,rfl,rfl,rfl,rfl,by rw[Mg];rfl⟩
 obtain⟨q,bn,bk,bi,bc,bf,be⟩:=bb;obtain⟨bx,bz⟩:=ahB (s:=s1) (by rw[q];exact a3) (by rw[q];exact al) (by rw[q];exact am) gC;have R:(kg s1 12 F G).row=[(12,0)]:=by show(s1.row++(if(gv s1.Κ 12 [gC]).2 then[((12:Int),(0:Int))] else[]))++[(12,0)]=_;rw[bx,bi,g.row];rfl
 have gone:=GG u (c:=12) (x:=0) (by decide) (Eb _ _ _ _);obtain⟨j,a8,M,bE,l⟩:=g.inv.state h m
 have l:j.ae=false:=by
  cases t:j.ae
  .rfl
  have:=l t;rw[g.row] at this;cases this
 cases u with
 |nil _ k=>rw[R] at k;cases k
 |cons _ J _ B w=>
  obtain⟨bA,bB,b1,bw,f,B,_⟩:=B;rw[R] at f;injection f with f a5;injection f with a6 Q;subst a6 a5;obtain⟨k,_⟩|⟨_,d⟩:=B
  .exact ahN k (by decide)
  have bN:(kg s1 12 F G).Κ=(gv s1.Κ 12 [gC]).1:=rfl;obtain⟨a,hs4⟩:∃a,a=jY (kg s1 12 F G) [] bw:=⟨_,rfl⟩;rw[<-hs4] at d;have bq:a.τ=z.τ/\a.ss=z.ss/\a.row=[]/\a.aE=z.aE/\a.Ι=z.Ι/\(a.cl 12).isSome=true/\(a.Κ 12).out=(z.Κ 12).out++gC:=by subst hs4;exact⟨bn,bk,rfl,bc,bf,be,by rw[<-q];exact bz⟩
  obtain⟨r,bv,bt,W,bs,br,X⟩:=bq;clear hs4 S
  have aq:a.τ.find? (λb=>dW b.2 12)=N h:=by
   rw[r]
   have ao:∃b,z.τ.find? (λb=>dW b.2 12)=N b:=by
    cases t:z.τ.find? (λb=>dW b.2 12) with
    |some b=>exact⟨b,rfl⟩
    |none=>have:=lM.1 t h m;refine ahN ?_ this;unfold dW;rw[O];rfl
   obtain⟨b,n⟩:=ao;obtain⟨a4,P,_⟩:=wo n;rw[n,g.inv.iq b a4 h m (P.trans O.symm) (by rw[P];decide)]
  have L:=rZ g.inv m;unfold fC at d;obtain⟨b0,a0⟩:=Option.isSome_iff_exists.1 br;rw[a0] at d;simp only[aq] at d;obtain⟨b3,p,d⟩:=d;rw[bv,a8] at p;injection p with p;subst p;have T:∀s:Int,((cK a s).Κ 12).out=(a.Κ 12).out:=λs=>(vW a.Κ s 12 (by decide)).1;cases o:h.2.ax.toList.isEmpty with
  |false=>
   rw[M,o,l] at d;simp only[Bool.not_false,Bool.and_true,Bool.and_self,if_true] at d;have Q:J.row=[]:=by rw[d];exact bt
   have:=GH w Q;subst this d;refine⟨gone,(T 12).trans X,W,λ_=> ?_,λe=>by rw[o] at e;cases e⟩;rw[Np];show((ee a.τ h.2.id (oG a.Ι)).find? _).map _=_;rw[r,bs,Yo (f:=oG z.Ι) (λ_=>rfl) L];rfl
  |true=>
   rw[M,o,l] at d;simp only[Bool.not_true,Bool.false_and,rB,if_false] at d;have ab:=(dX.sinks d).trans (eh.sinks w);have au:((lE a 12 h.2.id j).Κ 12).op=false:=by have:=(vW a.Κ 12 12 (by decide)).2.2.2;exact this.trans (by simp)
   refine⟨gone,((ab.out 12 (by decide) au).1).trans ((T 12).trans X),ab.aE.trans W,λe=>(by rw[o] at e;cases e),λ_=> ?_⟩;rw[Np]
   have a2:c.τ.find? (λba=>ba.2.id==h.2.id)=A:=by
    refine lM.2 λb n=> ?_;obtain⟨b2,f,ad⟩:=(eh.sinks w).bj b n
    have a7:J.τ=bY z.τ h.2.id:=by
     have y:dX (lE a 12 h.2.id j) J h.2.id:=d;unfold dX at y;have:(lE a 12 h.2.id j).τ.find? (λb=>b.2.id==h.2.id)=N h:=by show a.τ.find? _=_;rw[r];exact L
     rw[this] at y;rw[y.τ];unfold ei;rw[uY];show bY a.τ h.2.id=_;rw[r]
    rw[a7] at f;have:=(dE.1 f).2;rw[<-ad];simpa using this
   rw[a2];rfl
theorem agN:prog.underlying 22=N (.slice 37):=by kernel_rfl
theorem afj:(prog.info? 37).map (λa=>(a.zero,a.size,a.bytes))=N (N (Μ #[I E 0,I E 0,I E 0,H (D #[]),V A 0 0]),5,64):=by kernel_rfl
def qj(a:List mz):List ε:=a.flatMap oP
theorem Dw:∀(b:List mz) (a:Nat),(qj b)[a]? =(b[a/5]?).bind λc=>(oP c)[a%5]?
 |[],a=>by simp[qj]
 |c::b,a=>by
  show(oP c++qj b)[a]? =_;have d:(oP c).length=5:=rfl;by_cases e:a<5
  .rw[List.getElem?_append_left (by rw[d];exact e),Nat.div_eq_of_lt e,Nat.mod_eq_of_lt e];rfl
  .rw[List.getElem?_append_right (by rw[d];omega),d,Dw b (a-5)];have f:a/5=(a-5)/5+1:=by omega
   have g:a%5=(a-5)%5:=by omega
   rw[f,g,List.getElem?_cons_succ]
def Ge(g:Z)(v:ε)(a:List Int):Prop:=
 (∀b∈a,0<=b/\b<18446744073709551616)/\∃e d,v=V e a.length d/\a.length<=d/\d<=Χ/\(e=A->a=[]/\d=0)/\∀c,e=N c->(a≠[]->c.spot=A)/\∀f b,a[f]? =N b->g.cell? ⟨c.block,c.off+f,A⟩=N (I .u64 b)
structure rL (w:Z) (v:ε) (L:List mz):Prop where
 ex:∃p c,v=V p L.length c/\L.length<=Χ/\(p=A->L=[])/\∀a,p=N a->a.spot=A/\∀j x,(qj L)[j]? =N x->w.cell? ⟨a.block,a.off+j,A⟩=N x
 each:∀x∈L,aF x.Θ/\aF x.Δ/\aF x.n/\x.Β.size<=Χ/\∃dl,Ge w x.dv dl
def Bp(c:Z)(a:mz):Prop:=(0<=a.Δ/\a.Δ<8)/\a.n<=9223372036854775807/\a.Β.size<=600/\∃b,uk c a.dv b/\b.length<=100
def Fu(e c:Z)(d:aI)(b:Z):Prop:=∃v a,d=ξ v/\b.ownsRow c.heap.size 37 5 v a.length (qj a)/\Y c b γ/\(∀f∈a,Bp e f)/\a.length<=30
theorem rL.keeps{e:List mz}(l:rL w x e)(g:Y w n γ):rL n x e:=by obtain⟨⟨s,i,m,o,p,f⟩,q⟩:=l;refine⟨⟨s,i,m,o,p,λw a=>⟨(f w a).1,λc d b=>az g ((f w a).2 c d b) id⟩⟩,λd r=> ?_⟩;obtain⟨u,y,z,A,k,B,t,j,C,E,F,G,h⟩:=q d r;exact⟨u,y,z,A,k,B,t,j,C,E,F,G,λw a=>⟨(h w a).1,λc H b=>az g ((h w a).2 c H b) id⟩⟩
theorem rL.at_{a:List mz}(m:rL w x a){k:Nat}(d:k<a.length):∃b c h,x=V (N (U b c A)) a.length h/\w.cell? ⟨b,c+k*5,A⟩=N (I E (a[k]'d).Θ)/\w.cell? ⟨b,c+k*5+1,A⟩=N (I E (a[k]'d).Δ)/\w.cell? ⟨b,c+k*5+2,A⟩=N (I E (a[k]'d).n)/\w.cell? ⟨b,c+k*5+3,A⟩=N (H (a[k]'d).Β)/\w.cell? ⟨b,c+k*5+4,A⟩=N (a[k]'d).dv:=by
 obtain⟨⟨q,h,rfl,r,n,o⟩, -⟩:=m;cases q with
 |none=>have:=n rfl;subst this;cases d
 |some i=>
  obtain⟨l,j⟩:=o i rfl;obtain⟨b,c,t⟩:=i;simp only at l j;subst l;have f:∀e (g:ε),e<5->(oP (a[k]'d))[e]? =N g->w.cell? ⟨b,c+(k*5+e),A⟩=N g:=λe g s p=>by refine j (k*5+e) g ?_;rw[Dw,show(k*5+e)/5=k by omega,show(k*5+e)%5=e by omega,cT d];exact p
  exact⟨b,c,h,rfl,f 0 _ (by omega) rfl,f 1 _ (by omega) rfl,f 2 _ (by omega) rfl,f 3 _ (by omega) rfl,f 4 _ (by omega) rfl⟩
theorem Vb(c:Nat)(o:w.ownsRow c 37 5 x y a)(d e f:Int)(j:BA)(i:Option ay)(h g:Nat)(p:y<=1000000)(n:c<=w.heap.size):∃k l,(Builtin.append_ #[22,22] 22 #[x,V (N (U w.heap.size 0 A)) 1 1]).run δ (w.alloc (ζ #[I E d,I E e,I E f,H j,V i h g] 37))= .ok k l/\l.ownsRow c 37 5 k (y+1) (a++[I E d,I E e,I E f,H j,V i h g])/\Y w l (λb=>x.ownBlock=N b)/\∀b,k.ownBlock=N b->x.ownBlock=N b\/w.heap.size<=b:=
 nA c 22 37 agN afj rfl (by decide) o [I E d,I E e,I E f,H j,V i h g] rfl (λq m=>by simp at m;rcases m with rfl|rfl|rfl|rfl|rfl<;>rfl) (by unfold Χ;omega) (by omega) n
theorem Yi{q:List mz}(X:rL w x q)(ax:Y w n γ):ν δ 11 #[x,I E 30] n (Fu w n):=by
 have y:=X.keeps ax;have aA:=K X;clear X ax;obtain⟨bz,bx,rfl,bl, -⟩:=id y.ex;have HS:=K y;clear y;go_enter func11,ntmps11;go_wp2;go_loopw [5,6] (λp ac wr=>∃(a:Nat) (m:Option ay) (s:Nat) (l:List mz),a<=q.length/\a<=30/\ac=I E a/\l.length=a/\p=V m a s/\η (wr.ownsRow n.heap.size 37 5 (V m a s) a (qj l)/\Y n wr γ/\∀z∈l,Bp w z)) (λ_ ac _=>30-(aB ac).toNat)
 case atStart=>exact⟨0,A,0,[],by omega,by omega,rfl,rfl,rfl,K ⟨db _ _ _ _,Y.refl _ _,nofun⟩⟩
 obtain⟨a,m,s,l,bn,bo,rfl,T,rfl,d⟩:=hrel;by_cases av:a<q.length
 .have aV:(a:Int)<q.length:=by omega
  by_cases bj:a<30
  .have aT:(a:Int)<30:=by omega
   obtain⟨bq,bs,br,aX,y0,ba,bb,bc,bd⟩:=(HS.out.keeps d.out.2.1).at_ av;injection aX with M a0 ab;clear a0;subst M ab;have ah:=K (aA.out.each _ (eA av));generalize q[a]=p at*;obtain⟨i,u,j,O,bA⟩:=p;obtain⟨aK,aL,an,bf,o,ao⟩:=id ah.out;simp only at*;have aC:=K ao;obtain⟨bg,g,e,rfl,bh,bi,aM,aN⟩:=ao;clear aM aN ah;unfold aF at aK aL an;go_upto_region 6 with fail
   generalize ap:bm wr _=Q at*;have B:η (Y wr Q γ/\θ Q wr.heap.size 37 #[I E i,I E u,I E j,H O,V g o.length e]):=K (by subst ap;exact⟨(Y.refl wr γ).alloc _,θ.new _ _ _⟩);clear ap y0 ba bb bc bd;have aj:=B.out.2.cell 1;have aO:=B.out.2.frozen 1;simp only[gz_] at aj;go_upto_region 7 with fail
   obtain⟨c,hcc⟩:∃c,wrap64 ((IntKind.u64.wrap u).tmod 8)=c:=⟨_,rfl⟩
   have az:η (0<=c/\c<8):=K (by
    rw[<-hcc];have aR:=Jr u;rw[EI aR.1];have aS:0<=(IntKind.u64.wrap u)%8/\(IntKind.u64.wrap u)%8<8:=by omega
    generalize(IntKind.u64.wrap u)%8=r at aS⊢;unfold wrap64;omega)
   rw[hcc];clear hcc aj aO;generalize aq:eH Q _ _=R at*;have C:η (Y wr R γ/\θ R wr.heap.size 37 #[I E i,I E c,I E j,H O,V g o.length e]):=K (by subst aq;exact⟨B.out.1.bG (Ο _),(B.out.2.χ 1 _).to (by simp)⟩);clear aq;have ak:=C.out.2.cell 3;have aP:=C.out.2.frozen 3;simp only[gz_] at ak;go_upto_region 8 with fail
   obtain⟨h,htt⟩:∃h:BA,O.extract 0 (min (O.size:Int) 600).toNat=h:=⟨_,rfl⟩;have TT:η (h.size<=600):=K (by rw[<-htt,ByteArray.size_extract];omega);rw[htt];clear htt ak aP;generalize ar:eH R _ _=S at*;have F:η (Y wr S γ/\θ S wr.heap.size 37 #[I E i,I E c,I E j,H h,V g o.length e]):=K (by subst ar;exact⟨C.out.1.bG (Ο _),(C.out.2.χ 3 _).to (by simp)⟩);clear ar;have al:=F.out.2.cell 4;have aQ:=F.out.2.frozen 4;simp only[gz_] at al;have bk:(o.length:Int)<=e:=by omega
   go_upto_region 9 with fail
   obtain⟨b,hmm⟩:∃b:Nat,(min (o.length:Int) 10).toNat=b:=⟨_,rfl⟩;have G:η (b<=10/\b<=o.length):=K (by omega);rw[hmm];clear hmm al aQ;generalize au:eH S _ _=f at*;have k:η (Y wr f γ/\θ f wr.heap.size 37 #[I E i,I E c,I E j,H h,V g b e]):=K (by subst au;exact⟨F.out.1.bG (Ο _),(F.out.2.χ 4 _).to (by simp)⟩);clear au
   have aH:η (Bp w ⟨i,c,j,h,V g b e⟩):=K (by
    refine⟨az.out,an.2,TT.out,o.take b,?_,by rw[lO];have:=G.out;omega⟩;obtain⟨a7,bt,be,hv,bu,bv,a8,a9⟩:=aC.out;injection hv with M bp ab;have aa:(o.take b).length=b:=by rw[lO];have:=G.out.2;omega
    refine⟨λp a1=>a7 p (vx a1),g,e,by rw[aa],by rw[aa];have:=G.out.2;omega,by rw[aa];have:=G.out.1;omega,λaY=> ?_,λm aU=> ?_⟩
    .obtain⟨ae,af⟩:=a8 (M▸aY);exact⟨by rw[ae];exact List.take_nil,ab▸af⟩
    obtain⟨ae,af⟩:=a9 m (M▸aU);refine⟨λaW=>ae λaI=>aW (by rw[aI];exact List.take_nil),λa3 p L=>af a3 p ?_⟩;rw[kD] at L;split at L
    .exact L
    cases L)
   obtain⟨z0,bB,bC,bD,bE⟩:f.cell? (U wr.heap.size 0 A)=N (I E i)/\f.cell? (U wr.heap.size 1 A)=N (I E c)/\f.cell? (U wr.heap.size 2 A)=N (I E j)/\f.cell? (U wr.heap.size 3 A)=N (H h)/\f.cell? (U wr.heap.size 4 A)=N (V g b e):=⟨k.out.2.cell 0,k.out.2.cell 1,k.out.2.cell 2,k.out.2.cell 3,k.out.2.cell 4⟩;have a2:n.heap.size<=f.heap.size:=aJ d.out.2.1.size k.out.1.size;have a4:Y f (f.alloc (ζ #[I E i,I E c,I E j,H h,V g b e] 37)) γ:=(Y.refl f γ).alloc _;obtain⟨bw,ag,a6,ad,aw,a5⟩:=Vb n.heap.size (aD d.out.1 k.out.1 λ_ _ y=>y) i c j h g b e (by omega) a2;obtain⟨ai,am,aZ⟩:=cC ad;subst aZ;have aE:=K (show Y wr ag (λJ=>(V m a s).ownBlock=N J) from k.out.1.any.trans aw λJ W=> .inl W)
   have aG:η (ag.ownsRow n.heap.size 37 5 (V ai (a+1) am) (a+1) (qj (l++[⟨i,c,j,h,V g b e⟩]))/\Y n ag γ/\∀z∈l++[⟨i,c,j,h,V g b e⟩],Bp w z):=K (by
    refine⟨by unfold qj;rw[List.flatMap_append];exact ad,d.out.2.1.trans aE.out λJ W=> .inr (d.out.1.lt J W).1,λz t=> ?_⟩;obtain t|t:=dO.1 t
    .exact d.out.2.2 z t
    rw[cj] at t;rw[t];exact aH.out)
   clear ad aw a5 a4;go_wp2_with (first|(at_builtin;refine dy rfl (.tmp 45) (.tmp 47) 22 rfl rfl rfl a6 ?_)|fail);go_roundw
   case rel=>exact⟨a+1,ai,am,_,by omega,by omega,by go_num,by rw[cL];simp[T],rfl,aG⟩
   case measure=>simp[aB];omega
  have aT:¬(a:Int)<30:=by omega
  have P:=K (show Fu w n (ξ (V m a s)) wr from⟨_,l,rfl,by rw[T];exact d.out.1,d.out.2.1,d.out.2.2,by omega⟩);go_wp2;go_ret;exact P.out
 have aV:¬(a:Int)<q.length:=by omega
 have P:=K (show Fu w n (ξ (V m a s)) wr from⟨_,l,rfl,by rw[T];exact d.out.1,d.out.2.1,d.out.2.2,by omega⟩);go_wp2;go_ret;exact P.out
def Uu(c:Z)(a:aI)(b:Z):Prop:=a=ξ (ι true)/\Y c b γ
theorem ad9{a:List mz}(h:w.ownsRow y 37 5 x a.length (qj a))(d:k<a.length):∃c l,x=V (N (U c 0 A)) a.length l/\y<=c/\c<w.heap.size/\w.cell? ⟨c,k*5,A⟩=N (I E (a[k]'d).Θ)/\w.cell? ⟨c,k*5+1,A⟩=N (I E (a[k]'d).Δ)/\w.cell? ⟨c,k*5+2,A⟩=N (I E (a[k]'d).n)/\w.cell? ⟨c,k*5+3,A⟩=N (H (a[k]'d).Β)/\w.cell? ⟨c,k*5+4,A⟩=N (a[k]'d).dv:=by
 have C:=h.lt;obtain⟨_,s⟩|⟨g,m,n,rfl,p,q,t,u,z,o⟩:=h.2
 .omega
 have i:θ w g 37 n:=q
 have e:∀b (f:ε),b<5->(oP (a[k]'d))[b]? =N f->w.cell? ⟨g,k*5+b,A⟩=N f:=λb f B r=>by
  refine(i.cell (k*5+b)).trans ?_;have j:(qj a)[k*5+b]? =N f:=by rw[Dw,show(k*5+b)/5=k by omega,show(k*5+b)%5=b by omega,cT d];exact r
  rw[<-o,vu (by omega)] at j;rw[<-j];simp
 exact⟨g,m,rfl,p,i.lt,e 0 _ (by omega) rfl,e 1 _ (by omega) rfl,e 2 _ (by omega) rfl,e 3 _ (by omega) rfl,e 4 _ (by omega) rfl⟩
theorem ag1(c:Z):lw (c.alloc (ζ #[I .u64 987654321] 32)) (V (N (U c.heap.size 0 A)) 1 1) [987654321]:=by
 refine⟨λf d=>by rw[cj] at d;subst d;decide,_,1,rfl,Ο _,by decide,nofun,λg b=> ?_⟩;injection b with b;subst b;refine⟨rfl,λe f a=> ?_⟩;match e,a with
 |0,a=>simp at a;subst a;exact(θ.new c 32 #[I .u64 987654321]).cell 0
structure uf (p:Pl) (w0 wr:Z) (kY ownr:Nat->Option Ν) (sr:HS) (nw:Int) (i:Nat):Prop where
 bp:Α wr p ownr sr
 aW:Ε w0 wr kY ownr
 fit:fc sr
 time:sr.Ι=nw
 le:0<=nw/\nw<=30*i
 cy:Cy sr
 whole:(sr.Κ 12).br=false/\(sr.Κ 12).left= -1
 ο:sr.ο<=4000000+1610000*i
theorem aa0(a:Int):0<=wrap64 ((IntKind.u64.wrap a).tmod 30)/\wrap64 ((IntKind.u64.wrap a).tmod 30)<30:=by
 have b:=Jr a;rw[EI b.1];have c:0<=(IntKind.u64.wrap a)%30/\(IntKind.u64.wrap a)%30<30:=by omega
 generalize(IntKind.u64.wrap a)%30=r at c⊢;unfold wrap64;omega
theorem uf.next{w1:Z}{own1:Nat->Option Ν}{s1:HS}{nw nw':Int}(a:uf e w w1 v own1 s1 nw y)(d:0<=nw'/\nw'<=30*(y+1))(i:rP w1 e own1 s1 nw' (ξ (σ #[])) n):∃c b,uf e w n v c b nw' (y+1):=by obtain⟨_,c,b,j,k,l,f,m,o⟩:=i;refine⟨c,b,j,a.aW.trans k,l,m,⟨d.1,by have:=d.2;omega⟩,WL f a.cy,f.whole a.whole.1 a.whole.2,?_⟩;have g:=a.ο;have h:b.ο<=4000000+1610000*y+1610000:=aJ o (Nat.add_le_add_right g _);rw[Nat.mul_succ,<-mW];exact h
theorem Ms:cy∈us:=eZ _ (eZ _ dP)
theorem LY(a:p.toList.isEmpty=true):p=(D #[]):=by
 rw[List.isEmpty_iff,ByteArray.toList_eq] at a;obtain⟨c⟩:=p;obtain⟨b⟩:=c;cases b with
 |nil=>rfl
 |cons d b=>cases a
def Gd(a:BA):Prop:=a=pG\/a=pG++zq
theorem aeS(en:aT w){fs:List mz}(cm:rL w x fs)(keeps:Bool):ν δ 3 #[x,ι keeps] w (Uu w):=by
 have c7:=K en;have fm:=K cm;obtain⟨hk,hj,rfl, -⟩:=cm.ex;clear en cm;go_enter func3,ntmps3;have dn:=K (aaG c7.out);go_wp2_with fail;refine dn.out.mono ?_;rintro b gf ⟨rfl,ev⟩;have dd:=K ev;clear ev dn;have d0:=K (Rv gf);go_wp2_with fail;refine d0.out.mono ?_;rintro b hq ⟨g2,rfl,T,cq⟩;have dg:=K (kk dd.out cq);have dt:=K (KJ (c7.out.still (kk dd.out cq)) (cap:=4) T);clear cq T d0;go_wp2_with fail;refine dt.out.mono ?_;rintro b gl ⟨ab,e8,rfl,an,ew,d9⟩;have a0:=K (kk dg.out ew);have av:=K (λg (gb:e8 g≠A)=>aJ dg.out.size (d9 g gb));have c3:=K (YF an);have gs:=K an;clear ew d9 dt an;go_wp2_with fail;refine c3.out.mono ?_;rintro b hr ⟨rfl,hb,hf,T,eS,ea,d3,e1,eo⟩;have a1:=K (Φ T (Φ eS (Φ ea (Φ d3 (Φ e1 eo)))));have c0:=K (ye T 12 (by unfold aF;decide) (by unfold aL;omega));clear T eS ea d3 e1 eo c3;go_wp2_with fail;refine c0.out.mono ?_;rintro b bd el;obtain⟨rfl,hc,y,ce,eT,eb,e3,fb,e2,eq⟩:=Wv a1.out.2.2.1 a1.out.2.2.2.1 el;have S:=K (Φ ce (Φ (a1.out.2.1.trans eT) (Φ eb (Φ e3 (Φ fb (Φ e2 eq))))));have ex:Y bd (bd.alloc (ζ #[I .u64 987654321] 32)) γ:=(Y.refl bd γ).alloc _;have c2:=K (Kk (ce.still ex) (ag1 bd).r (by decide));clear el ce eT eb e3 fb e2 eq ex c0;go_wp2_with fail;refine c2.out.mono ?_;rintro b cA ⟨rfl,e9,u,t,ec,e0⟩;have f:η (Α cA ab e9 (fj y u t)/\Ε gl cA e8 e9/\fc (fj y u t)/\my (fj y u t) 12/\((fj y u t).Κ 12).br=false/\((fj y u t).Κ 12).left= -1/\(fj y u t).Ι=0/\(fj y u t).ο<=3000001):=K ⟨ec,(S.out.2.1.still ((Y.refl bd γ).alloc _)).trans e0,(IY S.out.2.2.1 u t).1,S.out.2.2.2.1,S.out.2.2.2.2.1.1,S.out.2.2.2.2.1.2,S.out.2.2.2.2.2.1.trans a1.out.2.2.2.2.1,by have d:=S.out.2.2.2.2.2.2;have G:=a1.out.2.2.2.2.2;show y.ο<=_;omega⟩;clear ec e0 c2;generalize fj y u t=gc at*;go_upto_if 35 with fail
 go_cut [6] (λgd go=>∃bc:BA,go=cA/\gd=H bc/\η (Gd bc))
 case first=>
  cases keeps with
  |true=>have b6:=K (show Gd (pG++zq) from .inr rfl);go_wp2_with fail;go_meet;exact⟨pG++zq,rfl,rfl,b6⟩
  |false=>have b6:=K (show Gd pG from .inl rfl);go_wp2_with fail;go_meet;exact⟨pG,rfl,rfl,b6⟩
 case rest=>
 obtain⟨bc,rfl,rfl,c9⟩:=hcut
 have b7:η (bc.size<=60):=K (by
  obtain rfl|rfl:=c9.out
  .have:pG.size=42:=by kernel_rfl
   omega
  have d:pG.size=42:=by kernel_rfl
  have G:zq.size=9:=by kernel_rfl
  rw[mj];omega)
 have z:=K (qB f.out.1 f.out.2.2.1.inv f.out.2.2.1.known f.out.2.2.1.fK f.out.2.2.1.row 12 (by unfold aF;decide) bc (by have:=b7.out;omega) (by have:=b7.out;have d:=f.out.2.2.2.2.2.2.2;unfold aL;omega));have fp:η (∃L,gc.cl 12=N L):=K (by obtain⟨hd,he,gF,ch⟩:=f.out.2.2.2.1;exact⟨_,ch⟩);go_wp2_with fail;refine z.out.mono ?_;rintro b hs ek;obtain⟨rfl,a9,cv,j⟩:=uz f.out.2.2.1.inv fp.out ek;have j:=K j
 have ff:η (Cy cv):=K (by
  obtain rfl|rfl:=c9.out
  .exact WM f.out.2.2.2.1 j.out.uq
  exact WN f.out.2.2.2.1 j.out.uq)
 have dp:=K (f.out.2.1.trans j.out.aW);have fo:=K (wK a0.out av.out dp.out);have c4:=K (Yi fm.out fo.out);clear ek z;go_wp2_with fail;refine c4.out.mono ?_;rintro b bw ⟨hi,p,rfl,cu,cs,d8,eD⟩;obtain⟨f1,f2,rfl⟩:=cC cu;have b4:=K cu;have fg:=K d8;have fk:=K (j.out.bp.still cs);have bk:=K (dp.out.still cs);have fi:η (∀F,(V f1 p.length f2).ownBlock=N F->a9 F=A/\F<bw.heap.size):=K λF bq=>⟨j.out.bp.dZ (b4.out.lt F bq).1,(b4.out.lt F bq).2⟩;have fJ:η (uf ab bw bw a9 a9 cv 0 0):=K ⟨fk.out,Ε.refl _ _,j.out.fit,j.out.near.Ι.trans f.out.2.2.2.2.2.2.1,⟨by decide,by decide⟩,ff.out,j.out.near.whole 12 (by decide) f.out.2.2.2.2.1 f.out.2.2.2.2.2.1,by have d:=j.out.ο;have G:=b7.out;have an:=f.out.2.2.2.2.2.2.2;omega⟩;clear cu d8 cs c4;go_wp2;go_loopw [7,8] (λa8 cn wr=>∃(n:Nat) (h:Int),n<=p.length/\cn=I E n/\a8=I E h/\η (∃ba i,uf ab bw wr a9 ba i h n)) (λ_ cn _=>p.length-(aB cn).toNat)
 case atStart=>exact⟨0,0,by omega,rfl,rfl,K ⟨a9,cv,fJ.out⟩⟩
 obtain⟨n,h,g4,rfl,rfl,c8⟩:=hrel;obtain⟨ba,i,cl⟩:=c8.out;have a:=K cl;have gw:=cl.le;clear cl c8;by_cases es:n<p.length
 .have f5:(n:Int)<p.length:=by omega
  have e7:=aD b4.out a.out.aW.keeps (λF bq f7=>f7 (fi.out F bq).1);obtain⟨g8,g9,f6,_,_,y0,cI,cJ,cR,cS⟩:=ad9 e7 es;injection f6 with f8 ga f9;clear ga e7;subst f8 f9;have Q:=K (fg.out _ (eA es));generalize p[n]=g at*;obtain⟨O,cB,be,cD,ht⟩:=g;obtain⟨d5,d6,d7,cb,ef,em⟩:=Q.out;simp only at*;have bf:=K (Φ ef em);obtain⟨ge,cc,b9,rfl, -⟩:=ef;clear ge em;have dl:=K (Oq wr (I E cB) (I E be) (H cD) (V cc cb.length b9) O);go_wp2_with fail;refine dl.out.mono ?_;rintro b fa ⟨rfl,X⟩;have B:=K X;have z0:=az X y0 id;have ac:=az X cI id;have ad:=az X cJ id;have P:=az X cR id;have al:=az X cS id;clear X y0 cI cJ cR cS dl;have f3:=aa0 be;cases ck:(oD O==4) with
  |true=>
   have er:oD O=4:=beq_iff_eq.1 ck;have bF:=K er;clear er;have g6:h<=900:=by omega
   go_upto_region 18 with fail
   generalize wrap64 ((IntKind.u64.wrap be).tmod 30)=ct at*;have bN:=K (zZ bf.out.1 (wK a0.out av.out (bk.out.trans (a.out.aW.still B.out))) λ_ _ l=>l);have a2:=K (Qs (a.out.bp.still B.out) a.out.fit (x:=⟨O,cB,be,cD,V cc cb.length b9⟩) Q.out.1 Q.out.2.1 Q.out.2.2.1 bN.out bf.out.2 (Ι:=(h+ct)) (by show(if oD O=4 then _ else _);rw[ahM bF.out];have:=a.out.time;have:=a.out.le;omega) (by have d:=a.out.ο;unfold aL;omega));unfold oP at a2;go_wp2_with fail;refine a2.out.mono ?_;rintro b gn a4;have bE:=K a4;obtain⟨rfl, -⟩:=a4;have b3:=K (uf.next (w1:=fa) (own1:=ba) (s1:=i) (nw:=h) ⟨a.out.bp.still B.out,a.out.aW.still B.out,a.out.fit,a.out.time,a.out.le,a.out.cy,a.out.whole,a.out.ο⟩ (nw':=(h+ct)) (by have:=a.out.le;omega) bE.out);clear z0 ac ad P al;go_wp2;go_roundw
   case rel=>exact⟨n+1,(h+ct),by omega,by go_num,rfl,b3⟩
   case measure=>simp[aB];omega
  |false=>
   have bF:η (¬oD O=4):=K (by intro b;rw[b] at ck;cases ck);clear f3;have bN:=K (zZ bf.out.1 (wK a0.out av.out (bk.out.trans (a.out.aW.still B.out))) λ_ _ l=>l);have a2:=K (Qs (a.out.bp.still B.out) a.out.fit (x:=⟨O,cB,be,cD,V cc cb.length b9⟩) Q.out.1 Q.out.2.1 Q.out.2.2.1 bN.out bf.out.2 (Ι:=h) (by show(if oD O=4 then _ else _);rw[WB bF.out];exact a.out.time.symm) (by have d:=a.out.ο;unfold aL;omega));unfold oP at a2;go_wp2_with fail;refine a2.out.mono ?_;rintro b gn a4;have bE:=K a4;obtain⟨rfl, -⟩:=a4;have b3:=K (uf.next (w1:=fa) (own1:=ba) (s1:=i) (nw:=h) ⟨a.out.bp.still B.out,a.out.aW.still B.out,a.out.fit,a.out.time,a.out.le,a.out.cy,a.out.whole,a.out.ο⟩ (nw':=h) (by have:=a.out.le;omega) bE.out);clear z0 ac ad P al;go_wp2;go_roundw
   case rel=>exact⟨n+1,h,by omega,by go_num,rfl,b3⟩
   case measure=>simp[aB];omega
 have f5:¬(n:Int)<p.length:=by omega
 have f4:n=p.length:=by omega
 subst f4;have q:=K (abT a.out.bp a.out.fit.inv 12);cases a5:(cH i).find? (λg=>g.Δ==12) with
 |none=>rw[a5] at q;unfold pw yW at q;simp only[pj,tN] at q;go_wp2_with fail;refine q.out.mono ?_;rintro b M ⟨rfl,a7⟩;have bi:=K (kk (wK a0.out av.out (bk.out.trans a.out.aW)) a7);clear q a7 a5;unfold υ.zero υ.cells;go_wp2;go_ret;refine⟨rfl,?_⟩;exact bi.out.alloc _
 |some g=>
  rw[a5] at q;unfold pw yW at q;simp only[gK,mX] at q;go_wp2_with fail;refine q.out.mono ?_;rintro b M ⟨rfl,a7⟩;have bi:=K a7;have bA:=K a5;clear q a7 a5;unfold υ.cells;go_upto_region 22 with fail
  generalize m:bm M _=d1 at*;have dk:η (Y M d1 γ/\θ d1 M.heap.size 42 #[I E g.id,H g.ψ,H g.ah,H g.ax,I E g.Δ,I E g.aH]):=K (by subst m;exact⟨(Y.refl M γ).alloc _,θ.new _ _ _⟩);clear m;have b2:=K (kk bi.out dk.out.1);have c6:=K (a.out.bp.still b2.out);have gt:=K (a.out.aW.still b2.out);have f0:η (ba M.heap.size=A):=K (a.out.bp.dZ bi.out.size);have dx:η (∃c∈i.τ,c.2=g/\c.2.Δ=12):=K (by have d:=rE bA.out;have G:(g.Δ==12)=true:=xT (p:=λgr:υ=>gr.Δ==12) bA.out;obtain⟨c,a6,rfl⟩:=eO.1 d;exact⟨c,a6,rfl,beq_iff_eq.1 G⟩);obtain⟨c,a6,rfl,br⟩:=dx.out;have dv:=K (Φ a6 br)
  have c1:η (Cx i):=K (by
   obtain l|l:=a.out.cy
   .obtain d|⟨_,_,d⟩:=a.out.fit.inv.eC c a6
    .rw[br] at d;cases d
    rw[br,l] at d;cases d
   exact l)
  clear dx a6 br bA;have aq:=K (Fi c6.out);have aw:∀(e:Z) (bb:HS) (e4:Nat->Option Ν),Α e ab e4 bb->ν δ 16 #[Ζ ab.kb,H (D #[99,121])] e λb ao=>∃x,b=ξ (σ #[x,I E (bb.aE.bl cy),I E 0])/\ao.ownsRow e.heap.size 150 4 x (aM bb.aE cy).length (ej (aM bb.aE cy))/\Y e ao γ:=λe bb e4 l=>FH (l.part .aE) (gH cy Ms) (Ox Ms);have k:=aw _ _ _ c6.out;obtain⟨gR,cf⟩:∃a8,(aM i.aE cy).length=a8:=⟨_,rfl⟩;obtain⟨gW,cg⟩:∃a8,i.aE.bl cy=a8:=⟨_,rfl⟩;rw[cf,cg] at k;have aw:=K aw;have k:=K k;have cW:=K (Φ cf cg);clear cf cg;go_wp2_with fail;refine aq.out.mono ?_;rintro b hl ⟨rfl,rfl⟩;go_wp2_with fail;refine k.out.mono ?_;rintro b hm ⟨v11,rfl,e5,co⟩;obtain⟨gz,g0,rfl⟩:=cC e5;have ds:=K (kk b2.out co);have c5:=K (a.out.bp.still ds.out);have ft:=K (a.out.aW.still ds.out);have fd:=K (co.blk dk.out.2 id);have C:=K' c5.out 12;have bn:∀cx:Nat->PS,wS cx 12=(cx 12).out:=λcx=>by unfold wS;rw[WB (by decide)];rfl
  rw[bn] at C;have C:=K C;have bn:=K bn;clear e5 co aq k;go_wp2_with fail;refine C.out.mono ?_;rintro b hn ⟨rfl,rfl⟩;clear C;have z:=qB c5.out a.out.fit.inv a.out.fit.known a.out.fit.fK a.out.fit.row 12 (by unfold aF;decide) vL (by decide) (by have d:=a.out.ο;have G:vL.size=15:=rfl;have an:1610000*p.length<=1610000*30:=Fg _ eD;unfold aL;omega);unfold vL at z;have z:=K z;have fr:η (∃L,i.cl 12=N L):=K (by obtain⟨L,_,_,ch,_⟩:=c1.out;exact⟨_,ch⟩);go_wp2_with fail;refine z.out.mono ?_;rintro b ho eg;obtain⟨rfl,ha,bt,o⟩:=uz (Β:=vL) a.out.fit.inv fr.out eg;have au:=K (Yb a.out.fit c1.out a.out.whole.1 a.out.whole.2 dv.out.1 dv.out.2 o.bytes);have fv:=K (ft.out.trans o.aW);have d2:=bo o.aW fd.out f0.out;have o:=K o;have fe:=K d2.1;have aq:=K (Fi o.out.bp);have k:=aw.out _ _ _ o.out.bp;rw[au.out.aE,cW.out.1,cW.out.2] at k;have k:=K k;clear d2 eg z aw;go_wp2_with fail;refine aq.out.mono ?_;rintro b hp ⟨rfl,rfl⟩;go_wp2_with fail;refine k.out.mono ?_;rintro b bv ⟨hh,rfl,e6,bs⟩;obtain⟨gB,g1,rfl⟩:=cC e6;have bB:=K (o.out.bp.still bs);have fE:=K (fv.out.still bs);have b8:=bs.blk fe.out id;have r:=K (ado bB.out o.out.fit.inv c.2.id);have cU:=K b8;obtain⟨z0,ac,ad,P,al,bx⟩:=gS b8;clear b8 e6 bs aq k;have dc:lG bt.Κ 12=false:=by have d5:lG bt.Κ 12=(bt.Κ 12).op:=Hj _ (i:=12) (by decide);have d6:=o.out.fit.inv.open_ 12 (by decide);have d7:bt.cl ((12:Nat):Int)=A:=au.out.gone;rw[d5,d6,d7];rfl
  have da:η (∀e,Y bv e γ->ν δ 19 #[Ζ ab.g,I E 12] e λb ao=>b=ξ (ι false)/\e=ao):=K λe L=>by have:=Kr (bB.out.still L) 12;rw[dc] at this;exact this
  have C:η (∀e,Y bv e γ->ν δ 17 #[Ζ ab.g,I E 12] e λb ao=>b=ξ (H ((i.Κ 12).out++⟨#[60,101,114,114,111,114,47,62]⟩))/\e=ao):=K λe L=>by have d:=K' (bB.out.still L) 12;have G:=au.out.out;unfold gC at G;rw[bn.out,G] at d;exact d
  have hg:=λe=>run_string_add_sum (P:=δ) e (i.Κ 12).out ⟨#[60,101,114,114,111,114,47,62]⟩ (by have g3:=a.out.fit.inv.iu 12 (by decide);have d:=a.out.ο;have an:1610000*p.length<=1610000*30:=Fg _ eD;have T:i.ο*jS<=53000000*jS:=pg _ (by omega);unfold jS at*;show _+8<=_;omega);have dm:=K (wK a0.out av.out (bk.out.trans fE.out));clear dc;cases J:c.2.ax.toList.isEmpty with
  |true=>
   have et:c.2.ax=(D #[]):=LY J;rw[au.out.lost J] at r;rw[et] at P;unfold pw yW at r;simp only[pj,tN] at r;clear et;go_wp2_with fail;refine r.out.mono ?_;rintro b ap ⟨rfl,W⟩;unfold υ.zero υ.cells;have am:=W.blk cU.out id;rw[LY J] at am;have b1:=K W;have bz:=K am;clear z0 ac ad P al bx r W am;go_upto_region 27 with fail
   generalize m:bm ap _=s at*;have R:η (Y bv s γ):=K (by subst m;exact b1.out.alloc _);have a3:θ s M.heap.size 42 #[I E c.2.id,H c.2.ψ,H c.2.ah,H (D #[]),I E c.2.Δ,I E c.2.aH]:=by subst m;exact((Y.refl ap γ).alloc _).blk bz.out id
   obtain⟨z0,ac,ad,P,al,bx⟩:=gS a3;have b0:=K (da.out s R.out);have b5:=K (C.out s R.out);clear a3 m;go_wp2_with fail;refine b0.out.mono ?_;rintro b gg ⟨rfl,rfl⟩;go_wp2_with fail;refine b5.out.mono ?_;rintro b gk ⟨rfl,rfl⟩;go_wp2;go_ret;exact⟨rfl,kk dm.out R.out⟩
  |false=>
   rw[au.out.found J,a.out.time] at r;unfold pw yW at r;simp only[gK,mX] at r;have g7:¬c.2.ax.toList=[]:=λl=>by rw[l] at J;cases J
   have fn:=K J;clear J;go_wp2_with fail;refine r.out.mono ?_;rintro b ap ⟨rfl,W⟩;unfold υ.cells;have am:=W.blk cU.out id;have b1:=K W;have bz:=K am;clear z0 ac ad P al bx r W am;go_upto_region 27 with fail
   generalize m:bm ap _=s at*;have R:η (Y bv s γ):=K (by subst m;exact b1.out.alloc _);have a3:θ s M.heap.size 42 #[I E c.2.id,H c.2.ψ,H c.2.ah,H c.2.ax,I E c.2.Δ,I E c.2.aH]:=by subst m;exact((Y.refl ap γ).alloc _).blk bz.out id
   have d4:θ s ap.heap.size 42 #[I E c.2.id,H c.2.ψ,H c.2.ah,H c.2.ax,I E (-1),I E (h+20)]:=by subst m;exact θ.new _ _ _
   obtain⟨z0,ac,ad,P,al,bx⟩:=gS a3;obtain⟨y0,cI,cJ,cR,cS,hu⟩:=gS d4;have b0:=K (da.out s R.out);have b5:=K (C.out s R.out);clear a3 d4 m;have g5:h<=900:=by omega
   go_wp2_with fail;refine b0.out.mono ?_;rintro b gg ⟨rfl,rfl⟩;go_wp2_with fail;refine b5.out.mono ?_;rintro b gk ⟨rfl,rfl⟩;go_wp2;go_ret;refine⟨?_,kk dm.out R.out⟩;rw[fn.out];rfl
section
open Go Go.OpenShut Go.Joins Go.ChangeShapes Go.WideShapes Go.ChangeAt
theorem V5:Tryz.prog.cellsOf 37=5:=by kernel_rfl
theorem L1:Tryz.prog.cellsOf 32=1:=by kernel_rfl
theorem abH{i:Type}{p:TypeId×ε->i}{G:DataW i×List MemPlace}(q:DataW.trod p δ w 0 (λ_=>true) true y 33 [x]=N G):∃E,Ge w x E:=by
 obtain⟨d,_⟩|⟨n,g,o,e,d,_,s,u,C,_,k,B⟩:=open_ints Tryz.underlying33 Tryz.underlying32 L1 q
 .simp at d;subst d;exact⟨[],nofun,A,0,rfl,Ο _,ai _,λ_=>⟨rfl,rfl⟩,nofun⟩
 simp at d;subst d;simp only[if_true] at C;have m:(e.take g).length=g:=by rw[lO];omega
 refine⟨e.take g,λa f=> ?_,N n,o,by rw[m],by rw[m];exact s,u,nofun,λj h=> ?_⟩
 .have:=bounds_u64 (B a (vx f));omega
 injection h with h;subst h
 have z:∀c a,(e.take g)[c]? =N a->e[c]? =N a:=λc a b=>by
  rw[kD] at b;split at b
  .exact b
  cases b
 refine⟨λf=> ?_,λc a b=> ?_⟩
 .obtain⟨j,F,rfl,_⟩:=ints_at k (by
   obtain h0|h0:=Nat.eq_zero_or_pos e.length
   .rw[kG.1 h0] at f;exact ahN List.take_nil f
   .exact h0)
  rfl
 have l:=z c a b;have t:=(iN.1 l).1;obtain⟨j,F,rfl,r⟩:=ints_at k (by omega);have:=r c t;rw[List.getD_eq_getElem?_getD,l,gK] at this;exact this
theorem adj{P:Type}{R:TypeId×ε->P}{ao:DataW P}{ba:List MemPlace}(M:Value.okWide δ w .any y 22 x)(C:DataW.Trod R δ w 0 (λ_=>true) true 22 x ao ba):∃al,rL w x al:=by
 obtain⟨bf,c,am,rfl⟩:=okWide_slice Tryz.underlying22 M;obtain⟨fuel,a3⟩:=C;obtain⟨f,_⟩|⟨u,br,bi,elems,bt,bs,_,f,_,_,bk,bq,bn,a2,_⟩:=DataW.trod_slice Tryz.underlying22 a3
 .simp[vl] at f;obtain⟨rfl,rfl,rfl⟩:=f;exact⟨[],⟨A,0,rfl,ai _,λ_=>rfl,nofun⟩,nofun⟩
 simp[vl] at f;obtain⟨rfl,rfl,rfl⟩:=f;have X:u.spot=A:=by simp only[Value.okWide,Tryz.underlying22,Cell.okWide,Cell.ok] at M;exact M.2.2.2.1
 obtain⟨z,O,spot⟩:=u;simp only at X;subst X
 have each:∀a,∃d:mz,a<c->(aF d.Θ/\aF d.Δ/\aF d.n/\d.Β.size<=Χ/\∃B,Ge w d.dv B)/\∀b p,(oP d)[b]? =N p->w.cell? ⟨z,O+(a*5+b),A⟩=N p:=by
  intro a;by_cases h:a<c
  .have W:=a2 a h;rw[cT (by omega),V5,Option.bind_eq_some_iff] at W;obtain⟨an,f,a5⟩:=W;obtain⟨_,a4,a0⟩:=World.cells?_some f;obtain⟨bv,a9,_,_,_,o,n⟩:=DataW.trod_struct Tryz.underlying37 a5;match an,a4 with
   |[j,k,l,m,e],_=>
    have ap:=(n 0 _ rfl).trans (cT (by rw[o];decide));have aq:=(n 1 _ rfl).trans (cT (by rw[o];decide));have au:=(n 2 _ rfl).trans (cT (by rw[o];decide));have av:=(n 3 _ rfl).trans (cT (by rw[o];decide));have F:=(n 4 _ rfl).trans (cT (by rw[o];decide));obtain⟨ab,e0,_,bc⟩:=DataW.trod_int EF ap;obtain⟨Q,q,_,wc⟩:=DataW.trod_int EF aq;obtain⟨ac,r,_,bd⟩:=DataW.trod_int EF au;obtain⟨ad,s,_,be⟩:=DataW.trod_string Tryz.underlying9 av;have a6:Tryz.prog.cellsOf 3=1:=by kernel_rfl
    have a8:Tryz.prog.cellsOf 9=1:=by kernel_rfl
    have a7:Tryz.prog.cellsOf 33=1:=by kernel_rfl
    change xW (Tryz.prog.cellsOf 3) (AB 0 [j,k,l,m,e])=_ at e0;change xW (Tryz.prog.cellsOf 3) (AB 1 [j,k,l,m,e])=_ at q;change xW (Tryz.prog.cellsOf 3) (AB 2 [j,k,l,m,e])=_ at r;change xW (Tryz.prog.cellsOf 9) (AB 3 [j,k,l,m,e])=_ at s;change DataW.trod R δ w 0 (λ_=>true) true a9 33 (xW (Tryz.prog.cellsOf 33) (AB 4 [j,k,l,m,e]))=_ at F;rw[a6] at e0 q r;rw[a8] at s;rw[a7] at F;simp at e0 q r s;subst e0 q r s;obtain⟨B,a1⟩:=abH F;have bb:∀b,b<5->w.cell? ⟨z,O+(a*5+b),A⟩=[I E ab,I E Q,I E ac,H ad,e][b]? :=λb L=>by have:=a0 b L;simp only[Go.WideShapes.add_plain] at this;rw[mW] at this;exact this
    refine⟨⟨ab,Q,ac,ad,e⟩,λ_=>⟨⟨bounds_i64 bc,bounds_i64 wc,bounds_i64 bd,be,B,a1⟩,λb p t=> ?_⟩⟩;have L:b<5:=(iN.1 t).1;rw[bb b L];exact t
  exact⟨⟨0,0,0,kj,I E 0⟩,λC=>ahN C h⟩
 have G:((AM c).map λa=>Classical.choose (each a)).length=c:=by simp
 have aw:∀a,a<c->((AM c).map λa=>Classical.choose (each a))[a]? =N (Classical.choose (each a)):=λa h=>by rw[ml,List.getElem?_range h];rfl
 refine⟨(AM c).map λa=>Classical.choose (each a),⟨N (U z O A),am,by rw[G],by rw[G];omega,nofun,λu J=> ?_⟩,λd g=> ?_⟩
 .injection J with J;subst J;refine⟨rfl,λi p S=> ?_⟩;rw[Dw] at S;obtain⟨d,g,t⟩:=Option.bind_eq_some_iff.1 S
  have T:i/5<c:=by
   have:=(iN.1 g).1
   rwa [G] at this
  rw[aw _ T] at g;injection g with g;have:=(Classical.choose_spec (each (i/5)) T).2 (i%5) p (by rw[g];exact t)
  rwa [show i/5*5+i%5=i by omega] at this
 obtain⟨a,h,rfl⟩:=eO.1 g;exact(Classical.choose_spec (each a) (List.mem_range.1 h)).1
theorem YH:Tryz.prog.globalNamed "math/bits.deBruijn64tab" =N 5:=by kernel_rfl
theorem agZ:Tryz.prog.underlying 457=N (.array 20 32):=by kernel_rfl
theorem ael:(Tryz.prog.globals[3]?).map (·.type)=N 457:=by kernel_rfl
theorem y0:(Tryz.prog.globals[0]?).map (·.type)=N 3:=by kernel_rfl
theorem YQ(a:w.ShapedOpen δ):∃b,w.cell? (U 0 0 A)=N (I E b):=
 cell_of_shapedOpen_int (g:=0) (t:=3) (zero:=#[I E 0]) a (of_decide_eq_true (by kernel_rfl)) (by kernel_rfl) rfl (by kernel_rfl) (by kernel_rfl) EF
theorem YT(a:laidMet δ sJ w):6<=w.heap.size:=by
 obtain⟨c,f,b,fuel,e,d,_,hv,_⟩:=Lib.laidMet.reads a (n:= "math/bits.deBruijn64tab") (.tail _ (.head _));unfold World.var? at hv;rw[YH] at hv;obtain h5|h5:=fU 5 w.heap.size
 .exact h5
 simp only[Option.bind_some,Array.getElem?_eq_none h5] at hv;cases hv
theorem Yq:Rows.laid_unicode_utf8_first=Lib.firstData:=by kernel_rfl
theorem UG:(Rows.laid_unicode_utf8_acceptRanges:DataW Unit)=Lib.acceptData:=by kernel_rfl
theorem acv:(Rows.laid_internal_strconv_uint64pow10:DataW Unit)=Lib.tabData .u64 Lib.pow10Tab:=by kernel_rfl
theorem YS(a:laidMetH δ sJ w)(e:w.ShapedOpen δ):aT w:=by rw[MakeChecks.laidMetH_plain _ _ _ (by kernel_rfl)] at a;have b:=Lib.laidMet.reads a (n:= "unicode/utf8.first") (.tail _ (.tail _ (.tail _ (.tail _ (.head _)))));have c:=Lib.laidMet.reads a (n:= "unicode/utf8.acceptRanges") (.tail _ (.tail _ (.tail _ (.head _))));rw[Yq] at b;rw[UG] at c;refine⟨YQ e,utf8Tabs_of_readsT (U8Types.of196 Q') ⟨by kernel_rfl,by kernel_rfl,by kernel_rfl,by kernel_rfl,by kernel_rfl,by kernel_rfl,by kernel_rfl⟩ b c,?_,YT a⟩;obtain⟨j,l,i,fuel,k,f,g,h,d⟩:=Lib.laidMet.reads a (n:= "internal/strconv.uint64pow10") (.tail _ (.tail _ (.head _)));rw[acv] at d;obtain rfl:=cr (ael.symm.trans (by rw[cr (Ny.symm.trans f)];exact g));have:=Lib.cells_of_tab agZ Tryz.underlying32 L1 (by kernel_rfl) d;unfold Lib.TabIs;rw[h,<-this]
end
section
open Go Go.OpenShut Go.Joins Go.ChangeShapes Go.WideShapes Go.ChangeAt
theorem Oh(a:Y w n γ):Below w.heap.size w n:=⟨a.os,a.tape,a.output,a.size,λc b=>a.block c b id⟩
theorem aaq(a:Os)(args:Array ε):laidMetH δ sJ ((World.laidAll δ a sJ).forCall (λ_ _=>0) ⟨#[],args,[]⟩).memory:=by rw[MakeChecks.laidMetH_plain _ _ _ (by kernel_rfl)];exact laidMet_laidAll _ (by kernel_rfl) (by kernel_rfl)
theorem aeQ(e:Os)(started:e.Started)(w:Type)(d:TypeId×ε->w):ReturnsInHanded {} Tryz.checked e 3 .any (λa args=>(Rows.topWrongSpec.pre d δ Tryz.f3 [] false a args/\laidMetH δ sJ a)/\sizedMet d δ Tryz.f3 (OpenSpec.ofChange Rows.topWrongSpec) false a args) (Rows.topWrongSpec.post d δ Tryz.f3 false true false false):=by
 refine returnsInHanded_of_calls agv started (by kernel_rfl)
  (ChangeSpec.witness_shaped (enc:=d) (C:=Tryz.checked) (os:=e) (X:=λa _=>laidMetH δ sJ a) false (World.laidAll δ e sJ) #[V A 0 0,ι false] 8 (World.laidAll_os _ _ _) (World.shaped_of_ZipB (by kernel_rfl) (by kernel_rfl)) (by kernel_rfl) (by kernel_rfl) (by kernel_rfl) (aaq e _)) ?_
 intro a tape b _ l _ J K _;obtain⟨_,_,_,B,n,_,_,_,_,q⟩:=J;obtain rfl:B=Tryz.f3:=cr (n.symm.trans Tryz.func3);obtain⟨⟨⟨z,aa,W,r,_⟩,k⟩,_⟩:=K;have m:=DataW.Whole.of_heap (w':=a.forCall tape b) (by rfl) r;have F:laidMetH δ sJ (a.forCall tape b):=k.of_heap (by rfl);have h:∀(t:Nat) c v,Tryz.f3.params[t]? =N c->b.args[t]? =N v->Value.okWide δ (a.forCall tape b) .any a.heap.size c v:=q;have G:(a.forCall tape b).ShapedOpen δ:=l;clear r k q n l;generalize a.forCall tape b=x at*;generalize b.args=args at*;have g:=m;obtain⟨P,af,i,H,rfl,ab,ac⟩:=m;have f:DataW.TrodAll d δ x 0 (λ_=>true) true Tryz.f3.params.toList args.toList z P:=i;have j:=f;rw[Tryz.params3] at f h;obtain⟨Q,R,X,Y,ad,ae,rfl,rfl,rfl,C,E⟩:=trodAll_two f;obtain⟨rfl,rfl⟩:=trodVars_none H;obtain⟨S,L⟩:=adj (h 0 22 Q rfl rfl) C;obtain⟨y,rfl,rfl,rfl⟩:=open_bool JV (h 1 4 R rfl rfl) E;clear i;simp only[AA] at g j;refine(aeS (YS F G) L y).mono λZ T ⟨io,o⟩=> ?_;subst io;have O:∀c∈Tryz.f3.params.toList,Tryz.prog.readableRec c=true/\c<Tryz.prog.types.size:=by rw[Tryz.params3];intro c p;simp at p;obtain rfl|rfl:=p;all_goals exact⟨by kernel_rfl,of_decide_eq_true (by kernel_rfl)⟩
 exact ChangeSpec.post_blind (acp (pa:=_) (pv:=[]) g (λ_ _ _=>trodAll_mk1 (shut_bool JV _)) (λag M=>QM Jk (Oh o) O j (λu s=>⟨g.lt u s,M u s⟩)) (λ_ _=>rfl) (by simp)
  (Oh o) (ok_one (by kernel_rfl) rfl (okWide_bool_mk JV _)))
end
section
open Go
theorem aeR:Rows.TopWrongSaid:=
 OpenClaim.holds_of_wide (p:=Tryz.pinned) 3 Tryz.f3 rfl rfl rfl rfl rfl rfl rfl ⟨rfl,rfl,rfl,rfl,rfl⟩ rfl rfl rfl rfl rfl (by kernel_rfl) Tryz.func3 adh
  (of_decide_eq_true (by kernel_rfl)) (by unfold Func.isWrapper;first|(rw[ahM (by decide+kernel)];kernel_rfl)|(rw[WB (by decide+kernel)];exact⟨rfl,rfl⟩))
  (λc started a b _=>aeQ c started a b)
theorem topWrong_holds:Rows.TopWrongCardSaid:=
 Claim7.holds_tied_plain_at .later [] [.data,.data,.data,.data,.pinned] true (true, "471467621ab7b9c525618003607a3716e26cd6812bb72824da60ffd715053b3a") true
  aeR (λ_ a=>by cases a) (by kernel_rfl) (λ_ a=>by cases a) topWrong_row_tie rfl ⟨rfl,rfl⟩ (by kernel_rfl) rfl
  (λd e g h=>by
   obtain rfl:d=3:=cr ((show Tryz.prog.funcNamed "tidewater/tidewatertop.TopWrong" =N 3 by kernel_rfl).symm.trans g) |>.symm;obtain rfl:e=Tryz.f3:=(cr (Tryz.func3.symm.trans h)).symm
   exact⟨by kernel_rfl,λk b c=>by
    rw[Tryz.params3] at c;have i:b∈[22,4]:=by simpa using Array.mem_of_getElem? c
    have f:([22,4].all λj=> !Tryz.prog.wantsStandIn j)=true:=by kernel_rfl
    exact(show Tryz.prog.wantsStandIn b=false by simpa using xS.1 f b i)⟩)
  adi
end
