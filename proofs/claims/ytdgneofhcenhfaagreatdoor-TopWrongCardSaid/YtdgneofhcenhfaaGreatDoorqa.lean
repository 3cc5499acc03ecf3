/- A part. -/
import Derived.Test.YtdgneofhcenhfaaGreatDoorpd
import Derived.Lib.AppendIntMem
set_option maxHeartbeats 16000000
set_option maxRecDepth 100000
set_option linter.all false
open Array renaming getElem?_eq_none->ll,replicate->Aj
open Bool renaming false_and->xJ,false_eq_true->rB,not_true->Eh,true_and->tB
open ByteArray renaming mk->D,size_append->mj
open Go renaming Calls->ν,Ending->aI,Value->ε,World->Z,bodyPost_ret->Ω,maxLen->Χ,results->ag
open Go.Addr renaming add->jm,mk->U
open Go.Builtin renaming append_->gJ
open Go.Ending renaming returned->ξ
open Go.Instr renaming lookup->cw
open Go.IntKind renaming i64->E,u32->Λ,u8->bh
open Go.Lib renaming TabIs->An,hid->K,nDigits->tH,pow10Tab->Eo,toList_data->iy,zeros24->xK
open Go.Obj renaming cells->ζ
open Go.Proofs renaming intOf->aB
open Go.Proofs.Tryz renaming func304->vj,ntmps304->vk,prog->δ
open Go.RowKit renaming Hid->η
open Go.Value renaming agg->Μ,bool->ι,func->af,int->I,map->ω,pointer->π,slice->V,string->H,tuple->σ
open Go.World renaming cell?->fN,frozen?->J1,ownsRow_nil->db
open Go.World.grownBy renaming refl->tK
open List renaming all_eq_true->xS,flatMap_cons->qx,getElem?_eq_getElem->cT,getElem_mem->eA,length_append->cL,length_cons->eI,mem_append->dO,mem_singleton->cj
open Nat renaming le_refl->Ο,lt_or_ge->fU,zero_add->eP,zero_le->ai
open Option renaming none->A,some->N
open Option.some renaming injEq->xZ
open Go RowKit Lib Proofs.Tryz
namespace Go.Proofs.YtdgneofhcenhfaaGreatDoor
attribute [local go_sem ↓] wp_at_zero wp_at_succ
section
open Go.Sort Go.Shelf
def mE(a:BA):Bool:=us.any λb=>a.toList==b.toList
variable{w n G:Z}{x i t B:ε}{y k d M:Nat}{m:Int}{j:Bs}{a:List ε}{f:Bool}{p L:BA}{u:TypeId}{o:List It}
theorem Hu{i:aY}(a:eQ w y i j)(b:BA):ν δ 40 #[π (N (U y 0 A)),H b] w λc g=>c=ξ (ι (mE b))/\g=w:=by
 obtain⟨k,l,t,s,u,q,p,r,a⟩:=a;have h:=a.blk.cell 0;simp only[gz_] at h
 have d:=K (agB H (λm n:BA=>m.toList==n.toList) (EqlAt.string _ _) k 0 4 l us b w (by decide) (by omega) (λf e=>by
  have:=a.cell f e;rw[eP,this]
  congr 2
  exact(getElem!_pos us f e).symm))
 rw[show us.take 4=us from rfl] at d;change η (ν _ _ _ _ λc g=>c=ξ (ι (mE b))/\_) at d;generalize mE b=o at*;clear a;go_enter func40,ntmps40;go_wp2_with fail;refine d.out.mono ?_;rintro c x ⟨rfl,rfl⟩;go_wp2;go_ret;exact⟨rfl,rfl⟩
def afu:Go.Shelf.Ren:=⟨fun|8=>347|a=>a,fun|22=>45|24=>150|4=>4|3=>3|0=>0|a=>a,fun|a=>a⟩
theorem aft:Go.Proofs.SlLaysQ.n8 δ afu:=by constructor<;>first|kernel_rfl|exact jg ⟨by decide+kernel,by kernel_rfl⟩|(intros;kernel_rfl)
def GQ(a b:It):Bool:=a.1.toList==b.1.toList&&(a.2.1.toList==b.2.1.toList&&(a.2.2.1==b.2.2.1&&a.2.2.2==b.2.2.2))
theorem abr:NeqAt δ 150 (λa=> Μ (eW a).toArray) GQ:=by
 refine⟨λa b i=> ?_,GuardAt.agg _ (by kernel_rfl)⟩;have g:prog.underlying 150=N (.struct (prog.fieldsOf 150)):=by kernel_rfl
 have h:prog.stoodInHeld 150=false:=by kernel_rfl
 simp only[eW,GQ];rw[run_neq_struct,show(10000:Nat)=9999+1 from rfl,run_equalIn_agg i 9999 150 _ _ g h];have o:=underlying9;have l:=isAgg9;have r:=sizeOf9;have m:=underlying3;have j:=isAgg3;have p:=sizeOf3;have n:=underlying4;have k:=isAgg4;have q:=sizeOf4;simp only[Program.fieldsOf,underlying150]
 go_simp
 by_cases c:a.1.toList=b.1.toList<;>by_cases d:a.2.1.toList=b.2.1.toList<;>by_cases e:a.2.2.1=b.2.2.1<;>by_cases f:a.2.2.2=b.2.2.2<;>simp[c,d,e,f]
theorem Z7(a:List It):(ej a).length=a.length*4:=by
 induction a with
 |nil=>rfl
 |cons c a b=>simp only[ej,qx,cL,eI] at b⊢;simp only[eW,eI,List.length_nil];omega
theorem CG(c:List It)(a:Nat)(e:a<c.length)(b:Nat)(v:ε)(d:(eW c[a])[b]? =N v):(ej c)[a*4+b]? =N v:=by
 induction c generalizing a with
 |nil=>simp at e
 |cons f c g=>
  have h:b<4:=by have:=(List.getElem?_eq_some_iff.1 d).1;simpa[eW] using this
  cases a with
  |zero=>simp only[ej,qx];rw[List.getElem?_append_left (by simp[eW];omega)];simpa using d
  |succ a=>have:=g a (by simpa using e) (by simpa using d);simp only[ej,qx] at this⊢;rw[List.getElem?_append_right (by simp[eW];omega)];rw[show(a+1)*4+b-(eW f).length=a*4+b by simp[eW];omega];exact this
theorem Od(f:w.ownsRow y 150 4 (V (N (U k 0 A)) d M) d (ej o)):∀a,a<o.length->∀b v,(eW o[a]!)[b]? =N v->w.cell? ⟨k,0+a*4+b,A⟩=N v:=λa c b v hv=>by
 rw[getElem!_pos o a c] at hv;have:=f.cells (g:=k) rfl (a*4+b) v (CG o a c b v hv)
 have e:((⟨k,0,A⟩:Addr).add (a*4+b))=⟨k,0+a*4+b,A⟩:=by
  unfold jm;by_cases g:a*4+b=0<;>simp[g]
  omega
 rw[e] at this;exact this
def Lj(e:Z)(b:aI)(d:Z):Prop:=(∃a,b=ξ (ι a))/\∃c,d=e.drewN c
theorem Nh(d e:Option Addr)(a f b g:Nat)(k:a=0\/b=0)(c:Z):ν δ 347 #[V d a f,V e b g] c (Lj c):=by
 by_cases h:a=b
 .subst h;obtain rfl:a=0:=by omega
  go_enter func347,ntmps347;go_wp2;go_loopw [5,13] (λ_ j wr=>j=I E 0/\wr=c) (λ_ _ _=>0)
  case atStart=>exact⟨rfl,rfl⟩
  obtain⟨rfl,rfl⟩:=hrel;go_wp2;go_ret;exact⟨⟨_,rfl⟩,0,rfl⟩
 have i:¬(a:Int)=b:=by omega
 have l:((a:Int)!=b)=true:=by simp[i]
 go_enter func347,ntmps347;go_wp2;go_ret;exact⟨⟨_,rfl⟩,0,rfl⟩
theorem XW{a:List It}(g:w.ownsRow y 150 4 x o.length (ej o))(c:w.ownsRow k 150 4 i a.length (ej a))(s:o.length<=1000)(t:a.length<=1000):ν δ 347 #[x,i] w (Lj w):=by
 obtain⟨rfl,q⟩|⟨j,e,m,rfl,_⟩:=g.2
 .obtain⟨h,b,rfl⟩:=cC c;have:=Nh A h 0 0 a.length b (.inl rfl) w;exact this
 obtain⟨rfl,r⟩|⟨l,b,n,rfl,_⟩:=c.2
 .exact Nh _ A o.length e 0 0 (.inr rfl) w
 have d:=AnyQ.slices_Equal aft 4 isAgg150 sizeOf150 eW (λ_=>rfl) GQ abr j 0 o.length e l 0 a.length b o a w (Ο _) (Ο _) (by omega) (by omega) (Od g) (Od c);change ν δ 347 _ _ _ at d;exact d.mono λp u f=>⟨⟨_,f.1⟩,f.2⟩
theorem FH{b:aY}(c:eQ w y b j)(q:cX p)(B:mE p=true):ν δ 16 #[π (N (U y 0 A)),H p] w λl r=>∃v,l=ξ (σ #[v,I E (b.bl p),I E 0])/\r.ownsRow w.heap.size 150 4 v (aM b p).length (ej (aM b p))/\Y w r γ:=by
 have n:=K (Hu c p);rw[B] at n;have s:=K λh (d:Y w h γ)=>CI ((fG y b).keeps c d λ_ _ c=>c) q;obtain⟨Q,R,P,O,g,L,J,M,c⟩:=c;have x:=K λh (d:Y w h γ)=>(c.keeps d λ_ _ c=>c).Rw q;have o:=c.blk.cell 3;simp only[gz_] at o;have u:η (∀a,Y w a γ->(a.cell? (U y 3 A)=N (ω (N g))/\(cw 96 (ω (N g)) (H p) false).run δ a= .ok (I E (b.bl p)) a/\Y w a γ)):=K λa d=>⟨az d o id,x.out a d,d⟩;clear c;go_enter func16,ntmps16;go_wp2_with fail;refine n.out.mono ?_;rintro l e ⟨rfl,rfl⟩;go_upto_region 3 with fail
 go_cut [4,5,6] (λi z k a=>∃v,i=v/\z=I E (b.bl p)/\k=I E 0/\a.ownsRow e.heap.size 150 4 v (aM b p).length (ej (aM b p))/\Y e a γ)
 case first=>
  go_region_held3 (λa=>a.cell? (U y 3 A)=N (ω (N g))/\(cw 96 (ω (N g)) (H p) false).run δ a= .ok (I E (b.bl p)) a/\Y e a γ)
   ((refine u.out _ ?_;(with_reducible first|assumption|exact(Y.refl _ _).drew)))
   (first|(go_at_call 41;refine(s.out _ (by first|with_reducible assumption|exact(Y.refl _ _).drew)).mono ?_;rintro l G ⟨v,rfl,F,C⟩;have m:=(Y.refl e γ).drew.trans C Η;have f:G.ownsRow e.heap.size 150 4 v (aM b p).length (ej (aM b p)):=F))
  all_goals
   go_wp2_with fail;go_meet;exact⟨_,rfl,rfl,rfl,f,m⟩
 obtain⟨v,rfl,rfl,rfl,f,m⟩:=hcut;obtain⟨i,k,rfl⟩:=cC f;have t:=K f;go_wp2;exact Ω (v:=σ #[V i (aM b p).length k,I E (b.bl p),I E 0]) (by simp[ag,results16,go_sem]) rfl ⟨_,rfl,t.out,m⟩
theorem Gf{r:aY}(a:eQ w y r j):ν δ 45 #[π (N (U y 0 A))] w (yy w us):=by
 obtain⟨c,s,E,C,F,z,x,B,a⟩:=a;have i:=a.blk.cell 0;simp only[gz_] at i;obtain⟨m,n,o,p,q⟩:=info_parts zU
 have f:=K (agy m (H (D #[])) 1 16 n o p q rfl (by decide) sizeOf9 c 0 4 s (us.map H) w rfl (by unfold Χ;omega) (by omega) (λb v l=>by
  have:=a.own.cells (g:=c) rfl b v l;have d:((⟨c,0,A⟩:Addr).add b)=⟨c,0+b,A⟩:=by unfold jm;by_cases k:b=0<;>simp[k]
  rw[d] at this;exact this) (λv hv=>by obtain⟨I,_,rfl⟩:=List.mem_map.1 hv;rfl))
 clear a;go_enter func45,ntmps45;go_wp2_with fail;refine f.out.mono ?_;rintro d G ⟨v,rfl,e,_,h⟩;obtain⟨t,u,rfl⟩:=cC e;have g:=K e;go_wp2;go_ret;exact⟨_,rfl,g.out,Y.of_below h _⟩
def cG(c:aY)(a b:BA)(d more:Bool):Int:=
 if(mE a&&mE b)=false then 7 else if(a.toList==b.toList|| !d)=true then 1 else if(more&& !(c.aR a b).isSome&&decide (6<=(aM c a).length))=true then 9 else 0
end
def yu(d:Z)(b:Int)(a:aI)(c:Z):Prop:=a=ξ (I E b)/\Y d c γ
variable{w n G:Z}{x i t B:ε}{y k d M:Nat}{m:Int}{j:Bs}{a:List ε}{f:Bool}{p L:BA}{u:TypeId}{o:List It}
theorem LI{i:aY}(g:eQ w y i j)(o:cX p)(s:cX L)(k more:Bool):ν δ 304 #[π (N (U y 0 A)),H p,H L,ι k,ι more] w (yu w (cG i p L k more)):=by
 have c:=K (GB g o s);have f:=K (Hu g p);have e:=K (Hu g L);have d:=K (CI g o);unfold cG;generalize oE i p L=nm at*;generalize(i.aR p L).isSome=t at*;generalize aM i p=l at*;clear g;generalize F:mE p=x at*;generalize E:mE L=u at*;generalize G:(p.toList==L.toList)=B at*;cases x
 .clear e d;simp only[xJ,if_true];go_enter vj,vk;go_wp2_with fail;refine c.out.mono ?_;rintro a b ⟨rfl,rfl⟩;go_wp2_with fail;refine f.out.mono ?_;rintro a b ⟨rfl,rfl⟩;go_wp2;go_ret;exact⟨rfl,Y.refl _ _⟩
 cases u
 .clear d;simp only[tB,if_true];go_enter vj,vk;go_wp2_with fail;refine c.out.mono ?_;rintro a b ⟨rfl,rfl⟩;go_wp2_with fail;refine f.out.mono ?_;rintro a b ⟨rfl,rfl⟩;go_wp2_with fail;refine e.out.mono ?_;rintro a b ⟨rfl,rfl⟩;go_wp2;go_ret;exact⟨rfl,Y.refl _ _⟩
 simp only[tB,Bool.and_self,Bool.true_eq_false,if_false];cases B
 rotate_left
 .clear d;simp only[Bool.true_or,if_true];go_enter vj,vk;go_wp2_with fail;refine c.out.mono ?_;rintro a b ⟨rfl,rfl⟩;go_wp2_with fail;refine f.out.mono ?_;rintro a b ⟨rfl,rfl⟩;go_wp2_with fail;refine e.out.mono ?_;rintro a b ⟨rfl,rfl⟩;go_wp2;go_ret;exact⟨rfl,Y.refl _ _⟩
 simp only[Bool.false_or];cases k
 .clear d;simp only[Bool.not_false,if_true];go_enter vj,vk;go_wp2_with fail;refine c.out.mono ?_;rintro a b ⟨rfl,rfl⟩;go_wp2_with fail;refine f.out.mono ?_;rintro a b ⟨rfl,rfl⟩;go_wp2_with fail;refine e.out.mono ?_;rintro a b ⟨rfl,rfl⟩;go_wp2;go_ret;exact⟨rfl,Y.refl _ _⟩
 simp only[Eh,rB,if_false];cases more
 .clear d;simp only[xJ,rB,if_false];go_enter vj,vk;go_wp2_with fail;refine c.out.mono ?_;rintro a b ⟨rfl,rfl⟩;go_wp2_with fail;refine f.out.mono ?_;rintro a b ⟨rfl,rfl⟩;go_wp2_with fail;refine e.out.mono ?_;rintro a b ⟨rfl,rfl⟩;go_wp2;go_ret;exact⟨rfl,Y.refl _ _⟩
 cases t
 rotate_left
 .clear d;simp only[Eh,xJ,Bool.and_false,rB,if_false];go_enter vj,vk;go_wp2_with fail;refine c.out.mono ?_;rintro a b ⟨rfl,rfl⟩;go_wp2_with fail;refine f.out.mono ?_;rintro a b ⟨rfl,rfl⟩;go_wp2_with fail;refine e.out.mono ?_;rintro a b ⟨rfl,rfl⟩;go_wp2;go_ret;exact⟨rfl,Y.refl _ _⟩
 simp only[Bool.not_false,tB,decide_eq_true_eq];by_cases n:6<=l.length
 .rw[ahM n];have r:(6:Int)<=l.length:=by omega
  go_enter vj,vk;go_wp2_with fail;refine c.out.mono ?_;rintro a b ⟨rfl,rfl⟩;go_wp2_with fail;refine f.out.mono ?_;rintro a b ⟨rfl,rfl⟩;go_wp2_with fail;refine e.out.mono ?_;rintro a b ⟨rfl,rfl⟩;go_wp2_with fail;refine d.out.mono ?_;rintro a C ⟨v,rfl,h,m⟩;obtain⟨q,z,rfl⟩:=cC h;clear h;go_wp2;go_ret;exact⟨rfl,m⟩
 rw[WB n];have r:¬(6:Int)<=l.length:=by omega
 go_enter vj,vk;go_wp2_with fail;refine c.out.mono ?_;rintro a b ⟨rfl,rfl⟩;go_wp2_with fail;refine f.out.mono ?_;rintro a b ⟨rfl,rfl⟩;go_wp2_with fail;refine e.out.mono ?_;rintro a b ⟨rfl,rfl⟩;go_wp2_with fail;refine d.out.mono ?_;rintro a C ⟨v,rfl,h,m⟩;obtain⟨q,z,rfl⟩:=cC h;clear h;go_wp2;go_ret;exact⟨rfl,m⟩
theorem Va(n:Nat)(b c:TypeId)(s:prog.underlying b=N (.slice c))(K:(prog.info? c).map (λg=>(g.zero,g.size,g.bytes))=N (N x,y,k))(S:x.cells.size=y)(Q:0<y)(r:w.ownsRow n c y i d a){h:Nat}{m:List ε}(o:w.ownsRow M c y t h m)(E:∀u∈m,u.oneCell'=true)(F:d+h<=Χ)(H:(d+h)*k<=140737488355328)(G:n<=w.heap.size):∃j l,(gJ #[b,b] b #[i,t]).run δ w= .ok j l/\l.ownsRow n c y j (d+h) (a++m)/\Y w l (λe=>i.ownBlock=N e)/\∀e,j.ownBlock=N e->i.ownBlock=N e\/w.heap.size<=e:=by
 obtain⟨g,B,ab,ac,ad⟩:=info_parts K;obtain⟨rfl,rfl⟩|⟨z,f,C,rfl,_⟩:=o.2
 .have R:m=[]:=List.eq_nil_of_length_eq_zero (by simpa using o.1);subst R
  have J:∃p f,i=V p d f/\d<=f:=by
   obtain⟨rfl,rfl⟩|⟨ae,af,C,rfl,_,_,q,_⟩:=r.2
   .exact⟨A,0,rfl,Ο _⟩
   exact⟨_,_,rfl,q⟩
  obtain⟨p,f,rfl,I⟩:=J;refine⟨_,w,run_append_nothing w b b b c g s B p d f I _ (Src.ofNil w s 0),by simpa using r,Y.refl _ _,λe O=> .inl O⟩
 obtain⟨j,l,P,W,X,aa⟩:=yG (w:=w) n b b c g x y k s B ab ac ad S Q i d a r ⟨z,0,A⟩ h f m o.1 (λT u L=>o.cells (g:=z) rfl T u L) E F H G;exact⟨j,l,P,W,Y.jy X λe q=>q,aa⟩
theorem agO:prog.underlying 314=N (.slice 371):=by kernel_rfl
theorem afk:(prog.info? 371).map (λa=>(a.zero,a.size,a.bytes))=N (N (Μ #[H (D #[]),H (D #[]),I E 0]),3,40):=by kernel_rfl
theorem aeH(d:List Tl):∀b∈jB d,b.oneCell'=true:=by intro b c;obtain⟨e,_,a⟩:=List.mem_flatMap.1 c;simp[ru] at a;rcases a with rfl|rfl|rfl<;>rfl
theorem Br(c:aY)(d b:BA)(a:Int):(je c d b a).length<=1:=by unfold je;split<;>simp
def Iv(c:aY)(b a:BA):aY:=mg (iS (iS c b a 3) b a 4) b a A
def oJ(c:aY)(b a:BA):List Tl:=je c b a 3++je (iS c b a 3) b a 4
theorem acV{e:aY}(c:eQ w y e j)(J:p∈us)(F:L∈us)(R:p≠L)(u:¬j k/\¬j d/\¬j M)(ab:jG w k (π (N (U y 0 A))))(ac:jG w d (H p))(ad:jG w M (H L)):ν δ 313 #[π (N (U k 0 A)),π (N (U d 0 A)),π (N (U M 0 A))] w λb aB=>∃v,b=ξ v/\qL w y (Iv e p L) j (oJ e p L) v aB:=by
 have aA:=gH _ J;have ay:=gH _ F;have hF:=(fG y e).lt c;unfold jG at*;have T:η (∀a,Y w a j->(a.cell? (U k 0 A)=N (π (N (U y 0 A)))/\a.cell? (U d 0 A)=N (H p)/\a.cell? (U M 0 A)=N (H L))):=K λa f=>⟨az f ab u.1,az f ac u.2.1,az f ad u.2.2⟩;have ag:=K (Bu ((fG y e).drew c) J F R 3 (by omega) (by omega));have O:=K hF
 have al:η (∀r q,qL w.drew y (iS e p L 3) j (je e p L 3) q r->ν δ 309 #[π (N (U y 0 A)),H p,H L,I E 4] r (λb s=>∃z B g,b=ξ z/\Y w s j/\(gJ #[314,314] 314 #[q,z]).run δ s= .ok B g/\g.ownsRow w.heap.size 371 3 B (oJ e p L).length (jB (oJ e p L))/\eQ g y (iS (iS e p L 3) p L 4) j/\Y w g j)):=K λr q i=>by
  refine(Bu i.2.1 J F R 4 (by omega) (by omega)).mono ?_;rintro b s ⟨z,rfl,G⟩;have W:Y w r j:=(Y.refl w j).drew.trans i.2.2 λ_ c=> .inl c;have l:Y w s j:=W.trans G.2.2 λ_ c=> .inl c;have aa:s.ownsRow w.heap.size 371 3 q (je e p L 3).length (jB (je e p L 3)):=aD i.1 G.2.2 λC o b=>by have:=(i.1.lt C o).1;have:=O.out C b;have ao:w.drew.heap.size=w.heap.size:=rfl;omega
  have aE:=Br e p L 3;have aF:=Br (iS e p L 3) p L 4;obtain⟨B,g,av,n,m,aL⟩:=Va w.heap.size 314 371 agO afk rfl (by decide) aa G.1 (aeH _) (by unfold Χ;omega) (by omega) l.size;have aC:Y s g γ->Y w g j:=λf=>l.trans f Η;have aq:∀f,q.ownBlock=N f->¬j f:=λf au b=>by have:=(i.1.lt f au).1;have:=O.out f b;have ao:w.drew.heap.size=w.heap.size:=rfl;omega
  refine⟨z,B,g,rfl,l,av,?_,(fG y _).keeps G.2.1 m λt S b=>aq t b S,l.trans m λt b=> .inr (aa.lt t b).1⟩;unfold oJ;rw[cL];unfold jB at*;rw[List.flatMap_append];exact n
 clear hF c ab ac ad;go_enter func313,ntmps313;go_upto_region 1 with fail
 go_cut [4] (λan a=>∃v,an=v/\a.ownsRow w.heap.size 371 3 v (oJ e p L).length (jB (oJ e p L))/\eQ a y (iS (iS e p L 3) p L 4) j/\Y w a j)
 case first=>
  go_region_held3 (λa=>a.cell? (U k 0 A)=N (π (N (U y 0 A)))/\a.cell? (U d 0 A)=N (H p)/\a.cell? (U M 0 A)=N (H L))
   ((refine T.out _ ?_;(with_reducible first|assumption|exact(Y.refl _ _).drew)))
   (first|(go_at_call 309;refine am.out.mono ?_;rintro b s ⟨z,B,g,rfl,l,ax,n,Q,m⟩)|(go_at_call 309;refine ag.out.mono ?_;rintro b r ⟨q,rfl,i⟩;have W:Y w r j:=(Y.refl w j).drew.trans i.2.2 λ_ c=> .inl c;have am:=K (al.out r q i))|(refine Dx rfl (.tmp 8) (.tmp 12) 314 rfl rfl rfl ax ?_))
  all_goals
   go_wp2_with fail;go_meet;exact⟨_,rfl,n,Q,m⟩
 obtain⟨v,rfl,n,Q,m⟩:=hcut;obtain⟨g,rfl⟩:∃t,t=wc:=⟨wc,rfl⟩;obtain⟨aJ,aK,rfl⟩:=cC n;obtain⟨aN,aO,aM,h,aP,aH,aG,aI,c⟩:=Q;have x:j h:=(c.ak h).2 (by simp);have o:h≠k/\h≠d/\h≠M:=⟨λb=>u.1 (b▸x),λb=>u.2.1 (b▸x),λb=>u.2.2 (b▸x)⟩;have ar:y≠h:=c.apart.2.2.1;obtain⟨V,aw,X,l⟩:=c.aR.drew.drop qT (t:=95) (e:=9) DX (x:=(p,L)) ⟨jk aA,jk ay⟩ 0;have kk:Y g V (·=h):=(Y.refl g _).drew.trans l λ_ c=> .inl c;have ap:=K (c.IL J F R A (λt b=>by cases b) X kk);have ai:=K (aD n kk λC o b=>by have:=(n.lt C o).1;have:=O.out h x;omega);have ah:=K (m.trans kk λt S=> .inl (S▸x));simp only[iY] at aw;have P:=c.blk.cell 2;simp only[gz_] at P;obtain⟨y0,ae,af⟩:=T.out _ m;have aj:η (∀a,Y g a (·=h)->(a.cell? (U k 0 A)=N (π (N (U y 0 A)))/\a.cell? (U d 0 A)=N (H p)/\a.cell? (U M 0 A)=N (H L)/\a.cell? (U y 2 A)=N (ω (N h)))):=K λa f=>⟨az f y0 o.1.symm,az f ae o.2.1.symm,az f af o.2.2.symm,az f P ar⟩;clear X l c n m y0 ae af P;go_upto_region 2 with fail
 go_cut [] (λa=>a=V)
 case first=>
  go_region_held3 (λa=>a.cell? (U k 0 A)=N (π (N (U y 0 A)))/\a.cell? (U d 0 A)=N (H p)/\a.cell? (U M 0 A)=N (H L)/\a.cell? (U y 2 A)=N (ω (N h)))
   ((refine aj.out _ ?_;(with_reducible first|assumption|exact(Y.refl _ _).drew))) (fail)
  all_goals
   go_wp2_with fail;go_meet;rfl
 subst hcut;go_wp2;go_ret;exact⟨_,rfl,ai.out,⟨_,_,_,_,_,_,_,_,ap.out⟩,ah.out⟩
section
open Go.Sort Go.Shelf
def Ti(b c a t1:BA):Prop:=(a=b/\t1=c)\/(a=c/\t1=b)
theorem adJ(c:θ w y 9 #[H p,H L]):ν δ 52 #[V (N (U y 0 A)) 2 2] w λg e=>g=ξ (σ #[])/\Y w e (·=y)/\∃l t1,Ti p L l t1/\e.cell? (U y 0 A)=N (H l)/\e.cell? (U y 1 A)=N (H t1):=by
 have s:encStr p.data.toList=H p:=by simp[encStr]
 have t:encStr L.data.toList=H L:=by simp[encStr]
 have i:Holds encStr w y 0 [p.data.toList,L.data.toList].toArray:=by
  intro u k;simp at k;refine⟨?_,c.frozen _⟩;rw[c.cell,eP];match u,k with
  |0,_=>(first|(simp;done)|exact s.symm)
  |1,_=>(first|(simp;done)|exact t.symm)
 have m:=Rb y 0 2 [p.data.toList,L.data.toList] w i c.lt (by simp);refine m.mono ?_;rintro g e ⟨rfl,x,z,rfl⟩;have d:([p.data.toList,L.data.toList].mergeSort λp L=>decide (p<=L)).Perm [p.data.toList,L.data.toList]:=List.mergeSort_perm _ _;generalize[p.data.toList,L.data.toList].mergeSort (λp L=>decide (p<=L))=f at*;have r:f.length=2:=d.length_eq
 obtain⟨a,b,rfl⟩:∃a b,f=[a,b]:=by
  match f,r with
  |[a,b],_=>exact⟨a,b,rfl⟩
 have q:(a=p.data.toList/\b=L.data.toList)\/(a=L.data.toList/\b=p.data.toList):=by
  have h:a∈[p.data.toList,L.data.toList]:=d.subset (by simp);simp at h;obtain rfl|rfl:=h
  .left;refine⟨rfl,?_⟩;have:=(List.perm_cons _).1 d;simpa using this.eq_singleton
  right;refine⟨rfl,?_⟩;have:=(List.perm_cons _).1 (d.trans (List.Perm.swap _ _ _));simpa using this.eq_singleton
 have j:=holds_sortWorld encStr w y 0 x [p.data.toList,L.data.toList].toArray [a,b].toArray z c.lt i (by simp);have n:=(j 0 (by simp)).1;have o:=(j 1 (by simp)).1;refine⟨rfl,wL,(D a.toArray),(D b.toArray),?_,by simpa[encStr,sortWorld] using n,by simpa[encStr,sortWorld] using o⟩;obtain⟨rfl,rfl⟩|⟨rfl,rfl⟩:=q
 .exact .inl ⟨by simp,by simp⟩
 exact .inr ⟨by simp,by simp⟩
end
def mh(s:aY)(v:BA->Int):aY:= {s with bl:=v}
section
variable {w w':Z} {g:Nat} {s:aY} {F:Bs} {ub uc sb nb vb:Nat} {ms mn:BA×BA->Option ε} {mv:BA->Option ε}
theorem fO.adu(a:fO w g s F ub uc sb nb vb ms mn mv){c:BA}(n:c∈us)(h:Int){q:Nat}(o:aC bR w' vb (put mv c (N (I E h))) q)(f:Y w w' (·=vb)):∃v,fO w' g (mh s v) F ub uc sb nb vb ms mn (put mv c (N (I E h))):=by
 have d:=a.apart
 have i:∀d,(put mv c (N (I E h)) d).isSome=true->d∈us:=λd j=>by
  by_cases b:d=c
  .exact b▸n
  rw[dI _ _ _ _ b] at j;exact a.He d j
 open Classical in
 refine⟨λe=>if e=c then h else s.bl e,{a with
  blk:=f.blk a.blk (by omega)
  own:=aD a.own f (λr l b=>by injection l with k;simp only at k;omega)
  aX:=a.aX.keeps f (by omega)
  aR:=a.aR.keeps f (by omega)
  oU:=o.tight dG us λp _ m=>i p m
  He:=i
  bl:=λe=> ?_}⟩
 unfold mh;simp only;by_cases b:e=c
 .subst b;rw[dJ,ahM rfl];rfl
 rw[dI _ _ _ _ b,WB b];exact a.bl e
end
def rM(b:Nat)(w:Z)(c:Option ε):Prop:=∃v a,c=N v/\a.length<=4/\w.ownsRow b 150 4 v a.length (ej a)
def oy(c:Nat)(e t1:BA)(w:Z)(d a:Nat):Prop:=∃b,aC bR w d b a/\(0<a->rM c w (b e))/\(1<a->rM c w (b t1))
theorem rM.keeps{a:Nat}{w w':Z}{e:Option ε}{F:Bs}(g:rM a w e)(j:Y w w' F)(hF:∀b,F b->b<a\/w.heap.size<=b):rM a w' e:=by obtain⟨v,k,rfl,i,d⟩:=g;exact⟨v,k,rfl,i,aD d j λc h f=>by have:=(d.lt c h);have:=hF c f;omega⟩
theorem oy.keeps{b:Nat}{f t1:BA}{w w':Z}{c e:Nat}{F:Bs}(a:oy b f t1 w c e)(kk:Y w w' F)(hF:∀d,F d->d<b\/w.heap.size<=d)(j:¬F c):oy b f t1 w' c e:=by obtain⟨k,g,h,i⟩:=a;exact⟨k,g.keeps kk j,λa=>(h a).keeps kk hF,λa=>(i a).keeps kk hF⟩
theorem CJ(s:aY)(a:BA):(aM s a).length<=4:=List.length_filterMap_le _ _
def tk(b t1:BA)(a:Nat):BA:=if a=0 then b else t1
theorem Rk:prog.underlying 403=N (.map 9 45):=by kernel_rfl
theorem ahG:∀w:Z,Sem.run δ (zeroValue 45) w= .ok (V A 0 0) w:=λ_=>by kernel_rfl
theorem oy.next{d:Nat}{a t1:BA}(m:a≠t1)(u:cX a)(s1:cX t1){w:Z}{c b:Nat}(s:b<2)(l:c<d)(h:oy d a t1 w c b){v:ε}{f:List It}(k:f.length<=4)(n:w.ownsRow d 150 4 v f.length (ej f)):∃w',(Instr.mapUpdate 403 (ω (N c)) (H (tk a t1 b)) v).run δ w= .ok () w'/\oy d a t1 w' c (b+1)/\Y w w' (·=c):=by
 obtain⟨t,i,j,r⟩:=h;have o:cX (tk a t1 b):=by unfold tk;split<;>assumption
 obtain⟨w',q,p,kk⟩:=i.store dG (t:=403) (e:=45) Rk (by unfold Χ;omega) (x:=tk a t1 b) (jk o) v;have hF:∀g,g=c->g<d\/w.heap.size<=g:=λg e=> .inl (e▸l);have hv:rM d w' (N v):=rM.keeps (F:=(·=c)) ⟨v,f,rfl,k,n⟩ kk hF;refine⟨w',q,⟨_,p,λ_=> ?_,λh=> ?_⟩,kk⟩
 .by_cases e:b=0
  .subst e;rw[show tk a t1 0=a from rfl,dJ];exact hv
  rw[show tk a t1 b=t1 from WB e,dI _ _ _ _ m];exact(j (by omega)).keeps kk hF
 have e:b≠0:=by omega
 rw[show tk a t1 b=t1 from WB e,dJ];exact hv
theorem oy.look{d:Nat}{b t1:BA}(q:cX b)(r:cX t1){w:Z}{g c:Nat}(p:c<2)(e:oy d b t1 w g 2):∃v a,a.length<=4/\w.ownsRow d 150 4 v a.length (ej a)/\∀w',Y w w' γ->(cw 403 (ω (N g)) (H (tk b t1 c)) false).run δ w'= .ok v w'/\w'.ownsRow d 150 4 v a.length (ej a):=by
 obtain⟨o,i,j,k⟩:=e;have n:cX (tk b t1 c):=by unfold tk;split<;>assumption
 have l:rM d w (o (tk b t1 c)):=by
  unfold tk;split
  .exact j (by omega)
  exact k (by omega)
 obtain⟨v,a,hv,m,f⟩:=l;refine⟨v,a,m,f,λw' kk=>⟨?_,aD f kk λ_ _ e=>e⟩⟩;have h:=(i.keeps kk id).look dG (t:=403) (e:=45) Rk (ahG w') (x:=tk b t1 c) (jk n);rw[hv] at h;exact h
def yF(b:Z)(g:Nat)(j h:BA)(s:aY)(F:Bs)(c:List Tl)(i:aI)(w:Z):Prop:=
 ∃(d e:ε) (a:List BA) (k:BA->Int),i=ξ (Μ #[d,e])/\w.ownsRow b.heap.size 9 1 d a.length (a.map H)/\w.ownsRow b.heap.size 371 3 e c.length (jB c)/\(∀f∈a,f=j\/f=h)/\a.length<=2/\eQ w g (mh s k) F/\Y b w F
theorem Ja{w:Z}{g:Nat}{s s1:aY}{F:Bs}(e:eQ w g s F){u p:BA}(em:u∈us)(eb:p∈us)(b3:u≠p)(S:Nat)(b7:Array ε)(a9:∀args w,(callFunc S args).run δ w= .ok (.enter S args) w)(r:List Tl)(b0:∀i,Y w i γ->eQ i g s F->ν δ S b7 i λd w'=>∃v,d=ξ v/\qL i g s1 F r v w'):ν δ 306 #[π (N (U g 0 A)),H u,H p,af (.func S) #[] b7] w (yF w g u p s1 F r):=by
 have ek:= @run_makeMap δ;have y:=K ((fG g s).lt e);have cI:=K b0;have a9:=K a9;have cA:=K e;clear b0 e;go_enter func306,ntmps306;go_wp2_with fail;have B:θ ((w.alloc (ζ #[V A 0 0,V A 0 0] 316)).alloc (ζ #[H u,H p] 9)) (w.heap.size+1) 9 #[H u,H p]:=θ.dA _ _ _ _;have z:θ ((w.alloc (ζ #[V A 0 0,V A 0 0] 316)).alloc (ζ #[H u,H p] 9)) w.heap.size 316 #[V A 0 0,V A 0 0]:=(θ.new _ _ _).alloc _;have b5:Y w ((w.alloc (ζ #[V A 0 0,V A 0 0] 316)).alloc (ζ #[H u,H p] 9)) γ:=((Y.refl w γ).alloc _).alloc _;refine(adJ B).mono ?_;rintro d f ⟨rfl,au,l,t1,X,bz,bA⟩;have bt:Y w f γ:=b5.trans au λa d=> .inr (by omega);have bq:θ f w.heap.size 316 #[V A 0 0,V A 0 0]:=au.blk z (by omega);have C:w.heap.size+2<=f.heap.size:=by have:=au.size;simp at this;omega
 have da:l≠t1:=by obtain⟨rfl,rfl⟩|⟨rfl,rfl⟩:=X;exact b3;exact b3.symm
 have dl:l∈us:=by rcases X with⟨rfl,rfl⟩|⟨rfl,rfl⟩<;>assumption
 have dm:t1∈us:=by rcases X with⟨rfl,rfl⟩|⟨rfl,rfl⟩<;>assumption
 have cl:=gH _ dl;have cm:=gH _ dm
 have br:η (∀i a4,Y f i a4->¬a4 (w.heap.size+1)->∀b,b<2->i.cell? ⟨w.heap.size+1,b,A⟩=N (H (tk l t1 b))):=K λi a4 kk b1 b bb=>by
  match b,bb with
  |0,_=>exact az kk bz b1
  |1,_=>exact az kk bA b1
 have TM:η (∀b,tk l t1 b∈us):=K λb=>by unfold tk;split<;>assumption
 have c0:η (∀b,tk l t1 b=l\/tk l t1 b=t1):=K λb=>by unfold tk;split<;>simp
 have bv:=K bt;have ct:=K bq;clear B z b5 au bz bA bt bq;go_wp2;go_loopw [12,24] (λ_ G wr=>∃b:Nat,b<=2/\G=I E b/\Y (f.alloc (.map #[] 0)) wr (·=f.heap.size)/\oy (f.heap.size+1) l t1 wr f.heap.size b) (λ_ G _=>2-(aB G).toNat)
 case atStart=>exact⟨0,by omega,rfl,Y.refl _ _,⟨_,aC.made bR f,by omega,by omega⟩⟩
 obtain⟨b,bb,rfl,m,aq⟩:=hrel;have j:Y f wr γ:=((Y.refl f γ).alloc _).trans m λa d=> .inr (by omega);have a0:Y w wr γ:=bv.out.trans j Η;have ao:=(fG g s).keeps cA.out a0 λ_ _ e=>e;by_cases W:b<2
 .have c8:(b:Int)<2:=by omega
  have d1:=br.out wr γ j id b W;have a6:=K (CI ao (gH _ (TM.out b)));have am:=K aq;clear aq ao;go_wp2_with (first|(go_at_call 41;refine a6.out.mono ?_;rintro d h ⟨v,rfl,cc,J⟩;obtain⟨d5,al,rfl⟩:=cC cc;obtain⟨e2,eS,dd,dg⟩:=(am.out.keeps J Η id).next da cl cm W (Nat.lt_succ_self _) (CJ s _) (sP cc (by have:=m.size;simp at this;omega))));exact⟨⟨b+1,by omega,by go_num,(m.trans J Η).trans dg λ_ e=> .inl e,dd⟩,by simp[aB];omega⟩
 obtain rfl:b=2:=by omega
 have d7:=a9.out;have am:=K aq;have bE:=K (cI.out wr a0 ao);clear aq ao;have es:=j.size;go_wp2_with (go_at_fn S;refine bE.out.mono ?_;rintro d h ⟨e0,rfl,bc,bN,J⟩;obtain⟨a3,a2,rfl⟩:=cC bc);have bn:oy (f.heap.size+1) l t1 h f.heap.size 2:=am.out.keeps J (λa c=> .inl (by have:=y.out a c;omega)) (λc=>by have:=y.out _ c;omega);have eg:f.heap.size<h.heap.size:=by obtain⟨ew,c9,_⟩:=bn;exact c9.lt
 have bd:Y f h F:=j.any.trans J λ_ e=> .inl e;have eo:=bd.size;have cb:∀a,w.heap.size<=a->¬F a:=λa c hF=>by have:=y.out a hF;omega
 have P:=K cb;have c1:=K bn;have a7:=K bd;have a5:=K bc;have cB:=K bN;have d3:=K (a0.any.trans J λ_ e=> .inl e);clear bn bd bc bN J am bE a0 j m cb;go_loopw [15,39] (λ_ G wr=>∃b:Nat,b<=2/\G=I E b/\∃(bf:ε) (k:List BA) (L:BA->Int),θ wr h.heap.size 316 #[bf,V a3 r.length a2]/\wr.ownsRow (h.heap.size+1) 9 1 bf k.length (k.map H)/\(∀a∈k,a=l\/a=t1)/\k.length<=b/\eQ wr g (mh s1 L) F/\Y h wr (λa=>F a\/a=h.heap.size)) (λ_ G _=>2-(aB G).toNat)
 case atStart=>exact⟨0,by omega,rfl,V A 0 0,[],s1.bl,θ.new _ _ _,db _ _ _ _,by simp,by simp,(fG g _).keeps cB.out ((Y.refl h γ).alloc _) λ_ _ e=>e,(Y.refl _ _).alloc _⟩
 obtain⟨b,bb,rfl,bf,k,L,R,O,ap,el,T,m⟩:=hrel;obtain⟨cf,ch,rfl⟩:=cC O;by_cases W:b<2
 .have c8:(b:Int)<2:=by omega
  have j:Y f wr (λa=>F a\/a=h.heap.size):=(a7.out.mono λa c=> .inl (.inl c)).trans m λa c=> .inl c;have d1:=br.out wr _ j (λc=>c.elim (λe=>P.out _ (by omega) e) (by omega)) b W;have co:oy (f.heap.size+1) l t1 wr f.heap.size 2:=c1.out.keeps m (λa c=>c.elim (λe=> .inl (by have:=y.out a e;omega)) λd=> .inr (by omega)) (λc=>c.elim (λe=>P.out _ (by omega) e) (by omega));obtain⟨cn,ev,ec,dc,b2⟩:=co.look cl cm W;have b9:=TM.out b;have dv:=c0.out b;generalize tk l t1 b=t at*;have bi:=gH _ b9;have a6:η (∀i,Y wr i γ->ν δ 41 #[π (N (U g 0 A)),H t] i (Ks i (aM (mh s1 L) t))):=K λi kk=>CI ((fG g _).keeps T kk λ_ _ e=>e) bi;have et:=CJ (mh s1 L) t;have bw:=K b2;have cW:η (∀o,Y wr o γ->((cw 403 (ω (N f.heap.size)) (H t) false).run δ o= .ok cn o/\Y wr o γ)):=K λo kk=>⟨(bw.out o kk).1,kk⟩;have cv:=K R;have cU:=K O;have cD:=K T;have bs:=K ap;clear b2 co j R O T ap dc;go_upto_region 13 with fail
  go_region_held3 (λo=>(cw 403 (ω (N f.heap.size)) (H t) false).run δ o= .ok cn o/\Y wr o γ)
   ((refine cW.out _ ?_;(with_reducible first|assumption|exact(Y.refl _ _).drew)))
   (first|(go_at_call 41;refine(a6.out _ (by first|with_reducible assumption|exact(Y.refl _ _).drew)).mono ?_;rintro d d0 ⟨e1,rfl,dn,dk⟩;have b6:Y wr d0 γ:=(Y.refl wr γ).drew.trans dk Η)|(go_at_call 347;refine(XW (bw.out _ b6).2 dn (by omega) (by omega)).mono ?_;rintro d e3 ⟨⟨c2,rfl⟩,dp,rfl⟩;have av:=b6.drewN dp))
  all_goals
   have ba:=(fG g _).keeps cD.out av λ_ _ e=>e;have an:=av.blk cv.out id;have ac:=aD cU.out av λ_ _ e=>e;have ab:=m.trans av Η;have eq:=ab.size;cases c2
   .obtain⟨ub,uc,sb,nb,vb,ms,mn,mv,C⟩:=ba;have c3:=C.blk.cell 3;simp only[gz_] at c3;have eT:=C.Rw bi;obtain⟨d4,ds,b8,M⟩:=C.oU.store dG (t:=96) (e:=3) Ro (by unfold Χ;omega) (x:=t) (jk bi) (I E (wrap64 ((mh s1 L).bl t+1)));have bF:F vb:=(C.ak vb).2 (by simp);have en:=y.out vb bF;have d6:=a7.out.size;obtain⟨dx,b4⟩:=C.adu b9 _ b8 M;have z:=M.blk an (by omega);have ad:=aD ac M λn q d=>by have:=(ac.lt n q).1;omega
    have er:=M.size;have ef:=z.lt;obtain⟨eD,a8,dt,be,aw,ex⟩:=nB (h.heap.size+1) ad t (by omega) (by omega);have B:=aw.blk z (λd=>by have:=(ad.lt _ d).1;omega);have ea:=B.frozen 0;have c5:=B.cell 0;have c4:=z.cell 0;simp only[gz_] at c4 c5;have bB:=b4.keeps aw λa c d=>by have:=(ad.lt a d).1;have:=y.out a c;omega
    obtain⟨cg,ck,rfl⟩:=cC be;simp only[bR] at ds;have cy:=K bB;have cu:=K B;have bx:=K be;have cJ:=K ((ab.trans M λa d=> .inl (.inl (d▸bF))).trans aw λa d=> .inr (by have:=(ad.lt a d).1;omega));clear bB B be aw M ad z b4 C b8 an ac ab;go_wp2_with (at_builtin;refine dy rfl (.tmp 59) (.tmp 61) 26 rfl rfl rfl dt ?_);have x:Y a8 (a8.setCell (U h.heap.size 0 A) (V cg (k.length+1) ck)) (·=h.heap.size):=(Y.refl a8 (·=h.heap.size)).χ (p:=(U h.heap.size 0 A)) (.inl rfl) _;refine⟨⟨b+1,by omega,by go_num,V cg (k.length+1) ck,k++[t],dx,(cu.out.χ 0 _).to (by simp),?_,?_,by simp;omega,?_,cJ.out.trans x λa d=> .inl (.inr d)⟩,by simp[aB];omega⟩
    .have:=aD bx.out x λn q d=>by have:=(bx.out.lt n q).1;omega
     simpa using this
    .intro a c;obtain c|c:=dO.1 c
     .exact bs.out a c
     obtain rfl:=cj.1 c;exact dv
    exact⟨_,_,_,_,_,_,_,_,cy.out.keeps x λa c d=>by have:=y.out a c;omega⟩
   .have cx:=K ba;have cs:=K an;have cS:=K ac;have cR:=K ab;clear ba an ac ab;go_wp2;exact⟨⟨b+1,by omega,by go_num,_,k,L,cs.out,cS.out,bs.out,by omega,cx.out,cR.out⟩,by simp[aB];omega⟩
 obtain rfl:b=2:=by omega
 have j:Y f wr (λa=>F a\/a=h.heap.size):=(a7.out.mono λa c=> .inl (.inl c)).trans m λa c=> .inl c;have Q:=j.blk ct.out (λc=>c.elim (λe=>P.out _ (by omega) e) (by omega));have y0:=Q.cell 0;have cq:=Q.cell 1;have d8:=Q.frozen 0;have d9:=Q.frozen 1;have z0:=R.cell 0;have d2:=R.cell 1;simp only[gz_] at y0 cq z0 d2
 have ce:wr.ownsRow w.heap.size 371 3 (V a3 r.length a2) r.length (jB r):=sP (aD a5.out m λn q d=>by
  have c6:=a5.out.lt n q;obtain d|d:=d
  .exact P.out n (by omega) d
  omega) (by omega)
 have c7:η (∀a1 v al bk,yF w g u p s1 F r (ξ (Μ #[V cf k.length ch,V a3 r.length a2])) ((wr.setCell (U w.heap.size a1 A) v).setCell (U w.heap.size al A) bk)):=K λa1 v al bk=>by
  have x:Y wr ((wr.setCell (U w.heap.size a1 A) v).setCell (U w.heap.size al A) bk) (·=w.heap.size):=((Y.refl wr (·=w.heap.size)).χ (p:=(U w.heap.size a1 A)) (.inl rfl) _).χ (p:=(U w.heap.size al A)) (.inl rfl) _;refine⟨_,_,k,L,rfl,?_,?_,λa c=> ?_,by omega,(fG g _).keeps T x λa c d=>P.out a (by omega) c,?_⟩
  .exact sP (aD O x λn q d=>by have:=(O.lt n q).1;omega) (by omega)
  .exact aD ce x λn q d=>by have c6:=a5.out.lt n q;omega
  .obtain rfl|rfl:=ap a c
   .rcases X with⟨rfl,rfl⟩|⟨rfl,rfl⟩<;>simp
   rcases X with⟨rfl,rfl⟩|⟨rfl,rfl⟩<;>simp
  exact((bv.out.any (F:=F)).trans j λa c=>c.elim .inl λd=> .inr (by omega)).trans x λa d=> .inr (by omega)
 clear R O T ap m j Q ce;go_wp2;exact Ω (v:=Μ #[V cf k.length ch,V a3 r.length a2]) (by simp[ag,results306,go_sem,y0,cq]) rfl (c7.out _ _ _ _)
theorem Vv(b:(p.toList==L.toList)=true):p=L:=by
 have a:p.toList=L.toList:=by simpa using b
 rw[iy,iy] at a;exact WideShapes.bytes_inj a
theorem Ov(b:mE p=true):p∈us:=by obtain⟨d,c,a⟩:=List.any_eq_true.1 b;exact Vv a▸c
theorem zy{e:aY}{more:Bool}(a:cG e p L f more=0):p∈us/\L∈us/\p≠L/\f=true:=by
 unfold cG at a;split at a
 .omega
 rename_i b;split at a
 .omega
 rename_i c;simp only[Bool.not_eq_false,Bool.and_eq_true] at b;simp only[Bool.not_eq_true,Bool.or_eq_false_iff,Bool.not_eq_false'] at c;refine⟨Ov b.1,Ov b.2,λd=> ?_,c.2⟩;subst d;have:=c.1;simp at this
def vA(d:Z)(n:Nat)(h e:BA)(p q:aY)(i:Bs)(o:List Tl)(f:Int)(m:aI)(b:Z):Prop:=
 ∃(j k:ε) (a:List BA) (c:List Tl) (g:aY),m=ξ (σ #[Μ #[j,k],I E f])/\b.ownsRow d.heap.size 9 1 j a.length (a.map H)/\b.ownsRow d.heap.size 371 3 k c.length (jB c)/\(∀l∈a,l=h\/l=e)/\a.length<=2/\
  eQ b n g i/\Y d b i/\(f=0->h∈us/\e∈us/\h≠e/\c=o/\∃r,g=mh q r)/\(f≠0->a=[]/\c=[]/\g=p/\Y d b γ)
def fl(a:Int):Bool:=decide (1<=a)&&decide (a<=4)
theorem aba(a:Int):(!(kT a).toList.isEmpty)=fl a:=by
 unfold kT fl;rw[iy];by_cases b:a=1
 .subst b;rfl
 by_cases c:a=2
 .subst c;rfl
 by_cases d:a=3
 .subst d;rfl
 by_cases e:a=4
 .subst e;rfl
 rw[WB b,WB c,WB d,WB e]
 have:(decide (1<=a)&&decide (a<=4))=false:=by
  by_cases f:1<=a
  .have:¬a<=4:=by omega
   simp[this]
  simp[f]
 rw[this];rfl
theorem Qi{b c:Nat}(e:w.ownsRow y u k x d a)(f:x.ownBlock≠N M):((w.setCell (U M b A) i).setCell (U M c A) t).ownsRow y u k x d a:=
 aD e (((Y.refl w (·=M)).χ (p:=(U M b A)) (.inl rfl) _).χ (p:=(U M c A)) (.inl rfl) _) λh g u=>f (u▸g)
theorem Dr    :Y w ((w.setCell (U y k A) x).setCell (U y d A) i) (·=y):=((Y.refl w (·=y)).χ (p:=(U y k A)) (.inl rfl) _).χ (p:=(U y d A)) (.inl rfl) _
theorem GA{R e:aY}{b:List Tl}(O:p∈us)(N:L∈us)(F:p≠L)(r:∀g,j g->g<w.heap.size)(T:w.heap.size<=k)(V:k<G.heap.size)(h:Y w G γ)(c:yF G y p L e j b (ξ (Μ #[x,i])) n):vA w y p L R e j b 0 (ξ (σ #[Μ #[x,i],I E 0])) ((n.setCell (U k d A) t).setCell (U k M A) B):=by
 obtain⟨Q,S,P,o,a,l,m,H,C,z,K⟩:=c;injection a with a;injection a with a;have s:x=Q:=by have:=congrArg (λb:Array ε=>b[0]?) a;simpa using this
 have u:i=S:=by have:=congrArg (λb:Array ε=>b[1]?) a;simpa using this
 subst s u;have f:=h.size;refine⟨x,i,P,b,mh e o,rfl,Qi (sP l f) (λa=>by have:=(l.lt _ a).1;omega),Qi (sP m f) (λa=>by have:=(m.lt _ a).1;omega),H,C,(fG y _).keeps z Dr (λq J a=>by have:=r q J;omega),((h.any.trans K λ_ c=> .inl c).trans Dr λq a=> .inr (by omega)),λ_=>⟨O,N,F,rfl,o,rfl⟩,λc=>ahN rfl c⟩
theorem yM{e s:aY}{r:List Tl}(l:m≠0)(g:∀a,j a->a<w.heap.size)(t:w.heap.size<=k)(q:Y w n γ)(c:eQ n y e j):vA w y p L e s j r m (ξ (σ #[Μ #[V A 0 0,V A 0 0],I E m])) ((n.setCell (U k d A) x).setCell (U k M A) i):=by have a:∀b,Y w ((n.setCell (U k d A) x).setCell (U k M A) i) b:=λb=>(q.any (F:=b)).trans Dr λf h=> .inr (by omega);exact⟨_,_,[],[],e,rfl,db _ _ _ _,db _ _ _ _,by simp,by simp,(fG y _).keeps c Dr (λf o h=>by have:=g f o;omega),a j,λc=>ahN c l,λ_=>⟨rfl,rfl,rfl,a γ⟩⟩
theorem ZG(a:fl m=true):1<=m/\m<=4:=by unfold fl at a;simpa using a
theorem Si{e:aY}(d:eQ w y e j)(aD:cX p)(az:cX L)(a:Int):ν δ 247 #[π (N (U y 0 A)),H p,H L,I E a] w (vA w y p L e (iS (oz e p L a) p L a) j (je e p L a) (cG e p L (fl a) (a==1))):=by
 have l:=K ((fG y e).lt d);have u:Y w (((((w.alloc (ζ #[π (N (U y 0 A))] 47)).alloc (ζ #[H p] 9)).alloc (ζ #[H L] 9)).alloc (ζ #[I E a] 3)).alloc (ζ #[V A 0 0,V A 0 0] 316)) γ:=(((((Y.refl w γ).alloc _).alloc _).alloc _).alloc _).alloc _
 have m:η (∀b j,Y (((((w.alloc (ζ #[π (N (U y 0 A))] 47)).alloc (ζ #[H p] 9)).alloc (ζ #[H L] 9)).alloc (ζ #[I E a] 3)).alloc (ζ #[V A 0 0,V A 0 0] 316)) b j->(∀c,w.heap.size<=c->¬j c)->
  (b.cell? (U w.heap.size 0 A)=N (π (N (U y 0 A)))/\b.cell? ⟨w.heap.size+1,0,A⟩=N (H p)/\b.cell? ⟨w.heap.size+1+1,0,A⟩=N (H L)/\b.cell? ⟨w.heap.size+1+1+1,0,A⟩=N (I E a)/\θ b (w.heap.size+1+1+1+1) 316 #[V A 0 0,V A 0 0])):=K λb j c hF=>by
  have aq:=((((θ.new w 47 #[π (N (U y 0 A))]).alloc (ζ #[H p] 9)).alloc (ζ #[H L] 9)).alloc (ζ #[I E a] 3)).alloc (ζ #[V A 0 0,V A 0 0] 316);have ar:=(((θ.dA w (ζ #[π (N (U y 0 A))] 47) 9 #[H p]).alloc (ζ #[H L] 9)).alloc (ζ #[I E a] 3)).alloc (ζ #[V A 0 0,V A 0 0] 316);have F:=((θ.dA (w.alloc (ζ #[π (N (U y 0 A))] 47)) (ζ #[H p] 9) 9 #[H L]).alloc (ζ #[I E a] 3)).alloc (ζ #[V A 0 0,V A 0 0] 316);have G:=(θ.dA ((w.alloc (ζ #[π (N (U y 0 A))] 47)).alloc (ζ #[H p] 9)) (ζ #[H L] 9) 3 #[I E a]).alloc (ζ #[V A 0 0,V A 0 0] 316);have J:=θ.dA (((w.alloc (ζ #[π (N (U y 0 A))] 47)).alloc (ζ #[H p] 9)).alloc (ζ #[H L] 9)) (ζ #[I E a] 3) 316 #[V A 0 0,V A 0 0];simp at F G J;exact⟨(c.blk aq (hF _ (by omega))).cell 0,(c.blk ar (hF _ (by omega))).cell 0,(c.blk F (hF _ (by omega))).cell 0,(c.blk G (hF _ (by omega))).cell 0,c.blk J (hF _ (by omega))⟩
 have af:=K u;have S:=(fG y e).keeps d u λ_ _ d=>d;have C:=K S;clear u S d;go_enter func247,ntmps247;go_upto_region 1 with fail
 generalize((((w.alloc (ζ #[π (N (U y 0 A))] 47)).alloc (ζ #[H p] 9)).alloc (ζ #[H L] 9)).alloc (ζ #[I E a] 3)).alloc (ζ #[V A 0 0,V A 0 0] 316)=i at*;have aj:=K (Pu a);have ai:η (∀b n more,Y i b γ->ν δ 304 #[π (N (U y 0 A)),H p,H L,ι n,ι more] b (yu b (cG e p L n more))):=K λb n more c=>LI ((fG y e).keeps C.out c λ_ _ d=>d) aD az n more;go_cut [10] (λB b=>B=I E (cG e p L (fl a) (a==1))/\Y i b γ)
 case first=>
  have ak:η (∀b,Y i b γ->(b.cell? (U w.heap.size 0 A)=N (π (N (U y 0 A)))/\b.cell? ⟨w.heap.size+1,0,A⟩=N (H p)/\b.cell? ⟨w.heap.size+1+1,0,A⟩=N (H L)/\b.cell? ⟨w.heap.size+1+1+1,0,A⟩=N (I E a))):=K λb c=>by obtain⟨am,ap,L,au,_⟩:=m.out b γ c (λ_ _ d=>d);exact⟨am,ap,L,au⟩
  go_region_held3 (λb=>b.cell? (U w.heap.size 0 A)=N (π (N (U y 0 A)))/\b.cell? ⟨w.heap.size+1,0,A⟩=N (H p)/\b.cell? ⟨w.heap.size+1+1,0,A⟩=N (H L)/\b.cell? ⟨w.heap.size+1+1+1,0,A⟩=N (I E a))
   ((refine ak.out _ ?_;(with_reducible first|assumption|exact(Y.refl _ _).drew)))
   (first|(go_at_call 305;refine(aj.out _).mono ?_;rintro M aN ⟨rfl,aw⟩;have T:Y i aN γ:=(Y.refl i γ).drew.trans (Y.of_below aw γ) Η)|(go_at_call 304;refine(ai.out _ _ _ T).mono ?_;rintro M aZ ⟨rfl,aG⟩;have aF:=T.trans aG Η))
  all_goals
   go_wp2_with fail;go_meet;exact⟨by rw[aba],aF⟩
 obtain⟨rfl,g⟩:=hcut;obtain⟨ab,rfl⟩:∃B,B=wc:=⟨wc,rfl⟩;have o:=(fG y e).keeps C.out g λ_ _ d=>d;have q:Y w ab γ:=af.out.trans g Η;obtain⟨y0,a0,a1,a2,f⟩:=m.out ab γ g λ_ _ d=>d;have z0:=f.cell 0;have h:=f.cell 1;have O:=f.frozen 0;have P:=f.frozen 1;simp only[gz_] at z0 h;by_cases k:cG e p L (fl a) (a==1)=0
 .obtain⟨z,x,t,aA⟩:=zy k;obtain⟨an,ao⟩:=ZG aA;rw[k]
  have ac:=K (Ja (s1:=iS (oz e p L a) p L a) o z x t 307 #[π (N (U w.heap.size 0 A)),π (N ⟨w.heap.size+1,0,A⟩),π (N ⟨w.heap.size+1+1,0,A⟩),π (N ⟨w.heap.size+1+1+1,0,A⟩)] (enters_of func307 (by kernel_rfl) rfl) (je e p L a) λal aE ax=>by
   obtain⟨aP,aQ,aR,aS,_⟩:=m.out al γ (g.trans aE Η) λ_ _ d=>d;have r:∀c,w.heap.size<=c->¬j c:=λc aB hF=>by have:=l.out c hF;omega
   exact UI ax z x t a an ao ⟨r _ (by omega),r _ (by omega),r _ (by omega),r _ (by omega)⟩ aP aQ aR aS)
  have s:=K q;have ah:=K g;have aH:=f.lt;clear o f g q z0 h O P;go_wp2_with fail;refine ac.out.mono ?_;intro M aO Q;have R:=Q;obtain⟨aV,aW,aK,aX,rfl,X,aa,aC,aU,ay,W⟩:=Q;obtain⟨aI,aJ,rfl⟩:=cC X;obtain⟨aL,aM,rfl⟩:=cC aa;obtain⟨_,_,_,_,f⟩:=m.out aO j (ah.out.any.trans W λ_ d=> .inl d) λc aB hF=>by have:=l.out c hF;omega
  have z0:=f.cell 0;have h:=f.cell 1;have O:=f.frozen 0;have P:=f.frozen 1;simp only[gz_] at z0 h;have ae:=K R;clear f X aa ay W aC R;go_wp2;refine Ω (v:=σ #[Μ #[V aI aK.length aJ,V aL (je e p L a).length aM],I E 0]) (by simp[ag,results247,go_sem,z0,h]) rfl ?_;rw[k];exact GA z x t l.out (by omega) aH s.out ae.out
 have aT:(cG e p L (fl a) (a==1)!=0)=true:=by simpa using k
 have s:=K q;have ad:=K o;generalize cG e p L (fl a) (a==1)=av at*;clear o f g q;go_wp2;refine Ω (v:=σ #[Μ #[V A 0 0,V A 0 0],I E av]) (by simp[ag,results247,go_sem,z0,h]) rfl ?_;exact yM k l.out (by omega) s.out ad.out
theorem Ud{d:aY}(a:eQ w y d j)(ap:cX p)(am:cX L):ν δ 250 #[π (N (U y 0 A)),H p,H L] w (vA w y p L d (Iv d p L) j (oJ d p L) (if(d.aR p L).isSome=true then 0 else 7)):=by
 have k:=K ((fG y d).lt a);have l:Y w ((((w.alloc (ζ #[π (N (U y 0 A))] 47)).alloc (ζ #[H p] 9)).alloc (ζ #[H L] 9)).alloc (ζ #[V A 0 0,V A 0 0] 316)) γ:=((((Y.refl w γ).alloc _).alloc _).alloc _).alloc _
 have n:η (∀f j,Y ((((w.alloc (ζ #[π (N (U y 0 A))] 47)).alloc (ζ #[H p] 9)).alloc (ζ #[H L] 9)).alloc (ζ #[V A 0 0,V A 0 0] 316)) f j->(∀b,w.heap.size<=b->¬j b)->
  (f.cell? (U w.heap.size 0 A)=N (π (N (U y 0 A)))/\f.cell? ⟨w.heap.size+1,0,A⟩=N (H p)/\f.cell? ⟨w.heap.size+1+1,0,A⟩=N (H L)/\θ f (w.heap.size+1+1+1) 316 #[V A 0 0,V A 0 0])):=K λf j b hF=>by
  have ab:=(((θ.new w 47 #[π (N (U y 0 A))]).alloc (ζ #[H p] 9)).alloc (ζ #[H L] 9)).alloc (ζ #[V A 0 0,V A 0 0] 316);have ac:=((θ.dA w (ζ #[π (N (U y 0 A))] 47) 9 #[H p]).alloc (ζ #[H L] 9)).alloc (ζ #[V A 0 0,V A 0 0] 316);have B:=(θ.dA (w.alloc (ζ #[π (N (U y 0 A))] 47)) (ζ #[H p] 9) 9 #[H L]).alloc (ζ #[V A 0 0,V A 0 0] 316);have C:=θ.dA ((w.alloc (ζ #[π (N (U y 0 A))] 47)).alloc (ζ #[H p] 9)) (ζ #[H L] 9) 316 #[V A 0 0,V A 0 0];simp at B C;exact⟨(b.blk ab (hF _ (by omega))).cell 0,(b.blk ac (hF _ (by omega))).cell 0,(b.blk B (hF _ (by omega))).cell 0,b.blk C (hF _ (by omega))⟩
 have h:=(fG y d).keeps a l λ_ _ a=>a;have q:(d.aR p L).isSome=true->p∈us/\L∈us/\p≠L:=λe=>by obtain⟨bi,bk,be,bc,bn,ba,a9,bb,a⟩:=a;exact⟨(a.ze p L e).1,(a.ze p L e).2,λm=>by subst m;rw[a.ca p] at e;cases e⟩
 have i:=K (GB h ap am);generalize o:(((w.alloc (ζ #[π (N (U y 0 A))] 47)).alloc (ζ #[H p] 9)).alloc (ζ #[H L] 9)).alloc (ζ #[V A 0 0,V A 0 0] 316)=W at*;obtain⟨y0,br,bs,c⟩:=n.out W γ (Y.refl _ _) λ_ _ a=>a;have z0:=c.cell 0;have g:=c.cell 1;have F:=c.frozen 0;have G:=c.frozen 1;simp only[gz_] at z0 g;have au:=c.lt;have z:=K l;have x:=K o;cases e:(d.aR p L).isSome with
 |true=>
  obtain⟨t,s,r⟩:=q e
  have R:=K (Ja (s1:=Iv d p L) h t s r 313 #[π (N (U w.heap.size 0 A)),π (N ⟨w.heap.size+1,0,A⟩),π (N ⟨w.heap.size+1+1,0,A⟩)] (enters_of func313 (by kernel_rfl) rfl) (oJ d p L) λX aq ad=>by
   obtain⟨a5,a6,a7,_⟩:=n.out X γ aq λ_ _ a=>a;have u:∀b,w.heap.size<=b->¬j b:=λb an hF=>by have:=k.out b hF;omega
   exact acV ad t s r ⟨u _ (by omega),u _ (by omega),u _ (by omega)⟩ a5 a6 a7)
  rw[e] at i;simp only[if_true];clear h a c l o q e z0 g F G;go_enter func250,ntmps250;go_upto_region 1 with fail
  rw[x.out];go_wp2_with fail;refine i.out.mono ?_;rintro m a4 ⟨rfl,rfl⟩;go_wp2_with fail;refine R.out.mono ?_;intro m a3 J;have M:=J;obtain⟨bd,bf,a0,bq,rfl,P,Q,ao,a8,al,O⟩:=J;obtain⟨av,aw,rfl⟩:=cC P;obtain⟨a1,a2,rfl⟩:=cC Q;obtain⟨_,_,_,c⟩:=n.out a3 j O λb an hF=>by have:=k.out b hF;omega
  have z0:=c.cell 0;have g:=c.cell 1;have F:=c.frozen 0;have G:=c.frozen 1;simp only[gz_] at z0 g;have T:=K M;clear c P Q al O ao M;go_wp2;refine Ω (v:=σ #[Μ #[V av a0.length aw,V a1 (oJ d p L).length a2],I E 0]) (by simp[ag,results250,go_sem,z0,g]) rfl ?_;exact GA t s r k.out (by omega) au z.out T.out
 |false=>
  rw[e] at i;simp only[rB,if_false];have S:=K h;clear h a c l o q e;go_enter func250,ntmps250;go_upto_region 1 with fail
  rw[x.out];go_wp2_with fail;refine i.out.mono ?_;rintro m a4 ⟨rfl,rfl⟩;go_wp2;refine Ω (v:=σ #[Μ #[V A 0 0,V A 0 0],I E 7]) (by simp[ag,results250,go_sem,z0,g]) rfl ?_;exact yM (by decide) k.out (by omega) z.out S.out
def pM(a:BA):Bool:=decide (a.size<=40)&&(gD a==0)
theorem TI{d:aY}(a:eQ w y d j){c:BA}(aS:cX p)(aN:cX L)(aP:c.size<=9223372036854775807)(aq:aT w):ν δ 251 #[π (N (U y 0 A)),H p,H L,H c] w (vA w y p L d (mg d p L (N c)) j [] (cG d p L (pM c) true)):=by
 have C:=K ((fG y d).lt a);have S:Y w (((((w.alloc (ζ #[π (N (U y 0 A))] 47)).alloc (ζ #[H p] 9)).alloc (ζ #[H L] 9)).alloc (ζ #[H c] 9)).alloc (ζ #[V A 0 0,V A 0 0] 316)) γ:=(((((Y.refl w γ).alloc _).alloc _).alloc _).alloc _).alloc _
 have o:η (∀e j,Y (((((w.alloc (ζ #[π (N (U y 0 A))] 47)).alloc (ζ #[H p] 9)).alloc (ζ #[H L] 9)).alloc (ζ #[H c] 9)).alloc (ζ #[V A 0 0,V A 0 0] 316)) e j->(∀f,w.heap.size<=f->¬j f)->
  (e.cell? (U w.heap.size 0 A)=N (π (N (U y 0 A)))/\e.cell? ⟨w.heap.size+1,0,A⟩=N (H p)/\e.cell? ⟨w.heap.size+1+1,0,A⟩=N (H L)/\e.cell? ⟨w.heap.size+1+1+1,0,A⟩=N (H c)/\θ e (w.heap.size+1+1+1+1) 316 #[V A 0 0,V A 0 0])):=K λe j f hF=>by
  have aI:=((((θ.new w 47 #[π (N (U y 0 A))]).alloc (ζ #[H p] 9)).alloc (ζ #[H L] 9)).alloc (ζ #[H c] 9)).alloc (ζ #[V A 0 0,V A 0 0] 316);have aJ:=(((θ.dA w (ζ #[π (N (U y 0 A))] 47) 9 #[H p]).alloc (ζ #[H L] 9)).alloc (ζ #[H c] 9)).alloc (ζ #[V A 0 0,V A 0 0] 316);have ah:=((θ.dA (w.alloc (ζ #[π (N (U y 0 A))] 47)) (ζ #[H p] 9) 9 #[H L]).alloc (ζ #[H c] 9)).alloc (ζ #[V A 0 0,V A 0 0] 316);have ai:=(θ.dA ((w.alloc (ζ #[π (N (U y 0 A))] 47)).alloc (ζ #[H p] 9)) (ζ #[H L] 9) 9 #[H c]).alloc (ζ #[V A 0 0,V A 0 0] 316);have aj:=θ.dA (((w.alloc (ζ #[π (N (U y 0 A))] 47)).alloc (ζ #[H p] 9)).alloc (ζ #[H L] 9)) (ζ #[H c] 9) 316 #[V A 0 0,V A 0 0];simp at ah ai aj;exact⟨(f.blk aI (hF _ (by omega))).cell 0,(f.blk aJ (hF _ (by omega))).cell 0,(f.blk ah (hF _ (by omega))).cell 0,(f.blk ai (hF _ (by omega))).cell 0,f.blk aj (hF _ (by omega))⟩
 have T:=(fG y d).keeps a S λ_ _ a=>a;have ap:aT (((((w.alloc (ζ #[π (N (U y 0 A))] 47)).alloc (ζ #[H p] 9)).alloc (ζ #[H L] 9)).alloc (ζ #[H c] 9)).alloc (ζ #[V A 0 0,V A 0 0] 316)):=aq.keeps S (λ_ _ a=>a);generalize an:((((w.alloc (ζ #[π (N (U y 0 A))] 47)).alloc (ζ #[H p] 9)).alloc (ζ #[H L] 9)).alloc (ζ #[H c] 9)).alloc (ζ #[V A 0 0,V A 0 0] 316)=r at*;have M:=K (uj c aP r ap);obtain⟨y0,a2,a3,a4,b⟩:=o.out r γ (Y.refl _ _) λ_ _ a=>a;have a8:=b.lt;have R:=K S;have Q:=K an;have u:η (∀e,Y r e γ->∀z,ν δ 304 #[π (N (U y 0 A)),H p,H L,ι z,ι true] e (yu e (cG d p L z true))):=K λe f z=>LI ((fG y d).keeps T f λ_ _ a=>a) aS aN z true
 have F:η (∀i,Y r i γ->cG d p L (pM c) true=0->ν δ 306 #[π (N (U y 0 A)),H p,H L,af (.func 314) #[] #[π (N ⟨w.heap.size+1+1+1,0,A⟩),π (N (U w.heap.size 0 A)),π (N ⟨w.heap.size+1,0,A⟩),π (N ⟨w.heap.size+1+1,0,A⟩)]] i (yF i y p L (mg d p L (N c)) j [])):=K λi G g=>by
  obtain⟨aa,X,W,ae⟩:=zy g;have aQ:c.size<=40:=by unfold pM at ae;simp at ae;exact ae.1
  refine Ja ((fG y d).keeps T G λ_ _ a=>a) aa X W 314 _ (enters_of func314 (by kernel_rfl) rfl) [] λaH aU aL=> ?_;obtain⟨aA,aB,aC,aD,_⟩:=o.out aH γ (G.trans aU Η) λ_ _ a=>a;have ab:∀f,w.heap.size<=f->¬j f:=λf aO hF=>by have:=C.out f hF;omega
  exact aa6 aL aa X W aQ ⟨ab _ (by omega),ab _ (by omega),ab _ (by omega),ab _ (by omega)⟩ aD aA aB aC
 have x:η (∀i z,Y r i γ->cG d p L z true≠0->eQ i y d j):=K λi z G _=>(fG y d).keeps T G λ_ _ a=>a;clear T a S an ap aq;by_cases ak:c.size<=40;rotate_left
 .have aK:decide ((c.size:Int)<=40)=false:=by simp;omega
  have q:pM c=false:=by unfold pM;simp[ak]
  rw[q];have g:cG d p L false true≠0:=λk=>by have:=(zy k).2.2.2;cases this
  have ao:(cG d p L false true !=0)=true:=by simpa using g
  have t:=K (u.out r (Y.refl _ _) false);have J:=K (x.out · false · g);generalize cG d p L false true=O at*;clear u F M q ak x b;go_enter func251,ntmps251;go_upto_region 1 with fail
  rw[Q.out];go_wp2_with fail;refine t.out.mono ?_;rintro k m ⟨rfl,h⟩;obtain⟨_,_,_,_,b⟩:=o.out m γ h λ_ _ a=>a;have z0:=b.cell 0;have n:=b.cell 1;have ac:=b.frozen 0;have ad:=b.frozen 1;simp only[gz_] at z0 n;clear b;go_wp2;refine Ω (v:=σ #[Μ #[V A 0 0,V A 0 0],I E O]) (by simp[ag,results251,go_sem,z0,n]) rfl ?_;exact yM g C.out (by omega) (R.out.trans h Η) (J.out m h)
 have aK:decide ((c.size:Int)<=40)=true:=by simp;omega
 have a5:(c.size:Int)<=40:=by omega
 by_cases B:gD c=0;rotate_left
 .have q:pM c=false:=by unfold pM;simp[B]
  rw[q];have g:cG d p L false true≠0:=λk=>by have:=(zy k).2.2.2;cases this
  have ao:(cG d p L false true !=0)=true:=by simpa using g
  have t:η (∀e,Y r e γ->ν δ 304 #[π (N (U y 0 A)),H p,H L,ι false,ι true] e (yu e (cG d p L false true))):=K λe f=>u.out e f false;have J:=K (x.out · false · g);generalize cG d p L false true=O at*;have a7:(gD c==0)=false:=by simpa using B
  generalize gD c=bb at*;clear u F q x b B;go_enter func251,ntmps251;go_upto_region 1 with fail
  rw[Q.out];go_wp2_with fail;refine M.out.mono ?_;rintro k s ⟨rfl,l⟩;obtain⟨aw,ax,ay,az,_⟩:=o.out s γ l λ_ _ a=>a;go_wp2_with fail;refine(t.out s l).mono ?_;rintro k m ⟨rfl,P⟩;have h:=l.trans P Η;obtain⟨_,_,_,_,b⟩:=o.out m γ h λ_ _ a=>a;have z0:=b.cell 0;have n:=b.cell 1;have ac:=b.frozen 0;have ad:=b.frozen 1;simp only[gz_] at z0 n;clear b;go_wp2;refine Ω (v:=σ #[Μ #[V A 0 0,V A 0 0],I E O]) (by simp[ag,results251,go_sem,z0,n]) rfl ?_;exact yM g C.out (by omega) (R.out.trans h Η) (J.out m h)
 have q:pM c=true:=by unfold pM;simp[B];omega
 rw[q] at F;rw[q];have t:η (∀e,Y r e γ->ν δ 304 #[π (N (U y 0 A)),H p,H L,ι true,ι true] e (yu e (cG d p L true true))):=K λe f=>u.out e f true;rw[B] at M;by_cases g:cG d p L true true=0
 .obtain⟨aa,X,W,_⟩:=zy g;have aG:η (∀i,Y r i γ->ν δ 306 #[π (N (U y 0 A)),H p,H L,af (.func 314) #[] #[π (N ⟨w.heap.size+1+1+1,0,A⟩),π (N (U w.heap.size 0 A)),π (N ⟨w.heap.size+1,0,A⟩),π (N ⟨w.heap.size+1+1,0,A⟩)]] i (yF i y p L (mg d p L (N c)) j [])):=K λi G=>F.out i G g;rw[g] at t;rw[g];clear u F q x b B g;go_enter func251,ntmps251;go_upto_region 1 with fail
  rw[Q.out];go_wp2_with fail;refine M.out.mono ?_;rintro k s ⟨rfl,l⟩;obtain⟨aw,ax,ay,az,_⟩:=o.out s γ l λ_ _ a=>a;go_wp2_with fail;refine(t.out s l).mono ?_;rintro k m ⟨rfl,P⟩;have h:=l.trans P Η;obtain⟨aA,aB,aC,aD,b⟩:=o.out m γ h λ_ _ a=>a;clear b;have aE:=K (aG.out m h);clear y0 a2 a3 a4;go_wp2_with fail;refine aE.out.mono ?_;intro k a1 al;have am:=al;obtain⟨ba,bc,aX,bd,rfl,au,av,aR,a6,aM,ar⟩:=al;obtain⟨aV,aW,rfl⟩:=cC au;obtain⟨aZ,a0,rfl⟩:=cC av;obtain⟨_,_,_,_,b⟩:=o.out a1 j (h.any.trans ar λ_ a=> .inl a) λf aO hF=>by have:=C.out f hF;omega
  have z0:=b.cell 0;have n:=b.cell 1;have ac:=b.frozen 0;have ad:=b.frozen 1;simp only[gz_] at z0 n;have aF:=K am;clear b au av aM ar aR am;go_wp2;refine Ω (v:=σ #[Μ #[V aV aX.length aW,V aZ ([]:List Tl).length a0],I E 0]) (by simp[ag,results251,go_sem,z0,n]) rfl ?_;have a9:=h.size;exact GA aa X W C.out (by omega) (by omega) (R.out.trans h Η) aF.out
 have ao:(cG d p L true true !=0)=true:=by simpa using g
 have J:=K (x.out · true · g);generalize cG d p L true true=O at*;clear u F q x b B;go_enter func251,ntmps251;go_upto_region 1 with fail
 rw[Q.out];go_wp2_with fail;refine M.out.mono ?_;rintro k s ⟨rfl,l⟩;obtain⟨aw,ax,ay,az,_⟩:=o.out s γ l λ_ _ a=>a;go_wp2_with fail;refine(t.out s l).mono ?_;rintro k m ⟨rfl,P⟩;have h:=l.trans P Η;obtain⟨_,_,_,_,b⟩:=o.out m γ h λ_ _ a=>a;have z0:=b.cell 0;have n:=b.cell 1;have ac:=b.frozen 0;have ad:=b.frozen 1;simp only[gz_] at z0 n;clear b;go_wp2;refine Ω (v:=σ #[Μ #[V A 0 0,V A 0 0],I E O]) (by simp[ag,results251,go_sem,z0,n]) rfl ?_;exact yM g C.out (by omega) (R.out.trans h Η) (J.out m h)
section
open Go.Sort Go.Shelf
theorem oT:∀b∈us,aN b=true:=by
 have a:us.all aN=true:=by kernel_rfl
 exact xS.1 a
theorem abJ(b:Z)(d:p∈us):ν δ 53 #[H p] b λc f=>c=ξ (ι false)/\Y b f γ:=by have a:=nT b p (by have:=gH p d;unfold cX at this;omega);rw[oT p d] at a;have a:=K a;go_enter func53,ntmps53;go_wp2_with fail;refine a.out.mono ?_;rintro c g ⟨rfl,e⟩;go_wp2;go_ret;exact⟨rfl,e⟩
def jD:List (List UInt8):=us.map λa=>a.data.toList
theorem ahb:∀a (b:a<4),encStr (jD[a]'(by simpa[jD,us] using b))=H (us[a]'(by simpa[us] using b)):=by
 intro a b;match a,b with
 |0,_=>rfl
 |1,_=>rfl
 |2,_=>rfl
 |3,_=>rfl
theorem ahc:jD.mergeSort (λa b=>decide (a<=b))=jD:=by apply List.mergeSort_of_pairwise;decide
theorem ag9:compactUpTo jD.toArray jD.toArray.size++List.replicate (jD.toArray.size-(compactUpTo jD.toArray jD.toArray.size).length) []=jD:=by decide
theorem aha:(compactUpTo jD.toArray jD.toArray.size).length=4:=by decide
def D6:List ε:=us.map H
def lT(c:Z)(b:Nat):Prop:=∀a (d:a<4),c.cell? (U b a A)=N (H (us[a]'(by simpa[us] using d)))/\c.frozen? (U b a A)=false
theorem lT.holds(c:lT w y):Holds encStr w y 0 jD.toArray:=by
 intro a d;have b:a<4:=by simpa[jD,us] using d
 have:=ahb a b;refine⟨?_,?_⟩
 .rw[eP,(c a b).1,<-this];have e:a<jD.length:=by simpa using d
  simp[cT e]
 rw[eP];exact(c a b).2
theorem adK{cap:Nat}(b:lT w y)(e:y<w.heap.size):ν δ 52 #[V (N (U y 0 A)) 4 cap] w λa c=>a=ξ (σ #[])/\Y w c γ:=by have d:=Rb y 0 cap jD w b.holds e (by decide);refine d.mono ?_;rintro a c ⟨rfl,g,h,rfl⟩;refine⟨rfl,?_⟩;rw[ahc,putRow_ahead,putRow_self encStr w y 0 _ b.holds];have f:Y w (Go.Sort.ahead w g) γ:=⟨rfl,rfl,rfl,Ο _,λ_ _ _=>rfl⟩;exact f.trans (Oi h γ) Η
theorem Wq{cap:Nat}(b:lT w y)(e:4<=cap):ν δ 56 #[V (N (U y 0 A)) 4 cap] w λa c=>a=ξ (V (N (U y 0 A)) 4 cap)/\Y w c γ:=by have d:=agA y 0 cap jD.toArray w b.holds (by decide) (by simpa[jD,us] using e);refine d.mono ?_;rw[ag9,aha];rintro a c ⟨rfl,f,rfl⟩;refine⟨rfl,?_⟩;rw[putRow_ahead,putRow_self encStr w y 0 _ b.holds];exact⟨rfl,rfl,rfl,Ο _,λ_ _ _=>rfl⟩
theorem lT.keeps{w f:Z}{F:Bs}(g:lT w y)(e:Y w f F)(c:¬F y):lT f y:=λi h=>by
 obtain⟨a,b⟩:=g i h
 have d:y<w.heap.size:=by
  obtain h1|h1:=fU y w.heap.size
  .exact h1
  simp[fN,ll h1] at a
 refine⟨?_,?_⟩
 .unfold fN at a⊢;simp only at a⊢;rw[e.block y d c];exact a
 unfold J1 at b⊢;simp only at b⊢;rw[e.block y d c];exact b
theorem abK{cap:Nat}(h:lT w y):ν δ 55 #[V (N (U y 0 A)) 4 cap,af (.func 53) #[] #[]] w λb g=>b=ξ (ι false)/\Y w g γ:=by
 have c:ν δ 86 #[V (N (U y 0 A)) 4 cap,af (.func 53) #[] #[]] w λb g=>b=ξ (I E (-1))/\Y w g γ:=by
  have o:∀args w,(callFunc 53 args).run δ w= .ok (.enter 53 args) w:=enters_of func53 (by kernel_rfl) rfl;have j:=K h;clear h;go_enter func86,ntmps86;go_wp2;go_loopw [8] (λe wr=>∃a:Nat,a<=4/\e=I E a/\Y w wr γ) (λe _=>4-(aB e).toNat)
  case atStart=>exact⟨0,by omega,rfl,Y.refl _ _⟩
  obtain⟨a,p,rfl,f⟩:=hrel;by_cases d:a<4
  .have k:(a:Int)<4:=by omega
   have t:=((j.out.keeps f id) a d).1;have l:us[a]'(by simpa[us] using d)∈us:=eA _;generalize us[a]'(by simpa[us] using d)=s at*;have i:=K (abJ wr l);go_wp2_with fail;refine i.out.mono ?_;rintro b r ⟨rfl,n⟩;go_wp2;exact⟨⟨a+1,by omega,by go_num,f.trans n Η⟩,by simp[aB];omega⟩
  have k:¬(a:Int)<4:=by omega
  go_wp2;go_ret;exact⟨rfl,f⟩
 have c:=K c;go_enter func55,ntmps55;go_wp2_with fail;refine c.out.mono ?_;rintro b q ⟨rfl,m⟩;go_wp2;go_ret;exact⟨rfl,m⟩
open Classical in
noncomputable def BJ:aY:=⟨λ_ _=>(0,false,false),λ_ _=>A,λa=>if a∈us then 1 else 0⟩
open Classical in
noncomputable def pV(a:Nat):BA->Option ε:=λb=>if b∈us.take a then N (I E 1) else A
theorem aa2:pV 0=λ_=>A:=by funext u;simp[pV]
theorem aa1(a:Nat)(e:a<4):put (pV a) (us[a]'(by simpa[us] using e)) (N (I E 1))=pV (a+1):=by
 have g:a<us.length:=by simpa[us] using e
 have f:∀b,b∈us.take (a+1)↔b∈us.take a\/b=us[a]:=λb=>by rw[List.take_add_one,cT g,dO];exact or_congr Iff.rfl (by rw[Option.toList_some];exact cj)
 funext b;unfold put pV;by_cases c:b=us[a]
 .rw[ahM c,ahM ((f b).2 (.inr c))]
 rw[WB c];by_cases d:b∈us.take a
 .rw[ahM d,ahM ((f b).2 (.inl d))]
 rw[WB d,WB λe=>((f b).1 e).elim d c]
theorem agT:prog.underlying 96=N (.map 9 3):=by kernel_rfl
theorem Nv(p:n.ownsRow w.heap.size 9 1 x 4 D6):∃c g,x=V (N (U c 0 A)) 4 g/\4<=g/\lT n c/\w.heap.size<=c/\c<n.heap.size:=by
 obtain⟨rfl,j⟩|⟨d,h,i,rfl,k,a,l,q,r,m⟩:=p.2
 .cases j
 refine⟨d,h,rfl,l,λb e=> ?_,k,?_⟩
 .have o:us[b]? =N (us[b]'(by simpa[us] using e)):=cT _;have f:(i.toList.take (4*1))[b]? =N (H (us[b]'(by simpa[us] using e))):=by rw[m];unfold D6;rw[List.getElem?_map,o];rfl
  rw[List.getElem?_take,ahM (by omega)] at f;exact⟨by simpa[fN,a] using f,by simp[J1,a]⟩
 obtain h1|h1:=fU d n.heap.size
 .exact h1
 rw[ll h1] at a;cases a
theorem adg{cap:Nat}(b:lT w y):ν δ 22 #[V (N (U y 0 A)) 4 cap] w λe l=>∃C aa,e=ξ (π (N (U C 0 A)))/\eQ l C BJ aa/\Ψ w l γ aa:=by
 have bi:= @run_makeMap δ
 have W:η (∀d y G,lT d y->ν δ 51 #[V (N (U y 0 A)) 4 G] d λe l=>∃R,e=ξ R/\l.ownsRow d.heap.size 9 1 R 4 D6/\R≠V A 0 0/\Below d.heap.size d l):=K λd y G b=>by
  have ba:∀j,j<us.length->d.cell? ⟨y,0+j,A⟩=N (H (us.getD j ByteArray.empty)):=λj az=>by
   have aY:j<4:=by simpa[us] using az
   rw[eP,(b j aY).1];simp[cT az]
  exact agz y 0 4 G us d (by decide) (by decide) ba
 have S:=K (W.out w y cap b);clear b;go_enter func22,ntmps22;go_wp2_with fail;refine S.out.mono ?_;rintro e a8 ⟨v,rfl,Q,_,aq⟩;obtain⟨g,h,rfl,bk,J,bf,aW⟩:=Nv Q;have aA:Y w a8 γ:=Y.of_below aq γ;have ap:=K (adK (cap:=h) J aW);have ab:=K J;have ah:=K Q;clear J Q aq S;go_wp2_with fail;refine ap.out.mono ?_;rintro e bq ⟨rfl,p⟩;have a2:=aA.trans p Η;have L:=ab.out.keeps p id;have aG:=aD ah.out p λ_ _ b=>b;have X:=K (abK (cap:=h) L);have ac:=K L;have aj:=K aG;clear L aG ap ab ah;go_wp2_with fail;refine X.out.mono ?_;rintro e aK ⟨rfl,q⟩;have a3:=a2.trans q Η;have M:=ac.out.keeps q id;have aH:=aD aj.out q λ_ _ b=>b;have T:=K (W.out aK g h M);have ad:=K M;have al:=K aH;clear M aH X ac aj;go_wp2_with fail;refine T.out.mono ?_;rintro e a9 ⟨bp,rfl,aI,_,ar⟩;obtain⟨bo,a7,rfl,a0,au,bg,bb⟩:=Nv aI;have r:Y aK a9 γ:=Y.of_below ar γ;have a4:=a3.trans r Η;have ao:=K (Wq (cap:=a7) au a0);have ae:=K (ad.out.keeps r id);have am:=K (aD al.out r λ_ _ b=>b);clear au aI ar T ad al;go_wp2_with fail;refine ao.out.mono ?_;rintro e a ⟨rfl,s⟩;have aE:=a4.trans s Η;have af:=K (ae.out.keeps s id);have an:=K (aD am.out s λ_ _ b=>b);clear ao ae am;have bj:g<a.heap.size:=by have:=p.size;have:=q.size;have:=r.size;have:=s.size;omega
 have aw:η (∃d:Z,d=((((a.alloc (.map #[] 0)).alloc (.map #[] 0)).alloc (.map #[] 0)).alloc (ζ #[V (N (U g 0 A)) 4 h,ω (N a.heap.size),ω (N (a.heap.size+1)),ω (N (a.heap.size+1+1))] 98))/\
  θ d (a.heap.size+1+1+1) 98 #[V (N (U g 0 A)) 4 h,ω (N a.heap.size),ω (N (a.heap.size+1)),ω (N (a.heap.size+1+1))]/\
  aC iY d a.heap.size (λ_=>A) 0/\aC iY d (a.heap.size+1) (λ_=>A) 0/\aC bR d (a.heap.size+1+1) (pV 0) 0/\lT d g/\d.ownsRow w.heap.size 9 1 (V (N (U g 0 A)) 4 h) 4 D6/\Y a d γ):=K (by
  have t:aC iY (a.alloc (.map #[] 0)) a.heap.size (λ_=>A) 0:=aC.made iY a;have u:aC iY ((a.alloc (.map #[] 0)).alloc (.map #[] 0)) (a.heap.size+1) (λ_=>A) 0:=by have:=aC.made iY (a.alloc (.map #[] 0));simpa using this
  have x:aC bR (((a.alloc (.map #[] 0)).alloc (.map #[] 0)).alloc (.map #[] 0)) (a.heap.size+1+1) (λ_=>A) 0:=by have:=aC.made bR ((a.alloc (.map #[] 0)).alloc (.map #[] 0));simpa using this
  have kk:Y a ((((a.alloc (.map #[] 0)).alloc (.map #[] 0)).alloc (.map #[] 0)).alloc (ζ #[V (N (U g 0 A)) 4 h,ω (N a.heap.size),ω (N (a.heap.size+1)),ω (N (a.heap.size+1+1))] 98)) γ:=((((Y.refl a γ).alloc _).alloc _).alloc _).alloc _;refine⟨_,rfl,?_,((t.alloc _).alloc _).alloc _,(u.alloc _).alloc _,?_,af.out.keeps kk id,aD an.out kk (λ_ _ b=>b),kk⟩
  .have:=θ.new (((a.alloc (.map #[] 0)).alloc (.map #[] 0)).alloc (.map #[] 0)) 98 #[V (N (U g 0 A)) 4 h,ω (N a.heap.size),ω (N (a.heap.size+1)),ω (N (a.heap.size+1+1))];simpa using this
  .rw[aa2];exact x.alloc _)
 have bd:=aA.size;have be:=aE.size;clear af an;go_wp2;obtain⟨d,ay,F,t,u,x,av,aJ,aF⟩:=aw.out;rw[<-ay];generalize a.heap.size=f at*;have ag:=K (aE.trans aF Η);have aL:=K F;have aP:=K t;have aQ:=K u;have aM:=K av;have aT:=K aJ;have bm:=F.lt;clear aw ay F t u av aJ aF;go_loopw [37] (λO wr=>∃c:Nat,c<=4/\O=I E c/\Y d wr (·=f+1+1)/\aC bR wr (f+1+1) (pV c) c) (λO _=>4-(aB O).toNat)
 case atStart=>exact⟨0,by omega,rfl,Y.refl _ _,x⟩
 clear x;obtain⟨c,bc,rfl,i,z⟩:=hrel;have m:=i.blk aL.out (by omega);by_cases o:c<4
 .have bh:(c:Int)<4:=by omega
  have bs:=((aM.out.keeps i (by omega)) c o).1;have aZ:us[c]'(by simpa[us] using o)∈us:=eA _;have n:=aa1 c o;generalize us[c]'(by simpa[us] using o)=B at*;have aU:=m.cell 3;simp only[gz_] at aU;obtain⟨br,a6,P,a5⟩:=z.store dG (t:=96) (e:=3) agT (by unfold Χ;omega) (x:=B) (jk (gH B aZ)) (I E 1);rw[n] at P;simp only[bR] at a6;have aS:=K P;clear z P n m;go_wp2;exact⟨⟨c+1,by omega,by go_num,i.trans a5 λ_ b=> .inl b,aS.out⟩,by simp[aB];omega⟩
 obtain rfl:c=4:=by omega
 have bn:=ag.out.any.trans i λ_ b=> .inl b
 have ax:eQ wr (f+1+1+1) BJ (λc=>c=f+1+1+1\/c=g\/c=f\/c=f+1\/c=f+1+1):=by
  refine⟨g,h,f,f+1,f+1+1,_,_,pV 4,{
   blk:=m
   own:=sP (aD aT.out i λC aV e=>by injection aV with n;simp only at n;omega) (ai _)
   aX:=(aP.out.keeps i (by omega)).mono (by omega)
   aR:=(aQ.out.keeps i (by omega)).mono (by omega)
   oU:=z
   side:=λ_ _=>rfl
   name:=λ_ _=>rfl
   bl:=λk=> ?_
   Hd:=λ_ _ b=>by cases b
   ze:=λ_ _ b=>by cases b
   He:=λk b=> ?_
   right:=λ_ _=>rfl
   small:=λ_ _ _ b=>by cases b
   ca:=λ_=>rfl
   apart:=by omega
   ak:=λ_=>Iff.rfl}⟩
  .unfold BJ pV;simp only;by_cases e:k∈us
   .rw[ahM e,ahM (show k∈us.take 4 from e)];rfl
   rw[WB e,WB (show ¬k∈us.take 4 from e)];rfl
  unfold pV at b;by_cases e:k∈us
  .exact e
  rw[WB (show ¬k∈us.take 4 from e)] at b;cases b
 have aN:=K ax;have aO:η (Ψ w wr γ (λc=>c=f+1+1+1\/c=g\/c=f\/c=f+1\/c=f+1+1)):=K ⟨(ag.out.any (F:=(·=f+1+1))).trans i (λ_ b=> .inl b) |>.mono λB a1=> .inr (by omega),λB a1=> .inr (by omega)⟩;clear z m ax;go_wp2;go_ret;exact⟨_,_,rfl,aN.out,aO.out⟩
end
section
open Go Go.Shelf Go.Sort
theorem ahs(a:Int)(b:Z):ν δ 338 #[I bh a] b λc d=>c=ξ (I .u64 ((a-48)%256))/\b=d:=by go_enter func338,ntmps338;go_wp2;all_goals(go_ret;exact⟨jT (by omega),rfl⟩)
theorem Ry(a:w.grownBy n A)(b:n.grownBy G A):w.grownBy G A:=
 ⟨b.os.trans a.os,b.tape.trans a.tape,b.output.trans a.output,Nat.le_trans a.size b.size,λd c _=>(b.block d (Nat.lt_of_lt_of_le c a.size) (by simp)).trans (a.block d c (by simp))⟩
theorem ahm(a:Z):a.grownBy a.drew A:=⟨rfl,rfl,rfl,Ο _,λ_ _ _=>rfl⟩
def jZ(b:BA)(a:Nat):Int:=((b.data[a]?).getD 0).toNat
theorem ahk(b:BA)(a:Nat):0<=jZ b a/\jZ b a<256:=by unfold jZ;have:=((b.data[a]?).getD 0).toNat_lt;omega
theorem ahl(a:Z)(c:BA):∃f d,(convert 9 113 (H c)).run δ a= .ok (V (N (U a.heap.size 0 A)) c.size f) d/\a.grownBy d A/\∀b,b<c.size->d.cell? (U a.heap.size b A)=N (I bh (jZ c b)):=by
 refine⟨_,_,run_bytes_of_string a 9 113 5 c lj iZ sZ,?_,?_⟩
 .exact Ry (ahm a) (World.grownBy_alloc a.drew _ A)
 intro b e;rw[cell_of_row _ a.heap.size b _ 5 _ (heap_alloc_new a.drew _),bytesRow_at c _ b e];unfold jZ;rw[Array.getElem?_eq_getElem e];rfl
def j0(b:BA):Nat->Option Int
 |0=>N 0
 |a+1=>match j0 b a with
  |none=>A
  |some c=>if 9<(jZ b a-48)%256\/4294967295<10*c+(jZ b a-48)%256 then A else N (10*c+(jZ b a-48)%256)
theorem Rz(d:BA)(b a:Nat)(f:b<=a)(c:j0 d b=A):j0 d a=A:=by
 induction a with
 |zero=>
  obtain rfl:b=0:=by omega
  exact c
 |succ a e=>
  obtain h1|h1:=fU a b
  .obtain rfl:b=a+1:=by omega
   exact c
  simp only[j0,e h1]
theorem Jt(d:BA)(b:Nat)(c:Int)(a:j0 d b=N c):0<=c/\c<=4294967295:=by
 induction b generalizing c with
 |zero=>simp only[j0,xZ] at a;omega
 |succ b h=>
  simp only[j0] at a;cases e:j0 d b with
  |none=>rw[e] at a;cases a
  |some g=>
   rw[e] at a;have:=h g e;simp only at a;by_cases f:9<(jZ d b-48)%256\/4294967295<10*g+(jZ d b-48)%256
   .rw[ahM f] at a;cases a
   rw[WB f] at a;injection a with a;omega
def tj(c:Int->BA)(a:BA):ε:=match j0 a a.size with
 |none=> σ #[I Λ 0,ι false]
 |some b=>if c b=a then σ #[I Λ b,ι true] else σ #[I Λ 0,ι false]
theorem ahn(e:Int->BA)(a:BA)(R:a.size<=9223372036854775807)(h:Z)(m:∀c,j0 a a.size=N c->∀o,h.grownBy o A->ν δ 339 #[I Λ c] o λf r=>f=ξ (H (e c))/\o.grownBy r A):ν δ 287 #[H a] h λf r=>f=ξ (tj e a)/\h.grownBy r A:=by
 obtain⟨J,B,M,u,cells⟩:=ahl h a;have m:=K m;go_enter func287,ntmps287;go_wp2_with fail;go_loopw [4,11] (λF p wr=>∃(b:Nat) (c:Int),p=I E b/\b<=a.size/\j0 a b=N c/\F=I .u64 c/\h.grownBy wr A/\B.grownBy wr A) (λ_ p _=>a.size-(aB p).toNat)
 case atStart=>exact⟨0,0,rfl,ai _,rfl,rfl,u,tK _ _⟩
 obtain⟨b,c,rfl,P,k,rfl,g,s⟩:=hrel;have L:=Jt a b c k;by_cases j:b<a.size
 .have y:(b:Int)<a.size:=by omega
  have S:=s.cell (cells b j) (by simp);have G:=ahk a b;have hnext:j0 a (b+1)=if 9<(jZ a b-48)%256\/4294967295<10*c+(jZ a b-48)%256 then A else N (10*c+(jZ a b-48)%256):=by simp only[j0,k]
  go_wp2_with fail;refine(ahs (jZ a b) _).mono ?_;rintro f C ⟨rfl,rfl⟩;have O:0<=(jZ a b-48)%256/\(jZ a b-48)%256<256:=by omega
  generalize(jZ a b-48)%256=i at*;by_cases x:9<i
  .have d:tj e a=σ #[I Λ 0,ι false]:=by unfold tj;rw[Rz a (b+1) a.size j (by rw[hnext,ahM (.inl x)])]
   go_wp2;all_goals exact Ω (v:=σ #[I Λ 0,ι false]) (by simp[ag,results287,go_sem]) rfl ⟨by rw[d],g⟩
  by_cases aL:4294967295<10*c+i
  .have d:tj e a=σ #[I Λ 0,ι false]:=by unfold tj;rw[Rz a (b+1) a.size j (by rw[hnext,ahM (.inr aL)])]
   go_wp2;all_goals exact Ω (v:=σ #[I Λ 0,ι false]) (by simp[ag,results287,go_sem]) rfl ⟨by rw[d],g⟩
  have z:j0 a (b+1)=N (10*c+i):=by rw[hnext,WB (by omega)]
  clear hnext;go_wp2;exact⟨⟨b+1,10*c+i,by simp,j,z,rfl,g,s⟩,by simp[aB];omega⟩
 obtain rfl:b=a.size:=by omega
 have y:¬(a.size:Int)<a.size:=by omega
 have n:=m.out c k wr g;have d:tj e a=if e c=a then σ #[I Λ c,ι true] else σ #[I Λ 0,ι false]:=by unfold tj;rw[k]
 generalize e c=q at*;have n:=K n;go_wp2_with fail;refine n.out.mono ?_;rintro f C ⟨rfl,w⟩;have t:=Ry g w;by_cases l:q=a
 .subst l;rw[ahM rfl] at d;go_wp2;all_goals exact Ω (v:=σ #[I Λ c,ι true]) (by simp[ag,results287,go_sem]) rfl ⟨by rw[d],t⟩
 rw[WB l] at d;have Q:(q.toList==a.toList)=false:=(Lib.bytes_beq_false_iff q a).2 l;clear l;go_wp2;all_goals exact Ω (v:=σ #[I Λ 0,ι false]) (by simp[ag,results287,go_sem]) rfl ⟨by rw[d],t⟩
theorem ahp(b:Int)(l:0<=b/\b<4294967296)(h:BA)(f:Z->Prop)(i:Z)(d:ν δ 393 #[I .u64 b,I E 10] i λa c=>a=ξ (H h)/\f c):ν δ 339 #[I Λ b] i λa c=>a=ξ (H h)/\f c:=by
 have e:ν δ 372 #[I .u64 b,I E 10] i λa c=>a=ξ (H h)/\f c:=by have d:=K d;go_enter func372,ntmps372;go_wp2_with fail;refine d.out.mono ?_;rintro a j ⟨rfl,g⟩;go_wp2;all_goals(go_ret;exact⟨rfl,g⟩)
 have e:=K e;have k:IntKind.u64.wrap b=b:=IntWalk.u64_in _ (by omega);go_enter func339,ntmps339;go_wp2_with fail;refine e.out.mono ?_;rintro a j ⟨rfl,g⟩;go_wp2;all_goals(go_ret;exact⟨rfl,g⟩)
def iG(a:Nat):BA:=⟨(Lib.decDigits a).toArray⟩
theorem aho(a:Nat)(e:a<100)(b:Z):ν δ 379 #[I E a] b λd f=>d=ξ (H (iG a))/\b=f:=
 (afo a e b).mono λ_ _ c=>⟨c.1,c.2.symm⟩
theorem abE(a:Nat)(e:1<=a)(f:a<18446744073709551616)(b:Z)(g:An δ b "internal/strconv.uint64pow10" .u64 Eo):ν δ 380 #[I .u64 a] b λd h=>d=ξ (I E (tH a))/\b=h:=
 (afn a e f b g).mono λ_ _ c=>⟨c.1,c.2.symm⟩
theorem Vy(blk c f b:Nat)(a:Array UInt8)(d:Z)(i:Holds (λ(e:UInt8)=>I bh (e.toNat:Int)) d blk c a)(k:b<10^a.size)(l:b<18446744073709551616)(j:a.size<4611686018427387904):ν δ 381 #[V (N (U blk c A)) a.size f,I .u64 b] d λh o=>
 h=ξ (σ #[])/\∃(m n:Nat) (g:Array UInt8),o=(putRow (λ(e:UInt8)=>I bh (e.toNat:Int)) d blk c g).drewN m/\FmtInv a.size b 0 n g:=
 afm blk c f b a d i k l j
theorem Zu(d:Z)(e:TypeId)(a:Nat)(h:a<=24):Holds (λ(f:UInt8)=>I bh (f.toNat:Int)) (d.alloc (ζ zeros24 e)) d.heap.size 0 (Aj a (0:UInt8)):=λc b=>by
 have g:c<a:=by simpa using b
 refine⟨?_,World.frozen?_alloc_new _ _ _ _⟩;rw[World.cell?_alloc_new,zeros24_at _ (by omega),getElem!_pos _ c b];simp
theorem Yj(a:Z)(d:Obj)(c:Array UInt8)(i:Nat):a.grownBy ((putRow (λ(b:UInt8)=>I bh (b.toNat:Int)) (a.alloc d) a.heap.size 0 c).drewN i) A:=by
 rw[alloc_eq_grow];obtain⟨e,_,g⟩:=putRow_grow_new (λ(b:UInt8)=>I bh (b.toNat:Int)) a #[d] a.heap.size 0 c (Ο _);rw[g];refine⟨rfl,rfl,rfl,?_,λf h _=> ?_⟩
 .show a.heap.size<=(a.heap++e).size;simp
 show(a.heap++e)[f]? =a.heap[f]?;rw[Array.getElem?_append_left h]
theorem Yu(b:Nat)(y:100<=b)(l:b<18446744073709551616)(a:Z)(t:An δ a "internal/strconv.uint64pow10" .u64 Eo):ν δ 393 #[I .u64 b,I E 10] a λi m=>i=ξ (H (iG b))/\a.grownBy m A:=by
 have p:1<=b:=by omega
 have x:tH b<=20:=by have:=Lib.numDigits_eq b p l;split at this<;>omega
 have j:=Zu a 443 (tH b) (by omega);have e:=Vy a.heap.size 0 24 b (Aj (tH b) 0) (a.alloc (ζ xK 443)) j (by rw[Array.size_replicate];exact Lib.lt_pow_nDigits b) l (by rw[Array.size_replicate];omega);rw[Array.size_replicate] at e;have n:=K j;have h:=abE b p l (a.alloc (ζ xK 443)) (Lib.tabIs_alloc t _);have e:=K e;have h:=K h;clear j;have w:¬(b:Int)<100:=by omega
 have r:prog.arrayLen 443=24:=by kernel_rfl
 have z:∀g,(Instr.sliceAt 443 (π (N (U a.heap.size 0 A))) A (N (I E (tH b:Int))) A).run δ g= .ok (V (N (U a.heap.size 0 A)) (tH b) 24) g:=λg=>by
  rw[run_sliceAt_array_h g 443 ⟨a.heap.size,0,A⟩ (by kernel_rfl) E (tH b:Int) (by omega) (by rw[r];omega)]
  go_simp
 go_enter func393,ntmps393;go_wp2_with fail;refine h.out.mono ?_;rintro i m ⟨rfl,rfl⟩;go_wp2_with fail;refine e.out.mono ?_;rintro i m ⟨rfl,f,B,d,rfl,hF⟩;have u:(convert 113 9 (V (N (U a.heap.size 0 A)) (tH b) 24)).run δ ((putRow (λ(c:UInt8)=>I bh (c.toNat:Int)) (a.alloc (ζ xK 443)) a.heap.size 0 d).drewN f)= .ok (H (iG b)) ((putRow (λ(c:UInt8)=>I bh (c.toNat:Int)) (a.alloc (ζ xK 443)) a.heap.size 0 d).drewN f):=by have o:=run_convert_bytes_back (P:=δ) ((putRow (λ(c:UInt8)=>I bh (c.toNat:Int)) (a.alloc (ζ xK 443)) a.heap.size 0 d).drewN f) 113 9 5 ⟨a.heap.size,0,A⟩ 24 (Lib.decDigits b) iZ sZ lj (λq k=>by rw[Lib.row_is_numeral hF q k,Lib.add_plain,World.cell?_drewN];exact cell?_putRow (λ(c:UInt8)=>I bh (c.toNat:Int)) _ a.heap.size 0 _ d n.out (by rw[hF.size,Array.size_replicate]) q (by rw[hF.size];rw[Lib.decDigits_length] at k;exact k));rw[Lib.decDigits_length] at o;exact o
 have s:=Yj a (ζ xK 443) d f;generalize(putRow (λ(c:UInt8)=>I bh (c.toNat:Int)) (a.alloc (ζ xK 443)) a.heap.size 0 d).drewN f=C at*;clear hF e h n;go_wp2;all_goals(go_ret;exact⟨rfl,s⟩)
theorem Yv(a:Nat)(e:a<100)(c:Z):ν δ 393 #[I .u64 a,I E 10] c λb f=>b=ξ (H (iG a))/\c.grownBy f A:=by
 have d:=K (aho a e);have g:(a:Int)<100:=by omega
 go_enter func393,ntmps393;go_wp2_with fail;refine(d.out _).mono ?_;rintro b h ⟨rfl,rfl⟩;go_wp2;all_goals(go_ret;exact⟨rfl,tK _ _⟩)
theorem RA(c:Int)(h:0<=c/\c<4294967296)(a:Z)(g:aT a):ν δ 339 #[I Λ c] a λe d=>e=ξ (H (iG c.toNat))/\a.grownBy d A:=by
 obtain⟨b,rfl⟩:∃b:Nat,c=b:=⟨c.toNat,by omega⟩;rw[Int.toNat_natCast];refine ahp b h _ (λd=>a.grownBy d A) a ?_;by_cases f:b<100
 .exact Yv b f a
 exact Yu b (by omega) (by omega) a g.PW
def fQ(a:BA):Option Int:=match j0 a a.size with
 |none=>A
 |some b=>if iG b.toNat=a then N b else A
theorem Wm(a:fQ p=N m):eB m:=by
 unfold fQ at a;cases b:j0 p p.size with
 |none=>rw[b] at a;cases a
 |some c=>
  rw[b] at a;simp only at a;split at a
  .injection a with a;subst a;have:=Jt p p.size c b;exact⟨this.1,by omega⟩
  cases a
theorem Ec(b:Int)(f:eB b)(a:Z)(e:aT a):ν δ 339 #[I Λ b] a λc g=>c=ξ (H (iG b.toNat))/\Y a g γ:=
 (RA b f a e).mono λ_ _ d=>⟨d.1,Y.jy d.2 (λ_ c=>by cases c)⟩
theorem Jw(a:BA)(k:a.size<=9223372036854775807)(d:Z)(i:aT d):ν δ 287 #[H a] d λb f=>b=ξ (σ #[I Λ ((fQ a).getD 0),ι (fQ a).isSome])/\Y d f γ:=by
 refine(ahn (λc=>iG c.toNat) a k d λc j g h=>RA c (by have:=Jt a a.size c j;exact⟨this.1,by omega⟩) g (i.still (Y.jy h (λ_ b=>by cases b)))).mono λb f e=>⟨?_,Y.jy e.2 (λ_ b=>by cases b)⟩;rw[e.1];unfold tj fQ;cases j0 a a.size with
 |none=>rfl
 |some c=>simp only;split<;>rfl
theorem vX(a:Nat)(b:a<18446744073709551616):(iG a).size<=20:=by
 unfold iG;simp only[ByteArray.size,List.size_toArray];rw[Lib.decDigits_length];obtain h0|h1:=fU a 1
 .obtain rfl:a=0:=by omega
  decide+kernel
 have:=Lib.numDigits_eq a h1 b;split at this<;>omega
theorem Og(a:Nat)(d:a<100)(b:Z):ν δ 240 #[I E a] b λc e=>c=ξ (H (iG a))/\e=b:=agD a d b
theorem abf:∀a,a<100->aN ((D #[100])++iG a)=true:=by
 have b:(List.range 100).all (λa=>aN ((D #[100])++iG a))=true:=by decide+kernel
 intro a c;exact xS.1 b a (List.mem_range.2 c)
end
theorem VS(b c:BA)(y:b.size<=1000)(x:c.size<=1000)(a:Z):ν δ 74 #[H b,H c] a λd h=>(∃(k:BA) (q:Int),d=ξ (σ #[H k,I E q])/\k.size<=3000/\(aN b=true->aN c=true->q=0/\k=b++⟨#[47]⟩++c))/\Y a h γ:=by
 have e:=nT a b (by omega);cases p:aN b with
 |false=>rw[p] at e;have e:=K e;go_enter func74,ntmps74;go_wp2_with fail;refine e.out.mono ?_;rintro d i ⟨rfl,g⟩;go_wp2;go_ret2;exact⟨⟨_,_,rfl,by decide,λf=>by cases f⟩,g⟩
 |true=>
  rw[p] at e;have e:=K e;cases t:c.toList.isEmpty with
  |true=>go_enter func74,ntmps74;go_wp2_with fail;refine e.out.mono ?_;rintro d i ⟨rfl,g⟩;go_wp2;go_ret2;exact⟨⟨b,0,rfl,by omega,λ_ f=>by unfold aN at f;rw[t] at f;cases f⟩,g⟩
  |false=>
   have m:=K (nT · c (by omega));have z:=λa=>run_string_add_sum (P:=δ) a b ⟨#[47]⟩ (by show b.size+1<=_;omega);have r:(b++⟨#[47]⟩:BA).size=b.size+1:=by rw[mj];rfl
   have B:=λa=>run_string_add_sum (P:=δ) a (b++⟨#[47]⟩) c (by rw[r];omega);have w:(b++⟨#[47]⟩++c:BA).size<=3000:=by rw[mj,r];omega
   generalize o:b++⟨#[47]⟩++c=s at*;have o:=K o;cases n:aN c with
   |false=>
    have j:η (∀a,ν δ 54 #[H c] a λd h=>d=ξ (ι false)/\Y a h γ):=K λa=>by have:=m.out a;rwa [n] at this
    go_enter func74,ntmps74;go_wp2_with fail;refine e.out.mono ?_;rintro d i ⟨rfl,g⟩;go_wp2_with fail;refine(j.out i).mono ?_;rintro d u ⟨rfl,l⟩;go_wp2;go_ret2;exact⟨⟨_,_,rfl,by decide,λ_ f=>by cases f⟩,g.trans l Η⟩
   |true=>
    have j:η (∀a,ν δ 54 #[H c] a λd h=>d=ξ (ι true)/\Y a h γ):=K λa=>by have:=m.out a;rwa [n] at this
    go_enter func74,ntmps74;go_wp2_with fail;refine e.out.mono ?_;rintro d i ⟨rfl,g⟩;go_wp2_with fail;refine(j.out i).mono ?_;rintro d u ⟨rfl,l⟩;go_wp2;go_ret2;exact⟨⟨s,0,rfl,w,λ_ _=>⟨rfl,rfl⟩⟩,g.trans l Η⟩
def Ua(g:Z)(c:BA)(e:List BA)(d:aI)(f:Z):Prop:=
 ∃(b:BA) (a:Int),d=ξ (σ #[H b,ι (du e b),I E a])/\(a=0->aN b=true)/\(aN c=true->a=0/\b=c)/\(a=0\/(a=9/\b=(D #[])))/\Y g f γ
theorem Ob(a:aN p=true):p.toList.isEmpty=false:=by
 unfold aN at a;cases b:p.toList.isEmpty with
 |false=>rfl
 |true=>rw[b] at a;cases a
theorem aci{w:Z}{tv:ε}{oQ:List BA}(d:BA)(y:d.toList.isEmpty=true\/aN d=true)(P:d.size<=1000)(o:∀b,Y w b γ->eU b tv oQ)(t:du oQ ⟨#[]⟩=false):ν δ 166 #[H d,tv] w (Ua w d oQ):=by
 have r:=K o;have B:=K t;obtain⟨T,S,x,_⟩:=o w (Y.refl _ _);clear o t;cases f:aN d with
 |true=>
  have C:=Ob f;have i:=nT w d (by omega);rw[f] at i;have i:=K i;have n:η (∀b,Y w b γ->ν δ 73 #[tv,H d] b λe q=>e=ξ (ι (du oQ d))/\q=b):=K λb a=>yY (r.out b a) d;have f:=K f;subst x;go_enter func166,ntmps166;go_wp2_with fail;refine i.out.mono ?_;rintro e h ⟨rfl,z⟩;go_wp2_with fail;refine(n.out h z).mono ?_;rintro e W ⟨rfl,rfl⟩;go_wp2
  go_ret3
  exact⟨d,0,rfl,λ_=>f.out,λ_=>⟨rfl,rfl⟩,.inl rfl,z⟩
 |false=>
  have C:d.toList.isEmpty=true:=by
   obtain c|c:=y
   .exact c
   rw[f] at c;cases c
  have n:η (∀b m,Y w b γ->ν δ 73 #[tv,H m] b λe q=>e=ξ (ι (du oQ m))/\q=b):=K λb m a=>yY (r.out b a) m;subst x;have s:=K f;clear f y;go_enter func166,ntmps166;go_wp2;go_loopw [22] (λp wr=>∃a:Nat,a<=99/\p=I E a/\Y w wr γ) (λp _=>99-(aB p).toNat)
  case atStart=>exact⟨0,by omega,rfl,Y.refl _ _⟩
  obtain⟨a,M,rfl,l⟩:=hrel;by_cases O:a<99
  .have G:(a:Int)<99:=by omega
   have g:=Og (a+1) (by omega) wr;rw[show((a+1:Nat):Int)=(a:Int)+1 from by omega] at g;have g:=K g;have R:=vX (a+1) (by omega);have J:=K (abf (a+1) (by omega));have Q:=λw=>run_string_add_sum (P:=δ) w ⟨#[100]⟩ (iG (a+1)) (by show 1+(iG (a+1)).size<=_;omega);generalize u:((D #[100])++iG (a+1):BA)=nm at*;have u:=K u;generalize iG (a+1)=L at*;have j:=K (n.out wr nm l);cases k:du oQ nm with
   |true=>rw[k] at j;go_wp2_with fail;refine g.out.mono ?_;rintro e h ⟨rfl,rfl⟩;go_wp2_with fail;refine j.out.mono ?_;rintro e h ⟨rfl,rfl⟩;go_wp2;exact⟨⟨a+1,by omega,by go_num,l⟩,by simp[aB];omega⟩
   |false=>
    have F:=K k;rw[k] at j;clear k;go_wp2_with fail;refine g.out.mono ?_;rintro e h ⟨rfl,rfl⟩;go_wp2_with fail;refine j.out.mono ?_;rintro e h ⟨rfl,rfl⟩;go_wp2
    go_ret3
    exact⟨nm,0,by rw[F.out];rfl,λ_=>J.out,(λc=>by rw[s.out] at c;cases c),.inl rfl,l⟩
  have G:¬(a:Int)<99:=by omega
  go_wp2
  go_ret3
  exact⟨⟨#[]⟩,9,by rw[B.out];rfl,(λc=>by cases c),(λc=>by rw[s.out] at c;cases c),.inr ⟨rfl,rfl⟩,l⟩
