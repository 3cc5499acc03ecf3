/- A part. -/
import Derived.Test.YtdgneofhcenhfaaGreatDoorqa
import Derived.Laws.EntriesVeiled
set_option maxHeartbeats 16000000
set_option maxRecDepth 100000
set_option linter.all false
open And renaming intro->Φ
open Array renaming getElem?_eq_getElem->ql,getElem?_eq_none->ll,getElem?_setIfInBounds->Ai,length_toList->gI
open BitVec renaming ofInt->Ef
open ByteArray renaming mk->D,size_append->mj
open Go renaming Calls->ν,Ending->aI,TypeId->aQ,Value->ε,World->Z,bodyPost_ret->Ω,maxLen->Χ,results->ag
open Go.Addr renaming mk->U
open Go.Builtin renaming append_->gJ
open Go.Ending renaming returned->ξ
open Go.Instr renaming lookup->cw
open Go.IntKind renaming i64->E
open Go.Lib renaming byteCells->mT,hid->K,strCells->Ao
open Go.Obj renaming cells->ζ
open Go.Op renaming unary->xM
open Go.Proofs.Tryz renaming prog->δ
open Go.RowKit renaming Hid->η,intOf->jE
open Go.Value renaming agg->Μ,bool->ι,func->af,int->I,map->ω,ownBlock->iM,pointer->π,slice->V,string->H,tuple->σ
open Go.World renaming cell?->fN,ownsRow_nil->db
open Iff renaming rfl->fT
open List renaming flatMap_cons->qx,getElem?_cons_zero->Τ,getElem?_eq_getElem->cT,getElem?_eq_some_iff->iN,getElem?_take->kD,getElem?_toArray->Ρ,getElem_mem->eA,length_append->cL,length_cons->eI,length_eq_zero_iff->kG,length_map->dN,map_append->lP,map_cons->lm,map_nil->nX,mem_append->dO,mem_append_left->qy,mem_cons->dD,mem_cons_of_mem->eZ,mem_cons_self->dP,mem_map->eO,mem_of_getElem?->ln,mem_singleton->cj,sum_cons->xV,sum_nil->AN
open Nat renaming add_assoc->mW,add_mul->xX,le_refl->Ο,le_succ->cV,le_trans->aJ,lt_of_lt_of_le->dQ,lt_or_ge->fU,mul_le_mul_right->pg,zero_add->eP,zero_le->ai
open Option renaming getD_some->gK,map_some->gx,none->A,some->N
open Option.some renaming inj->cr,injEq->xZ
open Go RowKit Lib Proofs.Tryz
namespace Go.Proofs.YtdgneofhcenhfaaGreatDoor
attribute [local go_sem ↓] wp_at_zero wp_at_succ
structure Cl where
 q:Nat
 rb:Nat
 bb:Nat
 rd:Rd
 bd:Option Bd
 ψ:BA
 ah:BA
structure Ss where
 q:Nat
 fb:Nat
 kept:Bool
 ar:Bool
 ae:Bool
 iK:Bool
 Β:BA
structure HS where
 Κ:Nat->PS
 aE:aY
 last:Int
 τ:List (Nat×υ)
 Ι:Int
 dv:ε
 dl:List Int
 rv:ε
 row:List (Int×Int)
 cl:Int->Option Cl
 ss:Int->Option Ss
 ο:Nat
structure Pl where
 g:Nat
 pb:Nat
 kb:Nat
 tb:Nat
 xb:Nat
 cm:Nat
 sm:Nat
inductive Ν where
 |ca|Κ|aE|table|box|lB|hY|gE|row
 |cl (c:Int)|ss (id:Int)
abbrev Ζ(a:Nat):ε:=π (N (U a 0 A))
def dS:ε->Option Nat
 | V (N a) _ _=>N a.block
 |_=>A
def bg(p:Pl)(s:HS):Array ε:=#[Ζ p.pb,Ζ p.kb,Ζ p.tb,Ζ p.xb,I E s.Ι,s.dv,ω (N p.cm),ω (N p.sm),s.rv]
def mN(a:Ss):Array ε:=#[Ζ a.fb,ι a.iK,H a.Β]
def BM(a:Cl):Array ε:=#[Ζ a.rb,Ζ a.bb,H a.ψ,H a.ah]
def lD(b:List (Int×Int)):List ε:=b.flatMap λa=>[I E a.1,I E a.2]
theorem Cf(a:List (Int×Int)):(lD a).length=a.length*2:=by
 induction a with
 |nil=>rfl
 |cons c a b=>simp only[lD,qx,cL,eI,List.length_nil] at b⊢;omega
structure kK (w:Z) (v:ε) (l:List (Int×Int)) (F:Bs):Prop where
 ex:(v=V A 0 0/\l=[])\/∃b o c cur,v=V (N ⟨b,o*2,A⟩) l.length c/\θ w b 140 cur/\l.length<=c/\(o+c)*2<=cur.size/\(∀j x,(lD l)[j]? =N x->cur[o*2+j]? =N x)
 ak:∀k,F k↔dS v=N k
structure lr (w:Z) (k:Cl) (F Fr Fb:Bs):Prop where
 blk:θ w k.q 74 (BM k)
 reader:fV w k.rb k.rd Fr
 builder:match k.bd with
  |none=>∀x,Fb x->x<w.heap.size
  |some b=>gX w k.bb b Fb
 q1:¬Fr k.q
 q2:¬Fb k.q
 apart:∀x,Fr x->¬Fb x
 ak:∀x,F x↔(x=k.q\/Fr x\/Fb x)
structure nx (w:Z) (x:Ss) (F Ff:Bs):Prop where
 blk:θ w x.q 101 (mN x)
 front:eR w x.fb x.kept x.ar x.ae Ff
 q1:¬Ff x.q
 ak:∀k,F k↔(k=x.q\/Ff k)
def dq(p:Pl)(s:HS):Ν->Z->Bs->Prop
 | .ca,w,a=>θ w p.g 66 (bg p s)/\∀b,a b↔b=p.g
 | .Κ,w,a=>fu w p.pb s.Κ a
 | .aE,w,a=>eQ w p.kb s.aE a
 | .table,w,a=>fw w p.tb s.last s.τ a
 | .box,w,a=>∃c,c<=s.ο/\pn w p.xb c a
 | .lB,w,a=>lw w s.dv s.dl/\(∀b,a b↔dS s.dv=N b)/\∀b,a b->b<w.heap.size
 | .hY,w,a=>(∃c,c<=s.ο/\aC cM w p.cm (λd=>(s.cl d).map λb=>Ζ b.q) c)/\∀b,a b↔b=p.cm
 | .gE,w,a=>(∃c,c<=s.ο/\aC cM w p.sm (λd=>(s.ss d).map λb=>Ζ b.q) c)/\∀b,a b↔b=p.sm
 | .row,w,a=>kK w s.rv s.row a
 | .cl d,w,a=>match s.cl d with
  |none=>∀b,¬a b
  |some b=>∃g e,lr w b a g e
 | .ss id,w,a=>match s.ss id with
  |none=>∀b,¬a b
  |some h=>∃f,nx w h a f
structure Α (w:Z) (p:Pl) (own:Nat->Option Ν) (s:HS):Prop where
 ik:Bc w own
 part:∀l,dq p s l w (of own l)
 eE:aT w
 low:∀b,b<6->own b=A
theorem Dd(i:Nat)(m:Nat->PS):ju λw c=>fu w i m c where
 lt h a b:=h.lt a b
 stay {w w' c} h he:=by
  have l:∀a,c a->a<w'.heap.size:=λa b=>by
   obtain h1|h1:=fU a w'.heap.size
   .exact h1
   have:=he a b;rw[ll h1,ql (h.lt a b)] at this;cases this
  obtain⟨n,⟨j,d,k⟩,hv⟩:=h.ex;exact⟨⟨n,⟨j,(he i h.ca).trans d,k⟩,λf e=>⟨pY (hv f e).1 λg d=>he g ((hv f e).2 g d).1,(hv f e).2⟩⟩,h.ca,l,h.left⟩
theorem Pf{w w':Z}{a:Nat}(c:a<w.heap.size)(b:w'.heap[a]? =w.heap[a]?):a<w'.heap.size:=by
 obtain h1|h1:=fU a w'.heap.size
 .exact h1
 rw[ll h1,ql c] at b;cases b
theorem Dn(v:ε)(j:List (Int×Int)):ju λw f=>kK w v j f where
 lt h k hk:=by
  obtain⟨rfl,_⟩|⟨a,e,c,d,rfl,b,_⟩:=h.ex
  .have:=(h.ak k).1 hk;cases this
  .have:=(h.ak k).1 hk;injection this with this;exact this▸b.lt
 stay h he:=by
  refine⟨?_,h.ak⟩;obtain⟨rfl,g⟩|⟨a,e,c,d,rfl,b,i⟩:=h.ex
  .exact .inl ⟨rfl,g⟩
  .exact .inr ⟨a,e,c,d,rfl,(he a ((h.ak a).2 rfl)).trans b,i⟩
theorem lr.stay{w w':Z}{i:Cl}{e h g:Bs}(b:lr w i e h g)(d:∀a,e a->w'.heap[a]? =w.heap[a]?):lr w' i e h g:=by
 refine {b with blk:=(d _ ((b.ak _).2 (.inl rfl))).trans b.blk,reader:=(jA _ _).stay b.reader λa c=>d a ((b.ak a).2 (.inr (.inl c))),builder:= ?_};have f:=b.builder;split at f
 .exact λa c=>Pf (f a c) (d a ((b.ak a).2 (.inr (.inr c))))
 exact(jf _ _).stay f λa c=>d a ((b.ak a).2 (.inr (.inr c)))
theorem lr.lt{w:Z}{g:Cl}{F f e:Bs}(c:lr w g F f e):∀a,F a->a<w.heap.size:=by
 intro a b;obtain rfl|b|b:=(c.ak a).1 b
 .exact c.blk.lt
 .exact(jA _ _).lt c.reader a b
 have d:=c.builder;split at d
 .exact d a b
 exact(jf _ _).lt d a b
theorem nx.stay{w w':Z}{f:Ss}{c d:Bs}(b:nx w f c d)(e:∀a,c a->w'.heap[a]? =w.heap[a]?):nx w' f c d:=
 {b with blk:=(e _ ((b.ak _).2 (.inl rfl))).trans b.blk,front:=(uF _ _ _ _).stay b.front λa g=>e a ((b.ak a).2 (.inr g))}
theorem nx.lt{w:Z}{e:Ss}{F d:Bs}(b:nx w e F d):∀a,F a->a<w.heap.size:=by
 intro a c;obtain rfl|c:=(b.ak a).1 c
 .exact b.blk.lt
 exact(uF _ _ _ _).lt b.front a c
theorem ag3{w w':Z}{v:ε}{d:List Int}(h:lw w v d)(n:∀a,dS v=N a->w'.heap[a]? =w.heap[a]?):lw w' v d:=by obtain⟨i,p,g,rfl,j,k,l,m⟩:=h;refine⟨i,p,g,rfl,j,k,l,λb c=> ?_⟩;obtain⟨e,f⟩:=m b c;refine⟨e,λq r o=> ?_⟩;have:=f q r o;unfold fN at this⊢;simp only at this⊢;rw[n b.block (by rw[c];rfl)];exact this
theorem uS(p:Pl)(s:HS)(i:Ν):ju (dq p s i) where
 lt {w F} a:=by
  cases i with
  |ca=>exact λb c=>by rw[(a.2 b).1 c];exact a.1.lt
  |Κ=>exact(Dd _ _).lt a
  |aE=>exact(fG _ _).lt a
  |table=>exact(lJ _ _ _).lt a
  |box=>obtain⟨f,_,a⟩:=a;exact(vO _ _).lt a
  |lB=>exact a.2.2
  |hY=>obtain⟨⟨f,_,a⟩,e⟩:=a;exact λb c=>by rw[(e b).1 c];exact a.lt
  |gE=>obtain⟨⟨f,_,a⟩,e⟩:=a;exact λb c=>by rw[(e b).1 c];exact a.lt
  |row=>exact(Dn _ _).lt a
  |cl g=>
   cases d:s.cl g with
   |none=>simp only[dq,d] at a;exact λb c=>ahN c (a b)
   |some b=>simp only[dq,d] at a;obtain⟨l,j,a⟩:=a;exact a.lt
  |ss g=>
   cases d:s.ss g with
   |none=>simp only[dq,d] at a;exact λb c=>ahN c (a b)
   |some b=>simp only[dq,d] at a;obtain⟨k,a⟩:=a;exact a.lt
 stay {w w' F} a he:=by
  cases i with
  |ca=>exact⟨(he p.g ((a.2 _).2 rfl)).trans a.1,a.2⟩
  |Κ=>exact(Dd _ _).stay a he
  |aE=>exact(fG _ _).stay a he
  |table=>exact(lJ _ _ _).stay a he
  |box=>obtain⟨f,h,a⟩:=a;exact⟨f,h,(vO _ _).stay a he⟩
  |lB=>exact⟨ag3 a.1 λb c=>he b ((a.2.1 b).2 c),a.2.1,λb c=>Pf (a.2.2 b c) (he b c)⟩
  |hY=>obtain⟨⟨f,h,a⟩,e⟩:=a;exact⟨⟨f,h,a.same (he _ ((e _).2 rfl))⟩,e⟩
  |gE=>obtain⟨⟨f,h,a⟩,e⟩:=a;exact⟨⟨f,h,a.same (he _ ((e _).2 rfl))⟩,e⟩
  |row=>exact(Dn _ _).stay a he
  |cl g=>
   cases d:s.cl g with
   |none=>simp only[dq,d] at a⊢;exact a
   |some b=>simp only[dq,d] at a⊢;obtain⟨l,j,a⟩:=a;exact⟨l,j,a.stay he⟩
  |ss g=>
   cases d:s.ss g with
   |none=>simp only[dq,d] at a⊢;exact a
   |some b=>simp only[dq,d] at a⊢;obtain⟨k,a⟩:=a;exact⟨k,a.stay he⟩
structure Ε (w w':Z) (own own':Nat->Option Ν):Prop where
 keeps:Y w w' (λk=>own k≠A)
 fresh:∀k,own' k≠A->own k≠A\/w.heap.size<=k
theorem Ε.refl(w:Z)(own:Nat->Option Ν):Ε w w own own:=⟨Y.refl _ _,λ_ a=> .inl a⟩
theorem Ε.trans{c b d:Z}{f g h:Nat->Option Ν}(a:Ε c b f g)(e:Ε b d g h):Ε c d f h:=
 ⟨a.keeps.trans e.keeps a.fresh,λi j=>by
  obtain h1|h1:=e.fresh i j
  .exact a.fresh i h1
  .exact .inr (aJ a.keeps.size h1)⟩
theorem Ε.still{a b c:Z}{e f:Nat->Option Ν}(d:Ε a b e f)(g:Y b c γ):Ε a c e f:=⟨d.keeps.trans g Η,d.fresh⟩
theorem Ε.bu{a c:Z}(b:Nat->Option Ν)(d:Y a c γ):Ε a c b b:=(Ε.refl a b).still d
theorem Ε.free{c e:Z}{h d:Nat->Option Ν}(b:Ε c e h d){a:Nat}(j:a<c.heap.size)(g:h a=A):e.heap[a]? =c.heap[a]?/\d a=A:=by
 refine⟨b.keeps.block a j λb=>b g,?_⟩;cases i:d a with
 |none=>rfl
 |some k=>
  rcases b.fresh a (by rw[i];exact nofun) with f|f
  .exact ahN g f
  omega
section
variable {w w':Z} {p:Pl} {own:Nat->Option Ν} {s:HS}
theorem Α.still(a:Α w p own s)(c:Y w w' γ):Α w' p own s:=
 ⟨λd b e=>dQ (a.ik d b e) c.size,λb=>(uS p s b).keeps (a.part b) c λ_ _ a=>a,a.eE.still c,a.low⟩
theorem Α.G7{g:Bs}(b:Α w p own s)(f:Y w w' g)(h:∀a,g a->own a=A/\6<=a):Α w' p own s where
 ik c l i:=dQ (b.ik c l i) f.size
 part l:=(uS p s l).keeps (b.part l) f λa e d=>by have:=(h a d).1;unfold of at e;rw[this] at e;cases e
 eE:=b.eE.keeps f λc i d=>by have:=(h c d).2;omega
 low:=b.low
theorem YP{own:Nat->Option Ν}{f:Ν}{c:Bs}{b:Nat}(a:fH own f c b≠A):c b\/own b≠A:=by
 unfold fH at a;by_cases d:c b
 .exact .inl d
 rw[WB d] at a;by_cases e:own b=N f
 .rw[ahM e] at a;exact ahN rfl a
 rw[WB e] at a;exact .inr a
theorem Α.put{s':HS}(b:Α w p own s)(g:Ν){F':Bs}(d:Ψ w w' (of own g) F')(m:dq p s' g w' F')(n:∀c,c≠g->dq p s' c=dq p s c):Α w' p (fH own g F') s'/\Ε w w' own (fH own g F'):=by
 have low:∀a,a<6->¬F' a:=λa f h=>by
  obtain h1|h1:=d.fresh a h
  .unfold of at h1;rw[b.low a f] at h1;cases h1
  have:=b.eE.size;omega
 refine⟨⟨aaE b.ik d λl j=>(uS p s' g).lt m l j,λc=> ?_,b.eE.keeps d.keeps λa f h=>(by unfold of at h;rw[b.low a f] at h;cases h),λa f=>(by unfold fH;rw[WB (low a f),WB (by rw[b.low a f];exact nofun)];exact b.low a f)⟩,⟨d.keeps.mono λo i=> .inl (by unfold of at i;rw[i];exact nofun),λl j=> ?_⟩⟩
 .by_cases e:c=g
  .subst e;rw[abN];exact m
  rw[abM b.ik d e,n c e];exact(uS p s c).keeps (b.part c) d.keeps λo i k=>by unfold of at i k;rw[i] at k;exact e (cr k)
 obtain h1|h1:=YP j
 .obtain h2|h2:=d.fresh l h1
  .unfold of at h2;exact .inl (by rw[h2];exact nofun)
  exact .inr h2
 exact .inl h1
end
def aP{a:Type}(c:Int->Option a)(d:Int)(v:Option a):Int->Option a:=λb=>if b=d then v else c b
theorem bI{b:Type}(c:Int->Option b)(a:Int)(v:Option b):aP c a v a=v:=by simp[aP]
theorem bU{d:Type}(b:Int->Option d)(c:Int)(v:Option d){a:Int}(e:a≠c):aP b c v a=b a:=by simp[aP,e]
theorem Ds{e:Type}(f:Int->Option e)(d:Int)(v:Option e)(b:e->ε):(λa=>(aP f d v a).map b)=put (λa=>(f a).map b) d (v.map b):=by
 funext a;by_cases c:a=d
 .subst c;rw[bI,dJ]
 rw[bU _ _ _ c,dI _ _ _ _ c]
theorem IK{e:Type}(c:Int->Option e)(d:Int)(v:Option e)(b:e->ε)(g:v.map b=(c d).map b):(λa=>(aP c d v a).map b)=λa=>(c a).map b:=by
 funext a;by_cases f:a=d
 .subst f;rw[bI,g]
 rw[bU _ _ _ f]
variable {w w':Z} {p:Pl} {own:Nat->Option Ν} {s:HS}
open Classical in
noncomputable def jN(own:Nat->Option Ν)(b:Ν)(d:Bs)(c:Ν)(e:Bs):Nat->Option Ν:=λa=>if d a then N b else if e a then N c else if own a=N b\/own a=N c then A else own a
theorem YM{own:Nat->Option Ν}{b c:Ν}{d f:Bs}(l:b≠c):of (jN own b d c f) b=d:=by
 have j:N c≠N b:=λi=>l (cr i).symm;funext k;refine propext ⟨λa=> ?_,λa=> ?_⟩
 .unfold of jN at a;by_cases g:d k
  .exact g
  rw[WB g] at a;by_cases h:f k
  .rw[ahM h] at a;exact ahN a j
  rw[WB h] at a;by_cases e:own k=N b\/own k=N c
  .rw[ahM e] at a;cases a
  rw[WB e] at a;exact ahN (.inl a) e
 unfold of jN;rw[ahM a]
theorem YO{own:Nat->Option Ν}{f c:Ν}{g d:Bs}(m:f≠c)(k:∀b,g b->¬d b):of (jN own f g c d) c=d:=by
 have l:N f≠N c:=λj=>m (cr j);funext b;refine propext ⟨λa=> ?_,λa=> ?_⟩
 .unfold of jN at a;by_cases e:g b
  .rw[ahM e] at a;exact ahN a l
  rw[WB e] at a;by_cases i:d b
  .exact i
  rw[WB i] at a;by_cases h:own b=N f\/own b=N c
  .rw[ahM h] at a;cases a
  rw[WB h] at a;exact ahN (.inr a) h
 unfold of jN;rw[WB λe=>k b e a,ahM a]
theorem YN{own:Nat->Option Ν}{f g c:Ν}{h i:Bs}(n:c≠f)(o:c≠g)(p:∀b,h b->own b≠N c)(q:∀b,i b->own b≠N c):of (jN own f h g i) c=of own c:=by
 have l:N f≠N c:=λj=>n (cr j).symm;have m:N g≠N c:=λj=>o (cr j).symm;funext b;refine propext ⟨λa=> ?_,λa=> ?_⟩
 .unfold of jN at a;by_cases e:h b
  .rw[ahM e] at a;exact ahN a l
  rw[WB e] at a;by_cases k:i b
  .rw[ahM k] at a;exact ahN a m
  rw[WB k] at a;by_cases d:own b=N f\/own b=N g
  .rw[ahM d] at a;cases a
  rw[WB d] at a;exact a
 unfold of at a⊢;unfold jN;rw[WB λe=>p b e a,WB λe=>q b e a,WB]
 .exact a
 rintro(d|d)<;>rw[a] at d
 .exact l d.symm
 exact m d.symm
theorem NG{own:Nat->Option Ν}{i j:Ν}{c d:Bs}{a:Nat}{h:Ν}(b:jN own i c j d a=N h):c a\/d a\/own a=N h:=by
 unfold jN at b;by_cases e:c a
 .exact .inl e
 rw[WB e] at b;by_cases f:d a
 .exact .inr (.inl f)
 rw[WB f] at b;by_cases g:own a=N i\/own a=N j
 .rw[ahM g] at b;cases b
 rw[WB g] at b;exact .inr (.inr b)
theorem Α.sQ{s':HS}(g:Α w p own s)(i j:Ν)(u:i≠j){F1 F2:Bs}(o:Y w w' (λb=>own b=N i\/own b=N j))(q:∀b,F1 b->own b=N i\/w.heap.size<=b)(r:∀b,F2 b->own b=N j\/w.heap.size<=b)(B:∀b,F1 b->¬F2 b)(y:dq p s' i w' F1)(z:dq p s' j w' F2)(C:∀e,e≠i->e≠j->dq p s' e=dq p s e):Α w' p (jN own i F1 j F2) s'/\Ε w w' own (jN own i F1 j F2):=by
 have t1:∀e b,F1 b->e≠i->own b≠N e:=λe b h t d=>by
  obtain h1|h1:=q b h
  .rw[h1] at d;exact t (cr d).symm
  have:=g.ik b e d;omega
 have t2:∀e b,F2 b->e≠j->own b≠N e:=λe b h t d=>by
  obtain h1|h1:=r b h
  .rw[h1] at d;exact t (cr d).symm
  have:=g.ik b e d;omega
 have F:∀c,c<6->¬F1 c:=λc f m=>by
  obtain h1|h1:=q c m
  .rw[g.low c f] at h1;cases h1
  have:=g.eE.size;omega
 have G:∀c,c<6->¬F2 c:=λc f m=>by
  obtain h1|h1:=r c m
  .rw[g.low c f] at h1;cases h1
  have:=g.eE.size;omega
 refine⟨⟨λc x f=> ?_,λe=> ?_,g.eE.keeps o λc f m=>(by rcases m with d|d<;>rw[g.low c f] at d<;>cases d),λc f=>(by unfold jN;rw[WB (F c f),WB (G c f),WB (by rw[g.low c f];rintro(d|d)<;>cases d)];exact g.low c f)⟩,⟨o.mono λb h=> .inl (by rcases h with d|d<;>rw[d]<;>exact nofun),λc f=> ?_⟩⟩
 .obtain a|a|a:=NG f
  .exact(uS p s' i).lt y c a
  .exact(uS p s' j).lt z c a
  exact dQ (g.ik c x a) o.size
 .by_cases k:e=i
  .subst k;rw[YM u];exact y
  by_cases l:e=j
  .subst l;rw[YO u B];exact z
  rw[YN k l (λb h=>t1 e b h k) (λb h=>t2 e b h l),C e k l]
  exact(uS p s e).keeps (g.part e) o λb h n=>by
   unfold of at h;rcases n with d|d<;>rw[h] at d
   .exact k (cr d)
   .exact l (cr d)
 cases n:jN own i F1 j F2 c with
 |none=>exact ahN n f
 |some x=>
  obtain a|a|a:=NG n
  .obtain h2|h2:=q c a
   .exact .inl (by rw[h2];exact nofun)
   exact .inr h2
  .obtain h2|h2:=r c a
   .exact .inl (by rw[h2];exact nofun)
   exact .inr h2
  exact .inl (by rw[a];exact nofun)
theorem Α.more(a:Α w p own s){n:Nat}(f:s.ο<=n):Α w p own {s with ο:=n} :=by
 refine⟨a.ik,λg=> ?_,a.eE,a.low⟩;have d:=a.part g;cases g with
 |box=>obtain⟨c,b,a⟩:=d;exact⟨c,aJ b f,a⟩
 |hY=>obtain⟨⟨c,b,a⟩,e⟩:=d;exact⟨⟨c,aJ b f,a⟩,e⟩
 |gE=>obtain⟨⟨c,b,a⟩,e⟩:=d;exact⟨⟨c,aJ b f,a⟩,e⟩
 |_=>exact d
theorem Α.aA(a:Α w p own s):θ w p.g 66 (bg p s):=(a.part .ca).1
theorem Α.jV(a:Α w p own s):own p.g=N .ca:=((a.part .ca).2 p.g).2 rfl
theorem Α.zI(d:Α w p own s){a:Nat->PS}(c:rQ w w' p.pb a (of own .Κ)):∃b,Α w' p b {s with Κ:=a} /\Ε w w' own b:=by obtain⟨j,e,f,g⟩:=c;exact⟨_,d.put (s':= {s with Κ:=a}) .Κ ⟨f,g⟩ e λi h=>by cases i<;>first|rfl|exact ahN rfl h⟩
theorem Α.Dk(e:Α w p own s){last:Int}{a:List (Nat×υ)}{b:Bs}(g:fw w' p.tb last a b)(d:Ψ w w' (of own .table) b):∃c,Α w' p c {s with last:=last,τ:=a} /\Ε w w' own c:=
 ⟨_,e.put (s':= {s with last:=last,τ:=a}) .table d g λh f=>by cases h<;>first|rfl|exact ahN rfl f⟩
theorem Α.Di(d:Α w p own s){n:Nat}{a:Bs}(f:n<=s.ο)(e:pn w' p.xb n a)(c:Ψ w w' (of own .box) a):∃b,Α w' p b s/\Ε w w' own b:=
 ⟨_,d.put (s':=s) .box c ⟨n,f,e⟩ λ_ _=>rfl⟩
theorem Α.P0(i:Α w p own s){id:Int}{e a:Ss}(n:s.ss id=N e)(m:a.q=e.q){c:Bs}(l:∃f,nx w' a c f)(h:Ψ w w' (of own (.ss id)) c):∃d,Α w' p d {s with ss:=aP s.ss id (N a)} /\Ε w w' own d:=by
 refine⟨_,i.put (s':= {s with ss:=aP s.ss id (N a)}) (.ss id) h (by simp only[dq,bI];exact l) λo k=> ?_⟩;cases o with
 |gE=>have:=IK s.ss id (N a) (λb=>Ζ b.q) (by rw[n];simp[m]);funext W G;simp only[dq,this]
 |ss b=>have j:b≠id:=λg=>k (by rw[g]);funext W G;simp only[dq,bU _ _ _ j]
 |_=>rfl
theorem Jo:prog.underlying 64=N (.slice 140):=by kernel_rfl
theorem QS:(prog.info? 140).map (λa=>(a.zero,a.size,a.bytes))=N (N (Μ #[I E 0,I E 0]),2,16):=by kernel_rfl
def iW(a:Int×Int):List ε:=[I E a.1,I E a.2]
theorem Ng(b:List (Int×Int))(a:Int×Int):lD (b++[a])=lD b++iW a:=by simp[lD,iW]
theorem kK.dw{w:Z}{B:Nat}{v:ε}{l:List (Int×Int)}(e:w.ownsRow B 140 2 v l.length (lD l))(j:l≠[]):kK w v l (λn=>dS v=N n):=by
 refine⟨?_,λ_=>fT⟩;obtain⟨rfl,f⟩|⟨d,b,c,rfl,o,g,i,p,q,k⟩:=e.2
 .exact ahN (kG.1 f) j
 refine .inr ⟨d,0,b,c,by simp,g,i,by omega,λm r a=> ?_⟩;have h:m<l.length*2:=by have:=(iN.1 a).1;rw[Cf] at this;exact this
 rw[<-k,kD,ahM h] at a;simpa using a
theorem Mb(w:Z)(a:Int×Int):∀b c,(iW a)[b]? =N c->(w.alloc (ζ (iW a).toArray 140)).cell? ((⟨w.heap.size,0,A⟩:Addr).add b)=N c:=λb c d=>by rw[WideShapes.add_plain,eP,(θ.new w 140 (iW a).toArray).cell];simpa using d
theorem Dm{w:Z}{v:ε}{b:List (Int×Int)}{o:Bs}(p:kK w v b o)(a:Int×Int)(ao:b.length<=1000000000):∃g e,(gJ #[64,64] 64 #[v,V (N (U w.heap.size 0 A)) 1 1]).run δ (w.alloc (ζ #[I E a.1,I E a.2] 140))= .ok g e/\(∃J,kK e g (b++[a]) J/\Ψ w e o J)/\∃R l,g=V (N R) (b.length+1) l:=by
 have am:(w.alloc (ζ #[I E a.1,I E a.2] 140))=w.alloc (ζ (iW a).toArray 140):=rfl;obtain⟨r,Q,ad,y,al⟩:=info_parts QS;have one:∀k∈iW a,k.oneCell'=true:=by intro k P;simp[iW] at P;rcases P with rfl|rfl<;>rfl
 obtain⟨rfl,rfl⟩|⟨f,h,l,S,rfl,M,ap,ab,O⟩:=p.ex
 .obtain⟨g,e,s,G,ac,au⟩:=nA (w:=w) w.heap.size 64 140 Jo QS rfl (by decide) (db _ _ _ _) (iW a) rfl one (by unfold Χ;omega) (by omega) (Ο _);have j:e.ownsRow w.heap.size 140 2 g [a].length (lD [a]):=by simpa[lD,iW] using G
  have z:=kK.dw j (by simp);refine⟨g,e,s,⟨_,z,⟨ac.mono λn q=>by simp[iM] at q,λn q=> .inr ?_⟩⟩,?_⟩
  .obtain⟨_,i⟩|⟨m,t,B,rfl,C,_⟩:=j.2
   .cases i
   have:m=n:=cr q;omega
  obtain⟨_,i⟩|⟨m,t,B,rfl,C,_⟩:=j.2
  .cases i
  exact⟨_,_,rfl⟩
 have L:o f:=(p.ak f).2 rfl;have x:=M.alloc (ζ (iW a).toArray 140);have aq:=M.lt;by_cases room:b.length+1<=l
 .have W:∀c,c<(iW a).length->((w.alloc (ζ (iW a).toArray 140)).cell? ⟨f,h*2+b.length*r.size+c,A⟩).isSome=true:=λc d=>by have an:c<2:=d;rw[x.cell,y,ql (show h*2+b.length*2+c<S.size by omega)];rfl
  have s:=run_append_room_cells (P:=δ) (w:=w.alloc (ζ (iW a).toArray 140)) 64 64 140 r Jo Q f (h*2) b.length l ⟨w.heap.size,0,A⟩ 1 1 (iW a) (by rw[y];rfl) (Mb w a) one room W (λc _=>x.frozen _);refine⟨_,_,s,⟨o,⟨.inr ⟨f,h,l,_,by simp,(x.χ (h*2+b.length*r.size) (I E a.1)).χ (h*2+b.length*r.size+1) (I E a.2),by simpa using room,by simpa using ab,λc n d=> ?_⟩,p.ak⟩,?_⟩,⟨_,_,rfl⟩⟩
  .rw[y];rw[Ng,List.getElem?_append] at d;rw[Ai,Ai];split at d
   .rename_i F;rw[Cf] at F;rw[WB (by omega),WB (by omega)];exact O c n d
   rename_i F;rw[Cf] at F d;obtain⟨u,rfl⟩:∃u,c=b.length*2+u:=⟨c-b.length*2,by omega⟩;rw[Nat.add_sub_cancel_left] at d;have X:u<2:=(iN.1 d).1;match u,X with
   |0,_=>simp[iW] at d;subst d;rw[WB (by omega),ahM (by omega),ahM (by first|omega|(simp only[Array.size_setIfInBounds];omega))]
   |1,_=>simp[iW] at d;subst d;rw[ahM (by omega),ahM (by first|omega|(simp only[Array.size_setIfInBounds];omega))]
  exact⟨(((Y.refl w o).alloc _).χ (p:=(U f _ A)) (.inl L) _).χ (p:=(U f _ A)) (.inl L) _,λ_ p=> .inl p⟩
 have holds:∀c k,(lD b)[c]? =N k->(w.alloc (ζ (iW a).toArray 140)).cell? ((⟨f,h*2,A⟩:Addr).add c)=N k:=λc k d=>by rw[WideShapes.add_plain,x.cell];exact O c k d
 obtain⟨g,e,s,G,T⟩:=run_append_arg_grows (P:=δ) (w:=w.alloc (ζ (iW a).toArray 140)) 64 64 140 r _ 2 16 Jo Q ad y al rfl (by decide) ⟨f,h*2,A⟩ b.length l (lD b) (Cf b) holds ⟨w.heap.size,0,A⟩ 1 1 (iW a) rfl (Mb w a) (by omega) (by unfold Χ;omega) (by omega);have j:e.ownsRow w.heap.size 140 2 g (b++[a]).length (lD (b++[a])):=by rw[Ng,cL];exact sP G (by simp)
 have z:=kK.dw j (by simp);have kk:Y w e γ:=((Y.refl w γ).alloc _).trans (Y.jy T (F:=γ) (λ_ a=>by cases a)) Η;refine⟨g,e,s,⟨_,z,⟨kk.any,λn q=> .inr ?_⟩⟩,?_⟩
 .obtain⟨_,i⟩|⟨m,t,B,rfl,C,_⟩:=j.2
  .simp at i
  have:m=n:=cr q;omega
 obtain⟨_,i⟩|⟨m,t,B,rfl,C,_⟩:=j.2
 .simp at i
 exact⟨⟨m,0,A⟩,t,by simp⟩
variable {w w1:Z} {p:Pl} {own:Nat->Option Ν} {s:HS}
theorem Α.wR(c:Α w p own s){b:Ν}(d:b≠.ca):¬of own b p.g:=λa=>by unfold of at a;rw[c.jV] at a;exact d (cr a).symm
theorem Α.Dh(d:Α w p own s){b:ε}{f:Int×Int}(n:∃e,kK w1 b (s.row++[f]) e/\Ψ w w1 (of own .row) e):∃k,Α (w1.setCell (U p.g 8 A) b) p k {s with rv:=b,row:=s.row++[f]} /\Ε w (w1.setCell (U p.g 8 A) b) own k:=by
 obtain⟨e,r,g⟩:=n;have t:p.g<w.heap.size:=d.aA.lt
 have j:¬e p.g:=λi=>by
  obtain h|h:=g.fresh _ i
  .exact d.wR (by exact nofun) h
  omega
 have l:θ w1 p.g 66 (bg p s):=g.keeps.blk d.aA (d.wR (by exact nofun))
 have o:Y w (w1.setCell (U p.g 8 A) b) (λc=>own c=N .ca\/own c=N .row):=
  (g.keeps.mono λc a=> .inl (.inr a)).χ (p:=(U p.g 8 A)) (.inl (.inl d.jV)) b
 refine⟨_,d.sQ (s':= {s with rv:=b,row:=s.row++[f]}) (F1:=(·=p.g)) (F2:=e) .ca .row (by exact nofun) o (λc a=> .inl (by rw[a];exact d.jV)) (λc a=>g.fresh c a) (λc a i=>j (a▸i)) ⟨?_,λu=>fT⟩ ?_ λq h m=> ?_⟩
 .exact(l.χ 8 b).to (by simp[bg])
 .exact(Dn _ _).keeps r ((Y.refl w1 (·=p.g)).χ (p:=(U p.g 8 A)) (.inl rfl) b) λc a f=>j (f▸a)
 cases q<;>first|rfl|exact ahN rfl h|exact ahN rfl m
theorem Α.Qm(a:Α w p own s)(b:Int):Α (w.setCell (U p.g 4 A) (I E b)) p (fH own .ca (·=p.g)) {s with Ι:=b} /\Ε w (w.setCell (U p.g 4 A) (I E b)) own (fH own .ca (·=p.g)):=by
 have d:of own .ca=(·=p.g):=by funext k;exact propext ((a.part .ca).2 k)
 refine a.put (s':= {s with Ι:=b}) .ca ⟨(Y.refl w _).χ (p:=(U p.g 4 A)) (.inl a.jV) _,λg e=> .inl (by rw[d];exact e)⟩ ⟨(a.aA.χ 4 _).to (by simp[bg]),λ_=>fT⟩ λf c=> ?_;cases f<;>first|rfl|exact ahN rfl c
theorem kK.tail{w:Z}{b e d:Nat}{f:Int×Int}{c:List (Int×Int)}{i:Bs}(j:kK w (V (N (U b e A)) (c.length+1) d) (f::c) i):kK w (V (N ⟨b,e+2,A⟩) c.length (d-1)) c i/\w.cell? (U b e A)=N (I E f.1)/\w.cell? ⟨b,e+1,A⟩=N (I E f.2)/\c.length+1<=d:=by
 obtain⟨a,_⟩|⟨t,r,u,l,a,g,k,y,h⟩:=j.ex
 .cases a
 injection a with a x o;injection a with a;injection a with m n;subst m n o;simp only[eI] at k;refine⟨⟨.inr ⟨b,r+1,d-1,l,by rw[xX],g,by omega,by omega,λq s p=> ?_⟩,j.ak⟩,?_,?_,k⟩
 .have:=h (q+2) s (by simpa[lD] using p);rw[<-this]
  congr 1
  omega
 .rw[g.cell];exact h 0 _ (by simp[lD])
 rw[g.cell];exact h 1 _ (by simp[lD])
theorem kK.form{w:Z}{v:ε}{c:List (Int×Int)}{e:Bs}(b:kK w v c e):∃a f,v=V a c.length f/\(∀d,a=N d->d.spot=A)/\(c≠[]->a≠A):=by
 obtain⟨rfl,rfl⟩|⟨h,o,i,j,rfl,k,m,n,l⟩:=b.ex
 .exact⟨A,0,rfl,nofun,λb=>ahN rfl b⟩
 exact⟨_,_,rfl,λd g=>(cr g)▸rfl,λ_=>nofun⟩
theorem Zw(d:Α w p own s){id:Int}{x:Ss}{f:Nat}(q:aC cM w1 p.sm (put (λi=>(s.ss i).map λa=>Ζ a.q) id (N (Ζ x.q))) f)(r:f<=s.ο+1){c:Bs}(t:∃h,nx w1 x c h)(hF:∀a,c a->w.heap.size<=a)(a:Y w w1 (·=p.sm)):∃g,Α w1 p g {s with ss:=aP s.ss id (N x),ο:=s.ο+1} /\Ε w w1 own g:=by
 have e:own p.sm=N .gE:=((d.part .gE).2 p.sm).2 rfl;have k:=d.more (n:=s.ο+1) (by omega);have z:=d.ik _ _ e;refine⟨_,k.sQ (s':= {s with ss:=aP s.ss id (N x),ο:=s.ο+1}) (F1:=(·=p.sm)) (F2:=c) .gE (.ss id) (by exact nofun) (a.mono λx b=> .inl (.inl (by rw[b];exact e))) (λx b=> .inl (by rw[b];exact e)) (λx b=> .inr (hF x b)) (λx b n=>by have:=hF x n;omega) ⟨⟨f,r,?_⟩,λa=>fT⟩ ?_ λy l m=> ?_⟩
 .rw[Ds];exact q
 .simp only[dq,bI];exact t
 cases y with
 |ss u=>have o:u≠id:=λj=>m (by rw[j]);funext W G;simp only[dq,bU _ _ _ o]
 |gE=>exact ahN rfl l
 |_=>rfl
theorem Zv(d:Α w p own s){id:Int}{x:Cl}{f:Nat}(r:aC cM w1 p.cm (put (λj=>(s.cl j).map λa=>Ζ a.q) id (N (Ζ x.q))) f)(t:f<=s.ο+1){c:Bs}(u:∃i h,lr w1 x c i h)(hF:∀a,c a->w.heap.size<=a)(a:Y w w1 (·=p.cm)):∃g,Α w1 p g {s with cl:=aP s.cl id (N x),ο:=s.ο+1} /\Ε w w1 own g:=by
 have e:own p.cm=N .hY:=((d.part .hY).2 p.cm).2 rfl;have l:=d.more (n:=s.ο+1) (by omega);have B:=d.ik _ _ e;refine⟨_,l.sQ (s':= {s with cl:=aP s.cl id (N x),ο:=s.ο+1}) (F1:=(·=p.cm)) (F2:=c) .hY (.cl id) (by exact nofun) (a.mono λx b=> .inl (.inl (by rw[b];exact e))) (λx b=> .inl (by rw[b];exact e)) (λx b=> .inr (hF x b)) (λx b o=>by have:=hF x o;omega) ⟨⟨f,t,?_⟩,λa=>fT⟩ ?_ λz m n=> ?_⟩
 .rw[Ds];exact r
 .simp only[dq,bI];exact u
 cases z with
 |cl y=>have q:y≠id:=λk=>n (by rw[k]);funext W G;simp only[dq,bU _ _ _ q]
 |hY=>exact ahN rfl m
 |_=>rfl
theorem UZ{g:Type}{c d e:g->Prop}{a:g}(h:e a)(f:c a/\d a):∃b,c b/\d b/\e b:=⟨a,f.1,f.2,h⟩
theorem Zy(j:Α w p own s)(id:Int){g:Nat}(r:aC cM w1 p.sm (put (λk=>(s.ss k).map λd=>Ζ d.q) id A) g)(t:g<=s.ο)(d:Y w w1 (·=p.sm)):∃h,Α w1 p h {s with ss:=aP s.ss id A} /\Ε w w1 own h/\∀a,own a=N (.ss id)->h a=A:=by
 have f:own p.sm=N .gE:=((j.part .gE).2 p.sm).2 rfl;have x:∀a,own a=N (.ss id)->jN own .gE (·=p.sm) (.ss id) γ a=A:=λa e=>by unfold jN;rw[WB (λc:a=p.sm=>by rw[c,f] at e;cases e),WB (λc:γ a=>c),ahM (.inr e)]
 refine UZ x (j.sQ (s':= {s with ss:=aP s.ss id A}) (F1:=(·=p.sm)) (F2:=γ) .gE (.ss id) (by exact nofun) (d.mono λi b=> .inl (.inl (by rw[b];exact f))) (λi b=> .inl (by rw[b];exact f)) (λi b=>b.elim) (λi b n=>n.elim) ⟨⟨g,t,?_⟩,λd=>fT⟩ ?_ λy l m=> ?_)
 .rw[Ds];exact r
 .simp only[dq,bI];exact λd q=>q
 cases y with
 |ss u=>have o:u≠id:=λc=>m (by rw[c]);funext W G;simp only[dq,bU _ _ _ o]
 |gE=>exact ahN rfl l
 |_=>rfl
theorem Zx(e:Α w p own s)(id:Int){c:Nat}(o:aC cM w1 p.cm (put (λh=>(s.cl h).map λb=>Ζ b.q) id A) c)(q:c<=s.ο)(b:Y w w1 (·=p.cm)):∃g,Α w1 p g {s with cl:=aP s.cl id A} /\Ε w w1 own g:=by
 have f:own p.cm=N .hY:=((e.part .hY).2 p.cm).2 rfl;refine⟨_,e.sQ (s':= {s with cl:=aP s.cl id A}) (F1:=(·=p.cm)) (F2:=γ) .hY (.cl id) (by exact nofun) (b.mono λd a=> .inl (.inl (by rw[a];exact f))) (λd a=> .inl (by rw[a];exact f)) (λd a=>a.elim) (λd a l=>l.elim) ⟨⟨c,q,?_⟩,λb=>fT⟩ ?_ λt j k=> ?_⟩
 .rw[Ds];exact o
 .simp only[dq,bI];exact λb n=>n
 cases t with
 |cl r=>have m:r≠id:=λi=>k (by rw[i]);funext W G;simp only[dq,bU _ _ _ m]
 |hY=>exact ahN rfl j
 |_=>rfl
def jS:Nat:=1048576
def aL:Nat:=66000000
structure Υ (s:HS):Prop where
 iu:∀i,i<16->(s.Κ i).out.size<=s.ο*jS
 rows:s.row.length<=2*s.ο
 fits:∀e∈s.row,aF e.1/\aF e.2
 clock:0<=s.Ι/\s.Ι<=1000000
 last:0<=s.last/\s.last<=s.ο/\s.last<=1000000000
 bj:∀p∈s.τ,0<p.2.id/\p.2.id<=s.last
 dM:s.τ.Pairwise λa b=>a.2.id<b.2.id
 aR:∀p∈s.τ,p.2.ψ∈us/\aN p.2.ah=true/\p.2.ax.size<=64
 ij:∀u,(s.τ.filter λp=>same p.2.ψ u).length<=4
 state:∀p∈s.τ,∃x,s.ss p.2.id=N x/\(x.kept= !p.2.ax.toList.isEmpty)/\(x.ar=(p.2.Δ== -1))/\(x.ae=true->((-1,p.2.id):Int×Int)∈s.row)
 eC:∀p∈s.τ,p.2.Δ= -1\/(0<=p.2.Δ/\p.2.Δ<16/\(s.cl p.2.Δ).isSome=true)
 iq:∀p∈s.τ,∀q∈s.τ,p.2.Δ=q.2.Δ->p.2.Δ≠ -1->p=q
 lh:∀p∈s.τ,∀q∈s.τ,p.2.ax=q.2.ax->p.2.ax.toList.isEmpty=false->p=q
 open_:∀i:Nat,i<16->(s.Κ i).op=(s.cl i).isSome
 range:∀c,(s.cl c).isSome=true->0<=c/\c<16
 jQ:∀c k b,s.cl c=N k->k.bd=N b->oe b
 fS:∀id x,s.ss id=N x->x.Β.size<=40
structure Bl (s:HS):Prop where
 iu:∀i,i<16->(s.Κ i).out.size<=s.ο*jS
 rows:s.row.length<=2*s.ο
variable{w n G:Z}{v s:Nat→Option Ν}{x i t B:ε}{y k d M:Nat}{z c:HS}{m C:Int}{j:Bs}{a:List ε}{b:Option Addr}{e:Pl}{f:Bool}{h:Nat×υ}{p L:BA}{q:Array ε}{u:aQ}{J:Ss}{Q:El}{W:At}
theorem Υ.room(a:Υ z):Bl z:=⟨a.iu,a.rows⟩
def FJ(e:HS)(c:Int)(a:Cl):Prop:=(∃d∈e.row,d.1=c)\/∃b,a.bd=N b/\(b.aV≠[]\/b.ae=true->a.ψ∈us/\(a.ah.toList.isEmpty=true\/aN a.ah=true))
def bJ(c:HS)(d:Int):Prop:=∀a b,c.cl a=N b->a≠d->FJ c a b
structure qE (s:HS):Prop where
 Κ:∀i,i<16->(s.Κ i).op=true->(s.Κ i).br=false/\(s.Κ i).left= -1
 front:∀id x,s.ss id=N x->x.kept=false/\x.ae=false
def Ss.core(a:Ss):Ss:= {a with ae:=false}
structure ci (s s':HS):Prop where
 aE:s'.aE=s.aE
 last:s'.last=s.last
 τ:s'.τ=s.τ
 Ι:s'.Ι=s.Ι
 dl:s'.dl=s.dl
 cl:s'.cl=s.cl
 ο:s.ο<=s'.ο
 core:∀id,(s'.ss id).map Ss.core=(s.ss id).map Ss.core
 ae:∀id x x',s.ss id=N x->s'.ss id=N x'->(x.ae=true->x'.ae=true)/\(x'.ae=true->x.ae=true\/((-1,id):Int×Int)∈s'.row)/\(x.kept=false->x'.ae=x.ae)
 row:∃ext,s'.row=s.row++ext/\(∀e∈ext,aF e.1/\aF e.2)/\ext.length<=2*(s'.ο-s.ο)
 op:∀i,i<16->(s'.Κ i).op=(s.Κ i).op
 shut:∀i,i<16->(s.Κ i).op=false->s'.Κ i=s.Κ i
 whole:∀i,i<16->(s.Κ i).br=false->(s.Κ i).left= -1->(s'.Κ i).br=false/\(s'.Κ i).left= -1
 out:∀i,i<16->(s'.Κ i).out.size<=(s.Κ i).out.size+(s'.ο-s.ο)*jS
 jK:qE s->Υ s->s'.row=s.row
theorem ci.refl(d:HS):ci d d where
 aE:=rfl
 last:=rfl
 τ:=rfl
 Ι:=rfl
 dl:=rfl
 cl:=rfl
 ο:=Ο _
 core _:=rfl
 ae id x x' b a:=by rw[b] at a;injection a with a;subst a;exact⟨id_,.inl,λ_=>rfl⟩
 row:=⟨[],by simp,by simp,by simp⟩
 op _ _:=rfl
 shut _ _ _:=rfl
 whole _ _ h1 h2:=⟨h1,h2⟩
 out i _:=by simp
 jK _ _:=rfl
where id_ {c:Prop} (b:c):c:=b
theorem ci.sT(d:ci z c)(e:z.ss m=N J):∃a,c.ss m=N a/\a.core=J.core:=by
 have:=d.core m;rw[e] at this;cases b:c.ss m with
 |none=>rw[b] at this;cases this
 |some a=>rw[b] at this;exact⟨a,rfl,cr this⟩
theorem ci.LH(d:ci z c)(e:c.ss m=N J):∃a,z.ss m=N a/\J.core=a.core:=by
 have:=d.core m;rw[e] at this;cases b:z.ss m with
 |none=>rw[b] at this;cases this
 |some a=>rw[b] at this;exact⟨a,rfl,cr this⟩
theorem uB{a:Ss}(b:a.core=J.core):a.q=J.q/\a.fb=J.fb/\a.kept=J.kept/\a.ar=J.ar/\a.iK=J.iK/\a.Β=J.Β:=by obtain⟨i,k,m,o,q,s,u⟩:=J;obtain⟨j,l,n,p,r,t,w⟩:=a;simp[Ss.core] at b;obtain⟨c,d,e,f,g,h⟩:=b;exact⟨c,d,e,f,g,h⟩
theorem ci.NK(b:ci z c)(f:qE z):qE c where
 Κ i hi ho:=by rw[b.op i hi] at ho;obtain⟨a,d⟩:=f.Κ i hi ho;exact b.whole i hi a d
 front id x hx:=by obtain⟨g,e,h⟩:=b.LH hx;obtain⟨a,d⟩:=f.front id g e;have j:=uB h;exact⟨j.2.2.1.trans a,((b.ae id g x e hx).2.2 a).trans d⟩
theorem ci.inv(a:ci z c)(b:Υ z):Υ c:=by
 obtain⟨ext,j,t,B⟩:=a.row;have mem:∀d,d∈z.row->d∈c.row:=λd h=>by rw[j];exact qy _ h
 have A:=a.ο
 exact {
  iu:=λf e=>by
   have i:=a.out f e;have k:=b.iu f e;have l:z.ο*jS+(c.ο-z.ο)*jS=c.ο*jS:=by rw[<-xX];congr 1;omega
   omega
  rows:=by have:=b.rows;rw[j,cL];omega
  fits:=λd h=>by rw[j,dO] at h;exact h.elim (b.fits d) (t d)
  clock:=by rw[a.Ι];exact b.clock
  last:=by have:=b.last;rw[a.last];omega
  bj:=by rw[a.τ,a.last];exact b.bj
  dM:=by rw[a.τ];exact b.dM
  aR:=by rw[a.τ];exact b.aR
  ij:=by rw[a.τ];exact b.ij
  state:=λx n=>by
   rw[a.τ] at n;obtain⟨o,i,k,l,r⟩:=b.state x n;obtain⟨p,m,s⟩:=a.sT i;have g:=uB s;refine⟨p,m,g.2.2.1.trans k,g.2.2.2.1.trans l,λu=> ?_⟩;obtain h7|h7:=(a.ae _ o p i m).2.1 u
   .exact mem _ (r h7)
   .exact h7
  eC:=by rw[a.τ,a.cl];exact b.eC
  iq:=by rw[a.τ];exact b.iq
  lh:=by rw[a.τ];exact b.lh
  open_:=λf e=>by rw[a.op f e,a.cl];exact b.open_ f e
  range:=by rw[a.cl];exact b.range
  jQ:=by rw[a.cl];exact b.jQ
  fS:=λid o w=>by obtain⟨y,q,g⟩:=a.LH w;rw[(uB g).2.2.2.2.2];exact b.fS id y q}
theorem ci.trans{b:HS}(a:ci z b)(d:ci b c):ci z c where
 aE:=d.aE.trans a.aE
 last:=d.last.trans a.last
 τ:=d.τ.trans a.τ
 Ι:=d.Ι.trans a.Ι
 dl:=d.dl.trans a.dl
 cl:=d.cl.trans a.cl
 ο:=aJ a.ο d.ο
 core id:=(d.core id).trans (a.core id)
 ae id x x' hx hx':=by
  obtain⟨m,k,_⟩:=a.sT hx;obtain⟨g,h,l⟩:=a.ae id x m hx k;obtain⟨t,u,w⟩:=d.ae id m x' k hx';obtain⟨E,j,r⟩:=a.sT hx;rw[k] at j;injection j with j;subst j;refine⟨λe=>t (g e),λe=> ?_,λe=> ?_⟩
  .obtain e|e:=u e
   .obtain e|e:=h e
    .exact .inl e
    obtain⟨ext,s,_⟩:=d.row;exact .inr (by rw[s];exact qy _ e)
   exact .inr e
  .exact(w ((uB r).2.2.1.trans e)).trans (l e)
 row:=by
  obtain⟨n,y,p,B⟩:=a.row;obtain⟨o,A,q,C⟩:=d.row;have:=a.ο;have:=d.ο;refine⟨n++o,by rw[A,y,List.append_assoc],λe f=> ?_,by rw[cL];omega⟩;obtain f|f:=dO.1 f
  .exact p e f
  .exact q e f
 op i hi:=(d.op i hi).trans (a.op i hi)
 shut i hi ho:=(d.shut i hi ((a.op i hi).trans ho)).trans (a.shut i hi ho)
 whole i hi g h:=by obtain⟨z,b⟩:=a.whole i hi g h;exact d.whole i hi z b
 out i hi:=by
  have g:=a.out i hi;have h:=d.out i hi
  have l:(b.ο-z.ο)*jS+(c.ο-b.ο)*jS=(c.ο-z.ο)*jS:=by
   rw[<-xX];have:=a.ο;have:=d.ο
   congr 1
   omega
  omega
 jK hs hi:=(d.jK (a.NK hs) (a.inv hi)).trans (a.jK hs hi)
theorem ci.known(a:ci z c)(f:bJ z m):bJ c m:=λd i b g=>by
 rw[a.cl] at b;obtain⟨e,h1,h2⟩|h1:=f d i b g
 .obtain⟨ext,h,_⟩:=a.row;exact .inl ⟨e,by rw[h];exact qy _ h1,h2⟩
 exact .inr h1
structure iP (w:Z) (own:Nat->Option Ν) (v:ε) (l:List BA):Prop where
 strs:eU w v l
 free:∀b,dS v=N b->own b=A/\b<w.heap.size
theorem eU.same{e:List BA}(g:eU w x e)(j:∀b,dS x=N b->n.heap[b]? =w.heap[b]?):eU n x e:=by obtain⟨m,f,rfl,h,i,d⟩:=g;refine⟨m,f,rfl,h,i,λa c=>⟨(d a c).1,λl o k=> ?_⟩⟩;have:=(d a c).2 l o k;unfold fN at this⊢;simp only at this⊢;rw[j a.block (by rw[c];rfl)];exact this
theorem iP.aW{e:List BA}(b:iP w v x e)(d:Ε w n v s):iP n s x e:=
 ⟨b.strs.same λa c=>(d.free (b.free a c).2 (b.free a c).1).1,λa c=>⟨(d.free (b.free a c).2 (b.free a c).1).2,dQ (b.free a c).2 d.keeps.size⟩⟩
def gv(b:Nat->PS)(a:Int):List BA->(Nat->PS)×Bool
 |[]=>(b,false)
 |c::d=>if(at_ (ey c) b a).1=0 then gv (at_ (ey c) b a).2 a d else((at_ (ey c) b a).2,true)
def cF(a:HS)(b:Int)(c:List BA)(rv:ε):HS:= {a with Κ:=(gv a.Κ b c).1,row:=a.row++(if(gv a.Κ b c).2 then[(b,0)] else[]),rv:=rv,ο:=a.ο+1}
theorem ahC(b:BA)(a:PS):(ey b a).2.out.size<=a.out.size+b.size:=by
 unfold ey tz;split
 .split
  .simp
  split
  .simp
  simp only[mj,ByteArray.size_extract];omega
 simp
theorem LA(a:BA)(c:Nat->PS)(d:Int)(b:Nat):((at_ (ey a) c d).2 b).out.size<=(c b).out.size+a.size:=by
 unfold at_;split
 .simp only[cN];split
  .rename_i e;subst e;exact ahC a _
  omega
 simp
def Lm(j:Z)(g:Pl)(f:Nat->Option Ν)(i:HS)(c:Int)(e:List BA)(d:aI)(b:Z):Prop:=
 d=ξ (σ #[])/\∃a h,Α b g a (cF i c e h)/\Ε j b f a
theorem Ea(T:Α w e v z)(k:Bl z)(W:z.ο<aL)(c:Int){a:List BA}(C:iP w v x a)(bt:a.length<=16)(ad:∀bc∈a,bc.size<=most):ν δ 66 #[Ζ e.g,I E c,x] w (Lm w e v z c a):=by
 have ap:=K k;have ao:=K T;have aq:=K C;have HS:=K ad;obtain⟨bd,bE,hv,_⟩:=C.strs;subst hv;have a8:z.row.length<=1000000000:=by have:=k.rows;unfold aL at W;omega
 clear k T C ad;go_enter func66,ntmps66;go_wp2;go_loopw [10] (λk wr=>∃(b:Nat) (r:Nat->Option Ν) (g:Nat->PS),b<=a.length/\k=I E b/\η (Α wr e r {z with Κ:=g} /\Ε w wr v r/\gv z.Κ c a=gv g c (a.drop b)/\∀f,(g f).out.size<=(z.Κ f).out.size+b*most)) (λk _=>a.length-(intOf k).toNat)
 case atStart=>exact⟨0,v,z.Κ,by omega,rfl,K ⟨ao.out,Ε.refl _ _,rfl,λf=>by omega⟩⟩
 obtain⟨b,r,g,bs,rfl,d⟩:=hrel;by_cases F:b<a.length
 .have a6:(b:Int)<a.length:=by omega
  have am:=cT F;have G:=eA F;have ac:a.drop b=a[b]::a.drop (b+1):=List.drop_eq_getElem_cons F;generalize a[b]=i at*;have bv:=HS.out i G;obtain⟨bN,bF,hv,_,a7,ab⟩:=(aq.out.aW d.out.2.1).strs;injection hv with a9 _ ba;subst a9 ba;cases bd with
  |none=>rw[a7 rfl] at G;cases G
  |some av=>
   obtain⟨bi,bk,bA⟩:=av;obtain⟨al,X⟩:=ab _ rfl;simp only at al;subst al;have b0:=X b i am;have a2:=d.out.1.aA.cell 0;simp only[bg,Ρ,Τ] at a2
   have u:=K (Uy (d.out.1.part .Κ) c i (λf a4=>by
    have bq:=d.out.2.2.2 f;have br:=ap.out.iu f a4;show(g f).out.size+i.size<=qW;have:z.ο*jS<=65999999*jS:=pg _ (by unfold aL at W;omega);have a5:b<=15:=by omega
    have:b*most<=15*most:=pg _ a5;unfold qW;unfold jS at*;unfold most at*;omega))
   have q:gv g c (a.drop b)=if(at_ (ey i) g c).1=0 then gv (at_ (ey i) g c).2 c (a.drop (b+1)) else((at_ (ey i) g c).2,true):=by rw[ac];rfl
   have J:∀f,((at_ (ey i) g c).2 f).out.size<=(z.Κ f).out.size+(b+1)*most:=λf=>by have:=LA i g c f;have:=d.out.2.2.2 f;rw[xX];omega
   have q:=K q;have J:=K J;generalize at_ (ey i) g c=j at*;clear ab X ac am;by_cases o:j.1=0
   .rw[o] at u;go_wp2_with fail;refine u.out.mono ?_;rintro a1 M ⟨rfl,m⟩;obtain⟨s,h,l⟩:=d.out.1.zI m;have O:=K (show Α M e s {z with Κ:=j.2} from h);have t:=K (d.out.2.1.trans l);have y:=K (by rw[d.out.2.2.1,q.out,ahM o]:gv z.Κ c a=gv j.2 c (a.drop (b+1)));clear h l m;go_wp2;go_roundw
    case rel=>exact⟨b+1,s,j.2,by omega,by go_num,K ⟨O.out,t.out,y.out,J.out⟩⟩
    case measure=>simp[intOf];omega
   have bn:(j.1 !=0)=true:=by simpa using o
   go_wp2_with fail;refine u.out.mono ?_;rintro a1 M ⟨rfl,m⟩;obtain⟨s,h,l⟩:=d.out.1.zI m;have O:=K (show Α M e s {z with Κ:=j.2} from h);have t:=K (d.out.2.1.trans l);have y:=K (by rw[d.out.2.2.1,q.out,WB o]:gv z.Κ c a=(j.2,true));have R:=h.aA.cell 8;simp only[bg,gz_] at R;obtain⟨bB,be,L,B,aw,a0,rfl⟩:=Dm (h.part .row) (c,0) a8;simp only at L;obtain⟨bb,P,Q⟩:=h.Dh B;have n:θ be e.g 66 (bg e {z with Κ:=j.2}):=by obtain⟨bf,_,a3⟩:=B;exact a3.keeps.blk h.aA (h.wR (by exact nofun))
   have S:=n.cell 8;have f83:=n.frozen 8;simp only[bg,gz_] at S;have an:=K P;have au:=K (t.out.trans Q);have bw:=n.lt;obtain⟨bx,bz,p,_⟩:=(h.part .row).form;simp only at p;rw[p] at R S L;have p:=K p;clear h l m P Q B n;go_wp2_with (at_builtin;refine dy rfl (.tmp 26) (.tmp 29) 64 rfl rfl rfl L ?_);go_end0
   refine⟨rfl,bb,V (N aw) (z.row.length+1) a0,?_,au.out⟩;have:=an.out.more (n:=z.ο+1) (cV _);unfold cF;rw[y.out];exact this
 obtain rfl:b=a.length:=by omega
 have a6:¬(a.length:Int)<a.length:=by omega
 go_wp2;go_end0
 refine⟨rfl,r,z.rv,?_,d.out.2.1⟩;have:=d.out.1.more (n:=z.ο+1) (cV _);unfold cF;rw[d.out.2.2.1,List.drop_length];simpa[gv] using this
structure qK (st st':Nat->PS) (n:Nat):Prop where
 op:∀i,(st' i).op=(st i).op
 shut:∀i,(st i).op=false->st' i=st i
 whole:∀i,(st i).br=false->(st i).left= -1->(st' i).br=false/\(st' i).left= -1
 out:∀i,(st' i).out.size<=(st i).out.size+n
theorem qK.refl(a:Nat->PS):qK a a 0:=⟨λ_=>rfl,λ_ _=>rfl,λ_ b c=>⟨b,c⟩,λ_=>Ο _⟩
theorem qK.trans{f b g:Nat->PS}(c:qK f b y)(e:qK b g k):qK f g (y+k):=
 ⟨λa=>(e.op a).trans (c.op a),λa d=>(e.shut a ((c.op a).trans d)).trans (c.shut a d),λa d h=>e.whole a (c.whole a d h).1 (c.whole a d h).2,λa=>by have:=c.out a;have:=e.out a;omega⟩
theorem Ae(b:BA)(a:PS):(ey b a).2.op=a.op/\(a.op=false->(ey b a).2=a)/\(a.br=false->a.left= -1->(ey b a).2.br=false/\(ey b a).2.left= -1)/\(a.op=true->a.br=false->a.left= -1->(ey b a).1=0):=by
 unfold ey tz;refine⟨?_,λe=> ?_,λd c=> ?_,λf d c=> ?_⟩
 .repeat' split
  all_goals rfl
 .simp[e]
 .rw[c];cases a.op<;>simp[d,c]
 simp[f,d,c]
theorem Lz(a:BA)(f:Nat->PS)(g:Int):qK f (at_ (ey a) f g).2 a.size:=by
 refine⟨λc=> ?_,λc h=> ?_,λc d e=> ?_,λc=>LA a f g c⟩<;>unfold at_<;>split<;>simp only[cN]
 .split
  .rename_i b;subst b;exact(Ae a _).1
  rfl
 .split
  .rename_i b;subst b;exact(Ae a _).2.1 h
  rfl
 .split
  .rename_i b;subst b;exact(Ae a _).2.2.1 d e
  exact⟨d,e⟩
 exact⟨d,e⟩
theorem D'(e:Int):∀(c:List BA) (b:Nat->PS),(∀d∈c,d.size<=most)->qK b (gv b e c).1 (c.length*most)
 |[],b,_=>by simpa[gv] using qK.refl b
 |d::c,b,h=>by
  have a:=Lz d b e;have k:=h d (dP ..);have f:=D' e c (at_ (ey d) b e).2 λj i=>h j (eZ _ i);unfold gv;split
  .refine⟨(a.trans f).op,(a.trans f).shut,(a.trans f).whole,λg=> ?_⟩;have:=(a.trans f).out g;simp only[eI,xX];omega
  .refine⟨a.op,a.shut,a.whole,λg=> ?_⟩;have:=a.out g;simp only[eI,xX];omega
theorem Jx(a:Int)(i:0<=a/\a<16):∀(e:List BA) (b:Nat->PS),(b a.toNat).op=true->(b a.toNat).br=false->(b a.toNat).left= -1->(gv b a e).2=false
 |[],_,_,_,_=>rfl
 |f::e,b,h,c,d=>by
  have j:(at_ (ey f) b a).1=0:=by unfold at_;rw[ahM i];exact(Ae f _).2.2.2 h c d
  have g:=Lz f b a;unfold gv;rw[ahM j];exact Jx a i e _ ((g.op _).trans h) (g.whole _ c d).1 (g.whole _ c d).2
theorem IU{s:HS}{a:List BA}{rv:ε}(l:aF m)(n:a.length<=16)(p:∀q∈a,q.size<=most)(o:qE s->a=[]\/(0<=m/\m<16/\(s.Κ m.toNat).op=true)):ci s (cF s m a rv):=by
 have d:=D' m a s.Κ p
 exact {
  aE:=rfl
  last:=rfl
  τ:=rfl
  Ι:=rfl
  dl:=rfl
  cl:=rfl
  ο:=cV _
  core:=λ_=>rfl
  ae:=λid r t e k=>by have:N r=N t:=e.symm.trans k;injection this with this;subst this;exact⟨λe=>e,.inl,λ_=>rfl⟩
  row:=by
   refine⟨if(gv s.Κ m a).2 then[(m,0)] else[],rfl,λu c=> ?_,?_⟩
   .split at c
    .rw[cj] at c;subst c;exact⟨l,by unfold aF;omega⟩
    cases c
   .have:(cF s m a rv).ο-s.ο=1:=by unfold cF;simp
    rw[this];split<;>simp
  op:=λb _=>d.op b
  shut:=λb _=>d.shut b
  whole:=λb _=>d.whole b
  out:=λb _=>by
   have f:=d.out b;have:(cF s m a rv).ο-s.ο=1:=by unfold cF;simp
   rw[this];have g:a.length*most<=16*most:=pg _ n;refine aJ f (Nat.add_le_add_left (aJ g ?_) _);decide
  jK:=λh _=>by
   show s.row++_=s.row;obtain rfl|⟨f,g,h3⟩:=o h
   .simp[gv]
   .obtain⟨i,j⟩:=h.Κ m.toNat (by omega) h3;rw[Jx m ⟨f,g⟩ a s.Κ h3 i j];simp}
def rN(a:υ):Prop:=a.ψ.size<=1000/\a.ah.size<=1000
def gh(a:υ):BA:=a.ψ++⟨#[47]⟩++a.ah
theorem vK(a:υ)(i:rN a)(c:Z):ν δ 44 #[Μ a.cells] c λf q=>(∃b:BA,f=ξ (H b)/\b.size<=3000/\(aN a.ψ=true->aN a.ah=true->b=gh a))/\Y c q γ:=by have d:=λk=>VS a.ψ a.ah i.1 i.2 k;have d:=K d;have e:=θ.new c 42 a.cells;have l:=e.cell 1;have m:=e.cell 2;unfold υ.cells at*;simp only[gz_] at l m;clear e;go_enter func44,ntmps44;go_wp2_with fail;refine(d.out _).mono ?_;rintro f r ⟨⟨b,s,rfl,p,h⟩,j⟩;have g:η ((b.size<=3000/\(aN a.ψ=true->aN a.ah=true->b=gh a))/\Y c r γ):=K ⟨⟨p,λn o=>(h n o).2⟩,((Y.refl c γ).alloc _).trans j Η⟩;clear h j;go_wp2;go_ret;exact⟨⟨b,rfl,g.out.1⟩,g.out.2⟩
def mM(c:HS)(a:υ)(b:List BA)(d:Int)(rv e:ε):HS:=if d=13 then {cF c a.Δ b rv with row:=(cF c a.Δ b rv).row++[(-1,a.id)],rv:=e} else cF c a.Δ b rv
def Ui(k:Z)(g:Pl)(f:Nat->Option Ν)(j:HS)(l:υ)(e:List BA)(d:Int)(c:aI)(b:Z):Prop:=
 c=ξ (σ #[])/\∃a h i,Α b g a (mM j l e d h i)/\Ε k b f a
theorem IM(y:Α w e v z)(L:Bl z)(X:z.ο<aL)(a:υ){b:List BA}(F:iP w v x b)(av:b.length<=16)(ab:∀a1∈b,a1.size<=most)(i:Int):ν δ 258 #[Ζ e.g,Μ a.cells,x,I E i] w (Ui w e v z a b i):=by
 have M:Y w (w.alloc (ζ a.cells 42)) γ:=(Y.refl w γ).alloc _;have O:=Ε.bu v M;have r:θ (w.alloc (ζ a.cells 42)) w.heap.size 42 a.cells:=θ.new _ _ _;have j:=K (Ea (y.still M) L X a.Δ (F.aW O) av ab)
 have kY:v w.heap.size=A:=by
  cases t:v w.heap.size with
  |none=>rfl
  |some a3=>have:=y.ik _ _ t;omega
 have ap:=r.cell 4;unfold υ.cells at*;simp only[gz_] at ap;have R:=K O;have P:=K r;have G:(cF z a.Δ b .nilIface).row.length<=1000000000:=by have:=L.rows;unfold aL at X;unfold cF;simp only[cL];split<;>simp<;>omega
 have G:=K G;obtain⟨bc,bb,hv,_⟩:=F.strs;subst hv;clear y L F ab M O r;by_cases B:i=13
 .subst B;go_enter func258,ntmps258;go_wp2_with fail;refine j.out.mono ?_;rintro t d ⟨rfl,ad,c,g,h⟩;have s:θ d w.heap.size 42 _:=((h.free P.out.lt kY).1).trans P.out;have aq:=s.cell 0;simp only[Ρ,Τ] at aq;have f:=g.still (w':=d.drew) ((Y.refl d γ).drew);have S:=h.still ((Y.refl d γ).drew);obtain⟨al,am,J,_⟩:=(f.part .row).form;have n:=f.aA.cell 8;simp only[bg,gz_] at n;obtain⟨ba,q,p,C,k,m,rfl⟩:=Dm (f.part .row) (-1,a.id) G.out;obtain⟨o,Q,T⟩:=f.Dh C;have l:θ q e.g 66 (bg e (cF z a.Δ b c)):=by obtain⟨a2,_,au⟩:=C;exact au.keeps.blk f.aA (f.wR (by exact nofun))
  have W:=l.cell 8;have f83:=l.frozen 8;simp only[bg,gz_] at W;rw[J] at n W p;have a4:d.cell? (U e.g 8 A)=N (V al (cF z a.Δ b c).row.length am):=n;clear n;have J:=K J;have u:η (∃o,Α (q.setCell (U e.g 8 A) (V (N k) ((cF z a.Δ b c).row.length+1) m)) e o (mM z a b 13 c (V (N k) ((cF z a.Δ b c).row.length+1) m))/\Ε w (q.setCell (U e.g 8 A) (V (N k) ((cF z a.Δ b c).row.length+1) m)) v o):=K ⟨o,by unfold mM;rw[ahM rfl];exact Q,R.out.trans (S.trans T)⟩;have a8:=l.lt;have a6:e.g<d.heap.size:=g.aA.lt;have a7:w.heap.size<d.heap.size:=s.lt;have p:(gJ #[64,64] 64 #[V al (cF z a.Δ b c).row.length am,V (N (U d.heap.size 0 A)) 1 1]).run δ ((d.alloc (ζ #[I E (-1),I E a.id] 140)).drew)= .ok (V (N k) ((cF z a.Δ b c).row.length+1) m) q:=p;clear g h s f S C Q T l j;generalize(cF z a.Δ b c).row.length=a9 at*;go_wp2;go_region_law (first|(refine Dx rfl (.tmp 19) (.tmp 23) 64 rfl rfl rfl p ?_))
  all_goals go_end0
  all_goals
   obtain⟨aw,an,ao⟩:=u.out;exact⟨rfl,aw,_,_,an,ao⟩
 go_enter func258,ntmps258;go_wp2_with fail;refine j.out.mono ?_;rintro t d ⟨rfl,ad,c,g,h⟩;have a5:(i==13)=false:=by simpa using B
 have u:η (∃ac c a0,Α d e ac (mM z a b i c a0)/\Ε w d v ac):=K ⟨ad,c,c,by unfold mM;rw[WB B];exact g,R.out.trans h⟩;clear g h j;go_wp2;go_end0
 exact⟨rfl,u.out⟩
def lu(i:Z)(h:Pl)(g:Nat->Option Ν)(c:HS)(f:Nat)(e:aI)(d:Z):Prop:=
 e=ξ (σ #[])/\∃b a,Α d h b a/\Ε i d g b/\ci c a/\a.ο<=c.ο+f
theorem jw.list(i:jw w y x k)(o:k<=1000000):∃a:List BA,a.length=k/\(∀c∈a,c.size<=most)/\eU w x a/\w.ownsRow y 9 1 x k (a.map H):=by
 obtain⟨f,d,e,h⟩:=i
 obtain⟨a,rfl,hs⟩:∃a:List BA,f=a.map H/\∀c∈a,c.size<=most:=by
  clear e d;induction f with
  |nil=>exact⟨[],rfl,nofun⟩
  |cons n f m=>
   obtain⟨a,rfl,j⟩:=m λg b=>h g (eZ _ b);obtain⟨c,rfl,l⟩:=h n (dP ..)
   exact⟨c::a,rfl,λg b=>by
    obtain rfl|b:=dD.1 b
    .exact l
    .exact j g b⟩
 rw[dN] at d;refine⟨a,d,hs,eU.dw (by rw[d];exact e) (by omega),e⟩
theorem pN{own':Nat->Option Ν}{c:List BA}(i:eU w x c)(h:w.ownsRow y 9 1 x k (c.map H))(g:∀a,x.ownBlock=N a->own' a=A):iP w own' x c:=by
 refine⟨i,λa d=> ?_⟩;obtain⟨rfl,_⟩|⟨b,j,l,rfl,m,e,_⟩:=h.2
 .cases d
 have f:b=a:=cr d;subst f;refine⟨g b rfl,?_⟩;obtain h1|h1:=fU b w.heap.size
 .exact h1
 rw[ll h1] at e;cases e
theorem Α.gq(b:Α w e v z)(c:z.ss m=N J):∃a,nx w J (of v (.ss m)) a:=by have:=b.part (.ss m);simp only[dq,c] at this;exact this
theorem Α.uH(d:Α w e v z){a:Cl}(f:z.cl m=N a):∃c b,lr w a (of v (.cl m)) c b:=by have:=d.part (.cl m);simp only[dq,f] at this;exact this
theorem Jn:prog.underlying 63=N (.map 3 102):=by kernel_rfl
theorem Jm:prog.underlying 62=N (.map 3 68):=by kernel_rfl
theorem ahD:∀a:Z,(zeroValue 102).run δ a= .ok (π A) a:=λ_=>by kernel_rfl
theorem ahH:∀a:Z,(zeroValue 68).run δ a= .ok (π A) a:=λ_=>by kernel_rfl
theorem Α.jP(a:Α w e v z)(hid:aF m):(cw 63 (ω (N e.sm)) (I E m) false).run δ w= .ok (((z.ss m).map λc=>Ζ c.q).getD (π A)) w:=by obtain⟨⟨d,_,b⟩,_⟩:=a.part .gE;exact b.look fI (t:=63) (e:=102) Jn (ahD w) (x:=m) hid
theorem Α.uL(a:Α w e v z)(hid:aF m):(cw 62 (ω (N e.cm)) (I E m) false).run δ w= .ok (((z.cl m).map λc=>Ζ c.q).getD (π A)) w:=by obtain⟨⟨d,_,b⟩,_⟩:=a.part .hY;exact b.look fI (t:=62) (e:=68) Jm (ahH w) (x:=m) hid
theorem rf(p:Α w e v z)(B:z.ss m=N J){d:Bs}(h:nx w J (of v (.ss m)) j){ar ae:Bool}(l:eR n J.fb f ar ae d)(k:Ψ w n j d):∃o,Α n e o {z with ss:=aP z.ss m (N {J with kept:=f,ar:=ar,ae:=ae})} /\Ε w n v o/\∀c,(v c=A\/w.heap.size<=c)->¬d c->o c=A:=by
 have y:¬d J.q:=λl=>by
  obtain b|b:=k.fresh _ l
  .exact h.q1 b
  have:=h.blk.lt;omega
 have hF:∀a,of v (.ss m) a↔(a=J.q\/j a):=h.ak
 have r:Ψ w n (of v (.ss m)) (λa=>a=J.q\/d a):=⟨k.keeps.mono λa g=> .inl ((hF a).2 (.inr g)),λa g=>by
  obtain rfl|g:=g
  .exact .inl ((hF _).2 (.inl rfl))
  obtain b|b:=k.fresh a g
  .exact .inl ((hF a).2 (.inr b))
  exact .inr b⟩
 have x:∃j,nx n {J with kept:=f,ar:=ar,ae:=ae} (λa=>a=J.q\/d a) j:=⟨d,{blk:=k.keeps.blk h.blk h.q1,front:=l,q1:=y,ak:=λ_=>fT}⟩;have:=p.put (s':= {z with ss:=aP z.ss m (N {J with kept:=f,ar:=ar,ae:=ae})}) (.ss m) r (by simp only[dq,bI];exact x) λF s=> ?_
 .refine⟨_,this.1,this.2,λc q u=> ?_⟩;unfold fH
  have t:¬(c=J.q\/d c):=λb=>by
   obtain rfl|b:=b
   .obtain h2|h2:=q
    .have:=(hF J.q).2 (.inl rfl);unfold of at this;rw[h2] at this;cases this
    have:=h.blk.lt;omega
   exact u b
  rw[WB t];split
  .rfl
  obtain h2|h2:=q
  .exact h2
  cases i:v c with
  |none=>rfl
  |some C=>have:=p.ik c C i;omega
 cases F with
 |gE=>have i:=IK z.ss m (N {J with kept:=f,ar:=ar,ae:=ae}) (λa=>Ζ a.q) (by rw[B];rfl);funext W G;simp only[dq,i]
 |ss a=>have g:a≠m:=λi=>s (by rw[i]);funext W G;simp only[dq,bU _ _ _ g]
 |_=>rfl
def lF(a:HS)(id:Int)(h:Ss)(d:Bool)(g:υ)(c:List BA)(b:Int)(e f:ε):HS:=
 {mM {a with ss:=aP a.ss id (N {h with ae:=d})} g c b e f with ο:=a.ο+2}
theorem Y0(c:HS)(id:Int)(i:Ss)(f:Bool)(a:υ)(e:List BA)(b:Int)(g h:ε):(lF c id i f a e b g h).row=c.row++((if(gv c.Κ a.Δ e).2 then[(a.Δ,0)] else[])++if b=13 then[(-1,a.id)] else[]):=by
 unfold lF mM cF;by_cases d:b=13
 .simp[d]
 simp[d]
theorem YY(b:HS)(id:Int)(h:Ss)(e:Bool)(c:υ)(a:List BA)(d:Int)(f g:ε):(lF b id h e c a d f g).Κ=(gv b.Κ c.Δ a).1:=by unfold lF mM cF;split<;>rfl
theorem YZ(a:HS)(id:Int)(d:Ss)(c:Bool)(i:υ)(f:List BA)(e:Int)(g h:ε):let b:=lF a id d c i f e g h;b.aE=a.aE/\b.last=a.last/\b.τ=a.τ/\b.Ι=a.Ι/\b.dl=a.dl/\b.cl=a.cl/\b.ss=aP a.ss id (N {d with ae:=c})/\b.ο=a.ο+2:=by unfold lF mM cF;split<;>exact⟨rfl,rfl,rfl,rfl,rfl,rfl,rfl,rfl⟩
theorem IQ{c:List BA}(k:Υ z)(n:h∈z.τ)(hid:h.2.id=m)(p:z.ss m=N J)(O:c.length<=16)(P:∀X∈c,X.size<=most)(A:C=13->J.kept=true)(s:f=(J.ae||decide (C=13)))(I:J.ar=true->c=[]):ci z (lF z m J f h.2 c C x i):=by
 have q:=D' h.2.Δ c z.Κ P;obtain⟨Q,R,S,T,V,W,E,u⟩:=YZ z m J f h.2 c C x i;have t:=Y0 z m J f h.2 c C x i;have o:=YY z m J f h.2 c C x i;have M:aF h.2.id:=by have:=k.bj h n;have:=k.last;unfold aF;omega
 have L:aF h.2.Δ:=by unfold aF;rcases k.eC h n with b|⟨j,l,_⟩<;>omega
 have K:J.ar=(h.2.Δ== -1):=by obtain⟨Y,j,_,r,_⟩:=k.state h n;rw[hid,p] at j;injection j with j;rw[j];exact r
 exact {
  aE:=Q
  last:=R
  τ:=S
  Ι:=T
  dl:=V
  cl:=W
  ο:=by rw[u];omega
  core:=λe=>by
   rw[E];by_cases a:e=m
   .subst a;rw[bI,p];rfl
   .rw[bU _ _ _ a]
  ae:=λe Y Z b g=>by
   rw[E] at g;by_cases a:e=m
   .subst a;rw[bI] at g;injection g with g;rw[p] at b;injection b with b;subst b g;refine⟨λa=> ?_,λa=> ?_,λa=> ?_⟩
    .show f=true;rw[s,a];rfl
    .have a:f=true:=a;rw[s,Bool.or_eq_true,decide_eq_true_eq] at a;obtain a|a:=a
     .exact .inl a
     exact .inr (by rw[t,ahM a,<-hid];simp)
    show f=J.ae;have:C≠13:=λb=>by rw[A b] at a;cases a
    rw[s];simp[this]
   .rw[bU _ _ _ a,b] at g;injection g with g;subst g;exact⟨λb=>b,.inl,λ_=>rfl⟩
  row:=by
   refine⟨_,t,λa d=> ?_,?_⟩
   .obtain d|d:=dO.1 d
    .split at d
     .rw[cj] at d;subst d;exact⟨L,by unfold aF;omega⟩
     cases d
    split at d
    .rw[cj] at d;subst d;exact⟨by unfold aF;omega,M⟩
    cases d
   .rw[u,cL];split<;>split<;>simp<;>omega
  op:=λe _=>by rw[o];exact q.op e
  shut:=λe _=>by rw[o];exact q.shut e
  whole:=λe _=>by rw[o];exact q.whole e
  out:=λe _=>by rw[o,u];have j:=q.out e;have l:c.length*most<=16*most:=pg _ O;refine aJ j (Nat.add_le_add_left (aJ l ?_) _);rw[show z.ο+2-z.ο=2 by omega];decide
  jK:=λy _=>by
   obtain⟨w,_⟩:=y.front m J p;have H:C≠13:=λb=>by rw[A b] at w;cases w
   rw[t,WB H]
   have:(gv z.Κ h.2.Δ c).2=false:=by
    obtain b|⟨j,l,r⟩:=k.eC h n
    .have:c=[]:=I (by rw[K,b];rfl);subst this;rfl
    have B:(z.Κ h.2.Δ.toNat).op=true:=by rw[k.open_ _ (by omega)];rw[show((h.2.Δ.toNat:Nat):Int)=h.2.Δ by omega];exact r
    obtain⟨F,G⟩:=y.Κ h.2.Δ.toNat (by omega) B;exact Jx h.2.Δ ⟨j,l⟩ c z.Κ B F G
   rw[this];simp}
theorem Α.dZ(b:Α w e v z)(d:w.heap.size<=y):v y=A:=by
 cases a:v y with
 |none=>rfl
 |some c=>have:=b.ik _ _ a;omega
theorem uZ(c:Α w e v z)(a b:Array ε):Y w ((w.alloc (ζ a 42)).alloc (ζ b 171)) γ/\η (Α ((w.alloc (ζ a 42)).alloc (ζ b 171)) e v z)/\η (Ε w ((w.alloc (ζ a 42)).alloc (ζ b 171)) v v)/\η (θ ((w.alloc (ζ a 42)).alloc (ζ b 171)) w.heap.size 42 a)/\η (θ ((w.alloc (ζ a 42)).alloc (ζ b 171)) (w.heap.size+1) 171 b)/\η (v w.heap.size=A)/\η (v (w.heap.size+1)=A):=
 have d:Y w ((w.alloc (ζ a 42)).alloc (ζ b 171)) γ:=((Y.refl w γ).alloc _).alloc _
 ⟨d,K (c.still d),K (Ε.bu v d),K ((θ.new w 42 a).alloc _),K (θ.dA w _ 171 b),K (c.dZ (Ο _)),K (c.dZ (cV _))⟩
theorem uE{s:HS}(a:s.τ.find? (λb=>b.2.id==m)=N h):h∈s.τ/\h.2.id=m:=by refine⟨List.mem_of_find?_eq_some a,?_⟩;have:=List.find?_some a;simpa using this
theorem Υ.zQ(e:Υ z)(c:h∈z.τ):rN h.2:=by obtain⟨d,a,_⟩:=e.aR h c;have b:=oT _ d;unfold aN at a b;simp at a b;unfold rN;omega
theorem xp(a:Nat×υ):rq (N a)=Μ a.2.cells:=rfl
theorem sy{p:Nat->Option Ν}(d:Α w e p z)(J:Υ z)(c0:z.ο+2<=aL)(id:Int)(hid:aF id)(O r:BA)(au:O.size<=100000)(c8:r.size<=most)(ac:Bool):ν δ 249 #[Ζ e.g,I E id,H O,H r,ι ac] w (lu w e p z 2):=by
 have l:=rH (d.part .table) id hid;have cJ:=d.aA.cell 2;simp only[bg,gz_] at cJ;cases S:z.τ.find? (λdm=>dm.2.id==id) with
 |none=>
  rw[S] at l;have cI:η (∀h,Y w h γ->∃g bi,Α h e g bi/\Ε w h p g/\ci z bi/\bi.ο<=z.ο+2):=K λh f=>⟨p,z,d.still f,Ε.bu p f,ci.refl z,by omega⟩;have l:=K l;have b5:e.g<w.heap.size:=d.aA.lt;clear d J S;unfold rq υ.cells υ.zero at*;simp only[Option.map_none,Option.getD_none,Option.isSome_none] at*;go_enter func249,ntmps249;go_wp2_with fail;refine l.out.mono ?_;rintro k b ⟨rfl,t⟩;have cm:=K t;clear t;go_wp2;go_end0
  exact⟨rfl,cI.out _ (cm.out.alloc _)⟩
 |some x=>
  obtain⟨W,bb⟩:=uE S;obtain⟨j,bc,c4,b1,b8⟩:=J.state x W;have c6:=J.zQ W;obtain⟨cc,b4,_⟩:=J.aR x W;rw[bb] at bc b8;rw[S,xp] at l;have l:=K l;have a5:=K J;have bt:=K d;have M:=K bc;have bv:=K (⟨W,bb⟩:x∈z.τ/\x.2.id=id);have dx:=K b1;have dv:=K (⟨oT _ cc,b4⟩:aN x.2.ψ=true/\aN x.2.ah=true);have b5:e.g<w.heap.size:=d.aA.lt;clear d J S bc W bb c4 b1 b8 cc b4;obtain⟨ek,c⟩:=x;simp only at*;unfold υ.cells at l;simp only[Option.isSome_some] at l;go_enter func249,ntmps249;go_wp2_with fail;refine l.out.mono ?_;rintro k b ⟨rfl,t⟩;have ce:=Ε.bu p (t.alloc (ζ c.cells 42));have F:=bt.out.still (t.alloc (ζ c.cells 42));have bA:θ (b.alloc (ζ c.cells 42)) b.heap.size 42 c.cells:=θ.new _ _ _;have X:p b.heap.size=A:=bt.out.dZ t.size;have cR:=F.aA.cell 7;simp only[bg,gz_] at cR;have cg:=F.jP hid;rw[M.out] at cg;simp only[gx,gK] at cg;obtain⟨dt,m⟩:=F.gq M.out;have dn:=m.blk.cell 0;simp only[mN,gz_] at dn;have d6:=m.blk.lt
  have bq:η (ν δ 311 #[Ζ j.fb,H O,H r,ι ac] (b.alloc (ζ c.cells 42)) λk h=>∃v i f u g,k=ξ (σ #[v,I E f])/\iP h g v i/\i.length<=16/\(∀r∈i,r.size<=most)/\(f=13->j.kept=true)/\u=(j.ae||decide (f=13))/\(j.ar=true->i=[])/\
   Α h e g {z with ss:=aP z.ss id (N {j with ae:=u})} /\Ε (b.alloc (ζ c.cells 42)) h p g/\g b.heap.size=A):=K (by
   cases T:j.ae with
   |true=>
    have Q:=m.front;rw[T] at Q;refine(YD Q O r ac).mono ?_;rintro k h ⟨rfl,rfl⟩;obtain⟨g,y,B,a4⟩:=rf F M.out m m.front (Ψ.refl _ _);refine⟨V A 0 0,[],11,true,g,rfl,⟨⟨A,0,rfl,by simp,λ_=>rfl,nofun⟩,nofun⟩,by simp,by simp,by simp,by simp,λ_=>rfl,?_,B,?_⟩
    .rw[T] at y;exact y
    exact a4 _ (.inl X) λau=>by have:=(m.ak _).2 (.inr au);unfold of at this;rw[X] at this;cases this
   |false=>
    have Q:=m.front;rw[T] at Q;refine(YA Q O r (by unfold Χ;omega) c8 ac).mono ?_;rintro k h ⟨v,d9,f,a4,rfl,cS,d4,cW,d3,av,c3,aq,c9⟩;obtain⟨i,c5,R,c7,b9⟩:=cS.list (by omega);obtain⟨g,y,B,bn⟩:=rf F M.out m c3 aq;refine⟨v,i,f,(j.ae||decide (f=13)),g,rfl,pN c7 b9 λa7 b2=>bn a7 ?_ (c9 a7 b2),by omega,R,av,by rw[T],λbN=>kG.1 (by rw[c5];exact cW bN),?_,B,?_⟩
    .exact .inr ((b9.lt a7 b2).1)
    .rw[T];exact y
    exact bn _ (.inl X) λau=>by
     obtain h1|h1:=aq.fresh _ au
     .have:=(m.ak _).2 (.inr h1);unfold of at this;rw[X] at this;cases this
     .simp at h1;omega)
  have bk:=K bA;have cq:=K ce;have d7:e.g<b.heap.size:=dQ b5 t.size;unfold υ.cells at*;clear t F bA m ce;go_wp2_with fail;refine bq.out.mono ?_;rintro k dp ⟨v,i,f,u,eb,rfl,a9,ba,R,av,b7,b0,bF,bd,cf⟩;have s:θ dp b.heap.size 42 _:=((bd.free bk.out.lt X).1).trans bk.out;have ad:=s.cell 0;have al:=s.cell 1;have am:=s.cell 2;have an:=s.cell 3;have ao:=s.cell 4;have ap:=s.cell 5;simp only[gz_] at ad al am an ao ap;have bz:=K (IM bF ⟨a5.out.iu,a5.out.rows⟩ (by show z.ο<aL;omega) c a9 ba R f);obtain⟨ef,ec,hv,_⟩:=a9.strs;subst hv;have a3:=K s;have bw:=K cf;have cs:=K (cq.out.trans bd);have P:=K (⟨ba,R,av,b7,b0⟩:i.length<=16/\(∀r∈i,r.size<=most)/\(f=13->j.kept=true)/\u=(j.ae||decide (f=13))/\(j.ar=true->i=[]));unfold υ.cells at*;clear a9 bF bd s cf ba R av b7 b0;go_wp2_with fail;refine bz.out.mono ?_;rintro k n ⟨rfl,L,a1,a2,a8,a0⟩;have o:θ n b.heap.size 42 _:=((a0.free a3.out.lt bw.out).1).trans a3.out;have dk:L b.heap.size=A:=(a0.free a3.out.lt bw.out).2;have ad:=o.cell 0;have al:=o.cell 1;have am:=o.cell 2;have an:=o.cell 3;have ao:=o.cell 4;have ap:=o.cell 5;simp only[gz_] at ad al am an ao ap;have G:Α n e L (lF z id j u c i f a1 a2):=a8.more (n:=z.ο+2) (by unfold mM cF;split<;>exact cV _);have be:=cs.out.trans a0;have cb:ci z (lF z id j u c i f a1 a2):=IQ a5.out bv.out.1 bv.out.2 M.out P.out.1 P.out.2.1 P.out.2.2.1 P.out.2.2.2.1 P.out.2.2.2.2;have d2:(lF z id j u c i f a1 a2).ο=z.ο+2:=rfl;obtain⟨dg,b6,b3⟩:=a8.part .box;have b6:dg<=z.ο+1:=by refine aJ b6 ?_;unfold mM cF;split<;>exact Ο _
  have bB:=G.aA.cell 3;have bE:=G.aA.cell 4;simp only[bg,gz_] at bB bE;generalize lF z id j u c i f a1 a2=q at*;have cl:=K G;have ct:=K be;have bx:=K cb;have ck:η (∀a6,Y n a6 γ->∀ab:BA,ab.size<=3000->ν δ 312 #[Ζ e.xb,H ab,I E q.Ι] a6 λk h=>(∃cD,k=ξ (I E cD))/\∃g,Α h e g q/\Ε w h p g/\Ε n h L g):=K λa6 aw ab bN=>by refine(Zr ((vO _ _).keeps b3 aw λ_ _ d=>d) ab q.Ι (by unfold Χ;omega) (by unfold aL at c0;omega)).mono ?_;rintro k h ⟨c2,ea,a4,c1,aq,d5⟩;obtain⟨g,y,B⟩:=(G.still aw).Di (by omega) c1 aq;exact⟨c2,g,y,(be.still aw).trans B,(Ε.bu L aw).trans B⟩
  have da:b.heap.size<n.heap.size:=o.lt;have d8:e.g<n.heap.size:=G.aA.lt;have cn:=o;have cx:=K dk;clear a8 a0 G be cb b3 o bz bq l;by_cases d1:c.Δ<0
  .have ch:=K (vK c c6);unfold υ.cells at*;have cy:η (∀a,Y n a γ->(a.cell? (U e.g 3 A)=N (Ζ e.xb)/\a.cell? (U e.g 4 A)=N (I E q.Ι)/\a.cell? (U b.heap.size 0 A)=N (I E c.id)/\a.cell? (U b.heap.size 1 A)=N (H c.ψ)/\a.cell? (U b.heap.size 2 A)=N (H c.ah)/\a.cell? (U b.heap.size 3 A)=N (H c.ax)/\a.cell? (U b.heap.size 4 A)=N (I E c.Δ)/\a.cell? (U b.heap.size 5 A)=N (I E c.aH))):=K λa f=>⟨az f bB λd=>d,az f bE λd=>d,az f ad λd=>d,az f al λd=>d,az f am λd=>d,az f an λd=>d,az f ao λd=>d,az f ap λd=>d⟩;have cA:η (∀a bf,Α a e bf q->Ε n a L bf->(a.cell? (U e.g 3 A)=N (Ζ e.xb)/\a.cell? (U e.g 4 A)=N (I E q.Ι)/\a.cell? (U b.heap.size 0 A)=N (I E c.id)/\a.cell? (U b.heap.size 1 A)=N (H c.ψ)/\a.cell? (U b.heap.size 2 A)=N (H c.ah)/\a.cell? (U b.heap.size 3 A)=N (H c.ax)/\a.cell? (U b.heap.size 4 A)=N (I E c.Δ)/\a.cell? (U b.heap.size 5 A)=N (I E c.aH))):=K λa bf br co=>by have C:θ a b.heap.size 42 _:=((co.free da cx.out).1).trans cn;exact⟨br.aA.cell 3,br.aA.cell 4,C.cell 0,C.cell 1,C.cell 2,C.cell 3,C.cell 4,C.cell 5⟩
   go_wp2
   go_region_held3 (λa=>a.cell? (U e.g 3 A)=N (Ζ e.xb)/\a.cell? (U e.g 4 A)=N (I E q.Ι)/\a.cell? (U b.heap.size 0 A)=N (I E c.id)/\a.cell? (U b.heap.size 1 A)=N (H c.ψ)/\a.cell? (U b.heap.size 2 A)=N (H c.ah)/\a.cell? (U b.heap.size 3 A)=N (H c.ax)/\a.cell? (U b.heap.size 4 A)=N (I E c.Δ)/\a.cell? (U b.heap.size 5 A)=N (I E c.aH))
    (first|(with_reducible exact cA.out _ _ bs cv)|(refine cy.out _ ?_;(with_reducible first|assumption|exact(Y.refl _ _).drew)))
    (first|(go_at_call 44;refine(ch.out _).mono ?_;rintro k ds ⟨⟨cB,rfl,cU,_⟩,dd⟩;have dc:Y n ds γ:=(Y.refl n γ).drew.trans dd Η)|(go_at_call 312;refine(ck.out _ dc cB cU).mono ?_;rintro k eg ⟨⟨d0,rfl⟩,dl,bs,cu,cv⟩))
   all_goals go_end0
   all_goals exact⟨rfl,dl,q,bs,cu,bx.out,by omega⟩
  go_wp2;go_end0
  exact⟨rfl,L,q,cl.out,ct.out,bx.out,by omega⟩
def na(g:Z)(v:ε)(b:List Int):Prop:=
 ∃c f,v=V c b.length f/\b.length<=1000000/\(c=A->b=[])/\∀a,c=N a->a.spot=A/\∀d e,b[d]? =N e->g.cell? ⟨a.block,a.off+d,A⟩=N (I E e)
structure yj (w:Z) (own:Nat->Option Ν) (v:ε) (l:List Int):Prop where
 ints:na w v l
 free:∀b,dS v=N b->own b=A/\b<w.heap.size
theorem na.same{e:List Int}(g:na w x e)(j:∀b,dS x=N b->n.heap[b]? =w.heap[b]?):na n x e:=by obtain⟨m,f,rfl,h,i,d⟩:=g;refine⟨m,f,rfl,h,i,λa c=>⟨(d a c).1,λl o k=> ?_⟩⟩;have:=(d a c).2 l o k;unfold fN at this⊢;simp only at this⊢;rw[j a.block (by rw[c];rfl)];exact this
theorem yj.aW{e:List Int}(b:yj w v x e)(d:Ε w n v s):yj n s x e:=
 ⟨b.ints.same λa c=>(d.free (b.free a c).2 (b.free a c).1).1,λa c=>⟨(d.free (b.free a c).2 (b.free a c).1).2,dQ (b.free a c).2 d.keeps.size⟩⟩
def KT(c:HS)(d:BA)(a:List Int):Prop:=(∀id∈a,∃b∈c.τ,b.2.id=id/\same b.2.ψ d=true)/\a.length<=4
theorem ady(a:Α w e v z)(l:w.cell? (U y 0 A)=N (Ζ e.g))(hid:aF m)(b:z.ss m=N J):ν δ 324 #[I E m,Ζ y] w λf j=>f=ξ (ι (!J.iK))/\∃h,j=w.drewN h:=by have g:=a.aA.cell 7;simp only[bg,gz_] at g;have d:=a.jP hid;rw[b] at d;simp only[gx,gK] at d;obtain⟨k,c⟩:=a.gq b;have i:=c.blk.cell 1;simp only[mN,gz_] at i;clear a c b;go_enter func324,ntmps324;go_wp2;go_ret;exact⟨rfl,0,rfl⟩
theorem ZE(a:Z)(c:ε):ν δ 367 #[V A 0 0,c] a λb e=>b=ξ (I E (-1))/\e=a:=by
 go_enter func367,ntmps367;go_wp2;go_loopw [5,8] (λ_ d wr=>d=I E 0/\wr=a) (λ_ _ _=>0)
 case atStart=>exact⟨rfl,rfl⟩
 obtain⟨rfl,rfl⟩:=hrel;go_wp2;all_goals(go_ret;exact⟨rfl,rfl⟩)
theorem WY(a:Z)(c:ε):ν δ 323 #[V A 0 0,c] a λb e=>b=ξ (V A 0 0)/\e=a:=by have d:=K (ZE a c);go_enter func323,ntmps323;go_wp2_with fail;refine d.out.mono ?_;rintro b f ⟨rfl,rfl⟩;go_wp2;all_goals(go_ret;exact⟨rfl,rfl⟩)
theorem NY{i:Array ε}{Q:Int->Prop}:∀e,(∀a,a<e->∃v,i[a]? =N v/\∃b:Int,v=I E b/\Q b)->∃f:List Int,f.length=e/\(∀(a:Nat) (b:Int),f[a]? =N b->i[a]? =N (I E b))/\∀b∈f,Q b
 |0,_=>⟨[],rfl,λa b g=>by simp at g,nofun⟩
 |e+1,g=>by
  obtain⟨f,j,k,l⟩:=NY e λa c=>g a (by omega);obtain⟨v,hv,b,rfl,m⟩:=g e (by omega);refine⟨f++[b],by simp[j],λa h c=> ?_,λh d=> ?_⟩
  .rw[List.getElem?_append] at c;split at c
   .exact k a h c
   rename_i n;have:a-f.length=0:=by have:=(iN.1 c).1;simp at this;omega
   rw[this] at c;simp at c;subst c;rw[show a=e by omega];exact hv
  .obtain d|d:=dO.1 d
   .exact l h d
   rw[cj] at d;subst d;exact m
theorem oN{a b:BA}(c:same a b=true):a=b:=(Lib.bytes_beq_iff a b).1 c
theorem Dp(a:BA):same a a=true:=by unfold same;simp
theorem OI:∀(a:List (Nat×υ)),(∀b∈a,b.2.ψ∈us)->a.length<=(us.map λc=>(a.filter λb=>same b.2.ψ c).length).sum
 |[],_=>by simp
 |b::a,k=>by
  have n:=OI a λd m=>k d (eZ _ m);have l:=k b (dP ..);have f:∀c,(a.filter λd=>same d.2.ψ c).length+(if same b.2.ψ c then 1 else 0)=((b::a).filter λd=>same d.2.ψ c).length:=λc=>by rw[List.filter_cons];split<;>simp
  simp only[us,lm,nX,xV,AN] at n⊢;simp only[us,dD,List.not_mem_nil,or_false] at l;have g:=f dY;have h:=f eV;have i:=f cy;have j:=f aO;simp only[eI];obtain e|e|e|e:=l
  .have:=Dp dY;rw[e,this] at g;simp only[if_true] at g;omega
  .have:=Dp eV;rw[e,this] at h;simp only[if_true] at h;omega
  .have:=Dp cy;rw[e,this] at i;simp only[if_true] at i;omega
  .have:=Dp aO;rw[e,this] at j;simp only[if_true] at j;omega
theorem jl(a:Υ z):z.τ.length<=16:=by have b:=OI z.τ λd c=>(a.aR d c).1;have:=a.ij dY;have:=a.ij eV;have:=a.ij cy;have:=a.ij aO;simp only[us,lm,nX,xV,AN] at b;omega
def Uj(g:Z)(d:Nat->Option Ν)(e:HS)(f:BA)(c:aI)(b:Z):Prop:=
 ∃v a,c=ξ v/\yj b d v a/\KT e f a/\Y g b γ
theorem zN{h:Nat->Option Ν}(p:Α w e h z)(J:Υ z)(b:BA):ν δ 268 #[Ζ e.g,H b] w (Uj w h z b):=by
 have L:Y w (w.alloc (ζ #[Ζ e.g] 24)) γ:=(Y.refl w γ).alloc _;have x:=p.still L;have an:z.τ.length<=1000:=by have:=jl J;omega
 have a4:=K (Bg (x.part .table) an b);have a7:=x.aA.cell 2;simp only[bg,gz_] at a7;have bq:e.g<w.heap.size:=p.aA.lt;have s:=K p;have o:=K J;have a1:=K (θ.new w 24 #[Ζ e.g]);have a6:∀args w,(callFunc 324 args).run δ w= .ok (.enter 324 args) w:=enters_of func324 (by kernel_rfl) rfl;clear p J x an;have P:=K L;clear L;go_enter func268,ntmps268;go_wp2_with fail;refine a4.out.mono ?_;rintro c a0 ⟨v,rfl,M,k⟩;have n:=P.out.trans k Η;have y:=s.out.still n;have t:=k.blk a1.out id;obtain⟨rfl,ao⟩|⟨i,S,T,rfl,ab,bd,be,bb,bv,aq⟩:=M.2
 .have bt:(z.τ.filter λd=>same d.2.ψ b).length=0:=ao;have l:=K (WY a0 (af (.func 324) #[] #[Ζ w.heap.size]));have m:η (Y w a0 γ):=K n;clear k n y t M ao;go_wp2_with fail;refine l.out.mono ?_;rintro c O ⟨rfl,rfl⟩;go_wp2;go_ret;exact⟨_,[],rfl,⟨⟨A,0,rfl,by simp,λ_=>rfl,nofun⟩,nofun⟩,⟨nofun,by simp⟩,m.out⟩
 have br:w.heap.size<=i:=by have:=(P.out.trans k Η).size;have:=ab;simp at this;omega
 have C:∀g,h i≠N g:=λg c=>by have:=s.out.ik _ _ c;omega
 let Q:ε->Prop:=λv=>∃f:Int,v=I E f/\∃a∈z.τ,a.2.id=f/\same a.2.ψ b=true
 have W:∀j,j<(z.τ.filter λd=>same d.2.ψ b).length->∃v,T[j]? =N v/\Q v:=λj r=>by
  have F:=eA r;have au:=cT r;generalize(z.τ.filter λd=>same d.2.ψ b)[j]=a at*;rw[List.mem_filter] at F;refine⟨I E a.2.id,?_,a.2.id,rfl,a,F.1,rfl,F.2⟩;have:(T.toList.take ((z.τ.filter λd=>same d.2.ψ b).length*1))[j]? =N (I E a.2.id):=by rw[aq];unfold sN;rw[List.getElem?_map,au];rfl
  rw[kD,ahM (by omega)] at this;simpa using this
 have l:=WX (P:=Q) bd (by omega) be (by unfold Χ at bb;omega) W (λv hv=>⟨hv.choose,hv.choose_spec.1⟩) (λv=>match v with| I _ f=> !((z.ss f).map (·.iK)).getD false|_=>false) 324 #[Ζ w.heap.size] a6 λR aw v hv=>by
  obtain⟨f,rfl,a,ap,hid,_⟩:=hv;obtain⟨bz,G,_⟩:=o.out.state a ap;rw[hid] at G;have bc:aF f:=by have:=o.out.bj a ap;have:=o.out.last;unfold aF;omega
  have a8:Α R e h z:=y.G7 aw λbi c=>by
   subst c;refine⟨?_,by have:=s.out.eE.size;omega⟩;cases c:h bi with
   |none=>rfl
   |some g=>exact ahN c (C g)
  have ba:R.cell? (U w.heap.size 0 A)=N (Ζ e.g):=by have:=(aw.blk t (by have:=k.size;have:=ab;simp at this;omega)).cell 0;simpa using this
  have:=ady a8 ba bc G;simp only[G,gx,gK];exact this
 have l:=K l;have a3:=K n;have q:(z.τ.filter λd=>same d.2.ψ b).length<=4:=o.out.ij b
 have ac:h i=A:=by
  cases c:h i with
  |none=>rfl
  |some g=>exact ahN c (C g)
 have a2:=K ac;have q:=K q;clear k n y t M aq W C ac;generalize(z.τ.filter λd=>same d.2.ψ b).length=bx at*;go_wp2_with fail;refine l.out.mono ?_;rintro c O ⟨av,bn,rfl,bs,u,bw,X,bf⟩;obtain⟨g,ad,al,am⟩:=NY (Q:=λf=>∃a∈z.τ,a.2.id=f/\same a.2.ψ b=true) av X
 have m:η (yj O h (V (N (U i 0 A)) av S) g/\KT z b g/\Y w O γ):=K (by
  refine⟨⟨⟨N (U i 0 A),S,by rw[ad],by have:=q.out;omega,nofun,λbk B=> ?_⟩,λa5 a9=> ?_⟩,⟨am,by have:=q.out;omega⟩,a3.out.trans bf λf au=> .inr (by omega)⟩
  .injection B with B;subst B;exact⟨rfl,λj f r=>by rw[eP,u.cell];exact al j f r⟩
  have c:i=a5:=cr a9;subst c;exact⟨a2.out,u.lt⟩)
 clear X u ad al am;go_wp2;go_ret;exact⟨_,g,rfl,m.out.1,m.out.2.1,m.out.2.2⟩
theorem Kl(h:aT w)(a:BA)(j:a.size<=10000):ν δ 294 #[H a] w λc y=>(∃(f:BA) (b:Int),c=ξ (σ #[H f,I E b])/\f.size<=6*a.size)/\Y w y γ:=by
 have t:=K (uj a (by omega) w h);have HS:=K j;clear h j;generalize gD a=b at*;go_enter func294,ntmps294;go_wp2_with fail;refine t.out.mono ?_;rintro c z ⟨rfl,l⟩;have d:=K l;clear l;by_cases g:b=0
 .have u:(b !=0)=false:=by simp[g]
  go_wp2_with fail;refine(X5 z).mono ?_;rintro c F ⟨r,B,C,rfl,e,m⟩;have s:=K (acX e a HS.out);have i:=e.low;have q:=K (d.out.trans m Η);have p:=K (aJ d.out.size i);clear e m i;go_wp2_with fail;refine s.out.mono ?_;rintro c G ⟨⟨f,rfl,x⟩,n⟩;have o:=K (q.out.trans n λA k=> .inr (by have:=p.out;have k:A=r:=k;omega));clear n;go_wp2;go_ret2;exact⟨⟨_,_,rfl,x⟩,o.out⟩
 have u:(b !=0)=true:=by simp[g]
 go_wp2;go_ret2;exact⟨⟨_,_,rfl,ai _⟩,d.out⟩
theorem DY:prog.underlying 346=N (.map 9 4):=by kernel_rfl
theorem Sa:∀a:Z,Sem.run δ (zeroValue 4) a= .ok (ι false) a:=λ_=>by kernel_rfl
inductive fW:El->Prop
 |mk (n:Bt) (a:At) (t:Bt) (ks:List El):n.length<=10000->a.length<=1000->(∀x∈a,x.1.length<=10000/\x.2.length<=10000)->t.length<=10000->ks.length<=1000->(∀k∈ks,fW k)->fW (.mk n a t ks)
def bM(a:El)(b c:ε):ε:=Μ #[H (D a.name.toArray),b,H (D a.Β.toArray),c]
def oh(d:Z)(b:aI)(c:Z):Prop:=(∃a:Bool,b=ξ (ι a))/\Y d c γ
theorem iV(a:Bt):((D a.toArray):BA).size=a.length:=by show a.toArray.size=_;simp
def nk(e:Z)(d c:Nat):Prop:=∃a,aC bR e d a c/\∀f v,a f=N v->∃b,v=ι b
theorem nk.keeps{w a:Z}{F:Bs}(c:nk w y k)(b:Y w a F)(f:¬F y):nk a y k:=by obtain⟨g,d,e⟩:=c;exact⟨g,d.keeps b f,e⟩
theorem nk.look(c:nk w y k)(x:BA)(g:x.size<=1000000):∃b,(cw 346 (ω (N y)) (H x) false).run δ w= .ok (ι b) w:=by
 obtain⟨f,d,e⟩:=c;have:=d.look dG (t:=346) (e:=4) DY (Sa w) (x:=x) (by show x.size<=Χ;unfold Χ;omega);cases a:f x with
 |none=>rw[a] at this;exact⟨_,this⟩
 |some v=>obtain⟨b,rfl⟩:=e x v a;rw[a] at this;exact⟨_,this⟩
theorem nk.store(f:nk w y k)(x:BA)(n:x.size<=1000000)(m:k<=1000000)(c:Bool):∃b,(Instr.mapUpdate 346 (ω (N y)) (H x) (ι c)).run δ w= .ok () b/\nk b y (k+1)/\Y w b (·=y):=by
 obtain⟨o,g,h⟩:=f;obtain⟨b,l,j,i⟩:=g.store dG (t:=346) (e:=4) DY (by unfold Χ;omega) (x:=x) (by show x.size<=Χ;unfold Χ;omega) (ι c);refine⟨b,l,⟨_,j,λd v a=> ?_⟩,i⟩;by_cases e:d=x
 .subst e;rw[dJ] at a;injection a with a;exact⟨c,a.symm⟩
 rw[dI _ _ _ _ e] at a;exact h d v a
theorem Yp(e:bX w j Q x i)(b4:fW Q)(S:aT w):ν δ 350 #[bM Q x i] w (oh w):=by
 obtain⟨⟨n,m,rfl⟩,ab,X,rfl⟩:=e.form;have bf:=K e.Γ;have cl:= @run_makeMap δ;obtain⟨F,b,s,r,b5,cc,an,t1,p,q⟩:=b4;simp only[bM,El.name,El.Β,El.Γ,El.Ξ] at*;have a2:Y w (w.alloc (ζ #[H (D F.toArray),V n b.length m,H (D s.toArray),V ab r.length X] 84)) γ:=(Y.refl w γ).alloc _;have bv:=K (λc (J:Y w c γ)=>uj ⟨s.toArray⟩ (by rw[iV];omega) c (S.still J));have bq:=K (λc=>yx ⟨F.toArray⟩ (by rw[iV];omega) c);generalize gD ⟨s.toArray⟩=ac at*;generalize iH ((D F.toArray):BA).data.toList=nm at*;have cm:∀(d:Bool) (w:Z),(xM .not (ι d)).run δ w= .ok (ι (!d)) w:=λ_ _=>rfl;have bi:=K S;have bd:=K an;have ch:(b.length:Int)<=1000:=by omega
 have ck:(r.length:Int)<=1000:=by omega
 clear S e an q p b5 t1;go_enter func350,ntmps350;have am:θ (w.alloc (ζ #[H (D F.toArray),V n b.length m,H (D s.toArray),V ab r.length X] 84)) w.heap.size 84 _:=θ.new _ _ _;have bn:=K a2;have t:=K am;clear a2 am;go_wp2_with fail;refine(bq.out _).mono ?_;rintro Q G ⟨rfl,p⟩;have l:=K (bn.out.trans p Η);have o:=p.blk t.out id;have au:G.cell? (U w.heap.size 1 A)=N (V n b.length m):=by rw[o.cell];rfl
 have bB:G.cell? (U w.heap.size 2 A)=N (H (D s.toArray)):=by rw[o.cell];rfl
 have bE:G.cell? (U w.heap.size 3 A)=N (V ab r.length X):=by rw[o.cell];rfl
 have cb:=K o;clear p o t;cases nm with
 |false=>go_wp2;go_ret;exact⟨⟨_,rfl⟩,l.out⟩
 |true=>
  by_cases cg:(6:Int)<b.length
  .go_wp2;go_ret;exact⟨⟨_,rfl⟩,l.out⟩
  by_cases cf:(16:Int)<r.length
  .go_wp2;go_ret;exact⟨⟨_,rfl⟩,l.out⟩
  have bw:=K (bv.out G l.out);go_wp2_with fail;refine bw.out.mono ?_;rintro Q f ⟨rfl,q⟩;have L:=K (l.out.trans q Η);by_cases a0:ac=0
  .have b2:(ac !=0)=false:=by simp[a0]
   have c21:f.cell? (U w.heap.size 1 A)=N (V n b.length m):=az q au id;have c31:(f.alloc (.map #[] 0)).cell? (U w.heap.size 1 A)=N (V n b.length m):=az ((Y.refl f γ).alloc _) c21 id;clear q au bB bE c21;go_wp2;have bz:η (nk (f.alloc (.map #[] 0)) f.heap.size 0/\Y w (f.alloc (.map #[] 0)) γ):=K ⟨⟨_,aC.made bR f,λ_ _ e=>by cases e⟩,L.out.alloc _⟩;have bk:=K L.out.size;generalize f.alloc (.map #[] 0)=ct at*;generalize f.heap.size=C at*;go_loopw [32,5] (λT _ wr=>∃a:Nat,T=I E a/\a<=b.length/\η (nk wr C a/\Y w wr γ)) (λT _ _=>b.length-(jE T).toNat)
   case atStart=>exact⟨0,rfl,ai _,bz⟩
   obtain⟨a,rfl,av,u⟩:=hrel;by_cases aw:a<b.length
   .have b1:(a:Int)<b.length:=by omega
    obtain⟨d,h⟩:∃d,b[a]? =N d:=⟨_,cT aw⟩;obtain⟨ao,a4,_,_,_,⟨ce,Q,_,_⟩,R⟩:=(bf.out.keeps u.out.2 λ_ _ e=>e).cell aw;injection Q with bF bN b0;subst bF b0;obtain⟨bb,bc⟩:=yI b a d h;have b7:wr.cell? ⟨ao,a4+a*2,A⟩=_:=R _ _ bb;have b8:wr.cell? ⟨ao,a4+a*2+1,A⟩=_:=R _ _ bc;obtain⟨a5,a6⟩:=bd.out d (ln h);clear R bb bc h bN;obtain⟨g,k⟩:=d;simp only at b7 b8 a5 a6;have W:Y wr (wr.alloc (ζ #[H (D g.toArray),H (D k.toArray)] 231)) γ:=(Y.refl wr γ).alloc _;have aq:θ (wr.alloc (ζ #[H (D g.toArray),H (D k.toArray)] 231)) wr.heap.size 231 #[H (D g.toArray),H (D k.toArray)]:=θ.new _ _ _;have al:=u.out.1.keeps W id;obtain⟨b9,cn⟩:=al.look ⟨g.toArray⟩ (by rw[iV];omega);have O:=K (Φ (u.out.2.trans W Η) al);have t:=K aq;have br:=K (λc=>yx ⟨g.toArray⟩ (by rw[iV];omega) c);have bx:=K (λc (J:Y w c γ)=>uj ⟨k.toArray⟩ (by rw[iV];omega) c (bi.out.still J));have bA:=K (λc a (e:nk c C a) av=>e.store ⟨g.toArray⟩ (by rw[iV];omega) av true);generalize gD ⟨k.toArray⟩=ad at*;generalize iH ((D g.toArray):BA).data.toList=b6 at*;clear W aq al a5 a6;cases b9 with
    |true=>go_wp2;go_ret;exact⟨⟨_,rfl⟩,O.out.1⟩
    |false=>
     go_wp2_with fail;refine(br.out _).mono ?_;rintro Q a8 ⟨rfl,z⟩;have P:=z.blk t.out id;have y:=K (Φ (O.out.1.trans z Η) (O.out.2.keeps z id));have cq:a8.cell? (U wr.heap.size 1 A)=N (H (D k.toArray)):=by rw[P.cell];rfl
     have be:=K P;clear z P;cases b6 with
     |false=>go_wp2;go_ret;exact⟨⟨_,rfl⟩,y.out.1⟩
     |true=>
      have bt:=K (bx.out a8 y.out.1);go_wp2_with fail;refine bt.out.mono ?_;rintro Q a9 ⟨rfl,B⟩;have ap:=B.blk be.out id;have M:=K (Φ (y.out.1.trans B Η) (y.out.2.keeps B id));have cs:a9.cell? (U wr.heap.size 0 A)=N (H (D g.toArray)):=by rw[ap.cell];rfl
      clear B ap;by_cases a1:ad=0
      .have b3:(ad !=0)=false:=by simp[a1]
       obtain⟨ba,co,a7,a3⟩:=bA.out a9 a M.out.2 (by omega);have bs:η (nk ba C (a+1)/\Y w ba γ):=K ⟨a7,M.out.1.trans a3 λd h=> .inr (by have:=bk.out;have h:d=C:=h;omega)⟩;clear a7 a3;go_wp2;go_roundw
       case rel=>exact⟨a+1,by go_num,by omega,bs⟩
       case measure=>simp[jE];omega
      have b3:(ad !=0)=true:=by simp[a1]
      go_wp2;go_ret;exact⟨⟨_,rfl⟩,M.out.1⟩
   have b1:¬(a:Int)<b.length:=by omega
   go_wp2;go_ret;exact⟨⟨_,rfl⟩,u.out.2⟩
  have b2:(ac !=0)=true:=by simp[a0]
  go_wp2;go_ret;exact⟨⟨_,rfl⟩,L.out⟩
theorem ZJ{c:List KV}(R:bL w j 4 (V b c.length y) c.length (gU c))(n:∀a∈c,bX w j a.1 a.2.1 a.2.2)(t:c.length<=1000)(i:Nat)(B:Array ε)(ap:∀args w,(callFunc i args).run δ w= .ok (.enter i args) w)(x:∀m,Y w m γ->∀a∈c,ν δ i (#[bM a.1 a.2.1 a.2.2]++B) m (oh m)):ν δ 375 #[V b c.length y,af (.func i) #[] B] w λh W=>(∃T:Int,h=ξ (I E T))/\Y w W γ:=by
 have M:=K x;have L:=K n;clear x n;have p:=Y.refl w γ;go_enter func375,ntmps375;go_wp2;go_loopw [5,8] (λ_ o wr=>∃a:Nat,o=I E a/\a<=c.length/\Y w wr γ) (λ_ o _=>c.length-(jE o).toNat)
 case atStart=>exact⟨0,rfl,ai _,p⟩
 clear p;obtain⟨a,rfl,n,e⟩:=hrel;by_cases u:a<c.length
 .have S:(a:Int)<c.length:=by omega
  obtain⟨d,k⟩:∃d,c[a]? =N d:=⟨_,cT u⟩;obtain⟨g,l,_,_,_,⟨ac,h,_,_⟩,f⟩:=(R.stay e.size λd _ t=>e.block d t id).cell u;injection h with P ao Q;subst P Q;obtain⟨C,F,G,J⟩:=Ho c a d k;have ad:wr.cell? ⟨g,l+a*4,A⟩=_:=f _ _ C;have al:wr.cell? ⟨g,l+a*4+1,A⟩=_:=f _ _ F;have am:wr.cell? ⟨g,l+a*4+2,A⟩=_:=f _ _ G;have an:wr.cell? ⟨g,l+a*4+3,A⟩=_:=f _ _ J;obtain⟨⟨ab,X,r⟩,au,aq,s⟩:=(L.out d (ln k)).form;have q:=K (M.out wr e d (ln k));obtain⟨a0,aw,a1⟩:=d;simp only at r s;subst r s;simp only[bM] at q;clear f C F G J k;go_wp2_with fail;refine q.out.mono ?_;rintro h av ⟨⟨O,rfl⟩,z⟩;cases O with
  |false=>
   go_wp2;go_roundw
   case rel=>exact⟨a+1,by go_num,by omega,e.trans z Η⟩
   case measure=>simp[jE];omega
  |true=>go_wp2;all_goals(go_ret;exact⟨⟨_,rfl⟩,e.trans z Η⟩)
 obtain rfl:a=c.length:=by omega
 have S:¬(c.length:Int)<c.length:=by omega
 go_wp2;all_goals(go_ret;exact⟨⟨_,rfl⟩,e⟩)
theorem Wz{S:Bs}{a:List KV}(g:bL w S 4 (V b a.length y) a.length (gU a))(h:∀c∈a,bX w S c.1 c.2.1 c.2.2)(l:a.length<=1000)(d:Nat)(f:Array ε)(k:∀args w,(callFunc d args).run δ w= .ok (.enter d args) w)(i:∀e,Y w e γ->∀c∈a,ν δ d (#[bM c.1 c.2.1 c.2.2]++f) e (oh e)):ν δ 351 #[V b a.length y,af (.func d) #[] f] w (oh w):=by have j:=K (ZJ g h l d f k i);clear g h i;go_enter func351,ntmps351;go_wp2_with fail;refine j.out.mono ?_;rintro n p ⟨⟨o,rfl⟩,m⟩;go_wp2;go_ret;exact⟨⟨_,rfl⟩,m⟩
theorem abI{d:Nat}{h:Option Addr}{e g f:Nat}(hF:w.cell? (U y 0 A)=N (af (.func 348) #[] #[π (N (U y 0 A))]))(i:w.cell? (U k 0 A)=N (I E d))(u:d<=100)(j:∀c,Y w c γ->ν δ 348 #[Μ #[H p,V b e M,H L,V h g f],I E (d+1:Nat),π (N (U y 0 A))] c (oh c)):ν δ 349 #[Μ #[H p,V b e M,H L,V h g f],π (N (U y 0 A)),π (N (U k 0 A))] w (oh w):=by
 have a:Y w (w.alloc (ζ #[H p,V b e M,H L,V h g f] 84)) γ:=(Y.refl w γ).alloc _;have t:=az a hF id;have s:=az a i id;have m:=K (j _ a);have n:=K a;have x:wrap64 ((d:Int)+1)=((d+1:Nat):Int):=by rw[IntWalk.wrap64_in _ ⟨by omega,by omega⟩];rfl
 have z:∀(l:Bool) (w:Z),(xM .not (ι l)).run δ w= .ok (ι (!l)) w:=λ_ _=>rfl;clear j a hF i;go_enter func349,ntmps349;go_wp2_with fail;refine m.out.mono ?_;rintro r B ⟨⟨q,rfl⟩,o⟩;go_wp2;go_ret;exact⟨⟨_,rfl⟩,n.out.trans o Η⟩
theorem XL:∀args a,(callFunc 349 args).run δ a= .ok (.enter 349 args) a:=enters_of func349 (by kernel_rfl) rfl
theorem ada(a0:fW Q):∀ {a:Z} {S:Bs} {u z:ε} {F:Nat} {d:Nat},bX a S Q u z->aT a->(a.cell? (U F 0 A)=N (af (.func 348) #[] #[π (N (U F 0 A))]))->d<=100->ν δ 348 #[bM Q u z,I E d,π (N (U F 0 A))] a (oh a):=by
 induction a0 with
 |mk l j m a3 al au J t1 X f W=>
  intro a S u z F d b x hF av;have B:=K (λi (e:Y a i γ)=>Yp (b.keeps e λ_ _ b=>b) (.mk l j m a3 al au J t1 X f) (x.still e));obtain⟨c,O,T,q⟩:=b.Ξ;obtain⟨⟨o,n,rfl⟩,h,g,rfl⟩:=b.form;simp only[El.Ξ] at O;subst O;simp only[bM,El.name,El.Β,El.Γ,El.Ξ,dN] at*;have r:Y a ((a.alloc (ζ #[H (D l.toArray),V o j.length n,H (D m.toArray),V h c.length g] 84)).alloc (ζ #[I E d] 3)) γ:=((Y.refl a γ).alloc _).alloc _;have k:θ ((a.alloc (ζ #[H (D l.toArray),V o j.length n,H (D m.toArray),V h c.length g] 84)).alloc (ζ #[I E d] 3)) a.heap.size 84 #[H (D l.toArray),V o j.length n,H (D m.toArray),V h c.length g]:=(θ.new _ _ _).alloc _;have w:θ ((a.alloc (ζ #[H (D l.toArray),V o j.length n,H (D m.toArray),V h c.length g] 84)).alloc (ζ #[I E d] 3)) (a.heap.size+1) 3 #[I E d]:=θ.dA _ _ _ _;have aq:=K (B.out _ r);have ap:η (∀i,Y ((a.alloc (ζ #[H (D l.toArray),V o j.length n,H (D m.toArray),V h c.length g] 84)).alloc (ζ #[I E d] 3)) i γ->d<=10->ν δ 351 #[V h c.length g,af (.func 349) #[] #[π (N (U F 0 A)),π (N ⟨a.heap.size+1,0,A⟩)]] i (oh i)):=K λi ac bd=>by have s:=r.trans ac Η;refine Wz (S:=S) (T.stay s.size λt _ aw=>s.block t aw id) (λe p=>(q e p).keeps s λ_ _ b=>b) X 349 _ XL λa9 ad e p=> ?_;have ab:=s.trans ad Η;obtain⟨⟨bc,bb,P⟩,bk,bi,R⟩:=(q e p).form;obtain⟨a8,bq,br⟩:=e;simp only at P R;subst P R;refine abI (d:=d) (az ab hF id) (az (ac.trans ad Η) (by rw[w.cell];rfl) id) av λba a2=> ?_;have y:=ab.trans a2 Η;exact W a8 (eO.2 ⟨_,p,rfl⟩) ((q _ p).keeps y λ_ _ b=>b) (x.still y) (az y hF id) (by omega)
  have C:=K r;have an:=K k;have a4:=k.cell 0;have a5:=k.cell 1;have a6:=k.cell 2;have a7:=k.cell 3;have y0:=w.cell 0;simp at a4 a5 a6 a7 y0;clear r k w W q T b B x f J al t1;have bf:∀(t:Bool) (a:Z),(xM .not (ι t)).run δ a= .ok (ι (!t)) a:=λ_ _=>rfl;go_enter func348,ntmps348;by_cases be:(d:Int)<=4
  .go_wp2_with fail;refine aq.out.mono ?_;rintro Q am ⟨⟨L,rfl⟩,f⟩;have M:=f.blk an.out id;have bs:am.cell? (U a.heap.size 3 A)=N (V h c.length g):=by rw[M.cell];rfl
   have G:=K (C.out.trans f Η);cases L with
   |false=>go_wp2;go_ret;exact⟨⟨_,rfl⟩,G.out⟩
   |true=>have ao:=K (ap.out am f (by omega));clear f M;go_wp2_with fail;refine ao.out.mono ?_;rintro Q bn ⟨⟨L,rfl⟩,a1⟩;go_wp2;go_ret;exact⟨⟨_,rfl⟩,G.out.trans a1 Η⟩
  go_wp2;go_ret;exact⟨⟨_,rfl⟩,C.out⟩
theorem Ug(b:bX w j Q x i)(m:fW Q)(l:aT w):ν δ 292 #[bM Q x i] w (oh w):=by obtain⟨⟨d,c,rfl⟩,g,f,rfl⟩:=b.form;have e:Y w ((w.alloc (ζ #[H (D Q.name.toArray),V d Q.Γ.length c,H (D Q.Β.toArray),V g Q.Ξ.length f] 84)).alloc (ζ #[af (.func 348) #[] #[π (N ⟨w.heap.size+1,0,A⟩)]] 396)) γ:=((Y.refl w γ).alloc _).alloc _;have k:θ ((w.alloc (ζ #[H (D Q.name.toArray),V d Q.Γ.length c,H (D Q.Β.toArray),V g Q.Ξ.length f] 84)).alloc (ζ #[af (.func 348) #[] #[π (N ⟨w.heap.size+1,0,A⟩)]] 396)) (w.heap.size+1) 396 #[af (.func 348) #[] #[π (N ⟨w.heap.size+1,0,A⟩)]]:=θ.dA _ _ _ _;have h:=ada m (F:=w.heap.size+1) (d:=1) (b.keeps e λ_ _ b=>b) (l.still e) (by rw[k.cell];rfl) (by omega);rw[show((1:Nat):Int)=1 from rfl] at h;have o:=K h;have n:=K e;have a:θ ((w.alloc (ζ #[H (D Q.name.toArray),V d Q.Γ.length c,H (D Q.Β.toArray),V g Q.Ξ.length f] 84)).alloc (ζ #[af (.func 348) #[] #[π (N ⟨w.heap.size+1,0,A⟩)]] 396)) w.heap.size 84 #[H (D Q.name.toArray),V d Q.Γ.length c,H (D Q.Β.toArray),V g Q.Ξ.length f]:=(θ.new _ _ _).alloc _;have q:=a.cell 0;have r:=a.cell 1;have s:=a.cell 2;have t:=a.cell 3;simp at q r s t;simp only[bM] at*;clear e a k h b l m;go_enter func292,ntmps292;go_wp2_with fail;refine o.out.mono ?_;rintro Q y ⟨⟨u,rfl⟩,p⟩;go_wp2;go_ret;exact⟨⟨_,rfl⟩,n.out.trans p Η⟩
def lR(c:Z)(a e:Nat)(v:ε):Prop:=∃(b:ε) (d:List UInt8),θ c a 285 #[b,v]/\(b=π A\/b=π (N (U a 0 A)))/\c.ownsRow 0 5 1 v e (mT d)/\v.ownBlock≠N a
structure jr (b:Nat) (w:Z) (v:ε) (w':Z) (v':ε):Prop where
 keeps:Y w w' (λk=>k=b\/v.ownBlock=N k)
 own:∀k,v'.ownBlock=N k->v.ownBlock=N k\/w.heap.size<=k
theorem jr.refl(b:Nat)(a:Z)(v:ε):jr b a v a v:=⟨Y.refl _ _,λ_ c=> .inl c⟩
theorem jr.trans{b:Nat}(c:jr b w x n i)(e:jr b n i G t):jr b w x G t where
 keeps:=c.keeps.trans e.keeps λd a=>by
  obtain rfl|a:=a
  .exact .inl (.inl rfl)
  .obtain h1|h1:=c.own d a
   .exact .inl (.inr h1)
   exact .inr h1
 own:=λd a=>by
  obtain h1|h1:=e.own d a
  .exact c.own d h1
  .exact .inr (aJ c.keeps.size h1)
theorem jr.still{w':Z}(a:jr y w x w' i)(b:Y w' n γ):jr y w x n i:=⟨a.keeps.trans b Η,a.own⟩
theorem lR.still{w':Z}(a:lR w y k x)(b:Y w w' γ):lR w' y k x:=by obtain⟨h,c,d,e,f,g⟩:=a;exact⟨h,c,b.blk d id,e,aD f b λ_ _ a=>a,g⟩
theorem lR.check(h:lR w y k x):ν δ 279 #[π (N (U y 0 A))] w λb c=>b=ξ (σ #[])/\Y w c (·=y)/\∃(l:List UInt8),θ c y 285 #[π (N (U y 0 A)),x]/\c.ownsRow 0 5 1 x k (mT l)/\x.ownBlock≠N y:=by
 obtain⟨m,f,a,i,g,d⟩:=h;have e:=a.cell 0;simp at e;obtain rfl|rfl:=i
 .refine(Me y w e (by unfold θ at a;simp[World.shape?,a]) (a.frozen 0)).mono ?_;rintro b c ⟨rfl,rfl⟩;exact⟨rfl,(Y.refl w (·=y)).χ (p:=(U y 0 A)) (.inl rfl) _,f,(a.χ 0 _).to (by simp),aD g ((Y.refl w (·=y)).χ (p:=(U y 0 A)) (.inl rfl) _) λn j b=>d (b▸j),d⟩
 refine(Mf y w e).mono ?_;rintro b c ⟨rfl,rfl⟩;exact⟨rfl,Y.refl _ _,f,a,g,d⟩
theorem ahz{c:Program}{e:Array Oper}{f:List Oper}{a:Oper}{b:Act}{d:Exit->Act->Z->Prop}(m:a.guard=A)(g j:Operand)(h t2:aQ)(o:a.op= .call {callee:= .builtin .append,args:=#[g,j],argTypes:=#[h,t2]})(q:b.eval g=x)(r:b.eval j=i)(p:(gJ #[h,t2] a.type #[x,i]).run c w= .ok t n)(k:wpList c e d f (b.put a.dst t) n):wpList c e d (a::f) b w:=
 wpList_plain m λ_ l=>by unfold Oper.wp execOp;simp only[o,resolve,invoke,builtin,Sem.run_bind,Sem.run_pure,Result.andThen_ok,List.map_toArray,lm,nX,q,r,p];exact l _ _ k
theorem U7(j:w.ownsRow 0 5 1 x y a)(e:BA)(P:y+e.size<=1000000000):∃d b,(gJ #[113,9] 113 #[x,H e]).run δ w= .ok d b/\b.ownsRow 0 5 1 d (y+e.size) (a++Ao e)/\Y w b (λc=>x.ownBlock=N c)/\∀c,d.ownBlock=N c->x.ownBlock=N c\/w.heap.size<=c:=by
 obtain⟨q,n,r,p,s⟩:=info_parts infoByte;have t:∀h,w.ownsRow h 5 1 x y a->h<=w.heap.size->∃d b,(gJ #[113,9] 113 #[x,H e]).run δ w= .ok d b/\b.ownsRow h 5 1 d (y+e.size) (a++Ao e)/\Y w b (λc=>x.ownBlock=N c):=λh E F=>by obtain⟨d,b,f,g,i,_⟩:=Lib.run_append_own_string (P:=δ) w h 113 9 113 5 q iZ lj n r p s x y a E e (by unfold Χ;omega) (by omega) F;exact⟨d,b,f,g,Y.jy i λc B=>B⟩
 obtain⟨rfl,rfl⟩|⟨i,l,z,rfl,L,J,Q,M,O,R⟩:=j.2
 .have G:a=[]:=List.eq_nil_of_length_eq_zero (by simpa using j.1);subst G;obtain⟨d,b,f,g,c⟩:=t w.heap.size (db _ _ _ _) (Ο _);exact⟨d,b,f,wU g (ai _),c,λu k=> .inr (g.lt u k).1⟩
 obtain⟨d,b,f,g,c⟩:=t 0 j (ai _);refine⟨d,b,f,g,c,λu k=> ?_⟩;by_cases K:y+e.size<=l
 .have o:=Lib.run_append_room_string (P:=δ) w 113 9 113 5 q iZ lj n p i y l z J e K (by omega);rw[o] at f;injection f with m C;subst m;exact .inl k
 have o:=Lib.run_append_grow_string (P:=δ) w 113 9 113 5 q (I .u8 0) iZ lj n r ⟨i,0,A⟩ y l a (by rw[p];simpa using j.1) (j.cells (g:=i) rfl) e (by omega) (by omega) (by rw[s];exact growslice_fits (by omega) (by omega));rw[o] at f;injection f with m C;subst m;simp only[iM,xZ] at k;exact .inr (by omega)
theorem lR.write(c:lR w y k x)(a:BA)(I:k+a.size<=1000000000):ν δ 212 #[π (N (U y 0 A)),H a] w λb z=>(∃J,b=ξ (σ J))/\∃d,lR z y (k+a.size) d/\jr y w x z d:=by
 obtain⟨ab,S,W,X,aa⟩:=info_parts infoByte;have E:=K c.check;clear c;go_enter func212,ntmps212;go_wp2_with (go_at_call 279;refine E.out.mono ?_);rintro b B ⟨rfl,q,p,e,r,s⟩;have M:B.cell? (U y 0 A)=N (π (N (U y 0 A))):=by rw[e.cell];rfl
 have O:B.cell? (U y 1 A)=N x:=by rw[e.cell];rfl
 obtain⟨d,h,L,m,o,n⟩:=U7 r a I;have l:=o.blk e s;have P:h.cell? (U y 1 A)=N x:=by rw[l.cell];rfl
 have Q:h.frozen? (U y 1 A)=false:=l.frozen 1;rw[show mT p++Ao a=mT (p++a.data.toList) from by simp[mT,Ao]] at m;obtain⟨i,j,rfl⟩:=eX m;have R:=e.lt;have T:=q.size;have t:∀g,(V i (k+a.size) j).ownBlock=N g->x.ownBlock=N g\/w.heap.size<=g:=λg G=>(n g G).imp id λc=>by omega
 have F:=K (show ∃d,lR (h.setCell (U y 1 A) (V i (k+a.size) j)) y (k+a.size) d/\jr y w x (h.setCell (U y 1 A) (V i (k+a.size) j)) d from by
  have u:(V i (k+a.size) j).ownBlock≠N y:=λb=>by
   obtain c|c:=n y b
   .exact s c
   omega
  refine⟨_,⟨_,_,(l.χ 1 _).to (by simp),.inr rfl,aD m ((Y.refl h (·=y)).χ (p:=(U y 1 A)) (.inl rfl) _) λC f b=>u (by rw[f,b]),u⟩,⟨(((q.mono λC f=> .inl (.inl f)).trans o λC f=> .inl (.inr f)).χ (.inl (.inl rfl)) _),t⟩⟩)
 clear m o l e r t n;go_wp2_with (at_builtin;refine ahz rfl _ _ 113 9 rfl rfl rfl L ?_);go_ret2;exact⟨⟨_,rfl⟩,F.out⟩
def gA(b:At):Nat:=(b.map λa=>10+a.1.length+6*a.2.length).sum
theorem Vm(a:At)(b:Nat)(c:Bt×Bt)(d:a[b]? =N c):gA (a.take (b+1))=gA (a.take b)+(10+c.1.length+6*c.2.length):=by obtain⟨e,rfl⟩:=iN.1 d;simp only[gA,List.take_succ_eq_append_getElem e,lP,List.sum_append,lm,nX,xV,AN];omega
theorem Vl(a:At)(b:Nat):gA (a.take b)<=gA a:=by
 have:gA a=gA (a.take b)+gA (a.drop b):=by simp only[gA];rw[<-List.sum_append,<-lP,List.take_append_drop]
 omega
inductive Wt:El->Nat->Prop
 |mk (n:Bt) (a:At) (t:Bt) (ks:List El) (M N0:Nat):n.length<=10000->a.length<=1000->(∀x∈a,x.1.length<=10000/\x.2.length<=10000)->t.length<=10000->ks.length<=1000->(∀k∈ks,Wt k M)->20+2*n.length+gA a+6*t.length+ks.length*M<=N0->N0<=100000000->Wt (.mk n a t ks) N0
theorem Wt.small(b:Wt Q y):fW Q:=by
 induction b with
 |mk j a k i l y c d e f g _ _ _ h=>exact .mk j a k i c d e f g h
theorem rU(a b:BA):(a++b).size=a.size+b.size:=mj ..
structure kL (w:Z) (b:Nat) (v:ε) (x:Nat):Prop where
 lt:x<w.heap.size
 ne:x≠b
 own:v.ownBlock≠N x
theorem kL.step(a:kL w y x k)(b:jr y w x n i):kL n y i k where
 lt:=dQ a.lt b.keeps.size
 ne:=a.ne
 own:=λc=>by
  obtain h1|h1:=b.own k c
  .exact a.own h1
  .have:=a.lt;omega
theorem kL.out(a:kL w y x k):¬(k=y\/x.ownBlock=N k):=λb=>b.elim a.ne a.own
theorem kL.still{w':Z}(a:kL w y x k)(b:Y w w' γ):kL w' y x k:=⟨dQ a.lt b.size,a.ne,a.own⟩
def fx(a f:Nat)(g:Z)(v:ε)(e:Nat)(d:Z):Prop:=∃b c,lR d a (f+b) c/\b<=e/\jr a g v d c
theorem fx.still{w':Z}(b:fx y k w x d n)(a:Y n w' γ):fx y k w x d w':=by obtain⟨g,h,c,e,f⟩:=b;exact⟨g,h,c.still a,e,f.still a⟩
theorem fx.mono(a:fx y k w x d n)(h:d<=M):fx y k w x M n:=by obtain⟨e,f,b,g,c⟩:=a;exact⟨e,f,b,by omega,c⟩
theorem fx.write(f:fx y k w x d n)(a:BA){c:Nat}(r:a.size<=c)(s:k+d+c<=1000000000):ν δ 212 #[π (N (U y 0 A)),H a] n λb e=>(∃o,b=ξ (σ o))/\fx y k w x (d+c) e:=by obtain⟨m,t,g,q,h⟩:=f;refine(g.write a (by omega)).mono ?_;rintro b e ⟨l,p,i,j⟩;exact⟨l,m+a.size,p,by rw[<-mW];exact i,by omega,h.trans j⟩
theorem fx.cell(b:fx y k w x d n){a:Nat}(f:kL w y x M)(e:w.cell? (U M a A)=N i):n.cell? (U M a A)=N i:=by obtain⟨j,l,g,h,c⟩:=b;exact az c.keeps e f.out
theorem fx.eE(b:fx y k w x d n)(f:∀a,a<6->kL w y x a)(e:aT w):aT n:=by obtain⟨j,l,h,i,c⟩:=b;exact e.keeps c.keeps λa g=>(f a g).out
theorem fx.keep(c:fx y k w x d n):∃b:Bs,Y w n b/\∀a,kL w y x a->¬b a:=by obtain⟨i,j,g,h,e⟩:=c;exact⟨_,e.keeps,λa f=>f.out⟩
theorem fx.call{M:Nat}(h:fx y k w x d n){f:FuncId}{args:Array ε}(l:∀a b,lR n y (k+a) b->a<=d->jr y w x n b->ν δ f args n λc e=>c=ξ (σ #[])/\fx y (k+a) n b M e):ν δ f args n λc e=>c=ξ (σ #[])/\fx y k w x (d+M) e:=by obtain⟨a,b,i,j,g⟩:=h;refine(l a b i j g).mono ?_;rintro c e ⟨m,o,r,p,s,q⟩;exact⟨m,a+o,r,by rw[<-mW];exact p,by omega,g.trans q⟩
theorem fx.back(a:fx y k n x d G)(f:jr y w x n x):fx y k w x d G:=by obtain⟨g,h,b,c,e⟩:=a;exact⟨g,h,b,c,f.trans e⟩
theorem lR.start(a:lR w y k x):fx y k w x 0 w:=⟨0,x,a,Ο _,jr.refl _ _ _⟩
theorem ahA(d3:Wt Q y):∀ {w:Z} {S:Bs} {bb bw v:ε} {F b n:Nat},bX w S Q bb bw->(∀d,S d->kL w b v d)->aT w->(∀d,d<6->kL w b v d)->w.cell? (U F 0 A)=N (af (.func 293) #[] #[π (N (U b 0 A)),π (N (U F 0 A))])->kL w b v F->lR w b n v->n+y<=600000000->ν δ 293 #[bM Q bb bw,π (N (U b 0 A)),π (N (U F 0 A))] w λds ef=>ds=ξ (σ #[])/\fx b n w v y ef:=by
 induction d3 with
 |mk nm e h e8 o y fa er dc t1 e6 e7 e3 e4 cI=>
  intro w S bb bw v F b n C ch cu am hF cl bt e5;obtain⟨f,cg,cA,cs⟩:=C.Ξ;have cn:=C.Γ;obtain⟨⟨z,x,rfl⟩,L,J,rfl⟩:=C.form;simp only[El.Ξ] at cg;subst cg;simp only[bM,El.name,El.Β,El.Γ,El.Ξ,dN] at*;have a4:=iV nm;have fE:=iV h;have k:Y w (w.alloc (ζ #[H (D nm.toArray),V z e.length x,H (D h.toArray),V L f.length J] 84)) γ:=(Y.refl w γ).alloc _;have a1:θ (w.alloc (ζ #[H (D nm.toArray),V z e.length x,H (D h.toArray),V L f.length J] 84)) w.heap.size 84 #[H (D nm.toArray),V z e.length x,H (D h.toArray),V L f.length J]:=θ.new _ _ _;have b3:=(bt.still k).start;have ce:kL (w.alloc (ζ #[H (D nm.toArray),V z e.length x,H (D h.toArray),V L f.length J] 84)) b v w.heap.size:=by obtain⟨fb,es,ap,d5,M,fe⟩:=bt;exact⟨a1.lt,λQ=>by have:=ap.lt;omega,λQ=>by have:=(M.lt _ Q).2;omega⟩
  have cR:jr b w v (w.alloc (ζ #[H (D nm.toArray),V z e.length x,H (D h.toArray),V L f.length J] 84)) v:=(jr.refl b w v).still k;have co:=cn.keeps k λ_ _ C=>C;have cB:=cA.stay k.size λd _ bq=>k.block d bq id;have ct:=λa bn=>(cs a bn).keeps k λ_ _ C=>C;have ck:=λd j=>(ch d j).still k;have cb:=λd j=>(am d j).still k;have cv:=cu.still k;have cf:=az k hF id;have cm:=cl.still k;have b4:=K cR;have d7:=λw=>run_string_add_sum (P:=δ) w ⟨#[60]⟩ ⟨nm.toArray⟩ (by rw[a4];show 1+_<=_;omega);have bc:(w.alloc (ζ #[H (D nm.toArray),V z e.length x,H (D h.toArray),V L f.length J] 84)).cell? (U w.heap.size 0 A)=N (H (D nm.toArray)):=by rw[a1.cell];rfl
  have fv:(((D #[60]):BA)++⟨nm.toArray⟩).size=1+nm.length:=by rw[rU,a4];rfl
  have b5:=K (b3.write ((D #[60])++⟨nm.toArray⟩) (c:=1+nm.length) (by omega) (by omega));have av:=K a1;have c6:=K co;have b1:=K (Φ cB ct);have HS:=K (Φ ck cb);have al:=K (Φ cv cf);have a7:=K cm;have W:=K ce;have c8:=K cI;clear k C cn cA cs ch am cu hF cl bt cR a1 b3 co cB ct ck cb cv cf cm ce cI;go_enter func293,ntmps293;go_wp2_with fail;refine b5.out.mono ?_;rintro Q fo ⟨⟨ff,rfl⟩,bi⟩;clear b5 d7 bc;generalize w.alloc (ζ #[H (D nm.toArray),V z e.length x,H (D h.toArray),V L f.length J] 84)=u at*;have bN:u.cell? (U w.heap.size 1 A)=N (V z e.length x):=by rw[av.out.cell];rfl
  have c2:=K (show u.cell? (U w.heap.size 2 A)=N (H (D h.toArray)) from by rw[av.out.cell];rfl);have b0:=K (show u.cell? (U w.heap.size 3 A)=N (V L f.length J) from by rw[av.out.cell];rfl);have bF:=K (show u.cell? (U w.heap.size 0 A)=N (H (D nm.toArray)) from by rw[av.out.cell];rfl);have et:=bi.cell W.out bN;have c4:=K bi;clear bi bN;go_wp2_with fail;go_loopw [19,5,23,27,28,6,7] (λP _ _ _ _ _ _ wr=>∃a:Nat,P=I E a/\a<=e.length/\η (fx b n u v (1+nm.length+gA (e.take a)) wr)) (λP _ _ _ _ _ _ _=>e.length-(jE P).toNat)
  case atStart=>exact⟨0,rfl,ai _,K (c4.out.mono (by simp[gA]))⟩
  obtain⟨a,rfl,bn,aw⟩:=hrel;by_cases cy:a<e.length
  .have d0:(a:Int)<e.length:=by omega
   obtain⟨d,j⟩:∃d,e[a]? =N d:=⟨_,cT cy⟩;obtain⟨c3,ab,an⟩:=aw.out.keep;obtain⟨b8,R,_,_,_,⟨dd,Q,_,_⟩,r⟩:=(c6.out.keeps ab λi m=>an i (HS.out.1 i m)).cell cy;injection Q with bd be bf;subst bd bf;obtain⟨aq,au⟩:=yI e a d j;have d4:wr.cell? ⟨b8,R+a*2,A⟩=_:=r _ _ aq;have ap:wr.cell? ⟨b8,R+a*2+1,A⟩=_:=r _ _ au;obtain⟨el,em⟩:=dc d (ln j);have a5:=K (Vm e a d j);have c0:=K (Vl e (a+1));clear r aq au j be ab an;obtain⟨g,ac⟩:=d;simp only at d4 ap el em a5;have cW:=iV g;have fJ:=iV ac;have ao:Y wr (wr.alloc (ζ #[H (D g.toArray),H (D ac.toArray)] 231)) γ:=(Y.refl wr γ).alloc _;have B:θ (wr.alloc (ζ #[H (D g.toArray),H (D ac.toArray)] 231)) wr.heap.size 231 #[H (D g.toArray),H (D ac.toArray)]:=θ.new _ _ _;have O:=aw.out.still ao;have ad:=K (Kl (O.eE HS.out.2 al.out.1) ⟨ac.toArray⟩ (by omega));have c7:=K O;have c1:=K B;clear ao B O;go_wp2_with fail;refine ad.out.mono ?_;rintro Q eg ⟨⟨l,dt,rfl,d2⟩,bv⟩;have fd:eg.cell? (U wr.heap.size 0 A)=N (H (D g.toArray)):=by rw[(bv.blk c1.out id).cell];rfl
   have cD:=c7.out.still bv;clear bv ad;have bz:(((D #[32]):BA)++⟨g.toArray⟩).size=1+g.length:=by rw[rU,cW];rfl
   have bA:(((D #[32]):BA)++⟨g.toArray⟩++⟨#[61,34]⟩).size=1+g.length+2:=by rw[rU,bz];rfl
   have bB:(((D #[32]):BA)++⟨g.toArray⟩++⟨#[61,34]⟩++l).size=1+g.length+2+l.size:=by rw[rU,bA]
   have en:(((D #[32]):BA)++⟨g.toArray⟩++⟨#[61,34]⟩++l++⟨#[34]⟩).size=1+g.length+2+l.size+1:=by rw[rU,bB];rfl
   have d8:=λw=>run_string_add_sum (P:=δ) w ⟨#[32]⟩ ⟨g.toArray⟩ (by rw[cW];show 1+_<=_;omega);have d9:=λw=>run_string_add_sum (P:=δ) w ((D #[32])++⟨g.toArray⟩) ⟨#[61,34]⟩ (by rw[bz];show _+2<=_;omega);have ea:=λw=>run_string_add_sum (P:=δ) w ((D #[32])++⟨g.toArray⟩++⟨#[61,34]⟩) l (by rw[bA];omega);have eb:=λw=>run_string_add_sum (P:=δ) w ((D #[32])++⟨g.toArray⟩++⟨#[61,34]⟩++l) ⟨#[34]⟩ (by rw[bB];show _+1<=_;omega);have b6:=K (cD.write ((D #[32])++⟨g.toArray⟩++⟨#[61,34]⟩++l++⟨#[34]⟩) (c:=10+g.length+6*ac.length) (by omega) (by have:=c0.out;have:=a5.out;omega));clear cD bz bA bB en;go_wp2_with fail;refine b6.out.mono ?_;rintro Q ek ⟨⟨fg,rfl⟩,am⟩;have a9:η (fx b n u v (1+nm.length+gA (e.take (a+1))) ek):=K (am.mono (by rw[a5.out];omega));clear am d8 d9 ea eb b6;go_wp2;go_roundw
   case rel=>exact⟨a+1,by go_num,by omega,a9⟩
   case measure=>simp[jE];omega
  have d0:¬(a:Int)<e.length:=by omega
  obtain rfl:a=e.length:=by omega
  have X:=K (show fx b n u v (1+nm.length+gA e) wr from by have:=aw.out;rw[List.take_length] at this;exact this);have b9:=X.out.cell W.out c2.out;have dn:=X.out.cell W.out b0.out;have dm:=X.out.cell W.out bF.out;clear aw;have a8:=K (show((D h.toArray):BA).size<=h.length from by omega);generalize((D h.toArray):BA)=T at b9 a8;cases ew:T.toList.isEmpty
  case' true=>
   by_cases e1:f.length=0
   .have dv:(f.length:Int)=0:=by omega
    have c9:=K (X.out.write ⟨#[47,62]⟩ (c:=2) (by decide) (by omega));go_wp2_with fail;refine c9.out.mono ?_;rintro Q bx ⟨⟨d6,rfl⟩,G⟩;have a6:=K ((G.mono (show _<=y by omega)).back b4.out);clear G;go_wp2;refine Ω (results_none rfl _ _ _) rfl ?_;exact⟨rfl,a6.out⟩
   have dv:¬(f.length:Int)=0:=by omega
  all_goals
   have ad:=K (Kl (X.out.eE HS.out.2 al.out.1) T (by have:=a8.out;omega));go_wp2_with fail;refine ad.out.mono ?_;rintro Q fp ⟨⟨l,dt,rfl,d2⟩,cJ⟩;have cc:=X.out.still cJ;have dx:=a8.out;have eo:(((D #[62]):BA)++l).size=1+l.size:=by rw[rU];rfl
   have ec:=λw=>run_string_add_sum (P:=δ) w ⟨#[62]⟩ l (by show 1+_<=_;omega);have b7:=K (cc.write ((D #[62])++l) (c:=1+6*h.length) (by omega) (by omega));clear cc cJ ad eo dx b9 dn dm;go_wp2_with fail;refine b7.out.mono ?_;rintro Q fr ⟨⟨fi,rfl⟩,bk⟩;have dp:=bk.cell W.out b0.out;have c5:=K bk;have e2:(f.length:Int)<=1000:=by omega
   clear bk ec b7;go_wp2_with fail;go_loopw [60,11] (λP _ wr=>∃a:Nat,P=I E a/\a<=f.length/\η (fx b n u v (2+nm.length+gA e+6*h.length+a*o) wr)) (λP _ _=>f.length-(jE P).toNat)
   case atStart=>exact⟨0,rfl,ai _,K (c5.out.mono (by omega))⟩
   case round=>
    clear dp;obtain⟨a,rfl,bn,a0⟩:=hrel;by_cases br:a<f.length
    .have d1:(a:Int)<f.length:=by omega
     obtain⟨d,j⟩:∃d,f[a]? =N d:=⟨_,cT br⟩;obtain⟨c3,ab,an⟩:=a0.out.keep;obtain⟨a3,R,_,_,_,⟨dd,Q,_,_⟩,r⟩:=(b1.out.1.stay ab.size λi m bq=>ab.block i bq (an i (HS.out.1 i m))).cell br;injection Q with bd be bf;subst bd bf;obtain⟨aq,au,cS,cU⟩:=Ho f a d j;have bc:wr.cell? ⟨a3,R+a*4,A⟩=_:=r _ _ aq;have dg:wr.cell? ⟨a3,R+a*4+1,A⟩=_:=r _ _ au;have dk:wr.cell? ⟨a3,R+a*4+2,A⟩=_:=r _ _ cS;have dl:wr.cell? ⟨a3,R+a*4+3,A⟩=_:=r _ _ cU;have bs:=ln j;have a2:=b1.out.2 d bs;obtain⟨⟨q,p,cq⟩,t,s,cx⟩:=a2.form;obtain⟨c,fs,ft⟩:=d;simp only at cq cx bc dg dk dl a2;subst cq cx;have ao:Y wr (wr.alloc (ζ #[H (D c.name.toArray),V q c.Γ.length p,H (D c.Β.toArray),V t c.Ξ.length s] 84)) γ:=(Y.refl wr γ).alloc _;have B:θ (wr.alloc (ζ #[H (D c.name.toArray),V q c.Γ.length p,H (D c.Β.toArray),V t c.Ξ.length s] 84)) wr.heap.size 84 #[H (D c.name.toArray),V q c.Γ.length p,H (D c.Β.toArray),V t c.Ξ.length s]:=θ.new _ _ _;have O:=a0.out.still ao;have ex:=O.cell a7.out al.out.2;have eD:(wr.alloc (ζ #[H (D c.name.toArray),V q c.Γ.length p,H (D c.Β.toArray),V t c.Ξ.length s] 84)).cell? (U wr.heap.size 0 A)=N (H (D c.name.toArray)):=by rw[B.cell];rfl
     have eS:(wr.alloc (ζ #[H (D c.name.toArray),V q c.Γ.length p,H (D c.Β.toArray),V t c.Ξ.length s] 84)).cell? (U wr.heap.size 1 A)=N (V q c.Γ.length p):=by rw[B.cell];rfl
     have eT:(wr.alloc (ζ #[H (D c.name.toArray),V q c.Γ.length p,H (D c.Β.toArray),V t c.Ξ.length s] 84)).cell? (U wr.heap.size 2 A)=N (H (D c.Β.toArray)):=by rw[B.cell];rfl
     have e0:(wr.alloc (ζ #[H (D c.name.toArray),V q c.Γ.length p,H (D c.Β.toArray),V t c.Ξ.length s] 84)).cell? (U wr.heap.size 3 A)=N (V t c.Ξ.length s):=by rw[B.cell];rfl
     have b2:=K (show(a+1)*o=a*o+o/\a*o+o<=f.length*o from⟨Nat.succ_mul a o,by rw[<-Nat.succ_mul];exact pg _ br⟩);have ba:=K (O.call (f:=293) (args:=#[bM c (V q c.Γ.length p) (V t c.Ξ.length s),π (N (U b 0 A)),π (N (U F 0 A))]) (M:=o) λe9 fn ap d5 M=>c8.out c (eO.2 ⟨_,bs,rfl⟩) (a2.keeps M.keeps λi m=>(HS.out.1 i m).out) (λi m=>(HS.out.1 i m).step M) (al.out.1.keeps M.keeps λi m=>(HS.out.2 i m).out) (λi m=>(HS.out.2 i m).step M) (az M.keeps al.out.2 a7.out.out) (a7.out.step M) ap (by have:=b2.out;omega));simp only[bM] at ba;clear r aq au cS cU j ab an be ao B O a2 bs;go_wp2_with fail;refine ba.out.mono ?_;rintro Q bx ⟨rfl,G⟩;have a9:η (fx b n u v (2+nm.length+gA e+6*h.length+(a+1)*o) bx):=K (G.mono (by have:=b2.out;omega));clear G ba;go_wp2;go_roundw
     case rel=>exact⟨a+1,by go_num,by omega,a9⟩
     case measure=>simp[jE];omega
    have d1:¬(a:Int)<f.length:=by omega
    obtain rfl:a=f.length:=by omega
    have ev:=a0.out.cell W.out bF.out;have bE:(((D #[60,47]):BA)++⟨nm.toArray⟩).size=2+nm.length:=by rw[rU,a4];rfl
    have eq:(((D #[60,47]):BA)++⟨nm.toArray⟩++⟨#[62]⟩).size=2+nm.length+1:=by rw[rU,bE];rfl
    have fk:=λw=>run_string_add_sum (P:=δ) w ⟨#[60,47]⟩ ⟨nm.toArray⟩ (by rw[a4];show 2+_<=_;omega);have fm:=λw=>run_string_add_sum (P:=δ) w ((D #[60,47])++⟨nm.toArray⟩) ⟨#[62]⟩ (by rw[bE];show _+1<=_;omega);have da:=K (a0.out.write ((D #[60,47])++⟨nm.toArray⟩++⟨#[62]⟩) (c:=2+nm.length+1) (by omega) (by omega));clear bE eq;go_wp2_with fail;refine da.out.mono ?_;rintro Q bx ⟨⟨d6,rfl⟩,G⟩;have a6:=K ((G.mono (show _<=y by omega)).back b4.out);clear G;go_wp2;go_end0
    exact⟨rfl,a6.out⟩
theorem ace(c:w.ownsRow y u d x M a)(f:∀e,x.ownBlock=N e->k<=e):w.ownsRow k u d x M a:=by
 refine⟨c.1,?_⟩;obtain hn|⟨b,cap,cur,rfl,hbg,rest⟩:=c.2
 .exact .inl hn
 exact .inr ⟨b,cap,cur,rfl,f b rfl,rest⟩
theorem Uw(c:bX w j Q x i)(au:Wt Q y)(bi:y<=60000)(F:aT w)(al:∀b,j b->b<w.heap.size):ν δ 238 #[bM Q x i] w λQ bd=>(∃(a0:BA) (bc:Int),Q=ξ (σ #[H a0,I E bc])/\a0.size<=y)/\Y w bd γ:=by
 obtain⟨⟨B,z,rfl⟩,P,O,rfl⟩:=c.form;have m:Y w (w.alloc (ζ #[H (D Q.name.toArray),V B Q.Γ.length z,H (D Q.Β.toArray),V P Q.Ξ.length O] 84)) γ:=(Y.refl w γ).alloc _;have f:θ (w.alloc (ζ #[H (D Q.name.toArray),V B Q.Γ.length z,H (D Q.Β.toArray),V P Q.Ξ.length O] 84)) w.heap.size 84 #[H (D Q.name.toArray),V B Q.Γ.length z,H (D Q.Β.toArray),V P Q.Ξ.length O]:=θ.new _ _ _;have a6:=K (Ug (c.keeps m λ_ _ c=>c) au.small (F.still m));have q:=f.cell 0;have r:=f.cell 1;have s:=f.cell 2;have t:=f.cell 3;simp at q r s t;have a5:=K m;have a1:=K f;have a3:=K c;have ab:=K F;have HS:=K al;simp only[bM] at*;have bk:∀(b:Bool) (w:Z),(xM .not (ι b)).run δ w= .ok (ι (!b)) w:=λ_ _=>rfl;clear m f c F al;go_enter func238,ntmps238;go_wp2_with fail;refine a6.out.mono ?_;rintro ad a ⟨⟨a8,rfl⟩,n⟩;have l:=K (a5.out.trans n Η);have a2:=K (n.blk a1.out id);have bn:=K n.size;clear n q r s t;cases a8 with
 |false=>go_wp2;go_ret2;exact⟨⟨_,_,rfl,ai _⟩,l.out⟩
 |true=>
  have M:Y a ((a.alloc (ζ #[π A,V A 0 0] 285)).alloc (ζ #[af (.func 293) #[] #[π (N (U a.heap.size 0 A)),π (N ⟨a.heap.size+1,0,A⟩)]] 356)) γ:=((Y.refl a γ).alloc _).alloc _;have C:θ ((a.alloc (ζ #[π A,V A 0 0] 285)).alloc (ζ #[af (.func 293) #[] #[π (N (U a.heap.size 0 A)),π (N ⟨a.heap.size+1,0,A⟩)]] 356)) (a.heap.size+1) 356 #[af (.func 293) #[] #[π (N (U a.heap.size 0 A)),π (N ⟨a.heap.size+1,0,A⟩)]]:=θ.dA _ _ _ _;have ac:θ ((a.alloc (ζ #[π A,V A 0 0] 285)).alloc (ζ #[af (.func 293) #[] #[π (N (U a.heap.size 0 A)),π (N ⟨a.heap.size+1,0,A⟩)]] 356)) a.heap.size 285 #[π A,V A 0 0]:=(θ.new _ _ _).alloc _;have h:=M.blk a2.out id;have kk:=l.out.trans M Η;have ap:=l.out.size;have T:∀b,b<a.heap.size->kL ((a.alloc (ζ #[π A,V A 0 0] 285)).alloc (ζ #[af (.func 293) #[] #[π (N (U a.heap.size 0 A)),π (N ⟨a.heap.size+1,0,A⟩)]] 356)) a.heap.size (V A 0 0) b:=λb d=>⟨by simp;omega,by omega,by simp[iM]⟩;have u:=K (ahA au (w:=(a.alloc (ζ #[π A,V A 0 0] 285)).alloc (ζ #[af (.func 293) #[] #[π (N (U a.heap.size 0 A)),π (N ⟨a.heap.size+1,0,A⟩)]] 356)) (F:=a.heap.size+1) (b:=a.heap.size) (n:=0) (v:=V A 0 0) (a3.out.keeps kk λ_ _ c=>c) (λb d=>T b (by have:=HS.out b d;omega)) (ab.out.still kk) (λb d=>T b (by have:=ab.out.size;omega)) (by rw[C.cell];rfl) ⟨by simp,by omega,by simp[iM]⟩ ⟨_,[],ac,.inl rfl,db _ _ _ _,by simp[iM]⟩ (by omega));have q:=h.cell 0;have r:=h.cell 1;have s:=h.cell 2;have t:=h.cell 3;have be:=C.cell 0;simp at q r s t be;have bf:=K kk;have a4:=K ap;simp only[bM] at u;clear M C ac h kk ap T;go_wp2_with fail;refine u.out.mono ?_;rintro ad p ⟨rfl,bb,W,ba,a9,J⟩;obtain⟨bq,g,R,av,o,S⟩:=ba
  have aq:∀e,W.ownBlock=N e->a.heap.size<=e:=λe G=>by
   obtain c|c:=J.own e G
   .simp[iM] at c
   simp at c;omega
  have L:Y a p γ:=(((Y.refl a γ).alloc _).alloc _).trans J.keeps λb d=>by
   obtain rfl|d:=d
   .exact .inr (Ο _)
   simp[iM] at d
  have ao:g.length=0+bb:=by have:=o.1;simpa[mT] using this
  rw[ao.symm] at o
  have am:qG a.heap.size a.heap.size (mT g) p:=by
   have aw:=ace o aq;have an:(mT g).length=g.length:=by simp[mT]
   obtain rfl|rfl:=av
   .exact .inl ⟨Ο _,W,R,by rw[an];exact aw,S⟩
   exact .inr ⟨Ο _,W,R,by rw[an];exact aw,S⟩
  have a7:=K (QQ a.heap.size a.heap.size g p am L.size);have X:=K (show g.length<=y/\Y a p γ from⟨by omega,L⟩);clear R av o S J aq L am ao a9 u;go_wp2_with (go_at_call 213;refine a7.out.mono ?_;rintro ad br ⟨rfl,k⟩);go_ret2;exact⟨⟨_,_,rfl,by rw[iV];exact X.out.1⟩,(l.out.trans X.out.2 Η).trans (⟨k.os,k.tape,k.output,k.size,λe _ G=>k.block e (Nat.lt_of_not_le G)⟩:Y _ _ (λe=>a.heap.size<=e)) λb d=> .inr (aJ a4.out d)⟩
structure pA (w:Z) (B:Nat) (av:ε) (a:At):Prop where
 row:w.ownsRow B 231 2 av a.length (nC a)
 bP:a.length<=10
def bZ(a:At)(c b:BA):At:=if b.toList.isEmpty then a else a++[(c.data.toList,b.data.toList)]
def Gg(e:Z)(f:Nat)(nm j:BA)(i c:ε)(g:At)(h:aI)(d:Z):Prop:=
 ∃b,h=ξ (Μ #[H nm,b,H j,i])/\pA d f b g/\Y e d (λa=>c.ownBlock=N a)/\∀a,b.ownBlock=N a->c.ownBlock=N a\/e.heap.size<=a
theorem ahx{h f:BA}(q:pA w y x W)(ax:W.length<=9)(az:y<=w.heap.size):ν δ 345 #[Μ #[H p,x,H L,V b k d],H h,H f] w (Gg w y p L (V b k d) x (bZ W h f)):=by
 obtain⟨e,c,rfl⟩:=cC q.row;have B:((w.alloc (ζ #[H p,V e W.length c,H L,V b k d] 84)).alloc (ζ #[H (D #[]),V A 0 0,H (D #[]),V A 0 0] 84)).heap.size=w.heap.size+1+1:=by simp
 have G:Y w ((w.alloc (ζ #[H p,V e W.length c,H L,V b k d] 84)).alloc (ζ #[H (D #[]),V A 0 0,H (D #[]),V A 0 0] 84)) γ:=((Y.refl w γ).alloc _).alloc _;have t:θ ((w.alloc (ζ #[H p,V e W.length c,H L,V b k d] 84)).alloc (ζ #[H (D #[]),V A 0 0,H (D #[]),V A 0 0] 84)) w.heap.size 84 #[H p,V e W.length c,H L,V b k d]:=(θ.new _ _ _).alloc _;have aa:θ ((w.alloc (ζ #[H p,V e W.length c,H L,V b k d] 84)).alloc (ζ #[H (D #[]),V A 0 0,H (D #[]),V A 0 0] 84)) (w.heap.size+1) 84 #[H (D #[]),V A 0 0,H (D #[]),V A 0 0]:=θ.dA _ _ _ _;have T:=aD q.row G λ_ _ q=>q;cases ai:f.toList.isEmpty
 .obtain⟨aA,C,ab,X,I,S⟩:=Lt y T (h.data.toList,f.data.toList) (by omega) (by rw[B];omega);obtain⟨n,o,al⟩:=cC X;subst al;rw[B] at ab;have aj:(⟨(h.data.toList,f.data.toList).1.toArray⟩:BA)=h:=rfl;have ak:(⟨(h.data.toList,f.data.toList).2.toArray⟩:BA)=f:=rfl;rw[aj,ak] at ab;have F:∀a,(V e W.length c).ownBlock=N a->a<w.heap.size:=λa r=>(q.row.lt a r).2;have u:=I.blk t λE=>by have:=F _ E;omega
  have s:=I.blk aa λE=>by have:=F _ E;omega
  have ap:=K u;have ac:=u.cell 0;have ad:=u.cell 1;have ae:=u.cell 2;have af:=u.cell 3;have y0:=s.cell 0;have am:=s.cell 1;have an:=s.cell 2;have ao:=s.cell 3;have aq:=u.frozen 1;have ar:=s.frozen 0;have au:=s.frozen 1;have av:=s.frozen 2;have aw:=s.frozen 3;simp at ac ad ae af y0 am an ao;have z:Y C (((((C.setCell (U w.heap.size 1 A) (V n (W.length+1) o)).setCell ⟨w.heap.size+1,0,A⟩ (H p)).setCell ⟨w.heap.size+1,1,A⟩ (V n (W.length+1) o)).setCell ⟨w.heap.size+1,2,A⟩ (H L)).setCell ⟨w.heap.size+1,3,A⟩ (V b k d)) (λa=>a=w.heap.size\/a=w.heap.size+1):=((((Y.refl C (λa=>a=w.heap.size\/a=w.heap.size+1)).χ (p:=(U w.heap.size 1 A)) (.inl (.inl rfl)) _).χ (p:=⟨w.heap.size+1,0,A⟩) (.inl (.inr rfl)) _).χ (p:=⟨w.heap.size+1,1,A⟩) (.inl (.inr rfl)) _).χ (p:=⟨w.heap.size+1,2,A⟩) (.inl (.inr rfl)) _ |>.χ (p:=⟨w.heap.size+1,3,A⟩) (.inl (.inr rfl)) _;have g:θ (((((C.setCell (U w.heap.size 1 A) (V n (W.length+1) o)).setCell ⟨w.heap.size+1,0,A⟩ (H p)).setCell ⟨w.heap.size+1,1,A⟩ (V n (W.length+1) o)).setCell ⟨w.heap.size+1,2,A⟩ (H L)).setCell ⟨w.heap.size+1,3,A⟩ (V b k d)) (w.heap.size+1) 84 #[H p,V n (W.length+1) o,H L,V b k d]:=(((((s.far (p:=(U w.heap.size 1 A)) (by simp) _).χ 0 _).χ 1 _).χ 2 _).χ 3 _).to (by simp)
  have ah:∀a,(V n (W.length+1) o).ownBlock=N a->¬(a=w.heap.size\/a=w.heap.size+1):=λa r E=>by
   obtain h1|h1:=S a r
   .have:=F a h1;omega
   rw[B] at h1;omega
  have J:=K (show Gg w y p L (V b k d) (V e W.length c) (bZ W h f) (ξ (Μ #[H p,V n (W.length+1) o,H L,V b k d])) (((((C.setCell (U w.heap.size 1 A) (V n (W.length+1) o)).setCell ⟨w.heap.size+1,0,A⟩ (H p)).setCell ⟨w.heap.size+1,1,A⟩ (V n (W.length+1) o)).setCell ⟨w.heap.size+1,2,A⟩ (H L)).setCell ⟨w.heap.size+1,3,A⟩ (V b k d)) from by
   refine⟨_,rfl,?_,?_,?_⟩
   .have R:bZ W h f=W++[(h.data.toList,f.data.toList)]:=by simp[bZ,ai]
    rw[R];exact⟨by rw[cL];exact aD X z ah,by simp;omega⟩
   .exact((G.any.trans I λa r=> .inl r).trans z λa r=> .inr (by omega))
   intro a r;obtain h1|h1:=S a r
   .exact .inl h1
   rw[B] at h1;exact .inr (by omega))
  have i:=g.cell 0;have j:=g.cell 1;have l:=g.cell 2;have m:=g.cell 3;simp only[Ρ] at i j l m;have M:=K i;have O:=K j;have P:=K l;have Q:=K m;clear G t aa T u s B z g ah X I S F aj ak q i j l m;go_enter func345,ntmps345;go_wp2_with (at_builtin;refine dy rfl (.tmp 10) (.tmp 14) 79 rfl rfl rfl ab ?_);have i:=M.out;have j:=O.out;have l:=P.out;have m:=Q.out;refine Ω (v:=Μ #[H p,V n (W.length+1) o,H L,V b k d]) (by simp[ag,results345,go_sem,i,j,l,m]) rfl ?_;exact J.out
 have ac:=t.cell 0;have ad:=t.cell 1;have ae:=t.cell 2;have af:=t.cell 3;simp at ac ad ae af;go_enter func345,ntmps345;have z:Y w ((w.alloc (ζ #[H p,V e W.length c,H L,V b k d] 84)).alloc (ζ #[H p,V e W.length c,H L,V b k d] 84)) γ:=((Y.refl w γ).alloc _).alloc _;have g:θ ((w.alloc (ζ #[H p,V e W.length c,H L,V b k d] 84)).alloc (ζ #[H p,V e W.length c,H L,V b k d] 84)) (w.heap.size+1) 84 #[H p,V e W.length c,H L,V b k d]:=θ.dA _ _ _ _
 have J:=K (show Gg w y p L (V b k d) (V e W.length c) (bZ W h f) (ξ (Μ #[H p,V e W.length c,H L,V b k d])) ((w.alloc (ζ #[H p,V e W.length c,H L,V b k d] 84)).alloc (ζ #[H p,V e W.length c,H L,V b k d] 84)) from by
  have R:bZ W h f=W:=by simp[bZ,ai]
  rw[R];exact⟨_,rfl,⟨aD q.row z λ_ _ q=>q,by omega⟩,z.any,λa r=> .inl r⟩)
 have i:=g.cell 0;have j:=g.cell 1;have l:=g.cell 2;have m:=g.cell 3;simp only[Ρ] at i j l m;have M:=K i;have O:=K j;have P:=K l;have Q:=K m;clear z g G t aa T B q i j l m;go_wp2;have i:=M.out;have j:=O.out;have l:=P.out;have m:=Q.out;refine Ω (v:=Μ #[H p,V e W.length c,H L,V b k d]) (by simp[ag,results345,go_sem,i,j,l,m]) rfl ?_;exact J.out
structure cp where
 Θ:Int
 bV:BA
 id:BA
 src:BA
 dst:BA
 cE:BA
 bQ:BA
 dK:BA
 h:Int
 bl:Int
 di:Bool
 aM:List It
def aK(a:cp)(b:ε):ε:=Μ #[I E a.Θ,H a.bV,H a.id,H a.src,H a.dst,H a.cE,H a.bQ,H a.dK,I .u32 a.h,I E a.bl,ι a.di,b]
def aZ(g:Z)(v:ε)(b:List It):Prop:=
 ∃c f,v=V c b.length f/\b.length<=1000000/\(c=A->b=[])/\∀a,c=N a->a.spot=A/\∀d e,(ej b)[d]? =N e->g.cell? ⟨a.block,a.off+d,A⟩=N e
structure fh (z:cp):Prop where
 bV:z.bV.size<=100
 id:z.id.size<=100
 src:z.src.size<=100
 dst:z.dst.size<=100
 cE:z.cE.size<=100
 bQ:z.bQ.size<=100
 dK:z.dK.size<=100
 h:eB z.h
 bP:z.aM.length<=16
 aM:∀x∈z.aM,x.1.size<=100/\x.2.1.size<=100
theorem aZ.nil(a:Z):aZ a (V A 0 0) []:=⟨A,0,rfl,by simp,λ_=>rfl,nofun⟩
def fZ(a:BA):BA:=⟨(cut a.data.toList [47]).1.toArray⟩
def gy(a:BA):BA:=⟨(cut a.data.toList [47]).2.1.toArray⟩
def iF(a:BA):Bool:=aN (fZ a)&&(!(cut a.data.toList [47]).2.2||aN (gy a))
theorem Lr(a:BA):(fZ a).size<=a.size:=by have b:=rV a.data.toList [47];have:a.data.toList.length=a.size:=rfl;have c:(fZ a).size=(cut a.data.toList [47]).1.length:=rfl;have b:(cut a.data.toList [47]).1.length+(cut a.data.toList [47]).2.1.length+(if(cut a.data.toList [47]).2.2=true then 1 else 0)<=a.data.toList.length:=b;omega
theorem UL(a:BA):(gy a).size<=a.size:=by have b:=rV a.data.toList [47];have:a.data.toList.length=a.size:=rfl;have c:(gy a).size=(cut a.data.toList [47]).2.1.length:=rfl;have b:(cut a.data.toList [47]).1.length+(cut a.data.toList [47]).2.1.length+(if(cut a.data.toList [47]).2.2=true then 1 else 0)<=a.data.toList.length:=b;omega
theorem J9(a:BA)(g:Z)(u:aT g)(L:a.size<=1000000):ν δ 244 #[H a] g λe B=>e=ξ (σ #[H (fZ a),H (gy a),ι (iF a)])/\Y g B γ:=by
 have G:=Lr a;have J:=UL a;have p:=K (BV a ⟨#[47]⟩ g u (by omega));have q:=K λn=>nT n (fZ a) (by omega);have t:=K λn=>nT n (gy a) (by omega);have l:η ((⟨(cut a.data.toList [47]).1.toArray⟩:BA)=fZ a):=K rfl;have h:η ((⟨(cut a.data.toList [47]).2.1.toArray⟩:BA)=gy a):=K rfl;have j:η ((aN (fZ a)&&(!(cut a.data.toList [47]).2.2||aN (gy a)))=iF a):=K rfl;generalize iF a=b at*;obtain⟨more,hmore⟩:∃z,(cut a.data.toList [47]).2.2=z:=⟨_,rfl⟩;rw[hmore] at j;have i:=K hmore;clear hmore;have k:=K (show b=(aN (fZ a)&&(!more||aN (gy a))) from j.out.symm);generalize fZ a=f at*;generalize gy a=d at*;clear j;go_enter func244,ntmps244;go_wp2_with fail;refine p.out.mono ?_;rintro e C ⟨rfl,w⟩;rw[show([47]:Bt)=((D #[47]):BA).data.toList from rfl] at l h i;rw[l.out,h.out,i.out];clear l h i;have r:=K (q.out C);clear q p;go_wp2_with fail;refine r.out.mono ?_;rintro e F ⟨rfl,x⟩;have s:=K (t.out F);have m:=K (w.trans x Η);cases o:aN f with
 |false=>have c:η (b=false):=K (by rw[k.out,o];rfl);go_wp2;refine Ω (v:=σ #[H f,H d,ι b]) (by rw[c.out];simp[ag,results244,go_sem]) rfl ?_;exact⟨rfl,m.out⟩
 |true=>
  cases more with
  |false=>have c:η (b=true):=K (by rw[k.out,o];rfl);go_wp2;refine Ω (v:=σ #[H f,H d,ι b]) (by rw[c.out];simp[ag,results244,go_sem]) rfl ?_;exact⟨rfl,m.out⟩
  |true=>have c:η (b=aN d):=K (by rw[k.out,o];rfl);go_wp2_with fail;refine s.out.mono ?_;rintro e M ⟨rfl,y⟩;go_wp2;refine Ω (v:=σ #[H f,H d,ι b]) (by rw[c.out];simp[ag,results244,go_sem]) rfl ?_;exact⟨rfl,m.out.trans y Η⟩
theorem agY(a:Int):eB (IntKind.u32.wrap a):=by unfold eB;simp[IntKind.wrap,IntKind.signed,IntKind.bits];omega
theorem pA.nil(b:Z)(a:Nat):pA b a (V A 0 0) []:=⟨db _ _ _ _,by decide⟩
theorem aj(a:θ w y u #[x,i,t,B]):w.cell? (U y 0 A)=N x/\w.cell? (U y 1 A)=N i/\w.cell? (U y 2 A)=N t/\w.cell? (U y 3 A)=N B:=⟨a.cell 0,a.cell 1,a.cell 2,a.cell 3⟩
theorem dF(a:θ w y u q):w.frozen? (U y 0 A)=false/\w.frozen? (U y 1 A)=false/\w.frozen? (U y 2 A)=false/\w.frozen? (U y 3 A)=false:=⟨a.frozen 0,a.frozen 1,a.frozen 2,a.frozen 3⟩
def dB(f:Z)(a:Nat)(b c d e:ε):Z:=(((f.setCell (U a 0 A) b).setCell (U a 1 A) c).setCell (U a 2 A) d).setCell (U a 3 A) e
theorem iI{g:Nat}{a b c d:ε}{F:Bs}(f:Y w n F)(e:F g\/w.heap.size<=g):Y w (dB n g a b c d) F:=(((f.χ (p:=(U g 0 A)) e _).χ (p:=(U g 1 A)) e _).χ (p:=(U g 2 A)) e _).χ (p:=(U g 3 A)) e _
theorem jz{a' b' c' d':ε}(a:θ w y u #[x,i,t,B]):θ (dB w y a' b' c' d') y u #[a',b',c',d']:=((((a.χ 0 _).χ 1 _).χ 2 _).χ 3 _).to (by simp)
def Ag:Array ε:=#[H (D #[]),V A 0 0,H (D #[]),V A 0 0]
structure cz (wi x:Z) (av:ε) (a:At):Prop where
 keeps:Y wi x γ
 own:pA x wi.heap.size av a
structure py (wi x:Z) (av:ε) (nb:Nat):Prop where
 blk:θ x nb 84 Ag
 low:wi.heap.size<=nb
 own:av.ownBlock≠N nb
theorem cz.start{wi:Z}(a:Y wi w γ):cz wi w (V A 0 0) []:=⟨a,pA.nil _ _⟩
theorem cz.still(a:cz w n x W)(b:Y n G γ):cz w G x W:=⟨a.keeps.trans b Η,aD a.own.row b λ_ _ a=>a,a.own.bP⟩
theorem cz.alloc(b:cz w n x W)(a:Obj):cz w (n.alloc a) x W:=b.still ((Y.refl n γ).alloc a)
theorem cz.Py(a:cz w n x W):py w (n.alloc (ζ Ag 84)) x n.heap.size:=⟨θ.new _ _ _,a.keeps.size,λb=>by have:=(a.own.row.lt _ b).2;omega⟩
theorem py.still(a:py w n x y)(b:Y n G γ):py w G x y:=⟨b.blk a.blk id,a.low,a.own⟩
def SG(f g:Z)(nm l:BA)(k e:ε)(a:At)(j:aI)(h:Z):Prop:=
 ∃d c,j=ξ (Μ #[H nm,V d a.length c,H l,k])/\cz f h (V d a.length c) a/\(∀i,py f g e i->py f h (V d a.length c) i)/\Y g h (λb=>e.ownBlock=N b)/\∀b,(V d a.length c).ownBlock=N b->e.ownBlock=N b\/g.heap.size<=b
theorem cz.iw{nm tx k v:BA}{kp:Option Addr}{kn kc:Nat}(b:cz w n x W)(h:W.length<=9):ν δ 345 #[Μ #[H nm,x,H tx,V kp kn kc],H k,H v] n (SG w n nm tx (V kp kn kc) x (bZ W k v)):=by
 refine(ahx b.own h b.keeps.size).mono ?_;rintro d p ⟨o,rfl,f,c,e⟩;obtain⟨l,g,hv⟩:=cC f.row;subst hv;refine⟨l,g,rfl,⟨b.keeps.trans c λm i=> .inr (b.own.row.lt m i).1,f⟩,λj a=>⟨c.blk a.blk a.own,a.low,λd=> ?_⟩,c,e⟩;obtain h1|h1:=e j d
 .exact a.own h1
 have:=a.blk.lt;omega
theorem uM(a:At)(b v:BA):(bZ a b v).length<=a.length+1:=by
 unfold bZ;split
 .omega
 simp
theorem Zz(a:Int):bits .and E a 3=a%4:=by
 have b:(Ef 64 3).toNat=2^2-1:=by decide
 have c:(Ef 64 a&&& Ef 64 3).toNat=(a%((2^64:Nat):Int)).toNat%2^2:=by rw[BitVec.toNat_and,BitVec.toNat_ofInt,b,Nat.and_two_pow_sub_one_eq_mod]
 show IntKind.i64.wrap ((Ef 64 a&&& Ef 64 3).toNat:Nat)=a%4;rw[c,IntKind.wrap_i64];omega
def qN:BA:=(D #[113,117,101,114,121])
def qU:BA:=(D #[105,116,101,109])
structure nj (wi wj:Z) (EB:Nat) (nm:BA) (av:ε) (a:At):Prop where
 keeps:Y wi wj γ
 blk:θ wj EB 84 #[H nm,av,H (D #[]),V A 0 0]
 own:pA wj wi.heap.size av a
 low:wi.heap.size<=EB
 ne:av.ownBlock≠N EB
theorem acr(nm:BA)(b:cz w n x W)(a:py w n x y):nj w ((((n.setCell (U y 0 A) (H nm)).setCell (U y 1 A) x).setCell (U y 2 A) (H (D #[]))).setCell (U y 3 A) (V A 0 0)) y nm x W:=by have e:Y n (dB n y (H nm) x (H (D #[])) (V A 0 0)) (·=y):=iI (Y.refl _ _) (.inl rfl);exact⟨iI b.keeps (.inr a.low),jz a.blk,⟨aD b.own.row e λf d c=>a.own (by rw[d,c]),b.own.bP⟩,a.low,a.own⟩
theorem aco(nm:BA)(a:cz w n x W):nj w (n.alloc (ζ #[H nm,x,H (D #[]),V A 0 0] 84)) n.heap.size nm x W:=by have b:=a.alloc (ζ #[H nm,x,H (D #[]),V A 0 0] 84);exact⟨b.keeps,θ.new _ _ _,b.own,a.keeps.size,λc=>by have:=(a.own.row.lt _ c).2;omega⟩
theorem py.first(a:Z):py a (a.alloc (ζ Ag 84)).drew (V A 0 0) a.heap.size:=⟨(θ.new _ _ _).drew,Ο _,by simp[iM]⟩
theorem sL(a v:BA):(bZ [] a v).length<=9:=aJ (uM _ _ _) (by decide)
theorem Pr(a v b c:BA):(bZ (bZ [] a v) b c).length<=9:=aJ (uM _ _ _) (by have:=uM [] a v;simp at this;omega)
theorem adq(b:Y w n γ)(a:w.heap.size<=y):Y w ((((n.setCell (U y 0 A) x).setCell (U y 1 A) i).setCell (U y 2 A) t).setCell (U y 3 A) B) γ:=iI b (.inr a)
structure vG (W1:Nat) (w:Z) (kv:ε) (K0:List KV):Prop where
 row:w.ownsRow W1 84 4 kv K0.length (gU K0)
 els:∀k∈K0,bX w (λb=>W1<=b/\b<w.heap.size/\kv.ownBlock≠N b) k.1 k.2.1 k.2.2
 wt:∀k∈K0,Wt k.1 3000
theorem aS{d e f g h j b c:ε}(a:θ w y 171 #[x,i,t,B,d,e,f,g,h,j,b,c]):w.cell? (U y 0 A)=N x/\w.cell? (U y 1 A)=N i/\w.cell? (U y 2 A)=N t/\w.cell? (U y 3 A)=N B/\w.cell? (U y 4 A)=N d/\w.cell? (U y 5 A)=N e/\w.cell? (U y 6 A)=N f/\w.cell? (U y 7 A)=N g/\w.cell? (U y 8 A)=N h/\w.cell? (U y 9 A)=N j/\w.cell? (U y 10 A)=N b/\w.cell? (U y 11 A)=N c:=
 ⟨a.cell 0,a.cell 1,a.cell 2,a.cell 3,a.cell 4,a.cell 5,a.cell 6,a.cell 7,a.cell 8,a.cell 9,a.cell 10,a.cell 11⟩
def Ku(a b:Z)(f:Array ε)(d:ε)(c:At):Prop:=
 Y a b γ/\θ b a.heap.size 171 f/\θ b (a.heap.size+1) 84 Ag/\θ b (a.heap.size+1+1) 84 #[H qN,d,H (D #[]),V A 0 0]/\pA b (a.heap.size+1+1+1) d c/\(∀e∈c,e.1.length<=20/\e.2.length<=20)
theorem acs{a:At}(d:nj w n y p x W)(e:cz w G (V b a.length k) a)(kk:Y n G (λc=>x.ownBlock=N c))(i:∀c,(V b a.length k).ownBlock=N c->x.ownBlock=N c\/n.heap.size<=c):nj w ((((G.setCell (U y 0 A) (H p)).setCell (U y 1 A) (V b a.length k)).setCell (U y 2 A) (H (D #[]))).setCell (U y 3 A) (V A 0 0)) y p (V b a.length k) a:=by
 have g:(V b a.length k).ownBlock≠N y:=λf=>by
  obtain h1|h1:=i y f
  .exact d.ne h1
  have:=d.blk.lt;omega
 have c:Y G (dB G y (H p) (V b a.length k) (H (D #[])) (V A 0 0)) (·=y):=iI (Y.refl _ _) (.inl rfl);exact⟨iI e.keeps (.inr d.low),jz (kk.blk d.blk d.ne),⟨aD e.own.row c λj h f=>g (by rw[h,f]),e.own.bP⟩,d.low,g⟩
theorem nj.chain(a:nj w n y p x W):cz w n x W:=⟨a.keeps,a.own⟩
def dz(a:At)(c:Nat):Prop:=gA a<=c/\∀b∈a,b.1.length<=10000/\b.2.length<=10000
theorem dz.nil:dz [] 0:=⟨by simp[gA],by simp⟩
theorem dz.more{c:Nat}(a:dz W c)(b v:BA){x y:Nat}(h:b.size<=x)(hv:v.size<=y)(i:x<=100)(j:y<=1000):dz (bZ W b v) (c+(10+x+6*y)):=by
 unfold bZ;have f:b.data.toList.length=b.size:=by rw[gI];rfl
 have g:v.data.toList.length=v.size:=by rw[gI];rfl
 split
 .exact⟨by have:=a.1;omega,a.2⟩
 refine⟨?_,λe d=> ?_⟩
 .have:=a.1;simp only[gA,lP,List.sum_append,lm,nX,xV,AN] at this⊢;omega
 obtain h1|h1:=dO.1 d
 .exact a.2 e h1
 rw[cj] at h1;subst h1;simp only;omega
theorem afd:(prog.info? 84).map (λa=>(a.zero,a.size,a.bytes))=N (N (Μ #[H (D #[]),V A 0 0,H (D #[]),V A 0 0]),4,80):=by kernel_rfl
theorem Lv{w:Z}{a:List KV}(n:w.ownsRow y 84 4 x a.length (gU a))(nm i:BA)(g:Option Addr)(e c:Nat)(h:Option Addr)(f d:Nat)(o:a.length<=1000)(m:y<=w.heap.size):∃j k,(gJ #[82,82] 82 #[x,V (N (U w.heap.size 0 A)) 1 1]).run δ (w.alloc (ζ #[H nm,V g e c,H i,V h f d] 84))= .ok j k/\k.ownsRow y 84 4 j (a.length+1) (gU a++[H nm,V g e c,H i,V h f d])/\Y w k (λb=>x.ownBlock=N b)/\∀b,j.ownBlock=N b->x.ownBlock=N b\/w.heap.size<=b:=
 nA (w:=w) y 82 84 Rn afd rfl (by decide) n [H nm,V g e c,H i,V h f d] rfl (by intro p l;simp at l;rcases l with rfl|rfl|rfl|rfl<;>rfl) (by unfold Χ;omega) (by omega) m
theorem Oo{Q:Nat}{f:Z}{g:List KV}(p:vG y w x g)(z:Y w n γ)(m:nj n G k qU t W)(M:y<=w.heap.size)(L:Q<y)(q:dz W 2900)(C:f.ownsRow y 84 4 i (g.length+1) (gU g++[H qU,t,H (D #[]),V A 0 0]))(r:Y G f (λd=>x.ownBlock=N d))(B:∀d,i.ownBlock=N d->x.ownBlock=N d\/G.heap.size<=d):vG y (f.setCell (U Q 3 A) i) i (g++[(.mk qU.data.toList W [] [],t,V A 0 0)]):=by
 have u:Y w G γ:=z.trans m.keeps Η;have R:=u.size;have O:=z.size;have K:=r.size;have o:Y f (f.setCell (U Q 3 A) i) (·=Q):=(Y.refl f (·=Q)).χ (p:=(U Q 3 A)) (.inl rfl) _;have s:Y G (f.setCell (U Q 3 A) i) (λd=>x.ownBlock=N d\/d=Q):=(r.mono λh e=> .inl (.inl e)).trans o λh e=> .inl (.inr e);have P:=o.size;have J:∀a,i.ownBlock=N a->y<=a:=λa c=>(C.lt a c).1;have E:∀a,x.ownBlock=N a->a<w.heap.size:=λa c=>(p.row.lt a c).2;refine⟨?_,λd j=> ?_,λd j=> ?_⟩
 .have F:gU (g++[((.mk qU.data.toList W [] []:El),t,V A 0 0)])=gU g++[H qU,t,H (D #[]),V A 0 0]:=by simp only[gU,List.flatMap_append,qx,List.flatMap_nil,List.append_nil];rfl
  rw[F,cL];exact aD C o λa c b=>by have:=J a c;have b:a=Q:=b;omega
 .obtain h1|h1:=dO.1 j
  .refine((p.els d h1).keeps (u.any.trans s λh e=> .inl e) λh e b=> ?_).mono λa c _=>⟨c.1,by omega,λb=> ?_⟩
   .obtain b|b:=b
    .exact e.2.2 b
    have:=e.1;omega
   obtain h2|h2:=B a b
   .exact c.2.2 h2
   have:=c.2.1;omega
  rw[cj] at h1;subst h1;refine bX.mk qU.data.toList W [] [] t (V A 0 0) ?_ (bL.nil _ _ _) (by simp);have I:aU G (λd=>t.ownBlock=N d) t W:=bL.dw m.own.row λd j=>j;have l:∀a,t.ownBlock=N a->n.heap.size<=a/\a<G.heap.size:=λa c=>m.own.row.lt a c;refine(I.keeps s λh e b=> ?_).mono λa c _=>⟨?_,?_,λb=> ?_⟩
  .have:=l h e;obtain b|b:=b
   .have:=E h b;omega
   omega
  .have:=l a c;omega
  .have:=l a c;omega
  have:=l a c;obtain h2|h2:=B a b
  .have:=E a h2;omega
  omega
 obtain h1|h1:=dO.1 j
 .exact p.wt d h1
 rw[cj] at h1;subst h1;exact Wt.mk qU.data.toList W [] [] 0 3000 (by decide) (by have:=m.own.bP;omega) q.2 (by decide) (by decide) (by simp) (by have:=q.1;simp[qU];omega) (by decide)
structure Tt (w W:Z) (t1:aQ) (c1:Array ε) (t2:aQ) (c2:Array ε) (t3:aQ) (c3:Array ε):Prop where
 keeps:Y w W γ
 b1:θ W w.heap.size t1 c1
 b2:θ W (w.heap.size+1) t2 c2
 b3:θ W (w.heap.size+1+1) t3 c3
theorem Hc{t2 t3:aQ}{a b:Array ε}(c:((w.alloc (ζ q u)).alloc (ζ a t2)).alloc (ζ b t3)=n):Tt w n u q t2 a t3 b:=by subst c;refine⟨(((Y.refl w γ).alloc _).alloc _).alloc _,((θ.new _ _ _).alloc _).alloc _,(θ.dA _ _ _ _).alloc _,?_⟩;have:=θ.new ((w.alloc (ζ q u)).alloc (ζ a t2)) t3 b;simpa using this
